/- WHAT THE PRINT SEAT's WALKS SHARE. Put together by wip/gen_prbase.py out of the other seats' texts. -/
import Derived.Test.YtbmmdficdeakfaaDoorMem
import Derived.Test.YtbmmdficdeakfaaDoorBase
import Derived.Test.YtbmmdficdeakfaaDoorCodePlain
import Derived.Test.YtbmmdficdeakfaaDoorLxPlain
import Derived.Test.YtbmmdficdeakfaaDoorLxRune
namespace Go.Proofs.YtbmmdficdeakfaaDoor
open Go.RowKit
set_option linter.unusedVariables false
set_option linter.unusedSimpArgs false
set_option maxRecDepth 100000

def toCells (l : List Nat) : List Value := l.map fun (c : Nat) => Value.int .u8 (c : Int)
theorem toCells_len (l : List Nat) : (toCells l).length = l.length := by simp [toCells]
theorem toCells_append (l k : List Nat) : toCells (l ++ k) = toCells l ++ toCells k := by simp [toCells]
theorem toCells_one (l : List Nat) : ∀ u ∈ toCells l, u.oneCell' = true := by
  intro u hu
  obtain ⟨_, _, rfl⟩ := List.mem_map.1 hu
  rfl
theorem toCells_get (l : List Nat) (i : Nat) (h : i < l.length) : (toCells l)[i]? = some (.int .u8 (l.getD i 0 : Nat)) := by
  simp [toCells, List.getD_eq_getElem?_getD, List.getElem?_eq_getElem h]
theorem Tryd.infoU8 : (Tryd.prog.info? 5).map (fun i => (i.zero, i.size, i.bytes)) = some (some (.int .u8 0), 1, 1) := by kernel_rfl
theorem addr_add (b o j : Nat) : (⟨b, o, none⟩ : Addr).add j = ⟨b, o + j, none⟩ := by
  unfold Addr.add; split <;> simp_all
theorem src_reads {w : World} {v : Value} {l : List Nat} (h : Reads w v l) : Src Tryd.prog 1 66 v l.length (toCells l) w := by
  obtain ⟨hb, hl, ⟨x, c, rfl, rfl⟩ | ⟨b, off, cap, rfl, hc⟩⟩ := h
  · cases x with
    | none => exact Src.ofNil (size := 1) w Tryd.underlying66 c
    | some a => exact Src.ofSlice w Tryd.underlying66 a 0 c [] rfl (by simp) (by simp)
  · refine Src.ofSlice w Tryd.underlying66 _ _ _ _ (by rw [toCells_len, Nat.mul_one]) (fun j u hu => ?_) (toCells_one l)
    have hj : j < l.length := by
      have := List.getElem?_eq_some_iff.1 hu
      obtain ⟨h, _⟩ := this
      rwa [toCells_len] at h
    rw [toCells_get l j hj] at hu
    cases hu
    rw [addr_add]
    exact hc j hj
theorem reads_own {w : World} {v : Value} {l : List Nat} (h : w.ownsRow 0 5 1 v l.length (toCells l)) (hb : ∀ c ∈ l, c < 256) (hl : l.length ≤ 140737488355328) : Reads w v l := by
  refine ⟨hb, hl, ?_⟩
  rcases h.2 with ⟨rfl, hn⟩ | ⟨g, cap, cur, rfl, h1, h2, h3, h4, h5, h6⟩
  · exact .inl ⟨_, _, rfl, List.eq_nil_of_length_eq_zero hn⟩
  · refine .inr ⟨g, 0, cap, rfl, fun i hi => ?_⟩
    have := h.cells (g := g) rfl i _ (toCells_get l i hi)
    rwa [addr_add] at this
theorem reads_one (w : World) (c : Nat) (hc : c < 256) : Reads (w.alloc (.cells #[.int .u8 (c : Int)] 5)) (.slice (some ⟨w.heap.size, 0, none⟩) 1 1) [c] := by
  refine ⟨by simpa using hc, by simp, .inr ⟨_, _, _, rfl, fun i hi => ?_⟩⟩
  obtain rfl : i = 0 := by simp at hi; omega
  exact cell_of_one (heap_alloc_new w _)
theorem u8_or128 (n : Nat) : Go.bits .or .u8 ((n : Int) % 256) 128 = ((n % 128 + 128 : Nat) : Int) := by
  have := u8_or_nat (n % 256) 128 (by omega) (by decide)
  rw [Cod.or128 _ (by omega)] at this
  have e : ((n : Int) % 256) = ((n % 256 : Nat) : Int) := by simp
  rw [e, show (128 : Int) = ((128 : Nat) : Int) from rfl, this]
  congr 2
  omega
theorem byteCells_str (s : ByteArray) : byteCells s = toCells (Cod.str s) := by
  simp [byteCells, toCells, Cod.str, List.map_map, Function.comp_def]
def smallI (c : Int) : Bool := decide (97 ≤ c) && decide (c ≤ 122)
def capitalI (c : Int) : Bool := decide (65 ≤ c) && decide (c ≤ 90)
def digitI (c : Int) : Bool := decide (48 ≤ c) && decide (c ≤ 57)
def restI (c : Int) : Bool := smallI c || (capitalI c || (digitI c || decide (c = 95)))
theorem ret_bool {a b : Bool} (h : a = b) : Ending.returned (.bool a) = .returned (.bool b) := by rw [h]
theorem alike_rest : Lx.Alike restI Lx.goes false := by
  refine ⟨fun c hc => ?_, fun c hc => ?_, fun c hc => ?_⟩
  · rw [Bool.eq_iff_iff]; simp [restI, smallI, capitalI, digitI, Lx.goes, Lx.small, Lx.capital, Lx.digit]; omega
  · rw [← Bool.not_eq_true, ]; simp [restI, smallI, capitalI, digitI]; omega
  · rw [← Bool.not_eq_true]; simp [Lx.goes, Lx.small, Lx.capital, Lx.digit]; omega
theorem mod_iter (w : World) (s : ByteArray) (pos : Nat) : Mod [] w (w.iter s pos) := (Mod.refl [] w).alloc _
theorem enter_of {f : FuncId} {fn : Func} {c : Code} (hf : Tryd.prog.funcs[f]? = some fn) (h1 : (fn.name == "runtime.NumGoroutine") = false) (hb : fn.body = some c) (args : Array Value) (w : World) :
    (callFunc f args).run Tryd.prog w = .ok (.enter f args) w := by
  have h2 : fn.name ≠ "runtime.NumGoroutine" := by simpa using h1
  simp [callFunc, hf, h2, hb]
theorem setCell_at {w : World} {b : Nat} {cs : Array Value} {T : TypeId} {fr : Nat × Nat} (h : w.heap[b]? = some (.cells cs T fr)) (i : Nat) (v : Value) :
    (w.setCell ⟨b, i, none⟩ v).heap[b]? = some (.cells (cs.setIfInBounds i v) T fr) := by
  simp [World.setCell, Array.getElem?_modify, h]
theorem toList_isEmpty (s : ByteArray) : s.toList.isEmpty = decide (s.size = 0) := by
  rw [ByteArray.toList_eq]
  obtain ⟨⟨l⟩⟩ := s
  cases l <;> simp [ByteArray.size]
theorem alloc_at {w0 : World} {n : Nat} (o : Obj) (h : w0.heap.size = n) : (w0.alloc o).heap[n]? = some o := by subst h; exact heap_alloc_new w0 o
theorem ofS_size (l : List Nat) : (Lx.ofS l).size = l.length := by simp [Lx.ofS, ByteArray.size]
theorem drew_at {X : World} {b : Nat} {o : Option Obj} (h : X.heap[b]? = o) : X.drew.heap[b]? = o := h
theorem two_at (w : World) (o1 o2 : Obj) : ((w.alloc o1).alloc o2).heap[w.heap.size]? = some o1 := ((Mod.refl [] _).alloc o2).at (heap_alloc_new w o1) (by simp)
theorem conv_reads {w : World} {v : Value} {l : List Nat} (h : Reads w v l) : (convert 66 9 v).run Tryd.prog w = .ok (.string (Lx.ofS l)) w := by
  obtain ⟨hb, hl, ⟨x, c, rfl, rfl⟩ | ⟨b, off, cap, rfl, hc⟩⟩ := h
  · cases x with
    | none => exact run_convert_bytes_nil w _ _ Tryd.underlying66 Tryd.underlying5 0 c _ Tryd.underlying9
    | some a =>
      rw [run_convert_bytes_string w _ _ _ _ _ _ Tryd.underlying66 Tryd.underlying5 Tryd.underlying9, run_bytesToString w a 0 c [] (run_loadCells_list w a [] (by simp))]
      rfl
  · have := run_convert_bytes_arg (P := Tryd.prog) w _ _ Tryd.underlying66 Tryd.underlying5 b off l.length cap (l.map fun (n : Nat) => (n : Int)) (by simp) (fun i hi => by
      rw [hc i hi]
      congr 2
      simp [List.getD_eq_getElem?_getD, List.getElem?_eq_getElem hi]) _ Tryd.underlying9
    rw [this]
    congr 2
    simp [strOfNums, Lx.ofS, List.map_map, Function.comp_def]
theorem fp_lt {w : World} {base : Nat} {e : TypeId} {size : Nat} {v : Value} {n : Nat} {xs : List Value} (h : w.ownsRow base e size v n xs) : ∀ k ∈ fp v, k < w.heap.size := by
  intro k hk
  rcases h.2 with ⟨rfl, _⟩ | ⟨g, cap, cur, rfl, hb, hg, _⟩
  · simp [fp] at hk
  · simp [fp] at hk
    subst hk
    exact lt_of_block hg
theorem Reads.past {S : List Nat} {w w' : World} {v : Value} {l : List Nat} (h : Reads w v l) (hm : Mod S w w') (hS : ∀ t ∈ S, w.heap.size ≤ t) : Reads w' v l := by
  obtain ⟨h1, h2, h3 | ⟨b, off, cap, rfl, hc⟩⟩ := h
  · exact ⟨h1, h2, .inl h3⟩
  · refine ⟨h1, h2, .inr ⟨b, off, cap, rfl, fun i hi => hm.cell (hc i hi) (fun hb => ?_)⟩⟩
    have := hS _ hb
    have := World.block_lt_of_cell? w _ (hc i hi)
    simp at *
    omega
theorem str_beq (a b : ByteArray) : (a.toList == b.toList) = decide (a = b) := by
  rw [ByteArray.toList_eq, ByteArray.toList_eq, Bool.eq_iff_iff]
  obtain ⟨⟨x⟩⟩ := a
  obtain ⟨⟨y⟩⟩ := b
  simp

theorem getD_lt' {l : List Nat} (h : ∀ c ∈ l, c < 256) (i : Nat) : l.getD i 0 < 256 := by
  rcases Nat.lt_or_ge i l.length with hi | hi
  · rw [List.getD_eq_getElem?_getD, List.getElem?_eq_getElem hi]
    exact h _ (List.getElem_mem hi)
  · rw [List.getD_eq_getElem?_getD, List.getElem?_eq_none hi]
    decide
theorem bytes_read (w : World) (s : ByteArray) (cap : Nat) (fr : Nat × Nat) (k : Nat) (hk : k < s.size) :
    ((w.alloc (.cells (bytesRow s cap) 5 fr)).drew).cell? ⟨w.heap.size, k, none⟩ = some (.int .u8 ((Cod.str s).getD k 0 : Nat)) := by
  show (w.alloc (Obj.cells _ _ _)).cell? _ = _
  rw [World.cell?_alloc_mark, bytesRow_at _ _ k hk, Lx.get_str _ _ hk]
  rfl
end Go.Proofs.YtbmmdficdeakfaaDoor
