/- WHAT THE WALKS OVER VALUES SHARE: kinds of runes, a slice that reads as bytes, small laws of memory. Put together by wip/extract.py out of the other seats' texts. -/
import Derived.Test.YtcalbbfkgdfidaaDoorVaCode2
import Derived.Test.YtcalbbfkgdfidaaDoorLxPlain
import Derived.Test.YtcalbbfkgdfidaaDoorLxRune
namespace Go.Proofs.YtcalbbfkgdfidaaDoor
open Go.RowKit
set_option linter.unusedVariables false
set_option linter.unusedSimpArgs false
set_option maxRecDepth 100000

def smallI (c : Int) : Bool := decide (97 ≤ c) && decide (c ≤ 122)
def capitalI (c : Int) : Bool := decide (65 ≤ c) && decide (c ≤ 90)
def digitI (c : Int) : Bool := decide (48 ≤ c) && decide (c ≤ 57)
def restI (c : Int) : Bool := smallI c || (capitalI c || (digitI c || decide (c = 95)))
theorem ret_bool {a b : Bool} (h : a = b) : Ending.returned (.bool a) = .returned (.bool b) := by rw [h]
theorem alike_rest : Lx.Alike restI Lx.goes false := by
  refine ⟨fun c hc => ?_, fun c hc => ?_, fun c hc => ?_⟩
  · rw [Bool.eq_iff_iff]; simp [restI, smallI, capitalI, digitI, Lx.goes, Lx.small, Lx.capital, Lx.digit]; omega
  · rw [← Bool.not_eq_true, ]; simp [restI, smallI, capitalI, digitI]; omega
  · rw [← Bool.not_eq_true]; simp [Lx.goes, Lx.small, Lx.capital, Lx.digit]; omega
theorem mod_iter (w : World) (s : ByteArray) (pos : Nat) : Mod [] w (w.iter s pos) := (Mod.refl [] w).alloc _
theorem enter_of {f : FuncId} {fn : Func} {c : Code} (hf : Tryd.prog.funcs[f]? = some fn) (h1 : (fn.name == "runtime.NumGoroutine") = false) (hb : fn.body = some c) (args : Array Value) (w : World) :
    (callFunc f args).run Tryd.prog w = .ok (.enter f args) w := by
  have h2 : fn.name ≠ "runtime.NumGoroutine" := by simpa using h1
  simp [callFunc, hf, h2, hb]
theorem setCell_at {w : World} {b : Nat} {cs : Array Value} {T : TypeId} {fr : Nat × Nat} (h : w.heap[b]? = some (.cells cs T fr)) (i : Nat) (v : Value) :
    (w.setCell ⟨b, i, none⟩ v).heap[b]? = some (.cells (cs.setIfInBounds i v) T fr) := by
  simp [World.setCell, Array.getElem?_modify, h]
theorem toList_isEmpty (s : ByteArray) : s.toList.isEmpty = decide (s.size = 0) := by
  rw [ByteArray.toList_eq]
  obtain ⟨⟨l⟩⟩ := s
  cases l <;> simp [ByteArray.size]
theorem alloc_at {w0 : World} {n : Nat} (o : Obj) (h : w0.heap.size = n) : (w0.alloc o).heap[n]? = some o := by subst h; exact heap_alloc_new w0 o
theorem ofS_size (l : List Nat) : (Lx.ofS l).size = l.length := by simp [Lx.ofS, ByteArray.size]
theorem drew_at {X : World} {b : Nat} {o : Option Obj} (h : X.heap[b]? = o) : X.drew.heap[b]? = o := h
theorem two_at (w : World) (o1 o2 : Obj) : ((w.alloc o1).alloc o2).heap[w.heap.size]? = some o1 := ((Mod.refl [] _).alloc o2).at (heap_alloc_new w o1) (by simp)
theorem conv_reads {w : World} {v : Value} {l : List Nat} (h : Reads w v l) : (convert 51 9 v).run Tryd.prog w = .ok (.string (Lx.ofS l)) w := by
  obtain ⟨hb, hl, ⟨x, c, rfl, rfl⟩ | ⟨b, off, cap, rfl, hc⟩⟩ := h
  · cases x with
    | none => exact run_convert_bytes_nil w _ _ Tryd.underlying51 Tryd.underlying5 0 c _ Tryd.underlying9
    | some a =>
      rw [run_convert_bytes_string w _ _ _ _ _ _ Tryd.underlying51 Tryd.underlying5 Tryd.underlying9, run_bytesToString w a 0 c [] (run_loadCells_list w a [] (by simp))]
      rfl
  · have := run_convert_bytes_arg (P := Tryd.prog) w _ _ Tryd.underlying51 Tryd.underlying5 b off l.length cap (l.map fun (n : Nat) => (n : Int)) (by simp) (fun i hi => by
      rw [hc i hi]
      congr 2
      simp [List.getD_eq_getElem?_getD, List.getElem?_eq_getElem hi]) _ Tryd.underlying9
    rw [this]
    congr 2
    simp [strOfNums, Lx.ofS, List.map_map, Function.comp_def]
theorem fp_lt {w : World} {base : Nat} {e : TypeId} {size : Nat} {v : Value} {n : Nat} {xs : List Value} (h : w.ownsRow base e size v n xs) : ∀ k ∈ fp v, k < w.heap.size := by
  intro k hk
  rcases h.2 with ⟨rfl, _⟩ | ⟨g, cap, cur, rfl, hb, hg, _⟩
  · simp [fp] at hk
  · simp [fp] at hk
    subst hk
    exact lt_of_block hg
theorem Reads.past {S : List Nat} {w w' : World} {v : Value} {l : List Nat} (h : Reads w v l) (hm : Mod S w w') (hS : ∀ t ∈ S, w.heap.size ≤ t) : Reads w' v l := by
  obtain ⟨h1, h2, h3 | ⟨b, off, cap, rfl, hc⟩⟩ := h
  · exact ⟨h1, h2, .inl h3⟩
  · refine ⟨h1, h2, .inr ⟨b, off, cap, rfl, fun i hi => hm.cell (hc i hi) (fun hb => ?_)⟩⟩
    have := hS _ hb
    have := World.block_lt_of_cell? w _ (hc i hi)
    simp at *
    omega
theorem str_beq (a b : ByteArray) : (a.toList == b.toList) = decide (a = b) := by
  rw [ByteArray.toList_eq, ByteArray.toList_eq, Bool.eq_iff_iff]
  obtain ⟨⟨x⟩⟩ := a
  obtain ⟨⟨y⟩⟩ := b
  simp
end Go.Proofs.YtcalbbfkgdfidaaDoor
