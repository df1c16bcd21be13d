/- BYTES IN MEMORY: a slice that reads as a list of numbers; a string out of it. -/
import Derived.Test.YtobimhmllkfmfaaDoorMem
import Derived.Test.YtobimhmllkfmfaaDoorLxPlain
namespace Go.Proofs.YtobimhmllkfmfaaDoor
open Go.RowKit
set_option linter.unusedVariables false
set_option linter.unusedSimpArgs false
set_option maxRecDepth 100000

/-- the slice v reads as the bytes l -/
def Reads (w : World) (v : Value) (l : List Nat) : Prop :=
  (∀ c ∈ l, c < 256) ∧ l.length ≤ 140737488355328 ∧
  ((∃ x c, v = .slice x 0 c ∧ l = []) ∨
   ∃ b off cap, v = .slice (some ⟨b, off, none⟩) l.length cap ∧ ∀ i, i < l.length → w.cell? ⟨b, off + i, none⟩ = some (.int .u8 (l.getD i 0 : Nat)))

def toCells (l : List Nat) : List Value := l.map fun (c : Nat) => Value.int .u8 (c : Int)
theorem toCells_len (l : List Nat) : (toCells l).length = l.length := by simp [toCells]
theorem toCells_append (l k : List Nat) : toCells (l ++ k) = toCells l ++ toCells k := by simp [toCells]
theorem toCells_one (l : List Nat) : ∀ u ∈ toCells l, u.oneCell' = true := by
  intro u hu
  obtain ⟨_, _, rfl⟩ := List.mem_map.1 hu
  rfl
theorem toCells_get (l : List Nat) (i : Nat) (h : i < l.length) : (toCells l)[i]? = some (.int .u8 (l.getD i 0 : Nat)) := by
  simp [toCells, List.getD_eq_getElem?_getD, List.getElem?_eq_getElem h]

theorem Tryd.infoU8 : (Tryd.prog.info? 5).map (fun i => (i.zero, i.size, i.bytes)) = some (some (.int .u8 0), 1, 1) := by kernel_rfl

theorem addr_add (b o j : Nat) : (⟨b, o, none⟩ : Addr).add j = ⟨b, o + j, none⟩ := by
  unfold Addr.add; split <;> simp_all

theorem src_reads {w : World} {v : Value} {l : List Nat} (h : Reads w v l) : Src Tryd.prog 1 73 v l.length (toCells l) w := by
  obtain ⟨hb, hl, ⟨x, c, rfl, rfl⟩ | ⟨b, off, cap, rfl, hc⟩⟩ := h
  · cases x with
    | none => exact Src.ofNil (size := 1) w Tryd.underlying73 c
    | some a => exact Src.ofSlice w Tryd.underlying73 a 0 c [] rfl (by simp) (by simp)
  · refine Src.ofSlice w Tryd.underlying73 _ _ _ _ (by rw [toCells_len, Nat.mul_one]) (fun j u hu => ?_) (toCells_one l)
    have hj : j < l.length := by
      have := List.getElem?_eq_some_iff.1 hu
      obtain ⟨h, _⟩ := this
      rwa [toCells_len] at h
    rw [toCells_get l j hj] at hu
    cases hu
    rw [addr_add]
    exact hc j hj

theorem reads_own {w : World} {v : Value} {l : List Nat} (h : w.ownsRow 0 5 1 v l.length (toCells l)) (hb : ∀ c ∈ l, c < 256) (hl : l.length ≤ 140737488355328) : Reads w v l := by
  refine ⟨hb, hl, ?_⟩
  rcases h.2 with ⟨rfl, hn⟩ | ⟨g, cap, cur, rfl, h1, h2, h3, h4, h5, h6⟩
  · exact .inl ⟨_, _, rfl, List.eq_nil_of_length_eq_zero hn⟩
  · refine .inr ⟨g, 0, cap, rfl, fun i hi => ?_⟩
    have := h.cells (g := g) rfl i _ (toCells_get l i hi)
    rwa [addr_add] at this

theorem conv_reads {w : World} {v : Value} {l : List Nat} (h : Reads w v l) : (convert 73 9 v).run Tryd.prog w = .ok (.string (Lx.ofS l)) w := by
  obtain ⟨hb, hl, ⟨x, c, rfl, rfl⟩ | ⟨b, off, cap, rfl, hc⟩⟩ := h
  · cases x with
    | none => exact run_convert_bytes_nil w _ _ Tryd.underlying73 Tryd.underlying5 0 c _ Tryd.underlying9
    | some a =>
      rw [run_convert_bytes_string w _ _ _ _ _ _ Tryd.underlying73 Tryd.underlying5 Tryd.underlying9, run_bytesToString w a 0 c [] (run_loadCells_list w a [] (by simp))]
      rfl
  · have := run_convert_bytes_arg (P := Tryd.prog) w _ _ Tryd.underlying73 Tryd.underlying5 b off l.length cap (l.map fun (n : Nat) => (n : Int)) (by simp) (fun i hi => by
      rw [hc i hi]
      congr 2
      simp [List.getD_eq_getElem?_getD, List.getElem?_eq_getElem hi]) _ Tryd.underlying9
    rw [this]
    congr 2
    simp [strOfNums, Lx.ofS, List.map_map, Function.comp_def]

theorem fp_lt {w : World} {base : Nat} {e : TypeId} {size : Nat} {v : Value} {n : Nat} {xs : List Value} (h : w.ownsRow base e size v n xs) : ∀ k ∈ fp v, k < w.heap.size := by
  intro k hk
  rcases h.2 with ⟨rfl, _⟩ | ⟨g, cap, cur, rfl, hb, hg, _⟩
  · simp [fp] at hk
  · simp [fp] at hk
    subst hk
    exact lt_of_block hg
theorem Reads.past {S : List Nat} {w w' : World} {v : Value} {l : List Nat} (h : Reads w v l) (hm : Mod S w w') (hS : ∀ t ∈ S, w.heap.size ≤ t) : Reads w' v l := by
  obtain ⟨h1, h2, h3 | ⟨b, off, cap, rfl, hc⟩⟩ := h
  · exact ⟨h1, h2, .inl h3⟩
  · refine ⟨h1, h2, .inr ⟨b, off, cap, rfl, fun i hi => hm.cell (hc i hi) (fun hb => ?_)⟩⟩
    have := hS _ hb
    have := World.block_lt_of_cell? w _ (hc i hi)
    simp at *
    omega

theorem reads_one (w : World) (c : Nat) (hc : c < 256) : Reads (w.alloc (.cells #[.int .u8 (c : Int)] 5)) (.slice (some ⟨w.heap.size, 0, none⟩) 1 1) [c] := by
  refine ⟨by simpa using hc, by simp, .inr ⟨_, _, _, rfl, fun i hi => ?_⟩⟩
  obtain rfl : i = 0 := by simp at hi; omega
  exact cell_of_one (heap_alloc_new w _)

end Go.Proofs.YtobimhmllkfmfaaDoor
