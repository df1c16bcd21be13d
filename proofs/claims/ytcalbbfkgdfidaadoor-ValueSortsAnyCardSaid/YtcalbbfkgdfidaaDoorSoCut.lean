/- ROWS CUT: the front of a row; the built-in clear of things of k cells. -/
import Derived.Test.YtcalbbfkgdfidaaDoorSoPast
import Derived.Lib.SliceRun
namespace Go.Proofs.YtcalbbfkgdfidaaDoor
open Go.RowKit Go.Sort Go.Lib
set_option linter.unusedVariables false
set_option linter.unusedSimpArgs false

theorem Row.pre {enc : Nat → List Value} {k : Nat} {W : World} {g : Nat} {P R : List Nat} (h : Row enc k W g (P ++ R)) : Row enc k W g P := by
  intro j hj
  rw [size_flatK, List.size_toArray] at hj
  have h2 : j < (P ++ R).toArray.size * k := by
    rw [List.size_toArray, List.length_append, Nat.add_mul]; omega
  have h1 := h j (by rw [size_flatK]; exact h2)
  have hjk : j / k < P.length := Nat.div_lt_of_lt_mul (by rw [Nat.mul_comm]; exact hj)
  have e : (P ++ R).toArray[j / k]! = P.toArray[j / k]! := by
    simp [List.getElem?_append_left hjk]
  rw [get_flatK _ _ _ j h2, e] at h1
  rw [get_flatK _ _ _ j (by rw [List.size_toArray]; exact hj)]
  exact h1
theorem Row.cut {enc : Nat → List Value} {k : Nat} {W : World} {g : Nat} {P : List Nat} (h : Row enc k W g P) (vs : List Value) (o : Nat) (ho : o = P.length * k) : Row enc k (W.setCells g o vs) g P := by
  intro j hj
  have h1 := h j hj
  rw [size_flatK, List.size_toArray] at hj
  refine ⟨?_, ?_⟩
  · rw [World.cell?_setCells_out g vs o W _ (fun _ _ => .inl (by simp; omega))]; exact h1.1
  · rw [World.frozen?_setCells]; exact h1.2
theorem Row.there {enc : Nat → List Value} {k : Nat} {W : World} {g : Nat} {l : List Nat} (h : Row enc k W g l) (j : Nat) (hj : j < l.length * k) : (W.cell? ⟨g, j, none⟩).isSome = true ∧ W.frozen? ⟨g, j, none⟩ = false := by
  have h1 := h j (by rw [size_flatK, List.size_toArray]; exact hj)
  rw [Nat.zero_add] at h1
  exact ⟨by rw [h1.1]; rfl, h1.2⟩
theorem run_clear_k {P : Program} (w : World) (t e ty : TypeId) (z : Value) (k : Nat) (ht : P.underlying t = some (.slice e)) (hv : ∀ w, (zeroValue e).run P w = .ok z w) (hz : z.cells.size = k) (h1 : ∀ v ∈ z.cells.toList, v.oneCell' = true) (b o n c : Nat) (hn : 0 < n)
    (hc : ∀ j, j < n * k → (w.cell? ⟨b, o + j, none⟩).isSome = true ∧ w.frozen? ⟨b, o + j, none⟩ = false) :
    ∃ vs : List Value, (Builtin.clear_ #[t] ty #[.slice (some ⟨b, o, none⟩) n c]).run P w = .ok (.tuple #[]) (w.setCells b o vs) := by
  refine ⟨(Builtin.zeroCells z.cells n).toList, ?_⟩
  have hl : (Builtin.zeroCells z.cells n).toList.length = n * k := by simp [Builtin.zeroCells, hz]
  have ho : ∀ v ∈ (Builtin.zeroCells z.cells n).toList, v.oneCell' = true := by
    intro v hv'
    simp only [Builtin.zeroCells, Array.toList_map, List.mem_map, Array.mem_toList_iff, Array.mem_range] at hv'
    obtain ⟨i, hi, rfl⟩ := hv'
    have hk : 0 < z.cells.size := by
      rcases Nat.eq_zero_or_pos z.cells.size with h | h
      · rw [h] at hi; omega
      · exact h
    have hm := Nat.mod_lt i hk
    rw [getElem!_pos z.cells _ hm]
    exact h1 _ (by simp)
  have hst := run_storeCells_cells (P := P) b o (Builtin.zeroCells z.cells n).toList 0 w (fun j hj => by rw [Nat.add_zero]; exact (hc j (by omega)).1) (fun j hj => by rw [Nat.add_zero]; exact (hc j (by omega)).2) ho
  simp only [Nat.add_zero] at hst
  obtain ⟨m, rfl⟩ : ∃ m, n = m + 1 := ⟨n - 1, by omega⟩
  simp [Builtin.clear_, run_underlying ht, hv, hst]
end Go.Proofs.YtcalbbfkgdfidaaDoor
