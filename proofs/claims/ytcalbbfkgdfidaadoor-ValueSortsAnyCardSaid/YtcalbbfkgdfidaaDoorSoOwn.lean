/- ROWS that a call owns, as rows of things told by their numbers; what may be appended whole. -/
import Derived.Test.YtcalbbfkgdfidaaDoorSoCut
namespace Go.Proofs.YtcalbbfkgdfidaaDoor
open Go.RowKit Go.Sort Go.Lib
set_option linter.unusedVariables false
set_option linter.unusedSimpArgs false

/-- the cells of a list of things -/
def flL (enc : Nat → List Value) (k : Nat) (l : List Nat) : List Value := (flatK enc k l.toArray).toList
theorem flL_len (enc : Nat → List Value) (k : Nat) (l : List Nat) : (flL enc k l).length = l.length * k := by simp [flL]
theorem flL_get (enc : Nat → List Value) (k : Nat) (l : List Nat) (j : Nat) (hj : j < l.length * k) : (flL enc k l)[j]? = some ((flatK enc k l.toArray)[j]!) := by
  unfold flL
  rw [Array.getElem?_toList, Array.getElem?_eq_getElem (by rw [size_flatK, List.size_toArray]; exact hj), getElem!_pos _ _ (by rw [size_flatK, List.size_toArray]; exact hj)]
theorem flL_one {enc : Nat → List Value} {k : Nat} (E : Enc enc k) (l : List Nat) : ∀ v ∈ flL enc k l, v.oneCell' = true := by
  intro v hv
  obtain ⟨j, hj, rfl⟩ := List.mem_iff_getElem.1 hv
  have hl := flL_len enc k l
  have h1 := flL_get enc k l j (by omega)
  rw [List.getElem?_eq_getElem hj] at h1
  rw [Option.some.inj h1, get_flatK _ _ _ j (by rw [List.size_toArray]; omega)]
  have hk : 0 < k := by
    rcases Nat.eq_zero_or_pos k with h | h
    · subst h; omega
    · exact h
  rw [getElem!_pos _ _ (by rw [E.len]; exact Nat.mod_lt _ hk)]
  exact E.one _ _ (List.getElem_mem _)
theorem flL_app {enc : Nat → List Value} {k : Nat} (E : Enc enc k) (l : List Nat) (x : Nat) : flL enc k (l ++ [x]) = flL enc k l ++ enc x := by
  apply List.ext_getElem?
  intro j
  by_cases hj : j < (l ++ [x]).length * k
  · rw [flL_get _ _ _ _ hj, get_flatK _ _ _ j (by rw [List.size_toArray]; exact hj)]
    have hk : 0 < k := by
      rcases Nat.eq_zero_or_pos k with h | h
      · subst h; simp at hj
      · exact h
    by_cases h2 : j < l.length * k
    · have hjk : j / k < l.length := Nat.div_lt_of_lt_mul (by rw [Nat.mul_comm]; exact h2)
      rw [List.getElem?_append_left (by rw [flL_len]; exact h2), flL_get _ _ _ _ h2, get_flatK _ _ _ j (by rw [List.size_toArray]; exact h2)]
      simp [List.getElem?_append_left hjk]
    · rw [List.length_append, List.length_singleton, Nat.add_mul, Nat.one_mul] at hj
      have e1 : j / k = l.length := Nat.div_eq_of_lt_le (by omega) (by rw [Nat.add_mul]; omega)
      have e2 : j % k = j - l.length * k := by
        have := Nat.div_add_mod j k
        rw [e1, Nat.mul_comm] at this; omega
      rw [List.getElem?_append_right (by rw [flL_len]; omega), flL_len, e1, e2]
      simp only [List.getElem!_toArray, List.getElem!_eq_getElem?_getD]
      rw [List.getElem?_append_right (Nat.le_refl _), Nat.sub_self]
      simp only [List.getElem?_cons_zero, Option.getD_some]
      rw [List.getElem?_eq_getElem (by rw [E.len]; omega)]
      rfl
  · rw [List.getElem?_eq_none (by rw [flL_len]; omega), List.getElem?_eq_none (by rw [List.length_append, flL_len, E.len]; rw [List.length_append, List.length_singleton, Nat.add_mul, Nat.one_mul] at hj; omega)]
theorem Row.src {enc : Nat → List Value} {k : Nat} {W : World} {g : Nat} {l : List Nat} (h : Row enc k W g l) (E : Enc enc k) (TS e : TypeId) (hu : Tryd.prog.underlying TS = some (.slice e)) (c : Nat) : Src Tryd.prog k TS (.slice (some ⟨g, 0, none⟩) l.length c) l.length (flL enc k l) W := by
  refine Src.ofSlice W hu _ _ c _ (flL_len enc k l) (fun j v hv => ?_) (flL_one E l)
  have hj : j < l.length * k := by have := (List.getElem?_eq_some_iff.1 hv).1; rwa [flL_len] at this
  have h1 := h j (by rw [size_flatK, List.size_toArray]; exact hj)
  rw [flL_get _ _ _ _ hj] at hv
  rw [addr_add, ← Option.some.inj hv]
  exact h1.1
theorem Row.own {enc : Nat → List Value} {k : Nat} {W : World} {l : List Nat} {T : TypeId} {v : Value} {n : Nat} (h : W.ownsRow 0 T k v n (flL enc k l)) (hn : l.length = n) (hv : v ≠ .slice none 0 0) :
    ∃ g cap, v = .slice (some ⟨g, 0, none⟩) n cap ∧ n ≤ cap ∧ cap ≤ maxLen ∧ Row enc k W g l ∧ g < W.heap.size := by
  obtain ⟨hl, h⟩ := h
  rcases h with ⟨h, -⟩ | ⟨g, cap, cur, rfl, -, hb, hc, hm, hs, ht⟩
  · exact absurd h hv
  · refine ⟨g, cap, rfl, hc, hm, fun j hj => ?_, (Array.getElem?_eq_some_iff.1 hb).1⟩
    rw [size_flatK, List.size_toArray, hn] at hj
    have hj2 : j < cur.size := by rw [hs]; exact Nat.lt_of_lt_of_le hj (Nat.mul_le_mul_right _ hc)
    have h1 : cur.toList[j]? = some ((flatK enc k l.toArray)[j]!) := by
      rw [← flL_get enc k l j (by rw [hn]; exact hj), ← ht, List.getElem?_take, if_pos hj]
    rw [Array.getElem?_toList] at h1
    rw [Nat.zero_add]
    refine ⟨?_, ?_⟩
    · simp [World.cell?, hb, h1]
    · simp [World.frozen?, hb]
end Go.Proofs.YtcalbbfkgdfidaaDoor
