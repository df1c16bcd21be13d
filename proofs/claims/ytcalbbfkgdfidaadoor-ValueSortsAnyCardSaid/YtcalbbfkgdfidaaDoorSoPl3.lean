/- THE STABLE SORT, PLAIN: each once, done in place. -/
import Derived.Test.YtcalbbfkgdfidaaDoorSoPl2
namespace Go.Proofs.YtcalbbfkgdfidaaDoor.So
set_option linter.unusedVariables false
set_option linter.unusedSimpArgs false
variable {f : Nat → Nat → Int}
theorem take_snoc (C : List Nat) (k : Nat) (h : k < C.length) : C.take (k + 1) = C.take k ++ [C[k]] := List.take_succ_eq_append_getElem h
theorem take_last (C : List Nat) (k : Nat) (h : k < C.length) : (C.take (k + 1)).getLast? = some C[k] := by rw [take_snoc C k h]; simp only [List.getLast?_append, List.getLast?_singleton, Option.some_or]
/-- looked at: all up to place q; kept: the first kk of lc -/
structure Cm (f : Nat → Nat → Int) (C : List Nat) (q kk : Nat) (lc : List Nat) : Prop where
  ex : ∃ M, lc = cpt f (C.take (q + 1)) ++ (M ++ C.drop q) ∧ kk + M.length = q
  len : (cpt f (C.take (q + 1))).length = kk
  lt : q < C.length
theorem cpt_next (C : List Nat) (q : Nat) (h : q + 1 < C.length) : cpt f (C.take (q + 1 + 1)) = cpt f (C.take (q + 1)) ++ (if f C[q + 1] C[q] = 0 then [] else [C[q + 1]]) := by
  rw [take_snoc C (q + 1) h, cpt_snoc _ _ C[q] (take_last C q (by omega))]
theorem Cm.start {C : List Nat} {k : Nat} (h : k + 1 < C.length) (hc : cpt f (C.take (k + 1)) = C.take (k + 1)) (e : f C[k + 1] C[k] = 0) : Cm f C (k + 1) (k + 1) C where
  ex := ⟨[], by rw [cpt_next C k h, if_pos e, hc, List.append_nil, List.nil_append, List.take_append_drop], by simp⟩
  len := by rw [cpt_next C k h, if_pos e, hc, List.append_nil, List.length_take]; omega
  lt := h
theorem first_next {C : List Nat} {k : Nat} (h : k + 1 < C.length) (hc : cpt f (C.take (k + 1)) = C.take (k + 1)) (e : f C[k + 1] C[k] ≠ 0) : cpt f (C.take (k + 1 + 1)) = C.take (k + 1 + 1) := by
  rw [cpt_next C k h, if_neg e, hc, take_snoc C (k + 1) h]
theorem Cm.length {C lc : List Nat} {q kk : Nat} (h : Cm f C q kk lc) : lc.length = C.length := by
  obtain ⟨M, e, hM⟩ := h.ex
  have := h.len; have := h.lt
  rw [e, List.length_append, List.length_append, List.length_drop]; omega
theorem Cm.le {C lc : List Nat} {q kk : Nat} (h : Cm f C q kk lc) : kk ≤ q := by
  obtain ⟨M, e, hM⟩ := h.ex
  omega
theorem Cm.get {C lc : List Nat} {q kk : Nat} (h : Cm f C q kk lc) (j : Nat) (hj : q ≤ j) (hl : j < C.length) : lc.getD j 0 = C[j] := by
  obtain ⟨M, e, hM⟩ := h.ex
  have h1 := h.len
  rw [e, List.getD_eq_getElem?_getD, ← List.append_assoc, List.getElem?_append_right (by rw [List.length_append]; omega), List.length_append, h1, List.getElem?_drop, show q + (j - (kk + M.length)) = j by omega, List.getElem?_eq_getElem hl]
  rfl
theorem Cm.skip {C lc : List Nat} {q kk : Nat} (h : Cm f C q kk lc) (hl : q + 1 < C.length) (e : f C[q + 1] C[q] = 0) : Cm f C (q + 1) kk lc := by
  obtain ⟨M, e1, hM⟩ := h.ex
  have h1 := h.len
  have e2 := cpt_next (f := f) C q hl
  rw [if_pos e, List.append_nil] at e2
  refine ⟨⟨M ++ [C[q]], ?_, by simp; omega⟩, by rw [e2]; exact h1, hl⟩
  rw [e1, e2, List.drop_eq_getElem_cons (by omega : q < C.length)]
  simp
theorem Cm.keep {C lc : List Nat} {q kk : Nat} (h : Cm f C q kk lc) (hl : q + 1 < C.length) (e : f C[q + 1] C[q] ≠ 0) : Cm f C (q + 1) (kk + 1) (lc.set kk C[q + 1]) := by
  obtain ⟨M, e1, hM⟩ := h.ex
  have h1 := h.len
  have e2 := cpt_next (f := f) C q hl
  rw [if_neg e] at e2
  have hd : C.drop q = C[q] :: C.drop (q + 1) := List.drop_eq_getElem_cons (by omega)
  refine ⟨?_, by rw [e2, List.length_append, h1]; rfl, hl⟩
  cases M with
  | nil =>
    refine ⟨[], ?_, by simp at hM ⊢; omega⟩
    rw [e1, e2, hd, List.set_append_right _ _ (by omega), h1, Nat.sub_self]
    simp only [List.nil_append, List.set_cons_zero, List.append_assoc, List.cons_append]
  | cons m M =>
    refine ⟨M ++ [C[q]], ?_, by simp at hM ⊢; omega⟩
    rw [e1, e2, hd, List.set_append_right _ _ (by omega), h1, Nat.sub_self]
    simp
theorem Cm.fin {C lc : List Nat} {q kk : Nat} (h : Cm f C q kk lc) (hl : q + 1 = C.length) : ∃ R, lc = cpt f C ++ R ∧ (cpt f C).length = kk := by
  obtain ⟨M, e1, hM⟩ := h.ex
  have h1 := h.len
  rw [List.take_of_length_le (by omega)] at e1 h1
  exact ⟨_, e1, h1⟩
theorem first_end {C : List Nat} {k : Nat} (h : k = C.length) (hc : cpt f (C.take k) = C.take k) : cpt f C = C := by
  rw [List.take_of_length_le (by omega)] at hc; exact hc
theorem first_one (C : List Nat) : cpt f (C.take 1) = C.take 1 := by
  cases C with
  | nil => rfl
  | cons x l => simp [cpt, cptG]
end Go.Proofs.YtcalbbfkgdfidaaDoor.So
