/- PLAIN: what is read is, written again, the bytes that were read. No program in sight. -/
import Derived.Test.YthdkaoegegiheaaDoorCodePlain
namespace Go.Proofs.YthdkaoegegiheaaDoor.Cod
set_option linter.unusedVariables false

/-- what a reading step says of the bytes between the two places -/
structure Step (l : List Nat) (a f a2 f2 : Nat) (enc : List Nat) : Prop where
  up : a ≤ a2
  in_ : a2 ≤ l.length
  stay : f2 ≠ 0 → a2 = a
  same : f2 = 0 → l.take a ++ enc = l.take a2
  old : f ≠ 0 → f2 = f

theorem take_more (l : List Nat) (a n : Nat) : l.take a ++ (l.drop a).take n = l.take (a + n) := by
  rw [← List.take_add]

theorem step_uint {l : List Nat} {a f : Nat} (hb : ∀ c ∈ l, c < 256) (ha : a ≤ l.length) :
    Step l a f (rUint l a f 18446744073709551615).2.1 (rUint l a f 18446744073709551615).2.2 (uv (rUint l a f 18446744073709551615).1) ∧ (rUint l a f 18446744073709551615).1 < U64 := by
  by_cases hf : f = 0
  · subst hf
    by_cases h : (nx 10 0 0 (l.drop a)).2.2 = 0
    · obtain ⟨m, s, he, h1, h2, h3, h4⟩ := nx_top (fun c hc => hb c (List.mem_of_mem_drop hc)) h
      have h4' := h4
      unfold U64 at h4'
      have hr : rUint l a 0 18446744073709551615 = (m, a + s, 0) := by simp [rUint, he]; omega
      rw [hr]
      rw [List.length_drop] at h2
      exact ⟨⟨by simp, by simp; omega, by simp, fun _ => by simp only; rw [h3, take_more], by simp⟩, h4⟩
    · obtain ⟨h1, h2⟩ := nx_bad _ _ _ _ h
      have hr : rUint l a 0 18446744073709551615 = (0, a, (nx 10 0 0 (l.drop a)).2.2) := by simp [rUint, h]
      rw [hr]
      exact ⟨⟨Nat.le_refl _, ha, fun _ => rfl, fun e => absurd e h, by simp⟩, by simp [U64]⟩
  · have hr : rUint l a f 18446744073709551615 = (0, a, f) := by simp [rUint, hf]
    rw [hr]
    exact ⟨⟨Nat.le_refl _, ha, fun _ => rfl, fun e => absurd e hf, fun _ => rfl⟩, by simp [U64]⟩

theorem step_int {l : List Nat} {a f : Nat} (hb : ∀ c ∈ l, c < 256) (ha : a ≤ l.length) :
    Step l a f (rInt l a f (-9223372036854775808) 9223372036854775807).2.1 (rInt l a f (-9223372036854775808) 9223372036854775807).2.2 (uv (zz (rInt l a f (-9223372036854775808) 9223372036854775807).1)) ∧
      -9223372036854775808 ≤ (rInt l a f (-9223372036854775808) 9223372036854775807).1 ∧ (rInt l a f (-9223372036854775808) 9223372036854775807).1 ≤ 9223372036854775807 := by
  by_cases hf : f = 0
  · subst hf
    by_cases h : (nx 10 0 0 (l.drop a)).2.2 = 0
    · obtain ⟨m, s, he, h1, h2, h3, h4⟩ := nx_top (fun c hc => hb c (List.mem_of_mem_drop hc)) h
      have hu := unzz_range m h4
      have hr : rInt l a 0 (-9223372036854775808) 9223372036854775807 = (unzz m, a + s, 0) := by simp [rInt, he]; omega
      rw [hr]
      rw [List.length_drop] at h2
      exact ⟨⟨by simp, by simp; omega, by simp, fun _ => by simp only; rw [zz_unzz, h3, take_more], by simp⟩, hu.1, hu.2⟩
    · have hr : rInt l a 0 (-9223372036854775808) 9223372036854775807 = (0, a, (nx 10 0 0 (l.drop a)).2.2) := by simp [rInt, h]
      rw [hr]
      exact ⟨⟨Nat.le_refl _, ha, fun _ => rfl, fun e => absurd e h, by simp⟩, by simp, by simp⟩
  · have hr : rInt l a f (-9223372036854775808) 9223372036854775807 = (0, a, f) := by simp [rInt, hf]
    rw [hr]
    exact ⟨⟨Nat.le_refl _, ha, fun _ => rfl, fun e => absurd e hf, fun _ => rfl⟩, by simp, by simp⟩

theorem step_byte {l : List Nat} {a f : Nat} (hb : ∀ c ∈ l, c < 256) (ha : a ≤ l.length) :
    Step l a f (rByte l a f).2.1 (rByte l a f).2.2 [(rByte l a f).1] ∧ (rByte l a f).1 < 256 := by
  by_cases hf : f = 0
  · subst hf
    by_cases h : l.length - a < 1
    · have hr : rByte l a 0 = (0, a, 10) := by simp [rByte]; omega
      rw [hr]
      exact ⟨⟨Nat.le_refl _, ha, fun _ => rfl, fun e => by simp at e, by simp⟩, by simp⟩
    · have hr : rByte l a 0 = (l.getD a 0, a + 1, 0) := by simp [rByte]; omega
      rw [hr]
      have e : l.getD a 0 = l[a]'(by omega) := by rw [List.getD_eq_getElem?_getD, List.getElem?_eq_getElem (by omega)]; rfl
      refine ⟨⟨by simp, by simp; omega, by simp, fun _ => ?_, by simp⟩, ?_⟩
      · simp only
        rw [List.take_succ_eq_append_getElem (by omega), e]
      · simp only
        rw [e]
        exact hb _ (List.getElem_mem _)
  · have hr : rByte l a f = (0, a, f) := by simp [rByte, hf]
    rw [hr]
    exact ⟨⟨Nat.le_refl _, ha, fun _ => rfl, fun e => absurd e hf, fun _ => rfl⟩, by simp⟩

theorem step_text {l : List Nat} {a f : Nat} (hb : ∀ c ∈ l, c < 256) (ha : a ≤ l.length) :
    Step l a f (rText l a f l.length).2.1 (rText l a f l.length).2.2 (uv (rText l a f l.length).1.length ++ (rText l a f l.length).1) ∧ (∀ c ∈ (rText l a f l.length).1, c < 256) ∧ (rText l a f l.length).1.length ≤ l.length := by
  by_cases hf : f = 0
  · subst hf
    by_cases h : (nx 10 0 0 (l.drop a)).2.2 = 0
    · obtain ⟨m, s, he, h1, h2, h3, h4⟩ := nx_top (fun c hc => hb c (List.mem_of_mem_drop hc)) h
      rw [List.length_drop] at h2
      by_cases hm : (l.length : Int) < m
      · have hr : rText l a 0 l.length = ([], a, 12) := by simp [rText, he]; omega
        rw [hr]
        exact ⟨⟨Nat.le_refl _, ha, fun _ => rfl, fun e => by simp at e, by simp⟩, by simp, by simp⟩
      · by_cases hc : l.length - (a + s) < m
        · have hr : rText l a 0 l.length = ([], a, 10) := by simp [rText, he, hm, hc]
          rw [hr]
          exact ⟨⟨Nat.le_refl _, ha, fun _ => rfl, fun e => by simp at e, by simp⟩, by simp, by simp⟩
        · have hr : rText l a 0 l.length = ((l.drop (a + s)).take m, a + s + m, 0) := by simp [rText, he, hm, hc]
          rw [hr]
          have hl : ((l.drop (a + s)).take m).length = m := by rw [List.length_take, List.length_drop]; omega
          refine ⟨⟨by simp; omega, by simp; omega, by simp, fun _ => ?_, by simp⟩, fun c hc => hb c (List.mem_of_mem_drop (List.mem_of_mem_take hc)), by simp only; omega⟩
          simp only
          rw [hl, h3, ← List.append_assoc, take_more, take_more]
    · have hr : rText l a 0 l.length = ([], a, (nx 10 0 0 (l.drop a)).2.2) := by simp [rText, h]
      rw [hr]
      exact ⟨⟨Nat.le_refl _, ha, fun _ => rfl, fun e => absurd e h, by simp⟩, by simp, by simp⟩
  · have hr : rText l a f l.length = ([], a, f) := by simp [rText, hf]
    rw [hr]
    exact ⟨⟨Nat.le_refl _, ha, fun _ => rfl, fun e => absurd e hf, fun _ => rfl⟩, by simp, by simp⟩
end Go.Proofs.YthdkaoegegiheaaDoor.Cod
