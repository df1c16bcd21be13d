/- PLAIN: the reference's way of reading a value's text: the same values. No program in sight. -/
import Derived.Test.YtbmmdficdeakfaaDoorVaPlain
namespace Go.Proofs.YtbmmdficdeakfaaDoor.Va
open Cod (str)
set_option linter.unusedSimpArgs false
set_option linter.unusedVariables false

def hf (c : Nat) : Option Nat := if 48 ≤ c ∧ c ≤ 57 then some (c - 48) else if 65 ≤ c ∧ c ≤ 70 then some (c - 55) else none
def dcF : Nat → Nat → List Nat → Option Nat
  | _, n, [] => some n
  | i, n, c :: r => if Lx.digit c = true ∧ i ≤ 11 then dcF (i + 1) (n * 10 + (c - 48)) r else none
def dec (l : List Nat) : Option Int := if l.headD 0 = 45 then (dcF 0 0 (l.drop 1)).map (fun (n : Nat) => -(n : Int)) else (dcF 0 0 l).map (fun (n : Nat) => (n : Int))
def hx2 (r : List Nat) : Option Nat := match hf (r.headD 0), hf ((r.drop 1).headD 0) with | some a, some b => some (a * 16 + b) | _, _ => none
def ruqF : Nat → List Nat → List Nat
  | k + 1, c :: x :: r =>
    if c ≠ 92 then c :: ruqF k (x :: r)
    else if x = 110 then 10 :: ruqF k r
    else match (if x = 120 ∧ 3 ≤ r.length then hx2 r else none) with
      | some b => b :: ruqF k (r.drop 2)
      | none => x :: ruqF k r
  | _, _ => []
def ruq (l : List Nat) : List Nat := ruqF (l.length + 1) (l.drop 1)
def rguess (l : List Nat) : Option Val :=
  if l.headD 0 = 45 ∨ Lx.digit (l.headD 0) = true then (dec l).map (fun n => ⟨1, n, []⟩)
  else if l.headD 0 = 34 then some ⟨2, 0, ruq l⟩ else some ⟨2, 0, l⟩
def rparse (l : List Nat) : Option Val :=
  if 258 < l.length ∨ l = [] then none else
  match rguess l with
  | none => none
  | some v => if may v = true ∧ text v = l then some v else none

theorem hf_hexd {n : Nat} (h : n < 16) : hf (hexd n) = some n := by
  have : ∀ m : Fin 16, hf (hexd m.val) = some m.val := by decide
  exact this ⟨n, h⟩
theorem ruqF_one (k c x : Nat) (r : List Nat) (h : c ≠ 92) : ruqF (k + 1) (c :: x :: r) = c :: ruqF k (x :: r) := by
  simp only [ruqF]; rw [if_pos h]
theorem ruqF_esc (k x : Nat) (r : List Nat) : ruqF (k + 1) (92 :: x :: r) = if x = 110 then 10 :: ruqF k r else match (if x = 120 ∧ 3 ≤ r.length then hx2 r else none) with | some b => b :: ruqF k (r.drop 2) | none => x :: ruqF k r := by
  simp only [ruqF]; rw [if_neg (by simp)]
theorem ruqF_end (k : Nat) (l : List Nat) (h : l.length < 2) : ruqF k l = [] := by
  match k, l, h with
  | 0, _, _ => unfold ruqF; rfl
  | k + 1, [], _ => unfold ruqF; rfl
  | k + 1, [_], _ => unfold ruqF; rfl
theorem ruqF_q : ∀ (l : List Nat) (k : Nat), (∀ c ∈ l, c < 256) → (l.flatMap qb).length < k → ruqF k (l.flatMap qb ++ [34]) = l
  | [], k, _, h => ruqF_end _ _ (by simp)
  | c :: r, k, hb, h => by
    obtain ⟨j, rfl⟩ : ∃ j, k = j + 1 := ⟨k - 1, by omega⟩
    have hc := hb c (by simp)
    have ih := fun j hj => ruqF_q r j (fun x hx => hb x (by simp [hx])) hj
    rw [List.flatMap_cons] at h ⊢
    generalize List.flatMap qb r = u at *
    by_cases h1 : c = 34 ∨ c = 92
    · have hq : qb c = [92, c] := by unfold qb; rw [if_pos h1]
      rw [hq] at h ⊢
      simp only [List.cons_append, List.nil_append, List.length_cons] at h ⊢
      rw [ruqF_esc, if_neg (by omega), if_neg (by omega)]
      simp only
      rw [ih j (by omega)]
    · by_cases h2 : c = 10
      · have hq : qb c = [92, 110] := by unfold qb; rw [if_neg h1, if_pos h2]
        rw [hq] at h ⊢
        simp only [List.cons_append, List.nil_append, List.length_cons] at h ⊢
        rw [ruqF_esc, if_pos rfl, ih j (by omega), h2]
      · by_cases h3 : c < 32 ∨ 126 < c
        · have hq : qb c = [92, 120, hexd (c / 16), hexd (c % 16)] := by unfold qb; rw [if_neg h1, if_neg h2, if_pos h3]
          rw [hq] at h ⊢
          simp only [List.cons_append, List.nil_append, List.length_cons] at h ⊢
          have hx : hx2 (hexd (c / 16) :: hexd (c % 16) :: (u ++ [34])) = some c := by
            unfold hx2
            simp only [List.headD_cons, List.drop_succ_cons, List.drop_zero]
            rw [hf_hexd (by omega), hf_hexd (by omega)]
            simp only
            congr 1; omega
          rw [ruqF_esc, if_neg (by omega), if_pos ⟨rfl, by simp⟩, hx]
          simp only [List.drop_succ_cons, List.drop_zero]
          rw [ih j (by omega)]
        · have hq : qb c = [c] := by unfold qb; rw [if_neg h1, if_neg h2, if_neg h3]
          rw [hq] at h ⊢
          simp only [List.cons_append, List.nil_append, List.length_cons] at h ⊢
          have hu := ih j (by omega)
          cases hu2 : u ++ [34] with
          | nil => simp at hu2
          | cons x t =>
            rw [hu2] at hu
            rw [ruqF_one _ _ _ _ (by omega), hu]
theorem ruq_q (l : List Nat) (hb : ∀ c ∈ l, c < 256) : ruq (quoted l) = l := by
  unfold ruq quoted
  rw [List.drop_succ_cons, List.drop_zero]
  exact ruqF_q l _ hb (by simp; omega)
theorem digit_iff (c : Nat) : Lx.digit c = true ↔ 48 ≤ c ∧ c ≤ 57 := by
  unfold Lx.digit
  simp
theorem dcF_dec : ∀ (l : List UInt8) (i acc n : Nat), Lib.decFrom acc l = some n → i + l.length ≤ 12 → dcF i acc (l.map UInt8.toNat) = some n
  | [], i, acc, n, h, _ => by simp only [Lib.decFrom, Option.some.injEq] at h; subst h; rfl
  | c :: r, i, acc, n, h, hl => by
    simp only [Lib.decFrom] at h
    unfold Lib.digitVal at h
    by_cases hc : 48 ≤ c.toNat ∧ c.toNat ≤ 57
    · rw [if_pos hc] at h
      simp only at h
      simp only [List.length_cons] at hl
      rw [List.map_cons]
      unfold dcF
      rw [if_pos ⟨(digit_iff _).2 hc, by omega⟩]
      have e : acc * 10 + (c.toNat - 48) = acc * 10 + (c.toNat - 48) := rfl
      exact dcF_dec r _ _ n h (by omega)
    · rw [if_neg hc] at h; simp at h
theorem nDg : ∀ (k u : Nat), u < 10 ^ (k + 1) → Lib.nDigits u ≤ k + 1
  | 0, u, h => by rw [Lib.nDigits_small (by simpa using h)]; omega
  | k + 1, u, h => by
    by_cases h0 : u < 10
    · rw [Lib.nDigits_small h0]; omega
    · rw [Lib.nDigits_big h0]
      have := nDg k (u / 10) (by rw [Nat.pow_succ] at h; omega)
      omega
theorem nDig (u : Nat) (h : u ≤ 2147483647) : (Lib.decDigits u).length ≤ 11 := by
  rw [Lib.decDigits_length]
  exact nDg 10 u (by omega)
theorem dec_itoa {n : Int} (h1 : -2147483647 ≤ n) (h2 : n ≤ 2147483647) : dec (itoa n) = some n ∧ ((itoa n).headD 0 = 45 ∨ Lx.digit ((itoa n).headD 0) = true) ∧ (itoa n).length ≤ 258 ∧ itoa n ≠ [] := by
  unfold itoa Lib.itoa
  by_cases hn : n < 0
  · rw [if_pos hn, List.map_cons]
    have hd := dcF_dec _ 0 0 _ (decDigits_val n.natAbs) (by have := nDig n.natAbs (by omega); omega)
    have hl := nDig n.natAbs (by omega)
    refine ⟨?_, .inl rfl, by simp; omega, by simp⟩
    unfold dec
    rw [if_pos (by rfl), List.drop_succ_cons, List.drop_zero, hd]
    simp only [Option.map_some]
    congr 1; omega
  · rw [if_neg hn]
    obtain ⟨c, r, hl, hc1, hc2⟩ := decDigits_head n.toNat
    have hd := dcF_dec _ 0 0 _ (decDigits_val n.toNat) (by have := nDig n.toNat (by omega); omega)
    have hll := nDig n.toNat (by omega)
    rw [hl] at hd hll ⊢
    rw [List.map_cons] at hd ⊢
    refine ⟨?_, .inr ((digit_iff _).2 ⟨hc1, hc2⟩), by simp at hll ⊢; omega, by simp⟩
    unfold dec
    rw [if_neg (by simp only [List.headD_cons]; omega), hd]
    simp only [Option.map_some]
    congr 1; omega
theorem flatq_len : ∀ l : List Nat, (l.flatMap qb).length ≤ 4 * l.length
  | [] => by simp
  | c :: r => by
    have ih := flatq_len r
    have : (qb c).length ≤ 4 := by
      unfold qb
      split
      · simp
      · split
        · simp
        · split <;> simp
    rw [List.flatMap_cons, List.length_append, List.length_cons]
    omega
/-- the reference reads a text that is one as the value whose text it is -/
theorem rguess_text {v : Val} (hb : ∀ c ∈ v.s, c < 256) (h : may v = true) : rguess (text v) = some v ∧ (text v).length ≤ 258 ∧ text v ≠ [] := by
  obtain ⟨k, n, s⟩ := v
  simp only at hb
  unfold may at h
  simp only [Bool.or_eq_true, Bool.and_eq_true, beq_iff_eq, decide_eq_true_eq] at h
  rcases h with ⟨rfl, rfl, h1, h2⟩ | ⟨rfl, rfl, h1⟩
  · obtain ⟨e1, e2, e3, e4⟩ := dec_itoa h1 h2
    unfold text
    rw [if_pos rfl]
    refine ⟨?_, e3, e4⟩
    unfold rguess
    rw [if_pos e2, e1]; rfl
  · unfold text
    rw [if_neg (show ¬ (2 : Int) = 1 by decide)]
    simp only
    by_cases hn : name s = true
    · rw [if_pos hn]
      unfold name wordB at hn
      simp only [Bool.and_eq_true, decide_eq_true_eq] at hn
      obtain ⟨-, h3, h4, h5, h6⟩ := hn
      unfold Lx.small at h5
      simp only [Bool.and_eq_true] at h5
      have h51 : 97 ≤ s.headD 0 := of_decide_eq_true h5.1
      refine ⟨?_, by omega, h3⟩
      unfold rguess
      rw [if_neg (by rw [digit_iff]; omega), if_neg (by omega)]
    · rw [if_neg hn]
      refine ⟨?_, ?_, by unfold quoted; simp⟩
      · unfold rguess
        have hh : (quoted s).headD 0 = 34 := rfl
        rw [hh, if_neg (by rw [digit_iff]; omega), if_pos rfl, ruq_q s hb]
      · have := flatq_len s
        unfold quoted
        rw [List.length_cons, List.length_append, List.length_singleton]
        omega
/-- THE LAW: both read alike -/
theorem rparse_eq {l : List Nat} (hp : ∀ v, parse l = some v → ∀ c ∈ v.s, c < 256) (hr : ∀ v, rguess l = some v → ∀ c ∈ v.s, c < 256) : rparse l = parse l := by
  cases h : parse l with
  | some v =>
    obtain ⟨hm, ht⟩ := parse_back h
    obtain ⟨e1, e2, e3⟩ := rguess_text (hp v h) hm
    rw [ht] at e1 e2 e3
    unfold rparse
    rw [if_neg (by rintro (h | h); omega; exact e3 h), e1]
    simp only
    rw [if_pos ⟨hm, ht⟩]
  | none =>
    unfold rparse
    split
    · rfl
    · cases hg : rguess l with
      | none => rfl
      | some v =>
        simp only
        split
        · rename_i hh
          have := parse_text (hr v hg) hh.1
          rw [hh.2, h] at this
          cases this
        · rfl
theorem hx2_lt {r : List Nat} {b : Nat} (h : hx2 r = some b) : b < 256 := by
  unfold hx2 at h
  have hlt : ∀ c d, hf c = some d → d < 16 := fun c d hd => by
    unfold hf at hd
    split at hd
    · simp at hd; omega
    · split at hd
      · simp at hd; omega
      · simp at hd
  split at h
  · rename_i a c ha hc
    have := hlt _ _ ha
    have := hlt _ _ hc
    simp at h; omega
  · simp at h
theorem ruqF_lt : ∀ (k : Nat) (l : List Nat), (∀ c ∈ l, c < 256) → ∀ c ∈ ruqF k l, c < 256
  | 0, l, _ => by intro c hc; unfold ruqF at hc; simp at hc
  | k + 1, [], _ => by intro c hc; unfold ruqF at hc; simp at hc
  | k + 1, [x], _ => by intro c hc; unfold ruqF at hc; simp at hc
  | k + 1, c :: x :: r, hb => by
    have hx := hb x (by simp)
    have ih1 := ruqF_lt k (x :: r) (fun d hd => hb d (List.mem_cons_of_mem _ hd))
    have ih2 := ruqF_lt k r (fun d hd => hb d (by simp [hd]))
    have ih3 := ruqF_lt k (r.drop 2) (fun d hd => hb d (by simp [List.mem_of_mem_drop hd]))
    have hc := hb c (by simp)
    intro d hd
    by_cases e : c = 92
    · subst e
      rw [ruqF_esc] at hd
      split at hd
      · rcases List.mem_cons.1 hd with rfl | h
        · decide
        · exact ih2 d h
      · split at hd
        · rename_i b hb2
          have : b < 256 := by
            split at hb2
            · exact hx2_lt hb2
            · simp at hb2
          rcases List.mem_cons.1 hd with rfl | h
          · exact this
          · exact ih3 d h
        · rcases List.mem_cons.1 hd with rfl | h
          · exact hx
          · exact ih2 d h
    · rw [ruqF_one _ _ _ _ e] at hd
      rcases List.mem_cons.1 hd with rfl | h
      · exact hc
      · exact ih1 d h
end Go.Proofs.YtbmmdficdeakfaaDoor.Va
