/- PLAIN: values, their texts and back. No program in sight. -/
import Derived.Test.YtcalbbfkgdfidaaDoorLxPlain
import Derived.Lib.AtoiAll
import Derived.Lib.Atoi
import Derived.Lib.ItoaNum
namespace Go.Proofs.YtcalbbfkgdfidaaDoor.Va
open Cod (str)
set_option linter.unusedSimpArgs false
set_option linter.unusedVariables false

structure Val where
  k : Int
  n : Int
  s : List Nat
deriving DecidableEq
def zero : Val := ⟨0, 0, []⟩
def may (v : Val) : Bool := (v.k == 1 && (v.s == [] && (decide (-2147483647 ≤ v.n) && decide (v.n ≤ 2147483647)))) || (v.k == 2 && (v.n == 0 && decide (v.s.length ≤ 64)))

def resW : List (List Nat) := [[114, 101, 108, 97, 116, 105, 111, 110], [110, 111, 116], [110, 117, 109], [115, 121, 109], [109, 111, 100], [99, 111, 117, 110, 116], [115, 117, 109], [109, 105, 110], [109, 97, 120]]
def wordB (p : Nat → Bool) (l : List Nat) : Bool := decide (l ≠ []) && (decide (l.length ≤ 32) && (p (l.headD 0) && decide (Lx.run Lx.goes l = l.length)))
def name (l : List Nat) : Bool := !resW.contains l && wordB Lx.small l
def variable_ (l : List Nat) : Bool := wordB Lx.capital l

def hexd (n : Nat) : Nat := if n < 10 then 48 + n else 55 + n
def qb (c : Nat) : List Nat := if c = 34 ∨ c = 92 then [92, c] else if c = 10 then [92, 110] else if c < 32 ∨ 126 < c then [92, 120, hexd (c / 16), hexd (c % 16)] else [c]
def quoted (l : List Nat) : List Nat := 34 :: (l.flatMap qb ++ [34])
def itoa (n : Int) : List Nat := (Lib.itoa n).map UInt8.toNat
def text (v : Val) : List Nat := if v.k = 1 then itoa v.n else if name v.s then v.s else quoted v.s

/-- what stands between the quotes, read loosely -/
def uqF : Nat → List Nat → Option (List Nat)
  | 0, _ => none
  | _ + 1, [] => some []
  | k + 1, c :: r =>
    if c ≠ 92 then (uqF k r).map (c :: ·)
    else match r with
      | [] => none
      | x :: t =>
        if x = 120 ∧ 2 ≤ t.length then
          match Lx.hexv (t.headD 0), Lx.hexv ((t.drop 1).headD 0) with
          | some a, some b => (uqF k (t.drop 2)).map ((16 * a + b) :: ·)
          | _, _ => none
        else if x = 110 then (uqF k t).map (10 :: ·)
        else (uqF k t).map (x :: ·)
def uq (l : List Nat) : Option (List Nat) := uqF (l.length + 1) l

def atoiV (l : List Nat) : Option Int := match Lib.atoiAll (l.map UInt8.ofNat) with | .ok v => some v | _ => none
/-- what a text is read as, before it is looked at -/
def guess (l : List Nat) : Option Val :=
  match atoiV l with
  | some n => some ⟨1, n, []⟩
  | none => if 1 < l.length ∧ l.headD 0 = 34 then (uq ((l.take (l.length - 1)).drop 1)).map fun t => ⟨2, 0, t⟩ else some ⟨2, 0, l⟩
def parse (l : List Nat) : Option Val :=
  match guess l with
  | none => none
  | some v => if may v ∧ text v = l then some v else none

theorem hexd_hexv {n : Nat} (h : n < 16) : Lx.hexv (hexd n) = some n := by
  have : ∀ m : Fin 16, Lx.hexv (hexd m.val) = some m.val := by decide
  exact this ⟨n, h⟩
theorem uqF_esc (k x : Nat) (t : List Nat) : uqF (k + 1) (92 :: x :: t) = if x = 120 ∧ 2 ≤ t.length then (match Lx.hexv (t.headD 0), Lx.hexv ((t.drop 1).headD 0) with | some a, some b => (uqF k (t.drop 2)).map ((16 * a + b) :: ·) | _, _ => none) else if x = 110 then (uqF k t).map (10 :: ·) else (uqF k t).map (x :: ·) := by
  conv => lhs; unfold uqF
  simp only [ne_eq, not_true_eq_false, if_false]
theorem uqF_one (k c : Nat) (r : List Nat) (h : c ≠ 92) : uqF (k + 1) (c :: r) = (uqF k r).map (c :: ·) := by
  conv => lhs; unfold uqF
  rw [if_pos h]
theorem uqF_q : ∀ (l : List Nat) (k : Nat), (∀ c ∈ l, c < 256) → (l.flatMap qb).length < k → uqF k (l.flatMap qb) = some l
  | [], k, _, h => by
    obtain ⟨j, rfl⟩ : ∃ j, k = j + 1 := ⟨k - 1, by omega⟩
    rfl
  | c :: r, k, hb, h => by
    obtain ⟨j, rfl⟩ : ∃ j, k = j + 1 := ⟨k - 1, by omega⟩
    have hc := hb c (by simp)
    have ih := fun j hj => uqF_q r j (fun x hx => hb x (by simp [hx])) hj
    rw [List.flatMap_cons] at h ⊢
    generalize List.flatMap qb r = u at *
    by_cases h1 : c = 34 ∨ c = 92
    · have hq : qb c = [92, c] := by unfold qb; rw [if_pos h1]
      rw [hq] at h ⊢
      simp only [List.cons_append, List.nil_append, List.length_cons] at h ⊢
      rw [uqF_esc, if_neg (by omega), if_neg (by omega), ih j (by omega)]; rfl
    · by_cases h2 : c = 10
      · have hq : qb c = [92, 110] := by unfold qb; rw [if_neg h1, if_pos h2]
        rw [hq] at h ⊢
        simp only [List.cons_append, List.nil_append, List.length_cons] at h ⊢
        rw [uqF_esc, if_neg (by omega), if_pos rfl, ih j (by omega), h2]; rfl
      · by_cases h3 : c < 32 ∨ 126 < c
        · have hq : qb c = [92, 120, hexd (c / 16), hexd (c % 16)] := by unfold qb; rw [if_neg h1, if_neg h2, if_pos h3]
          rw [hq] at h ⊢
          simp only [List.cons_append, List.nil_append, List.length_cons] at h ⊢
          rw [uqF_esc, if_pos ⟨rfl, by simp⟩]
          simp only [List.headD_cons, List.drop_succ_cons, List.drop_zero]
          rw [hexd_hexv (by omega), hexd_hexv (by omega)]
          simp only
          rw [ih j (by omega), show 16 * (c / 16) + c % 16 = c by omega]; rfl
        · have hq : qb c = [c] := by unfold qb; rw [if_neg h1, if_neg h2, if_neg h3]
          rw [hq] at h ⊢
          simp only [List.cons_append, List.nil_append, List.length_cons] at h ⊢
          rw [uqF_one _ _ _ (by omega), ih j (by omega)]; rfl
theorem uq_q (l : List Nat) (hb : ∀ c ∈ l, c < 256) : uq (l.flatMap qb) = some l := uqF_q l _ hb (by omega)

/-! numerals -/
theorem decFrom_snoc : ∀ (l : List UInt8) (acc n : Nat) (b : UInt8) (d : Nat), Lib.decFrom acc l = some n → Lib.digitVal b = some d → Lib.decFrom acc (l ++ [b]) = some (n * 10 + d)
  | [], acc, n, b, d, h, hd => by
    simp only [Lib.decFrom, Option.some.injEq] at h
    subst h
    simp [Lib.decFrom, hd]
  | c :: r, acc, n, b, d, h, hd => by
    simp only [List.cons_append, Lib.decFrom] at h ⊢
    cases hc : Lib.digitVal c with
    | none => rw [hc] at h; simp at h
    | some e =>
      rw [hc] at h
      simp only at h ⊢
      exact decFrom_snoc r _ n b d h hd
theorem digitVal_of {d : Nat} (h : d < 10) : Lib.digitVal (UInt8.ofNat (48 + d)) = some d := by
  unfold Lib.digitVal
  have : (UInt8.ofNat (48 + d)).toNat = 48 + d := by simp; omega
  rw [this, if_pos (by omega)]
  simp
theorem decDigits_val (u : Nat) : Lib.decFrom 0 (Lib.decDigits u) = some u := by
  induction u using Nat.strongRecOn with
  | _ u ih =>
    rw [Lib.decDigits]
    by_cases h : u < 10
    · rw [dif_pos h]
      simp only [Lib.decFrom, digitVal_of h]
      congr 1; omega
    · rw [dif_neg h]
      have := decFrom_snoc _ 0 (u / 10) (UInt8.ofNat (48 + u % 10)) (u % 10) (ih (u / 10) (by omega)) (digitVal_of (by omega))
      rw [this]
      congr 1; omega
theorem decFrom_ge : ∀ (l : List UInt8) (acc n : Nat), Lib.decFrom acc l = some n → acc ≤ n
  | [], acc, n, h => by simp only [Lib.decFrom, Option.some.injEq] at h; omega
  | c :: r, acc, n, h => by
    simp only [Lib.decFrom] at h
    cases hc : Lib.digitVal c with
    | none => rw [hc] at h; simp at h
    | some e =>
      rw [hc] at h
      have := decFrom_ge r _ n h
      omega
theorem parse_dec : ∀ (l : List UInt8) (acc n : Nat), Lib.decFrom acc l = some n → n < 9223372036854775808 → Lib.parseUint10 acc l = .ok n
  | [], acc, n, h, _ => by simp only [Lib.decFrom, Option.some.injEq] at h; subst h; rfl
  | c :: r, acc, n, h, hn => by
    simp only [Lib.decFrom] at h
    unfold Lib.digitVal at h
    by_cases hc : 48 ≤ c.toNat ∧ c.toNat ≤ 57
    · rw [if_pos hc] at h
      simp only at h
      have := decFrom_ge r _ n h
      unfold Lib.parseUint10
      rw [if_pos hc, if_neg (by omega), if_neg (by omega)]
      exact parse_dec r _ n h hn
    · rw [if_neg hc] at h; simp at h
theorem decDigits_head (u : Nat) : ∃ c r, Lib.decDigits u = c :: r ∧ 48 ≤ c.toNat ∧ c.toNat ≤ 57 := by
  have h1 := decDigits_val u
  cases hl : Lib.decDigits u with
  | nil =>
    have := Lib.decDigits_length u
    rw [hl] at this
    have := Lib.nDigits_pos u
    simp at *
    omega
  | cons c r =>
    refine ⟨c, r, rfl, ?_⟩
    rw [hl] at h1
    simp only [Lib.decFrom] at h1
    unfold Lib.digitVal at h1
    by_cases hc : 48 ≤ c.toNat ∧ c.toNat ≤ 57
    · exact hc
    · rw [if_neg hc] at h1; simp at h1
theorem mag_dec {u : Nat} (h : u < 9223372036854775808) : Lib.parseMag (Lib.decDigits u) = .ok u := by
  obtain ⟨c, r, hl, -⟩ := decDigits_head u
  unfold Lib.parseMag
  rw [if_neg (by rw [hl]; simp)]
  exact parse_dec _ _ _ (decDigits_val u) h
theorem atoi_itoa {n : Int} (h1 : -2147483648 ≤ n) (h2 : n ≤ 2147483648) : Lib.atoiAll (Lib.itoa n) = .ok n := by
  unfold Lib.itoa
  by_cases hn : n < 0
  · rw [if_pos hn]
    unfold Lib.atoiAll
    simp only
    rw [if_pos (by decide), mag_dec (by omega)]
    simp only
    rw [if_neg (by simp), if_neg (by omega), if_pos (by decide)]
    congr 1; omega
  · rw [if_neg hn]
    obtain ⟨c, r, hl, hc1, hc2⟩ := decDigits_head n.toNat
    have hm := mag_dec (u := n.toNat) (by omega)
    rw [hl] at hm ⊢
    unfold Lib.atoiAll
    simp only
    rw [if_neg (by omega), hm]
    simp only
    rw [if_neg (by omega), if_neg (by omega), if_neg (by omega)]
    congr 1; omega
theorem itoa_lt (n : Int) : ∀ c ∈ itoa n, c < 256 := by
  intro c hc
  unfold itoa at hc
  obtain ⟨b, _, rfl⟩ := List.mem_map.1 hc
  exact b.toNat_lt
theorem map_back (l : List UInt8) : (l.map UInt8.toNat).map UInt8.ofNat = l := by
  rw [List.map_map]
  conv => rhs; rw [← List.map_id l]
  exact List.map_congr_left (fun c _ => by simp)
theorem atoiV_itoa {n : Int} (h1 : -2147483648 ≤ n) (h2 : n ≤ 2147483648) : atoiV (itoa n) = some n := by
  unfold atoiV itoa
  rw [map_back, atoi_itoa h1 h2]
theorem atoiV_other {c : Nat} {r : List Nat} (hc : c < 256) (h : ¬ (48 ≤ c ∧ c ≤ 57)) (h3 : c ≠ 43) (h5 : c ≠ 45) : atoiV (c :: r) = none := by
  have hcc : (UInt8.ofNat c).toNat = c := by simp; omega
  unfold atoiV
  rw [List.map_cons]
  unfold Lib.atoiAll
  simp only [hcc]
  rw [if_neg (by omega)]
  unfold Lib.parseMag
  rw [if_neg (by simp)]
  unfold Lib.parseUint10
  rw [hcc, if_neg h]

/-- THE LAW: what is written is read as it was -/
theorem parse_text {v : Val} (hb : ∀ c ∈ v.s, c < 256) (h : may v = true) : parse (text v) = some v := by
  obtain ⟨k, n, s⟩ := v
  simp only at hb
  have hm := h
  unfold may at h
  simp only [Bool.or_eq_true, Bool.and_eq_true, beq_iff_eq, decide_eq_true_eq] at h
  have key : guess (text ⟨k, n, s⟩) = some ⟨k, n, s⟩ := by
    rcases h with ⟨rfl, rfl, h1, h2⟩ | ⟨rfl, rfl, h1⟩
    · unfold text guess
      rw [if_pos rfl, atoiV_itoa (by simp only; omega) (by simp only; omega)]
    · unfold text
      rw [if_neg (show ¬ (2 : Int) = 1 by decide)]
      simp only
      by_cases hn : name s = true
      · rw [if_pos hn]
        unfold name wordB at hn
        simp only [Bool.and_eq_true, decide_eq_true_eq] at hn
        obtain ⟨-, h3, h4, h5, h6⟩ := hn
        cases s with
        | nil => simp at h3
        | cons c r =>
          unfold Lx.small at h5
          simp only [List.headD_cons, Bool.and_eq_true] at h5
          have h51 : 97 ≤ c := of_decide_eq_true h5.1
          have h52 : c ≤ 122 := of_decide_eq_true h5.2
          unfold guess
          rw [atoiV_other (by omega) (by omega) (by omega) (by omega)]
          have hne : ¬ (1 < (c :: r).length ∧ (c :: r).headD 0 = 34) := by simp only [List.headD_cons]; omega
          simp only [if_neg hne]
      · rw [if_neg hn]
        unfold quoted guess
        rw [atoiV_other (by omega) (by omega) (by omega) (by omega)]
        simp only
        rw [if_pos ⟨by simp, rfl⟩]
        have : (List.drop 1 (List.take ((34 :: (List.flatMap qb s ++ [34])).length - 1) (34 :: (List.flatMap qb s ++ [34])))) = List.flatMap qb s := by
          simp
        rw [this, uq_q s hb]
        rfl
  unfold parse
  rw [key]
  exact if_pos ⟨hm, rfl⟩
theorem parse_back {l : List Nat} {v : Val} (h : parse l = some v) : may v = true ∧ text v = l := by
  unfold parse at h
  split at h
  · simp at h
  · split at h
    · rename_i hh
      simp only [Option.some.injEq] at h
      subst h
      exact hh
    · simp at h
end Go.Proofs.YtcalbbfkgdfidaaDoor.Va
