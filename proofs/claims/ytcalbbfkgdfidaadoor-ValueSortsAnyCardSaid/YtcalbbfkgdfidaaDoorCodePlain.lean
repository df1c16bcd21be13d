/- PLAIN: numbers in their shortest form. No program in sight. -/
namespace Go.Proofs.YtcalbbfkgdfidaaDoor.Cod

/-- so many numbers a word of 64 bits holds (kept behind a name: the walk does not bear the numeral) -/
def U64 : Nat := 18446744073709551616
/-- a number's bytes, seven bits each; the last is below 128 -/
def uvF : Nat → Nat → List Nat
  | 0, n => [n % 256]
  | k + 1, n => if n < 128 then [n] else (n % 128 + 128) :: uvF k (n / 128)
def uv (n : Nat) : List Nat := uvF 10 n

/-- a number with a sign, as one without -/
def zz (n : Int) : Nat := if 0 ≤ n then (2 * n).toNat else (-2 * n - 1).toNat
/-- the number that bytes begin with, how many bytes it has, the error (10: they end, 11: not the shortest form) -/
def nx : Nat → Nat → Nat → List Nat → Nat × Nat × Nat
  | 0, _, _, _ => (0, 0, 0)
  | _ + 1, _, _, [] => (0, 0, 10)
  | k + 1, i, acc, c :: r =>
    if (i = 9 ∧ 1 < c) ∨ (0 < i ∧ c = 0) then (0, 0, 11)
    else if c < 128 then (acc + c % 128 * 2 ^ (7 * i), i + 1, 0)
    else nx k (i + 1) (acc + c % 128 * 2 ^ (7 * i)) r
/-- a number without a sign, as one with -/
def unzz (u : Nat) : Int := if u % 2 = 0 then ((u / 2 : Nat) : Int) else -((u / 2 : Nat) : Int) - 1
/-- what a reader of l at a place, with a fault, answers: the value, the place, the fault -/
def rUint (l : List Nat) (a f most : Nat) : Nat × Nat × Nat :=
  if f ≠ 0 then (0, a, f) else
  match nx 10 0 0 (l.drop a) with
  | (n, s, fl) => if fl ≠ 0 then (0, a, fl) else if most < n then (0, a, 12) else (n, a + s, 0)
def rInt (l : List Nat) (a f : Nat) (least most : Int) : Int × Nat × Nat :=
  if f ≠ 0 then (0, a, f) else
  match nx 10 0 0 (l.drop a) with
  | (n, s, fl) => if fl ≠ 0 then (0, a, fl) else if unzz n < least ∨ most < unzz n then (0, a, 12) else (unzz n, a + s, 0)
def rText (l : List Nat) (a f : Nat) (most : Int) : List Nat × Nat × Nat :=
  if f ≠ 0 then ([], a, f) else
  match nx 10 0 0 (l.drop a) with
  | (n, s, fl) =>
    if fl ≠ 0 then ([], a, fl) else if most < n then ([], a, 12)
    else if l.length - (a + s) < n then ([], a, 10) else ((l.drop (a + s)).take n, a + s + n, 0)
def rRaw (l : List Nat) (a f : Nat) (n : Int) : List Nat × Nat × Nat :=
  if f ≠ 0 then ([], a, f) else
  if n < 0 then ([], a, 12) else if l.length - a < n.toNat then ([], a, 10) else ((l.drop a).take n.toNat, a + n.toNat, 0)
def rByte (l : List Nat) (a f : Nat) : Nat × Nat × Nat :=
  if f ≠ 0 then (0, a, f) else
  if l.length - a < 1 then (0, a, 10) else (l.getD a 0, a + 1, 0)

theorem nx_bad : ∀ (k i acc : Nat) (d : List Nat), (nx k i acc d).2.2 ≠ 0 → (nx k i acc d).1 = 0 ∧ (nx k i acc d).2.1 = 0
  | 0, _, _, _ => by simp [nx]
  | _ + 1, _, _, [] => by simp [nx]
  | k + 1, i, acc, c :: r => by
    unfold nx
    split
    · simp
    · split
      · simp
      · exact nx_bad k (i + 1) _ r
/-- bytes that give a number: they are its shortest form, and there are so many -/
theorem nx_good : ∀ (k i acc : Nat) (d : List Nat), 0 < k → i + k = 10 → (∀ c ∈ d, c < 256) → (nx k i acc d).2.2 = 0 →
    ∃ m s, nx k i acc d = (acc + m * 2 ^ (7 * i), i + s, 0) ∧ 1 ≤ s ∧ s ≤ d.length ∧ uvF k m = d.take s ∧ m * 2 ^ (7 * i) < U64 ∧ (0 < i → 0 < m)
  | 0, _, _, _ => by simp
  | k + 1, i, acc, [] => by simp [nx]
  | k + 1, i, acc, c :: r => by
    intro hk hik hb h
    have hc := hb c (by simp)
    unfold nx at h ⊢
    split at h
    · simp at h
    · rename_i hbad
      rw [if_neg hbad]
      split at h
      · rename_i h128
        rw [if_pos h128]
        refine ⟨c, 1, by rw [Nat.mod_eq_of_lt h128], by omega, by simp, by simp [uvF, h128], ?_, by omega⟩
        rcases Nat.lt_or_ge i 9 with hi | hi
        · have h1 : 2 ^ (7 * i) ≤ 2 ^ 56 := Nat.pow_le_pow_right (by decide) (by omega)
          have h2 : c * 2 ^ (7 * i) ≤ 127 * 2 ^ 56 := Nat.mul_le_mul (by omega) h1
          unfold U64; omega
        · have hi9 : i = 9 := by omega
          subst hi9
          have h2 : c * 2 ^ (7 * 9) ≤ 1 * 2 ^ 63 := Nat.mul_le_mul (by omega) (Nat.le_refl _)
          unfold U64; omega
      · rename_i h128
        rw [if_neg h128]
        have hk' : 0 < k := by
          rcases Nat.eq_zero_or_pos k with rfl | h'
          · exfalso; omega
          · exact h'
        obtain ⟨m, s, he, hs1, hs2, hu, hm, hp⟩ := nx_good k (i + 1) _ r hk' (by omega) (fun x hx => hb x (by simp [hx])) h
        have hp' := hp (by omega)
        have e7 : 2 ^ (7 * (i + 1)) = 128 * 2 ^ (7 * i) := by rw [show 7 * (i + 1) = 7 + 7 * i by omega, Nat.pow_add]
        have key : c % 128 * 2 ^ (7 * i) + m * 2 ^ (7 * (i + 1)) = (c % 128 + 128 * m) * 2 ^ (7 * i) := by
          rw [e7, Nat.add_mul, Nat.mul_comm 128 m, Nat.mul_assoc]
        refine ⟨c % 128 + 128 * m, s + 1, by rw [he]; simp only [Prod.mk.injEq]; exact ⟨by rw [← key, Nat.add_assoc], by omega, trivial⟩, by omega, by simp; omega, ?_, ?_, by omega⟩
        · rw [uvF, if_neg (by omega), List.take_succ_cons, ← hu]
          congr 1
          · omega
          · congr 1; omega
        · rw [← key]
          have hi8 : i ≤ 8 := by omega
          have hmm : m * 2 ^ (7 * (i + 1)) + 2 ^ (7 * (i + 1)) ≤ U64 := by
            have hd : U64 = 2 ^ (64 - 7 * (i + 1)) * 2 ^ (7 * (i + 1)) := by
              rw [← Nat.pow_add, show 64 - 7 * (i + 1) + 7 * (i + 1) = 64 by omega]; rfl
            rw [hd] at hm ⊢
            have hlt : m < 2 ^ (64 - 7 * (i + 1)) := Nat.lt_of_mul_lt_mul_right hm
            have : (m + 1) * 2 ^ (7 * (i + 1)) ≤ 2 ^ (64 - 7 * (i + 1)) * 2 ^ (7 * (i + 1)) := Nat.mul_le_mul_right _ hlt
            rw [Nat.add_mul, Nat.one_mul] at this
            exact this
          have : c % 128 * 2 ^ (7 * i) < 2 ^ (7 * (i + 1)) := by
            rw [e7]; exact (Nat.mul_lt_mul_right (Nat.pow_pos (by decide))).2 (by omega)
          omega
theorem nx_top {d : List Nat} (hb : ∀ c ∈ d, c < 256) (h : (nx 10 0 0 d).2.2 = 0) :
    ∃ m s, nx 10 0 0 d = (m, s, 0) ∧ 1 ≤ s ∧ s ≤ d.length ∧ uv m = d.take s ∧ m < U64 := by
  obtain ⟨m, s, he, h1, h2, h3, h4, -⟩ := nx_good 10 0 0 d (by decide) rfl hb h
  refine ⟨m, s, by rw [he]; simp, h1, h2, h3, by simpa using h4⟩
/-- a number's shortest form gives the number, whatever stands behind -/
theorem nx_uv : ∀ (k i acc m : Nat) (r : List Nat), i + k = 10 → m * 2 ^ (7 * i) < U64 → (0 < i → 0 < m) →
    nx k i acc (uvF k m ++ r) = (acc + m * 2 ^ (7 * i), i + (uvF k m).length, 0)
  | 0, i, acc, m, r, hik, hm, hp => by
    have hi : i = 10 := by omega
    subst hi
    have := hp (by omega)
    have h2 : 1 * 2 ^ (7 * 10) ≤ m * 2 ^ (7 * 10) := Nat.mul_le_mul_right _ this
    unfold U64 at hm; omega
  | k + 1, i, acc, m, r, hik, hm, hp => by
    have e7 : 2 ^ (7 * (i + 1)) = 128 * 2 ^ (7 * i) := by rw [show 7 * (i + 1) = 7 + 7 * i by omega, Nat.pow_add]
    by_cases h128 : m < 128
    · have hu : uvF (k + 1) m = [m] := by simp [uvF, h128]
      have h9 : ¬ (i = 9 ∧ 1 < m) := by
        rintro ⟨rfl, h1⟩
        have h2 : 2 * 2 ^ (7 * 9) ≤ m * 2 ^ (7 * 9) := Nat.mul_le_mul_right _ h1
        unfold U64 at hm; omega
      have hbad : ¬ ((i = 9 ∧ 1 < m) ∨ (0 < i ∧ m = 0)) := by
        rintro (h | ⟨h1, h2⟩)
        · exact h9 h
        · have := hp h1; omega
      rw [hu]
      simp only [List.cons_append, List.nil_append, nx]
      rw [if_neg hbad, if_pos h128, Nat.mod_eq_of_lt h128]
      rfl
    · have hu : uvF (k + 1) m = (m % 128 + 128) :: uvF k (m / 128) := by simp [uvF, h128]
      have h9 : i ≠ 9 := by
        rintro rfl
        have h2 : 128 * 2 ^ (7 * 9) ≤ m * 2 ^ (7 * 9) := Nat.mul_le_mul_right _ (by omega)
        unfold U64 at hm; omega
      have hle : m / 128 * 2 ^ (7 * (i + 1)) ≤ m * 2 ^ (7 * i) := by
        rw [e7, ← Nat.mul_assoc]
        exact Nat.mul_le_mul_right _ (by omega)
      have ih := nx_uv k (i + 1) (acc + m % 128 * 2 ^ (7 * i)) (m / 128) r (by omega) (by omega) (by omega)
      rw [hu]
      simp only [List.cons_append, nx]
      rw [if_neg (by omega), if_neg (by omega), show (m % 128 + 128) % 128 = m % 128 by omega, ih]
      have key : m % 128 * 2 ^ (7 * i) + m / 128 * 2 ^ (7 * (i + 1)) = m * 2 ^ (7 * i) := by
        rw [e7, ← Nat.mul_assoc, ← Nat.add_mul]
        congr 1
        omega
      simp only [List.length_cons, Prod.mk.injEq]
      exact ⟨by rw [Nat.add_assoc, key], by omega, trivial⟩
theorem nx_uv_top (m : Nat) (r : List Nat) (hm : m < U64) : nx 10 0 0 (uv m ++ r) = (m, (uv m).length, 0) := by
  have := nx_uv 10 0 0 m r rfl (by simpa using hm) (by omega)
  simpa [uv] using this
/-- a beginning of a number's form is too short -/
theorem nx_cut : ∀ (k i acc m j : Nat), 0 < k → j < (uvF k m).length → i + k = 10 → m * 2 ^ (7 * i) < U64 → (0 < i → 0 < m) →
    nx k i acc ((uvF k m).take j) = (0, 0, 10)
  | 0, _, _, _, _, h, _, _, _, _ => by omega
  | k + 1, i, acc, m, 0, _, _, _, _, _ => by simp [nx]
  | k + 1, i, acc, m, j + 1, _, hj, hik, hm, hp => by
    have e7 : 2 ^ (7 * (i + 1)) = 128 * 2 ^ (7 * i) := by rw [show 7 * (i + 1) = 7 + 7 * i by omega, Nat.pow_add]
    by_cases h128 : m < 128
    · have hu : uvF (k + 1) m = [m] := by simp [uvF, h128]
      rw [hu] at hj
      simp at hj
    · have hu : uvF (k + 1) m = (m % 128 + 128) :: uvF k (m / 128) := by simp [uvF, h128]
      have h9 : i ≠ 9 := by
        rintro rfl
        have h2 : 128 * 2 ^ (7 * 9) ≤ m * 2 ^ (7 * 9) := Nat.mul_le_mul_right _ (by omega)
        unfold U64 at hm; omega
      have hle : m / 128 * 2 ^ (7 * (i + 1)) ≤ m * 2 ^ (7 * i) := by
        rw [e7, ← Nat.mul_assoc]
        exact Nat.mul_le_mul_right _ (by omega)
      rw [hu] at hj ⊢
      rw [List.take_succ_cons]
      simp only [nx]
      rw [if_neg (by omega), if_neg (by omega), show (m % 128 + 128) % 128 = m % 128 by omega]
      exact nx_cut k (i + 1) _ (m / 128) j (by omega) (by simpa using hj) (by omega) (by omega) (by omega)

theorem unzz_zz (n : Int) : unzz (zz n) = n := by
  unfold unzz zz
  by_cases h : 0 ≤ n
  · rw [if_pos h, if_pos (by omega)]; omega
  · rw [if_neg h, if_neg (by omega)]; omega
theorem zz_unzz (u : Nat) : zz (unzz u) = u := by
  unfold unzz zz
  by_cases h : u % 2 = 0
  · rw [if_pos h, if_pos (by omega)]; omega
  · rw [if_neg h, if_neg (by omega)]; omega
theorem unzz_range (u : Nat) (h : u < U64) : -9223372036854775808 ≤ unzz u ∧ unzz u ≤ 9223372036854775807 := by
  unfold unzz
  unfold U64 at h
  split <;> omega

theorem or128 (a : Nat) (h : a < 256) : a ||| 128 = a % 128 + 128 := by
  have : ∀ a : Fin 256, a.1 ||| 128 = a.1 % 128 + 128 := by decide +kernel
  exact this ⟨a, h⟩

theorem zz_lt (n : Int) (h1 : -9223372036854775808 ≤ n) (h2 : n ≤ 9223372036854775807) : zz n < U64 := by
  unfold zz U64; split <;> omega
/-- a string's bytes -/
def str (s : ByteArray) : List Nat := s.data.toList.map UInt8.toNat
theorem str_len (s : ByteArray) : (str s).length = s.size := by
  unfold str; rw [List.length_map, Array.length_toList]; rfl
theorem str_lt (s : ByteArray) : ∀ c ∈ str s, c < 256 := by
  intro c hc
  obtain ⟨x, _, rfl⟩ := List.mem_map.1 hc
  exact x.toNat_lt
theorem uvF_lt : ∀ (k n : Nat), ∀ c ∈ uvF k n, c < 256
  | 0, n => by intro c hc; simp [uvF] at hc; omega
  | k + 1, n => by
    intro c hc
    unfold uvF at hc
    split at hc
    · simp at hc; omega
    · rcases List.mem_cons.1 hc with rfl | h
      · omega
      · exact uvF_lt k _ c h
theorem uvF_len : ∀ (k n : Nat), (uvF k n).length ≤ k + 1
  | 0, n => by simp [uvF]
  | k + 1, n => by
    unfold uvF
    split
    · simp
    · have := uvF_len k (n / 128); simp; omega
theorem uvF_pos : ∀ (k n : Nat), 1 ≤ (uvF k n).length
  | 0, n => by simp [uvF]
  | k + 1, n => by
    unfold uvF
    split <;> simp
end Go.Proofs.YtcalbbfkgdfidaaDoor.Cod
