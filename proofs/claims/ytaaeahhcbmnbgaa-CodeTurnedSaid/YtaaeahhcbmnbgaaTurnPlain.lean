/- PLAIN: bits that are turned, all within 32 that stand together, turn the checksum. -/
import Derived.Test.YtaaeahhcbmnbgaaCrcPlain
namespace Go.Proofs.Ytaaeahhcbmnbgaa.Crc
set_option linter.unusedVariables false

/-- the k-th bit of a list of bytes -/
def bitAt (l : List Nat) (k : Nat) : Bool := (l.getD (k / 8) 0).testBit (k % 8)
/-- the register behind n bits -/
def runF (f : Nat → Bool) : Nat → Nat → Nat
  | 0, s => s
  | n + 1, s => rbit (runF f n s) (f n).toNat

theorem toNat_testBit (c k : Nat) : c / 2 ^ k % 2 = (c.testBit k).toNat := by
  rw [Nat.testBit_eq_decide_div_mod_eq]
  rcases Nat.mod_two_eq_zero_or_one (c / 2 ^ k) with h | h <;> rw [h] <;> rfl

theorem rbits_run (f : Nat → Bool) (c n : Nat) : ∀ k s, (∀ i, i < k → f (n + i) = c.testBit i) → runF f (n + k) s = rbits c k (runF f n s)
  | 0, s, _ => rfl
  | k + 1, s, h => by
    have := rbits_run f c n k s (fun i hi => h i (by omega))
    show rbit (runF f (n + k) s) (f (n + k)).toNat = rbit (rbits c k (runF f n s)) (c / 2 ^ k % 2)
    rw [this, h k (by omega), toNat_testBit]

theorem sum_run (l : List Nat) (s : Nat) (hb : ∀ c ∈ l, c < 256) : ∀ n, n ≤ l.length → sum (l.take n) s = runF (bitAt l) (8 * n) s
  | 0, _ => rfl
  | n + 1, h => by
    have ih := sum_run l s hb n (by omega)
    have ht : l.take (n + 1) = l.take n ++ [l.getD n 0] := by
      rw [List.take_succ_eq_append_getElem (by omega), List.getD_eq_getElem?_getD, List.getElem?_eq_getElem (by omega)]; rfl
    have hc : l.getD n 0 < 256 := by
      rw [List.getD_eq_getElem?_getD, List.getElem?_eq_getElem (by omega)]
      exact hb _ (List.getElem_mem _)
    rw [ht, sum_snoc, byte_eq _ _ hc, ih, show 8 * (n + 1) = 8 * n + 8 by omega]
    exact (rbits_run (bitAt l) (l.getD n 0) (8 * n) 8 s (fun i hi => by
      unfold bitAt
      rw [show (8 * n + i) / 8 = n by omega, show (8 * n + i) % 8 = i by omega])).symm

theorem xor_back (p t : Nat) : p ^^^ (t ^^^ p) = t := by
  rw [Nat.xor_comm t p, ← Nat.xor_assoc, Nat.xor_self, Nat.zero_xor]
theorem xor_zero_eq {x y : Nat} (h : x ^^^ y = 0) : x = y := by
  have : x ^^^ (x ^^^ y) = y := by rw [← Nat.xor_assoc, Nat.xor_self, Nat.zero_xor]
  rw [h, Nat.xor_zero] at this
  exact this
theorem rbit_xor (s t : Nat) (a b : Bool) : rbit (s ^^^ t) (a != b).toNat = rbit s a.toNat ^^^ rbit t b.toNat := by
  have h := xor_mod s t
  unfold rbit
  rw [xor_div]
  have hs := Nat.mod_two_eq_zero_or_one s
  have ht := Nat.mod_two_eq_zero_or_one t
  cases a <;> cases b <;> rcases hs with hs | hs <;> rcases ht with ht | ht <;> rw [hs, ht] at h <;> simp [hs, ht, h] <;>
    first
      | (rw [Nat.xor_assoc (s / 2) poly, Nat.xor_comm poly, ← Nat.xor_assoc]; done)
      | (rw [Nat.xor_assoc (s / 2) poly, xor_back]; done)
      | (rw [Nat.xor_assoc]; done)

theorem run_xor (f g h : Nat → Bool) (s t : Nat) : ∀ n, (∀ i, i < n → h i = (f i != g i)) → runF h n (s ^^^ t) = runF f n s ^^^ runF g n t
  | 0, _ => rfl
  | n + 1, hh => by
    have ih := run_xor f g h s t n (fun i hi => hh i (by omega))
    show rbit (runF h n (s ^^^ t)) (h n).toNat = rbit (runF f n s) (f n).toNat ^^^ rbit (runF g n t) (g n).toNat
    rw [ih, hh n (by omega), rbit_xor]

theorem bit_ne {s : Nat} (h : s < 4294967296) (hs : s ≠ 0) : bit s ≠ 0 := by
  unfold bit
  split
  · intro e
    have e2 : s / 2 = poly := xor_zero_eq e
    unfold poly at e2
    omega
  · omega
theorem bits_ne {s : Nat} (h : s < 4294967296) (hs : s ≠ 0) : ∀ k, bits k s ≠ 0
  | 0 => hs
  | k + 1 => bit_ne (bits_lt h k) (bits_ne h hs k)

/-- zeros ahead leave the register at 0 -/
theorem run_zero (g : Nat → Bool) : ∀ n, (∀ i, i < n → g i = false) → runF g n 0 = 0
  | 0, _ => rfl
  | n + 1, h => by
    show rbit (runF g n 0) (g n).toNat = 0
    rw [run_zero g n (fun i hi => h i (by omega)), h n (by omega)]
    rfl

/-- what is turned within a window of at most 32 bits shows -/
theorem run_window (g : Nat → Bool) (from_ x m r : Nat) (hx : x < 4294967296) (hm : m ≤ 32) (h0 : ∀ i, i < from_ → g i = false) (h1 : ∀ i, i < m → g (from_ + i) = x.testBit i)
    (h2 : ∀ i, i < r → g (from_ + m + i) = false) (hz : x % 2 ^ m ≠ 0) : runF g (from_ + m + r) 0 ≠ 0 := by
  have hxm : x % 2 ^ m < 4294967296 := Nat.lt_of_le_of_lt (Nat.mod_le _ _) hx
  have e1 : runF g (from_ + m) 0 = rbits (x % 2 ^ m) m 0 := by
    rw [rbits_run g (x % 2 ^ m) from_ m 0 (fun i hi => by rw [h1 i hi, Nat.testBit_mod_two_pow]; simp [hi]), run_zero g from_ h0]
  have e2 : rbits (x % 2 ^ m) m 0 = bits m (x % 2 ^ m) := by
    have := bits_xor 0 (x % 2 ^ m) m
    rw [Nat.zero_xor, Nat.div_eq_of_lt (Nat.mod_lt _ (Nat.pow_pos (by decide))), Nat.xor_zero] at this
    exact this.symm
  have e3 : runF g (from_ + m + r) 0 = rbits 0 r (runF g (from_ + m) 0) := rbits_run g 0 (from_ + m) r 0 (fun i hi => by rw [h2 i hi]; simp)
  have e4 : ∀ s, rbits 0 r s = bits r s := fun s => by
    have := bits_xor s 0 r
    simpa using this.symm
  rw [e3, e1, e2, e4]
  exact bits_ne (bits_lt hxm m) (bits_ne hxm hz m) r

/-- one bit turned -/
def flip (l : List Nat) (k : Nat) : List Nat := l.set (k / 8) (l.getD (k / 8) 0 ^^^ 2 ^ (k % 8))
/-- so many bits of a mask turned, from a place on -/
def turned (b : List Nat) (from_ x : Nat) : Nat → List Nat
  | 0 => b
  | i + 1 => if x / 2 ^ i % 2 = 1 ∧ from_ + i < 8 * b.length then flip (turned b from_ x i) (from_ + i) else turned b from_ x i
def changed (b : List Nat) (from_ x : Nat) : Nat → Bool
  | 0 => false
  | i + 1 => if x / 2 ^ i % 2 = 1 ∧ from_ + i < 8 * b.length then true else changed b from_ x i

theorem flip_len (l : List Nat) (k : Nat) : (flip l k).length = l.length := by simp [flip]
theorem turned_len (b : List Nat) (f x : Nat) : ∀ i, (turned b f x i).length = b.length
  | 0 => rfl
  | i + 1 => by unfold turned; split <;> simp [flip_len, turned_len b f x i]
theorem flip_lt {l : List Nat} (h : ∀ c ∈ l, c < 256) (k : Nat) : ∀ c ∈ flip l k, c < 256 := by
  intro c hc
  rcases List.mem_or_eq_of_mem_set hc with hc | rfl
  · exact h c hc
  · refine Nat.xor_lt_two_pow (n := 8) ?_ (Nat.pow_lt_pow_right (by decide) (Nat.mod_lt _ (by decide)))
    rw [List.getD_eq_getElem?_getD]
    rcases Nat.lt_or_ge (k / 8) l.length with hi | hi
    · rw [List.getElem?_eq_getElem hi]; exact h _ (List.getElem_mem _)
    · rw [List.getElem?_eq_none hi]; decide
theorem turned_lt {b : List Nat} (h : ∀ c ∈ b, c < 256) (f x : Nat) : ∀ i, ∀ c ∈ turned b f x i, c < 256
  | 0 => h
  | i + 1 => by
    unfold turned
    split
    · exact flip_lt (turned_lt h f x i) _
    · exact turned_lt h f x i
theorem bitAt_flip (l : List Nat) (k j : Nat) (hk : k < 8 * l.length) : bitAt (flip l k) j = (bitAt l j != decide (j = k)) := by
  unfold bitAt flip
  by_cases h : j / 8 = k / 8
  · rw [h, List.getD_eq_getElem?_getD, List.getElem?_set_self (by omega)]
    show (l.getD (k / 8) 0 ^^^ 2 ^ (k % 8)).testBit (j % 8) = _
    rw [Nat.testBit_xor, Nat.testBit_two_pow]
    have : decide (k % 8 = j % 8) = decide (j = k) := by
      rw [Bool.eq_iff_iff]; simp; omega
    rw [this]
  · rw [List.getD_eq_getElem?_getD, List.getElem?_set_ne (Ne.symm h), ← List.getD_eq_getElem?_getD]
    have : decide (j = k) = false := by simp; rintro rfl; exact h rfl
    rw [this]
    cases (l.getD (j / 8) 0).testBit (j % 8) <;> rfl

/-- the bits that are turned -/
def mask (f x i : Nat) (j : Nat) : Bool := decide (f ≤ j ∧ j < f + i) && x.testBit (j - f)
theorem bitAt_turned (b : List Nat) (f x : Nat) : ∀ i j, j < 8 * b.length → bitAt (turned b f x i) j = (bitAt b j != mask f x i j)
  | 0, j, _ => by
    have : mask f x 0 j = false := by simp [mask]; omega
    rw [this]; simp [turned]
  | i + 1, j, hj => by
    have ih := bitAt_turned b f x i j hj
    have hm : mask f x (i + 1) j = (mask f x i j != (decide (j = f + i) && x.testBit i)) := by
      unfold mask
      by_cases h : j = f + i
      · subst h
        have e1 : decide (f ≤ f + i ∧ f + i < f + (i + 1)) = true := by simp
        have e2 : decide (f ≤ f + i ∧ f + i < f + i) = false := by simp
        rw [e1, e2, show f + i - f = i by omega]
        simp
      · have e1 : decide (f ≤ j ∧ j < f + (i + 1)) = decide (f ≤ j ∧ j < f + i) := by
          rw [Bool.eq_iff_iff]; simp; omega
        rw [e1]; simp [h]
    rw [hm]
    unfold turned
    split
    · rename_i hc
      have hx : x.testBit i = true := by
        have := toNat_testBit x i
        rw [hc.1] at this
        cases h : x.testBit i
        · rw [h] at this; cases this
        · rfl
      rw [bitAt_flip _ _ _ (by rw [turned_len]; exact hc.2), ih, hx]
      cases bitAt b j <;> cases mask f x i j <;> cases decide (j = f + i) <;> rfl
    · rename_i hc
      have : (decide (j = f + i) && x.testBit i) = false := by
        by_cases hji : j = f + i
        · have h2 : x / 2 ^ i % 2 ≠ 1 := fun e => hc ⟨e, by omega⟩
          rw [toNat_testBit] at h2
          cases h : x.testBit i
          · simp
          · rw [h] at h2; exact absurd rfl h2
        · simp [hji]
      rw [this, ih]
      cases bitAt b j <;> cases mask f x i j <;> rfl

theorem changed_iff (b : List Nat) (f x : Nat) : ∀ i, changed b f x i = true ↔ ∃ k, k < i ∧ x.testBit k = true ∧ f + k < 8 * b.length
  | 0 => by simp [changed]
  | i + 1 => by
    have ih := changed_iff b f x i
    have hx := toNat_testBit x i
    unfold changed
    split
    · rename_i hc
      refine ⟨fun _ => ⟨i, by omega, ?_, hc.2⟩, fun _ => rfl⟩
      rw [hc.1] at hx
      cases h : x.testBit i
      · rw [h] at hx; cases hx
      · rfl
    · rename_i hc
      rw [ih]
      constructor
      · rintro ⟨k, h1, h2⟩; exact ⟨k, by omega, h2⟩
      · rintro ⟨k, h1, h2, h3⟩
        refine ⟨k, ?_, h2, h3⟩
        rcases Nat.lt_or_ge k i with h | h
        · exact h
        · exfalso
          obtain rfl : k = i := by omega
          rw [h2] at hx
          exact hc ⟨hx, h3⟩

/-- THE LAW -/
theorem turned_sum (b : List Nat) (f x : Nat) (hb : ∀ c ∈ b, c < 256) (hf : f < 8 * b.length) (hx : x < 4294967296) :
    sum (turned b f x 32) 4294967295 ≠ sum b 4294967295 ↔ changed b f x 32 = true := by
  have hlen := turned_len b f x 32
  have s1 := sum_run b 4294967295 hb b.length (Nat.le_refl _)
  have s2 := sum_run (turned b f x 32) 4294967295 (turned_lt hb f x 32) b.length (by omega)
  rw [List.take_length] at s1
  rw [show (turned b f x 32).take b.length = turned b f x 32 from by rw [← hlen, List.take_length]] at s2
  have hxor := run_xor (bitAt b) (mask f x 32) (bitAt (turned b f x 32)) 4294967295 0 (8 * b.length) (fun i hi => bitAt_turned b f x 32 i hi)
  rw [Nat.xor_zero] at hxor
  rw [s1, s2, hxor, changed_iff]
  have hne : (∃ k, k < 32 ∧ x.testBit k = true ∧ f + k < 8 * b.length) ↔ runF (mask f x 32) (8 * b.length) 0 ≠ 0 := by
    constructor
    · rintro ⟨k, h1, h2, h3⟩
      have hm : ∃ m, m ≤ 32 ∧ f + m ≤ 8 * b.length ∧ (m = 32 ∨ f + m = 8 * b.length) := by
        rcases Nat.lt_or_ge (f + 32) (8 * b.length) with h | h
        · exact ⟨32, by omega, by omega, .inl rfl⟩
        · exact ⟨8 * b.length - f, by omega, by omega, .inr (by omega)⟩
      obtain ⟨m, hm1, hm2, hm3⟩ := hm
      have := run_window (mask f x 32) f x m (8 * b.length - (f + m)) hx hm1
        (fun i hi => by simp [mask]; omega)
        (fun i hi => by
          have : decide (f ≤ f + i ∧ f + i < f + 32) = true := by simp; omega
          rw [mask, this, show f + i - f = i by omega]; simp)
        (fun i hi => by
          rcases hm3 with h | h
          · simp [mask]; omega
          · omega)
        (fun e => by
          have h4 : (x % 2 ^ m).testBit k = true := by
            rw [Nat.testBit_mod_two_pow, h2]
            simp; omega
          rw [e] at h4
          simp at h4)
      rwa [show f + m + (8 * b.length - (f + m)) = 8 * b.length by omega] at this
    · intro h
      refine Classical.byContradiction fun hno => h (run_zero _ _ (fun i hi => ?_))
      unfold mask
      by_cases hw : f ≤ i ∧ i < f + 32
      · cases ht : x.testBit (i - f)
        · simp
        · exact absurd ⟨i - f, by omega, ht, by omega⟩ hno
      · simp [hw]
  rw [hne]
  generalize runF (bitAt b) (8 * b.length) 4294967295 = p
  generalize runF (mask f x 32) (8 * b.length) 0 = q
  constructor
  · intro h e
    subst e
    exact h (Nat.xor_zero p)
  · intro h e
    apply h
    have : p ^^^ (p ^^^ q) = p ^^^ p := by rw [e]
    rwa [← Nat.xor_assoc, Nat.xor_self, Nat.zero_xor] at this
end Go.Proofs.Ytaaeahhcbmnbgaa.Crc
