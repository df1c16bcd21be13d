/- THE PLAIN LAW OF THE CHECKSUM: bit by bit and byte by byte it is the same. No program in sight. -/
namespace Go.Proofs.Ytaaeahhcbmnbgaa.Crc

def poly : Nat := 2197175160
/-- one step of the program's inner loop -/
def bit (s : Nat) : Nat := if s % 2 = 1 then (s / 2) ^^^ poly else s / 2
def bits : Nat → Nat → Nat
  | 0, s => s
  | k + 1, s => bit (bits k s)
def byte (s c : Nat) : Nat := bits 8 (s ^^^ c)
def sum (l : List Nat) (s : Nat) : Nat := l.foldl byte s

/-- one step of the reference's inner loop: the byte's bit k -/
def rbit (s b : Nat) : Nat := if b ≠ s % 2 then (s / 2) ^^^ poly else s / 2
def rbits (c : Nat) : Nat → Nat → Nat
  | 0, s => s
  | k + 1, s => rbit (rbits c k s) (c / 2 ^ k % 2)
def rbyte (s c : Nat) : Nat := rbits c 8 s

theorem poly_lt : poly < 4294967296 := by decide
theorem xor_lt {a b : Nat} (ha : a < 4294967296) (hb : b < 4294967296) : a ^^^ b < 4294967296 :=
  Nat.xor_lt_two_pow (n := 32) ha hb
theorem bit_lt {s : Nat} (h : s < 4294967296) : bit s < 4294967296 := by
  unfold bit
  split
  · exact xor_lt (by omega) poly_lt
  · omega
theorem bits_lt {s : Nat} (h : s < 4294967296) : ∀ k, bits k s < 4294967296
  | 0 => h
  | k + 1 => bit_lt (bits_lt h k)
theorem byte_lt {s c : Nat} (h : s < 4294967296) (hc : c < 256) : byte s c < 4294967296 := bits_lt (xor_lt h (by omega)) 8
theorem sum_lt : ∀ (l : List Nat) (s : Nat), s < 4294967296 → (∀ c ∈ l, c < 256) → sum l s < 4294967296
  | [], s, h, _ => h
  | c :: l, s, h, hc => by
    show sum l (byte s c) < _
    exact sum_lt l _ (byte_lt h (hc c (by simp))) (fun x hx => hc x (by simp [hx]))
theorem sum_snoc (l : List Nat) (c s : Nat) : sum (l ++ [c]) s = byte (sum l s) c := by simp [sum]

theorem rbit_lt {s b : Nat} (h : s < 4294967296) : rbit s b < 4294967296 := by
  unfold rbit
  split
  · exact xor_lt (by omega) poly_lt
  · omega
theorem rbits_lt {s c : Nat} (h : s < 4294967296) : ∀ k, rbits c k s < 4294967296
  | 0 => h
  | k + 1 => rbit_lt (rbits_lt h k)

theorem xor_div (a b : Nat) : (a ^^^ b) / 2 = a / 2 ^^^ b / 2 := by
  have := Nat.shiftRight_xor_distrib (a := a) (b := b) (i := 1)
  simpa [Nat.shiftRight_eq_div_pow] using this
theorem xor_mod (a b : Nat) : (a ^^^ b) % 2 = (a % 2 + b % 2) % 2 := by
  have h := Nat.testBit_xor a b 0
  simp only [Nat.testBit_zero] at h
  have hx := Nat.mod_two_eq_zero_or_one (a ^^^ b)
  rcases Nat.mod_two_eq_zero_or_one a with ha | ha <;> rcases Nat.mod_two_eq_zero_or_one b with hb | hb <;> rcases hx with hx | hx <;> rw [ha, hb, hx] at h <;> rw [ha, hb, hx] <;> revert h <;> decide

theorem bit_xor (r c : Nat) : bit (r ^^^ c) = rbit r (c % 2) ^^^ (c / 2) := by
  have h := xor_mod r c
  unfold bit rbit
  rw [xor_div]
  by_cases e : c % 2 = r % 2
  · rw [if_neg (by omega), if_neg (by omega)]
  · rw [if_pos (by omega), if_pos (by omega)]
    rw [Nat.xor_assoc, Nat.xor_assoc, Nat.xor_comm (c / 2)]

theorem bits_xor (r c : Nat) : ∀ k, bits k (r ^^^ c) = rbits c k r ^^^ (c / 2 ^ k)
  | 0 => by simp [bits, rbits]
  | k + 1 => by
    simp only [bits, rbits]
    rw [bits_xor r c k, bit_xor]
    rw [Nat.div_div_eq_div_mul, Nat.pow_succ]

theorem xor_all (s : Nat) (h : s < 4294967296) : s ^^^ 4294967295 = 4294967295 - s := by
  have e : (BitVec.ofNat 32 s ^^^ BitVec.allOnes 32) = ~~~ (BitVec.ofNat 32 s) := BitVec.xor_allOnes
  have e2 := congrArg BitVec.toNat e
  rw [BitVec.toNat_xor, BitVec.toNat_not, BitVec.toNat_allOnes, BitVec.toNat_ofNat, Nat.mod_eq_of_lt (by omega)] at e2
  exact e2

theorem byte_eq (s c : Nat) (hc : c < 256) : byte s c = rbyte s c := by
  unfold byte rbyte
  rw [bits_xor, Nat.div_eq_of_lt (by omega)]
  simp
end Go.Proofs.Ytaaeahhcbmnbgaa.Crc
