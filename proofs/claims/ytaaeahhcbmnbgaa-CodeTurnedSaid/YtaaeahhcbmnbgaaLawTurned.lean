/- THE STATEMENT CodeTurned: the walk. -/
import Derived.Test.YtaaeahhcbmnbgaaLawCode
import Derived.Test.YtaaeahhcbmnbgaaTurnPlain
namespace Go.Proofs.Ytaaeahhcbmnbgaa
open Go.RowKit
set_option linter.unusedVariables false
set_option maxRecDepth 100000

theorem Reads.past {S : List Nat} {w w' : World} {v : Value} {l : List Nat} (h : Reads w v l) (hm : Mod S w w') (hS : ∀ t ∈ S, w.heap.size ≤ t) : Reads w' v l := by
  obtain ⟨h1, h2, h3 | ⟨b, off, cap, rfl, hc⟩⟩ := h
  · exact ⟨h1, h2, .inl h3⟩
  · refine ⟨h1, h2, .inr ⟨b, off, cap, rfl, fun i hi => hm.cell (hc i hi) (fun hb => ?_)⟩⟩
    have := hS _ hb
    have := World.block_lt_of_cell? w _ (hc i hi)
    simp at *
    omega

theorem turned_early (v : Value) (l : List Nat) (at_ : Int) (bits : Nat) (w : World) (h : Reads w v l) (hz : l.length = 0 ∨ (0 < l.length ∧ bits = 0)) :
    Calls Try.prog 4 #[v, .int .i64 at_, .int .u32 (bits : Int)] w fun e w' => e = .returned (.bool true) ∧ Mod [] w w' := by
  have hlen := h.2.1
  obtain ⟨a', c', rfl⟩ : ∃ a c, v = .slice a l.length c := by
    obtain ⟨-, -, ⟨x, c, rfl, rfl⟩ | ⟨b, off, cap, rfl, -⟩⟩ := h
    · exact ⟨_, _, rfl⟩
    · exact ⟨_, _, rfl⟩
  rcases hz with hz | ⟨hz, hb⟩
  · have hz' : ((l.length : Int) == 0) = true := by rw [beq_iff_eq]; omega
    clear hz
    go_enter Try.func4, Try.ntmps4
    go_wp2_with fail
    refine (shown_any w).mono ?_
    rintro e w1 ⟨rfl, hm1⟩
    go_wp2_with fail
    refine (codeSum_any _ l _ (h.past hm1 (by simp))).mono ?_
    rintro e w2 ⟨rfl, rfl⟩
    go_wp2_with fail
    refine (codeSum_any _ l _ (h.past hm1 (by simp))).mono ?_
    rintro e w2 ⟨rfl, rfl⟩
    go_wp2_with fail
    go_ret
    exact ⟨rfl, hm1⟩
  · subst hb
    have hz' : ((l.length : Int) == 0) = false := by rw [beq_eq_false_iff_ne]; omega
    go_enter Try.func4, Try.ntmps4
    go_wp2_with fail
    refine (shown_any w).mono ?_
    rintro e w1 ⟨rfl, hm1⟩
    go_wp2_with fail
    refine (codeSum_any _ l _ (h.past hm1 (by simp))).mono ?_
    rintro e w2 ⟨rfl, rfl⟩
    go_wp2_with fail
    refine (codeSum_any _ l _ (h.past hm1 (by simp))).mono ?_
    rintro e w2 ⟨rfl, rfl⟩
    go_wp2_with fail
    go_ret
    exact ⟨rfl, hm1⟩

theorem Crc_cast (c i : Nat) : ((c : Int) / 2 ^ i % 2) = ((c / 2 ^ i % 2 : Nat) : Int) := by simp
theorem u8_flip (c k : Nat) (hc : c < 256) (hk : k < 8) : Go.bits .xor .u8 (c : Int) (2 ^ k % 256) = ((c ^^^ 2 ^ k : Nat) : Int) := by
  have h2 : 2 ^ k < 256 := Nat.pow_lt_pow_right (a := 2) (n := 8) (by decide) hk
  have := u8_xor_nat c (2 ^ k) hc h2
  have e : ((2 : Int) ^ k % 256) = ((2 ^ k : Nat) : Int) := by
    have : (2 : Int) ^ k = ((2 ^ k : Nat) : Int) := by rw [Int.natCast_pow]; rfl
    have h3 : ∀ m : Nat, m < 256 → ((m : Int) % 256) = m := fun m hm => by omega
    rw [this]
    exact h3 _ h2
  rw [e, this]
theorem ret_bool {a b : Bool} (h : a = b) : Ending.returned (.bool a) = .returned (.bool b) := by rw [h]

theorem turned_walk (v : Value) (l : List Nat) (at_ : Int) (bits : Nat) (w : World) (h : Reads w v l) (h1 : -9223372036854775808 ≤ at_) (h2 : at_ ≤ 9223372036854775807) (hbits : bits < 4294967296) (hl0 : 0 < l.length) (hb0 : bits ≠ 0) :
    Calls Try.prog 4 #[v, .int .i64 at_, .int .u32 (bits : Int)] w fun e w' => e = .returned (.bool true) ∧ Mod [] w w' := by
  have hlen := h.2.1
  obtain ⟨i0, hi, hz0, hz1, hz2⟩ := info_parts Try.infoU8
  obtain ⟨a', c', rfl⟩ : ∃ a c, v = .slice a l.length c := by
    obtain ⟨-, -, ⟨x, c, rfl, rfl⟩ | ⟨b, off, cap, rfl, -⟩⟩ := h
    · exact ⟨_, _, rfl⟩
    · exact ⟨_, _, rfl⟩
  have hz' : ((l.length : Int) == 0) = false := by rw [beq_eq_false_iff_ne]; omega
  have hz2' : ((bits : Int) == 0) = false := by rw [beq_eq_false_iff_ne]; omega
  have hpl := pickF_lt at_ (8 * (l.length : Int)) (by omega)
  go_enter Try.func4, Try.ntmps4
  go_wp2_with fail
  refine (shown_any w).mono ?_
  rintro e w1 ⟨rfl, hm1⟩
  go_wp2_with fail
  have hr1 := h.past hm1 (by simp)
  refine (codeSum_any _ l _ hr1).mono ?_
  rintro e w2 ⟨rfl, rfl⟩
  have hsrc := src_reads hr1
  go_wp2_with (at_builtin; refine wpList_append_src _ rfl _ _ 22 22 rfl 5 i0 (.int .u8 0) 1 1 Try.underlying22 hi hz0 hz1 hz2 rfl (.slice none 0 0) 0 [] rfl (World.ownsRow_nil _ _ _ _) _ l.length (toCells l) rfl hsrc (by unfold maxLen; omega) (by omega) ?_)
  intro v' w3 hown hmod hfresh hnil
  have hm3 : Mod [] w w3 := hm1.trans hmod (by simp [fp])
  obtain ⟨g, cap, rfl, hg, hcap, hmax⟩ : ∃ g cap, v' = .slice (some ⟨g, 0, none⟩) l.length cap ∧ w.heap.size ≤ g ∧ l.length ≤ cap ∧ cap ≤ maxLen := by
    rcases hown.2 with ⟨hv, hl'⟩ | ⟨g, cap, cur, hv, -, -, hcap, hmax, -, -⟩
    · omega
    · refine ⟨_, _, hv, ?_, hcap, hmax⟩
      have := hfresh g (by rw [hv]; simp [fp])
      have hs := hm1.size
      simp [fp] at this
      omega
  clear hnil hfresh hmod
  try simp only [Nat.zero_add, List.nil_append] at hown
  go_wp2_with fail
  refine (pick_any at_ (8 * (l.length : Int)) _ h1 h2 (by omega) (by omega)).mono ?_
  rintro e w4 ⟨rfl, rfl⟩
  go_wp2_with fail
  go_loopw [10, 12, 13] (fun ch i k wr => ∃ n : Nat, n ≤ 32 ∧ i = .int .i64 n ∧ ch = .bool (Crc.changed l (pickF at_ (8 * (l.length : Int))) bits n) ∧
      wr.ownsRow 0 5 1 (.slice (some ⟨g, 0, none⟩) l.length cap) l.length (toCells (Crc.turned l (pickF at_ (8 * (l.length : Int))) bits n)) ∧ Mod [] w wr) (fun _ i _ _ => 32 - (intOf i).toNat)
  case atStart => exact ⟨0, by omega, rfl, rfl, hown, hm3⟩
  case round =>
    obtain ⟨n, hn, rfl, rfl, hro, hmr⟩ := hrel
    clear hown hm3 hsrc
    have HS := Lib.hid (Crc.turned_sum l (pickF at_ (8 * (l.length : Int))) bits h.1 (by omega) hbits)
    by_cases hlt : n < 32
    · have hll := Crc.turned_len l (pickF at_ (8 * (l.length : Int))) bits n
      have hlt8 := Crc.turned_lt h.1 (pickF at_ (8 * (l.length : Int))) bits n
      generalize pickF at_ (8 * (l.length : Int)) = from_ at *
      by_cases hx : bits / 2 ^ n % 2 = 1
      · have hx0 : 0 ≤ (bits : Int) / 2 ^ n := Int.ediv_nonneg (by omega) (Int.pow_nonneg (by decide))
        have hx1 : ((bits : Int) / 2 ^ n % 2 == 1) = true := by
          rw [beq_iff_eq, Crc_cast, hx]; rfl
        by_cases hk : from_ + n < 8 * l.length
        · have hj : (from_ + n) / 8 < (Crc.turned l from_ bits n).length := by omega
          have hcell : wr.cell? ⟨g, (from_ + n) / 8, none⟩ = some (.int .u8 ((Crc.turned l from_ bits n).getD ((from_ + n) / 8) 0 : Nat)) := by
            rw [hro.cellAt _ (by omega), toCells_get _ _ hj]
          have hfree := hro.frozenAt ((from_ + n) / 8)
          have hcb := getD_lt hlt8 ((from_ + n) / 8)
          have hst := Lib.hid (hro.stored ((from_ + n) / 8))
          have hT : Hid (toCells (Crc.turned l from_ bits (n + 1)) = (toCells (Crc.turned l from_ bits n)).set ((from_ + n) / 8) (.int .u8 (((Crc.turned l from_ bits n).getD ((from_ + n) / 8) 0 ^^^ 2 ^ ((from_ + n) % 8) : Nat) : Int))) := Lib.hid (by
            rw [Crc.turned, if_pos ⟨hx, hk⟩, Crc.flip, toCells, toCells, List.map_set])
          have hC : Hid (Crc.changed l from_ bits (n + 1) = true) := Lib.hid (by rw [Crc.changed, if_pos ⟨hx, hk⟩])
          have hB := Lib.hid <| u8_flip _ ((from_ + n) % 8) hcb (by omega)
          generalize (Crc.turned l from_ bits n).getD ((from_ + n) / 8) 0 = c at *
          have e8 : Hid ((((from_ : Int) + n) % 8).toNat = (from_ + n) % 8) := Lib.hid (by omega)
          go_wp2_with fail
          go_region
          go_wp2_with fail
          go_roundw
          case rel =>
            refine ⟨n + 1, by omega, by go_num, by rw [hC.out], ?_, ?_⟩
            · rw [hT.out, hB.out]
              exact (hst.out _).1.drew
            · exact (hmr.grown (hst.out _).2 (fun k hk => .inr (by cases hk; exact hg))).drew
          case measure => simp [intOf]; omega
        · have hT : Hid (Crc.turned l from_ bits (n + 1) = Crc.turned l from_ bits n) := Lib.hid (by rw [Crc.turned, if_neg (fun e => hk e.2)])
          have hC : Hid (Crc.changed l from_ bits (n + 1) = Crc.changed l from_ bits n) := Lib.hid (by rw [Crc.changed, if_neg (fun e => hk e.2)])
          go_wp2_with fail
          go_roundw
          case rel => exact ⟨n + 1, by omega, by go_num, by rw [hC.out], by rw [hT.out]; exact hro, hmr⟩
          case measure => simp [intOf]; omega
      · have hx0 : 0 ≤ (bits : Int) / 2 ^ n := Int.ediv_nonneg (by omega) (Int.pow_nonneg (by decide))
        have hx1 : ((bits : Int) / 2 ^ n % 2 == 1) = false := by
          rw [beq_eq_false_iff_ne, Crc_cast]; omega
        have hT : Hid (Crc.turned l from_ bits (n + 1) = Crc.turned l from_ bits n) := Lib.hid (by rw [Crc.turned, if_neg (fun e => hx e.1)])
        have hC : Hid (Crc.changed l from_ bits (n + 1) = Crc.changed l from_ bits n) := Lib.hid (by rw [Crc.changed, if_neg (fun e => hx e.1)])
        go_wp2_with fail
        go_roundw
        case rel => exact ⟨n + 1, by omega, by go_num, by rw [hC.out], by rw [hT.out]; exact hro, hmr⟩
        case measure => simp [intOf]; omega
    · obtain rfl : n = 32 := by omega
      have hlt := Crc.turned_lt h.1 (pickF at_ (8 * (l.length : Int))) bits 32
      have hll := Crc.turned_len l (pickF at_ (8 * (l.length : Int))) bits 32
      have hrd : Reads wr (.slice (some ⟨g, 0, none⟩) l.length cap) (Crc.turned l (pickF at_ (8 * (l.length : Int))) bits 32) := reads_own (by rw [hll]; exact hro) hlt (by omega)
      clear hro
      generalize pickF at_ (8 * (l.length : Int)) = from_ at *
      go_wp2_with fail
      refine (codeSum_any _ _ _ hrd).mono ?_
      rintro e w5 ⟨rfl, rfl⟩
      go_wp2_with fail
      go_ret
      refine ⟨ret_bool ?_, hmr⟩
      have a1 := Crc.sum_lt (Crc.turned l from_ bits 32) 4294967295 (by decide) hlt
      have a2 := Crc.sum_lt l 4294967295 (by decide) h.1
      have hs := HS.out
      generalize Crc.sum (Crc.turned l from_ bits 32) 4294967295 = p at *
      generalize Crc.sum l 4294967295 = q at *
      cases hc : Crc.changed l from_ bits 32
      · rw [hc] at hs
        have : p = q := Classical.byContradiction fun e => by cases hs.1 e
        subst this
        simp
      · rw [hc] at hs
        have := hs.2 rfl
        simp
        omega

theorem turned_all (v : Value) (l : List Nat) (at_ bits : Int) (w : World) (h : Reads w v l) (h1 : -9223372036854775808 ≤ at_) (h2 : at_ ≤ 9223372036854775807) (hb0 : 0 ≤ bits) (hb1 : bits < 4294967296) :
    Calls Try.prog 4 #[v, .int .i64 at_, .int .u32 bits] w fun e w' => e = .returned (.bool true) ∧ Mod [] w w' := by
  obtain ⟨b, rfl⟩ := Int.eq_ofNat_of_zero_le hb0
  by_cases hz : l.length = 0 ∨ (0 < l.length ∧ b = 0)
  · exact turned_early v l at_ b w h hz
  · exact turned_walk v l at_ b w h h1 h2 (by omega) (by omega) (by omega)
end Go.Proofs.Ytaaeahhcbmnbgaa
