/- THE CHECKSUM's WALKS: the program's and the reference's. -/
import Derived.Test.YtaaeahhcbmnbgaaBase
import Derived.Test.YtaaeahhcbmnbgaaCrcPlain
namespace Go.Proofs.Ytaaeahhcbmnbgaa
open Go.RowKit

theorem u32_low (s : Nat) (h : s < 4294967296) : Go.bits .and .u32 (s : Int) 1 = ((s % 2 : Nat) : Int) := by
  have := u32_and_nat s 1 h (by decide)
  simpa [nat_mask1] using this
theorem u32_poly (s : Nat) (h : s < 4294967296) : Go.bits .xor .u32 (s : Int) 2197175160 = ((s ^^^ Crc.poly : Nat) : Int) := by
  have := u32_xor_nat s 2197175160 h (by decide)
  simpa [Crc.poly] using this
theorem bit_one {t : Nat} (h : (((t : Int) % 2) == 1) = true) : Crc.bit t = (t / 2) ^^^ Crc.poly := by
  unfold Crc.bit
  rw [if_pos (by have := of_decide_eq_true h; omega)]
theorem bit_zero {t : Nat} (h : (((t : Int) % 2) == 1) = false) : Crc.bit t = t / 2 := by
  unfold Crc.bit
  rw [if_neg (by have := of_decide_eq_false h; omega)]
theorem u32_not (s : Nat) (h : s < 4294967296) : Go.bits .xor .u32 IntKind.u32.max (s : Int) = ((4294967295 - s : Nat) : Int) := by
  have := u32_xor_nat 4294967295 s (by decide) h
  rw [show IntKind.u32.max = ((4294967295 : Nat) : Int) from by decide, this]
  rw [Nat.xor_comm, Crc.xor_all s h]

theorem codeSum_some (l : List Nat) (hb : ∀ c ∈ l, c < 256) (hl : l.length ≤ 140737488355328) (b off cap : Nat) (w : World)
    (hc : ∀ i, i < l.length → w.cell? ⟨b, off + i, none⟩ = some (.int .u8 (l.getD i 0 : Nat))) :
    Calls Try.prog 10 #[.slice (some ⟨b, off, none⟩) l.length cap] w fun e w' => e = .returned (.int .u32 (4294967295 - Crc.sum l 4294967295 : Nat)) ∧ w = w' := by
  go_enter Try.func10, Try.ntmps10
  go_wp2
  go_loop [3, 9] (fun s i => ∃ k : Nat, k ≤ l.length ∧ i = .int .i64 k ∧ s = .int .u32 (Crc.sum (l.take k) 4294967295 : Nat)) (fun _ i => l.length - (intOf i).toNat)
  case atStart => exact ⟨0, Nat.zero_le _, rfl, rfl⟩
  case round =>
    obtain ⟨k, hk, rfl, rfl⟩ := hrel
    have hs := Crc.sum_lt (l.take k) 4294967295 (by decide) (fun c h => hb c (List.mem_of_mem_take h))
    by_cases hlt : k < l.length
    · have hcell := hc k hlt
      have hcb := getD_lt hb k
      have hsn : Hid (Crc.sum (l.take (k + 1)) 4294967295 = Crc.byte (Crc.sum (l.take k) 4294967295) (l.getD k 0)) := Lib.hid (by rw [take_snoc l 0 k hlt, Crc.sum_snoc])
      generalize l.getD k 0 = c at *
      generalize Crc.sum (l.take k) 4294967295 = s at *
      have hx := u32_xor_nat s c hs (by omega)
      have hxl := Crc.xor_lt hs (show c < 4294967296 by omega)
      clear hc hb
      go_wp2
      go_loop [3, 17] (fun s' j => ∃ i : Nat, i ≤ 8 ∧ j = .int .i64 i ∧ s' = .int .u32 (Crc.bits i (s ^^^ c) : Nat)) (fun _ j => 8 - (intOf j).toNat)
      case atStart => exact ⟨0, Nat.zero_le _, rfl, rfl⟩
      case round =>
        obtain ⟨i, hi, rfl, rfl⟩ := hrel
        have hr := Crc.bits_lt hxl i
        by_cases hi8 : i < 8
        · have hsn2 : Hid (Crc.bits (i + 1) (s ^^^ c) = Crc.bit (Crc.bits i (s ^^^ c))) := Lib.hid rfl
          generalize Crc.bits i (s ^^^ c) = t at *
          have h1 := u32_low t hr
          have h2 := u32_poly (t / 2) (by omega)
          go_wp2
          all_goals
            go_round
            case rel =>
              refine ⟨i + 1, by omega, by go_num, ?_⟩
              rw [hsn2.out]
              first
                | rw [bit_one ‹_›, ← h2]; go_num
                | rw [bit_zero ‹_›]; go_num
            case measure => simp [intOf]; omega
        · obtain rfl : i = 8 := by omega
          go_wp2
          go_round
          case rel => exact ⟨k + 1, by omega, by go_num, by rw [hsn.out]; rfl⟩
          case measure => simp [intOf]; omega
    · obtain rfl : k = l.length := by omega
      rw [List.take_length] at *
      have hn := u32_not (Crc.sum l 4294967295) hs
      go_wp2
      go_ret
      exact ⟨ret_int rfl, rfl⟩

theorem codeSum_nil (x : Option Addr) (c : Nat) (w : World) :
    Calls Try.prog 10 #[.slice x 0 c] w fun e w' => e = .returned (.int .u32 0) ∧ w = w' := by
  go_enter Try.func10, Try.ntmps10
  go_wp2
  go_loop [3, 9] (fun s i => i = .int .i64 0 ∧ s = .int .u32 4294967295) (fun _ i => 0 - (intOf i).toNat)
  case atStart => exact ⟨rfl, rfl⟩
  case round =>
    obtain ⟨rfl, rfl⟩ := hrel
    go_wp2
    go_ret
    exact ⟨rfl, rfl⟩

/-- THE PROGRAM's SUM, of any slice of bytes -/
theorem codeSum_any (v : Value) (l : List Nat) (w : World) (h : Reads w v l) :
    Calls Try.prog 10 #[v] w fun e w' => e = .returned (.int .u32 (4294967295 - Crc.sum l 4294967295 : Nat)) ∧ w = w' := by
  obtain ⟨hb, hl, ⟨x, c, rfl, rfl⟩ | ⟨b, off, cap, rfl, hc⟩⟩ := h
  · exact codeSum_nil x c w
  · exact codeSum_some l hb hl b off cap w hc

theorem u32_not' (s : Nat) (h : s < 4294967296) : Go.bits .xor .u32 (s : Int) 4294967295 = ((4294967295 - s : Nat) : Int) := by
  have := u32_xor_nat s 4294967295 h (by decide)
  rw [show (4294967295 : Int) = ((4294967295 : Nat) : Int) from rfl, this, Crc.xor_all s h]
theorem div_mod_cast (c i : Nat) : ((c : Int) / 2 ^ i % 2) = ((c / 2 ^ i % 2 : Nat) : Int) := by simp
theorem rbit_one {c i t : Nat} (h : ((c : Int) / 2 ^ i % 2 != (t : Int) % 2) = true) : Crc.rbit t (c / 2 ^ i % 2) = (t / 2) ^^^ Crc.poly := by
  unfold Crc.rbit
  rw [div_mod_cast] at h
  generalize c / 2 ^ i % 2 = b at *
  rw [if_pos (by have := bne_iff_ne.1 h; omega)]
theorem rbit_zero {c i t : Nat} (h : ((c : Int) / 2 ^ i % 2 != (t : Int) % 2) = false) : Crc.rbit t (c / 2 ^ i % 2) = t / 2 := by
  unfold Crc.rbit
  rw [div_mod_cast] at h
  generalize c / 2 ^ i % 2 = b at *
  rw [if_neg (by have := bne_eq_false_iff_eq.1 h; omega)]

theorem refSum_some (l : List Nat) (hb : ∀ c ∈ l, c < 256) (hl : l.length ≤ 140737488355328) (b off cap : Nat) (w : World)
    (hc : ∀ i, i < l.length → w.cell? ⟨b, off + i, none⟩ = some (.int .u8 (l.getD i 0 : Nat))) :
    Calls Try.prog 11 #[.slice (some ⟨b, off, none⟩) l.length cap] w fun e w' => e = .returned (.int .u32 (4294967295 - Crc.sum l 4294967295 : Nat)) ∧ w = w' := by
  go_enter Try.func11, Try.ntmps11
  go_wp2
  go_loop [3, 4] (fun s i => ∃ k : Nat, k ≤ l.length ∧ i = .int .i64 k ∧ s = .int .u32 (Crc.sum (l.take k) 4294967295 : Nat)) (fun _ i => l.length - (intOf i).toNat)
  case atStart => exact ⟨0, Nat.zero_le _, rfl, rfl⟩
  case round =>
    obtain ⟨k, hk, rfl, rfl⟩ := hrel
    have hs := Crc.sum_lt (l.take k) 4294967295 (by decide) (fun c h => hb c (List.mem_of_mem_take h))
    by_cases hlt : k < l.length
    · have hcell := hc k hlt
      have hcb := getD_lt hb k
      have hsn : Hid (Crc.sum (l.take (k + 1)) 4294967295 = Crc.rbyte (Crc.sum (l.take k) 4294967295) (l.getD k 0)) := Lib.hid (by rw [take_snoc l 0 k hlt, Crc.sum_snoc, Crc.byte_eq _ _ hcb])
      generalize l.getD k 0 = c at *
      generalize Crc.sum (l.take k) 4294967295 = s at *
      clear hc hb
      go_wp2
      go_loop [3, 5] (fun s' j => ∃ i : Nat, i ≤ 8 ∧ j = .int .i64 i ∧ s' = .int .u32 (Crc.rbits c i s : Nat)) (fun _ j => 8 - (intOf j).toNat)
      case atStart => exact ⟨0, Nat.zero_le _, rfl, rfl⟩
      case round =>
        obtain ⟨i, hi, rfl, rfl⟩ := hrel
        have hr := Crc.rbits_lt (c := c) hs i
        by_cases hi8 : i < 8
        · have hsn2 : Hid (Crc.rbits c (i + 1) s = Crc.rbit (Crc.rbits c i s) (c / 2 ^ i % 2)) := Lib.hid rfl
          generalize Crc.rbits c i s = t at *
          have h2 := u32_poly (t / 2) (by omega)
          go_wp2
          all_goals
            go_round
            case rel =>
              refine ⟨i + 1, by omega, by go_num, ?_⟩
              rw [hsn2.out]
              first
                | rw [rbit_one ‹_›, ← h2]; go_num
                | rw [rbit_zero ‹_›]; go_num
            case measure => simp [intOf]; omega
        · obtain rfl : i = 8 := by omega
          go_wp2
          go_round
          case rel => exact ⟨k + 1, by omega, by go_num, by rw [hsn.out]; rfl⟩
          case measure => simp [intOf]; omega
    · obtain rfl : k = l.length := by omega
      rw [List.take_length] at *
      have hn := u32_not' (Crc.sum l 4294967295) hs
      go_wp2
      go_ret
      exact ⟨ret_int rfl, rfl⟩

theorem refSum_nil (x : Option Addr) (c : Nat) (w : World) :
    Calls Try.prog 11 #[.slice x 0 c] w fun e w' => e = .returned (.int .u32 0) ∧ w = w' := by
  go_enter Try.func11, Try.ntmps11
  go_wp2
  go_loop [3, 4] (fun s i => i = .int .i64 0 ∧ s = .int .u32 4294967295) (fun _ i => 0 - (intOf i).toNat)
  case atStart => exact ⟨rfl, rfl⟩
  case round =>
    obtain ⟨rfl, rfl⟩ := hrel
    go_wp2
    go_ret
    exact ⟨rfl, rfl⟩

/-- THE REFERENCE's SUM, of any slice of bytes -/
theorem refSum_any (v : Value) (l : List Nat) (w : World) (h : Reads w v l) :
    Calls Try.prog 11 #[v] w fun e w' => e = .returned (.int .u32 (4294967295 - Crc.sum l 4294967295 : Nat)) ∧ w = w' := by
  obtain ⟨hb, hl, ⟨x, c, rfl, rfl⟩ | ⟨b, off, cap, rfl, hc⟩⟩ := h
  · exact refSum_nil x c w
  · exact refSum_some l hb hl b off cap w hc
end Go.Proofs.Ytaaeahhcbmnbgaa
