/- THE READER: the number at the place. -/
import Derived.Test.YthdkaoegegiheaaDoorCodeR
namespace Go.Proofs.YthdkaoegegiheaaDoor
open Go.RowKit
set_option linter.unusedVariables false
set_option maxRecDepth 100000

theorem ret2_int {k m : IntKind} {a b c d : Int} (h : a = b) (g : c = d) : Ending.returned (.tuple #[.int k a, .int m c]) = .returned (.tuple #[.int k b, .int m d]) := by rw [h, g]

theorem acc_bits (acc c k : Nat) (hacc : acc < 2 ^ (7 * k)) (hk : k < 10) (hc : c < 256) (h9 : k = 9 → c % 128 ≤ 1) :
    Go.bits .or .u64 (acc : Int) (IntKind.u64.wrap (IntKind.u64.wrap (Go.bits .and .u8 (c : Int) 127) * 2 ^ (7 * k))) = ((acc + c % 128 * 2 ^ (7 * k) : Nat) : Int) := by
  have wr : ∀ x : Int, IntKind.u64.wrap x = x % 18446744073709551616 := fun x => by simp [IntKind.wrap, IntKind.bits, IntKind.signed]
  have e1 : Go.bits .and .u8 (c : Int) 127 = ((c % 128 : Nat) : Int) := by
    have := u8_and_nat c 127 hc (by decide)
    rw [nat_mask7] at this
    exact this
  rw [e1, wr, wr]
  have hp : c % 128 * 2 ^ (7 * k) < 18446744073709551616 := by
    rcases Nat.lt_or_ge k 9 with h | h
    · have : 2 ^ (7 * k) ≤ 2 ^ 56 := Nat.pow_le_pow_right (by decide) (by omega)
      have h2 : c % 128 * 2 ^ (7 * k) ≤ 127 * 2 ^ 56 := Nat.mul_le_mul (by omega) this
      omega
    · obtain rfl : k = 9 := by omega
      have := h9 rfl
      have h2 : c % 128 * 2 ^ (7 * 9) ≤ 1 * 2 ^ 63 := Nat.mul_le_mul this (Nat.le_refl _)
      omega
  have ha : acc < 18446744073709551616 := by
    have : 2 ^ (7 * k) ≤ 2 ^ 63 := Nat.pow_le_pow_right (by decide) (by omega)
    omega
  have e2 : (((c % 128 : Nat) : Int) % 18446744073709551616 * 2 ^ (7 * k) % 18446744073709551616) = ((c % 128 * 2 ^ (7 * k) : Nat) : Int) := by
    have e0 : ((c % 128 : Nat) : Int) % 18446744073709551616 = ((c % 128 : Nat) : Int) := by omega
    rw [e0]
    have : ((c % 128 : Nat) : Int) * 2 ^ (7 * k) = ((c % 128 * 2 ^ (7 * k) : Nat) : Int) := by rw [Int.natCast_mul, Int.natCast_pow]; rfl
    rw [this, Int.emod_eq_of_lt (by omega) (by omega)]
  rw [e2, u64_or_nat _ _ ha hp]
  congr 1
  rw [Nat.or_comm, nat_join (7 * k) _ _ (by simp) hacc, Nat.add_comm]

set_option maxHeartbeats 4000000 in
theorem next_any (b : Nat) (v : Value) (l : List Nat) (a : Nat) (w : World) (h : RdIs w b v l a 0) :
    Calls Tryd.prog 131 #[.pointer (some ⟨b, 0, none⟩)] w
      (Rd b v l a (Cod.nx 10 0 0 (l.drop a)).2.2 (.tuple #[.int .u64 ((Cod.nx 10 0 0 (l.drop a)).1 : Nat), .int .i64 ((Cod.nx 10 0 0 (l.drop a)).2.1 : Nat)]) w) := by
  have hin := h.in_
  have hlen := h.len
  go_enter Tryd.func131, Tryd.ntmps131
  go_wp2
  go_loopw [4, 7] (fun n i wr => ∃ (k acc : Nat), k ≤ 10 ∧ i = .int .i64 k ∧ n = .int .u64 acc ∧ acc < 2 ^ (7 * k) ∧ k + a ≤ l.length ∧ Cod.nx (10 - k) k acc (l.drop (a + k)) = Cod.nx 10 0 0 (l.drop a) ∧ RdIs wr b v l a 0 ∧ Mod [b] w wr) (fun _ i _ => 10 - (intOf i).toNat)
  case atStart => exact ⟨0, 0, by omega, rfl, rfl, by simp, by omega, by simp, h, Mod.refl _ _⟩
  case round =>
    obtain ⟨k, acc, hk, rfl, rfl, hacc, hka, hnx, hr, hm⟩ := hrel
    have h0 := hr.c0
    have h1 := hr.c1
    have HN := Lib.hid hnx
    clear hnx h
    obtain ⟨a', c', rfl⟩ := owns_slice hr.row
    by_cases hk10 : k < 10
    · by_cases hend : a + k < l.length
      · obtain ⟨g, cap, rfl, rfl, hcap, hmax⟩ : ∃ g cap, a' = some ⟨g, 0, none⟩ ∧ c' = cap ∧ l.length ≤ cap ∧ cap ≤ maxLen := by
          rcases hr.row.2 with ⟨hv, hl0⟩ | ⟨g, cap, cur, hv, -, -, hcap, hmax, -, -⟩
          · omega
          · cases hv; exact ⟨_, _, rfl, rfl, hcap, hmax⟩
        unfold maxLen at hmax
        have hcell : wr.cell? ⟨g, a + k, none⟩ = some (.int .u8 (l.getD (a + k) 0 : Nat)) := by
          have := hr.row.cells (g := g) rfl (a + k) _ (toCells_get l (a + k) hend)
          rwa [addr_add, Nat.zero_add] at this
        have hcb := getD_lt hr.byte (a + k)
        have hdrop : Hid (l.drop (a + k) = l.getD (a + k) 0 :: l.drop (a + (k + 1))) := Lib.hid (by
          rw [List.drop_eq_getElem_cons hend, List.getD_eq_getElem?_getD, List.getElem?_eq_getElem hend]; rfl)
        generalize l.getD (a + k) 0 = c at *
        by_cases hbad : (k = 9 ∧ 1 < c) ∨ (0 < k ∧ c = 0)
        · have hnx1 : Hid (Cod.nx 10 0 0 (l.drop a) = (0, 0, 11)) := Lib.hid (by
            rw [← HN.out, hdrop.out, show 10 - k = (9 - k) + 1 by omega, Cod.nx, if_pos hbad])
          have hcase : (k = 9 ∧ 1 < c) ∨ (k = 9 ∧ c = 0) ∨ (k ≠ 9 ∧ 0 < k ∧ c = 0) := by omega
          clear hbad
          rcases hcase with ⟨rfl, h2⟩ | ⟨rfl, rfl⟩ | ⟨h9, h2, rfl⟩
          all_goals
            go_wp2
            go_quiet (fail)
            go_wp2_with fail
            go_quiet (fail)
            go_wp2_with fail
            refine (fail_any b _ l a 0 11 _ (hr.drewN _)).mono ?_
            rintro e w2 ⟨rfl, hr2, hm2⟩
            go_wp2
            go_ret2
            rw [hnx1.out]
            exact ⟨rfl, hr2, (hm.drewN _).trans hm2 (fun t ht => .inl ht)⟩
        · have hcase : (9 ≤ k ∧ 1 ≤ c ∧ c ≤ 1) ∨ (k ≤ 0) ∨ (k < 9 ∧ 0 < k ∧ 0 < c) := by omega
          by_cases h128 : c < 128
          · have hnx1 : Hid (Cod.nx 10 0 0 (l.drop a) = (acc + c % 128 * 2 ^ (7 * k), k + 1, 0)) := Lib.hid (by
              rw [← HN.out, hdrop.out, show 10 - k = (9 - k) + 1 by omega, Cod.nx, if_neg hbad, if_pos h128])
            clear hbad
            have HB := Lib.hid (acc_bits acc c k hacc hk10 hcb (by omega))
            rcases hcase with ⟨h9, h2, h3⟩ | h9 | ⟨h9, h2, h3⟩
            all_goals
              try (have hc0 : ((c : Int) == 0) = false := by rw [beq_eq_false_iff_ne]; omega)
              try (have hc1 : (c : Int) ≤ 1 := by omega)
              go_wp2
              go_quiet (fail)
              go_wp2_with fail
              go_quiet (fail)
              go_wp2
              go_ret2
              rw [hnx1.out]
              refine ⟨?_, hr.drewN _, hm.drewN _⟩
              first
                | exact ret2_int HB.out (by go_num)
                | (have e9 : k = 9 := by omega
                   have HB' := HB.out
                   subst e9
                   exact ret2_int HB' (by go_num))
          · have hnx1 : Hid (Cod.nx (10 - (k + 1)) (k + 1) (acc + c % 128 * 2 ^ (7 * k)) (l.drop (a + (k + 1))) = Cod.nx 10 0 0 (l.drop a)) := Lib.hid (by
              rw [← HN.out, hdrop.out, show 10 - k = (10 - (k + 1)) + 1 by omega, Cod.nx, if_neg hbad, if_neg h128])
            have HB := Lib.hid (acc_bits acc c k hacc hk10 hcb (by omega))
            have HL : Hid (acc + c % 128 * 2 ^ (7 * k) < 2 ^ (7 * (k + 1))) := Lib.hid (by
              rw [show 7 * (k + 1) = 7 * k + 7 by omega, Nat.pow_add]
              have h1 : c % 128 * 2 ^ (7 * k) ≤ 127 * 2 ^ (7 * k) := Nat.mul_le_mul_right _ (by omega)
              omega)
            have hcase2 : (k ≤ 0) ∨ (k < 9 ∧ 0 < k ∧ 0 < c) := by omega
            clear hcase hbad
            rcases hcase2 with h9 | ⟨h9, h2, h3⟩
            all_goals
              go_wp2
              go_quiet (fail)
              go_wp2_with fail
              go_quiet (fail)
              go_wp2
              go_roundw
              case rel => exact ⟨k + 1, acc + c % 128 * 2 ^ (7 * k), by omega, by go_num, congrArg _ HB.out, HL.out, by omega, hnx1.out, hr.drewN _, hm.drewN _⟩
              case measure => simp [intOf]; omega
      · have hnx1 : Hid (Cod.nx 10 0 0 (l.drop a) = (0, 0, 10)) := Lib.hid (by
          rw [← HN.out, List.drop_eq_nil_of_le (by omega), show 10 - k = (9 - k) + 1 by omega]; rfl)
        go_wp2
        go_quiet (fail)
        go_wp2_with fail
        refine (fail_any b _ l a 0 10 _ (hr.drewN _)).mono ?_
        rintro e w2 ⟨rfl, hr2, hm2⟩
        go_wp2
        go_ret2
        rw [hnx1.out]
        exact ⟨rfl, hr2, (hm.drewN _).trans hm2 (fun t ht => .inl ht)⟩
    · obtain rfl : k = 10 := by omega
      have hnx1 : Hid (Cod.nx 10 0 0 (l.drop a) = (0, 0, 0)) := Lib.hid (by
          rw [← HN.out]; rfl)
      go_wp2
      go_ret2
      rw [hnx1.out]
      exact ⟨rfl, hr, hm⟩
end Go.Proofs.YthdkaoegegiheaaDoor
