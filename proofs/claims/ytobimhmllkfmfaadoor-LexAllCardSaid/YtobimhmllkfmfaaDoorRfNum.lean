/- THE REFERENCE's numbers, hex digits, marks. -/
import Derived.Test.YtobimhmllkfmfaaDoorRfFn
namespace Go.Proofs.YtobimhmllkfmfaaDoor
open Go.RowKit
set_option linter.unusedVariables false
set_option linter.unusedSimpArgs false
set_option maxRecDepth 100000

theorem num_step (l : List Nat) (c : Nat) : Lx.numv (l ++ [c]) = 10 * Lx.numv l + (c - 48) := by
  unfold Lx.numv; rw [List.foldl_append]; rfl
theorem num_lt : ∀ (l : List Nat), (∀ c ∈ l, Lx.digit c = true) → Lx.numv l < 10 ^ l.length := by
  intro l
  have key : ∀ (l : List Nat) (acc : Nat), (∀ c ∈ l, Lx.digit c = true) → l.foldl (fun a c => 10 * a + (c - 48)) acc < (acc + 1) * 10 ^ l.length := by
    intro l
    induction l with
    | nil => intro acc _; simp
    | cons c r ih =>
      intro acc h
      have hc := h c (by simp)
      simp only [Lx.digit, Bool.and_eq_true, decide_eq_true_eq] at hc
      have := ih (10 * acc + (c - 48)) (fun x hx => h x (by simp [hx]))
      rw [List.foldl_cons, List.length_cons, Nat.pow_succ]
      refine Nat.lt_of_lt_of_le this ?_
      rw [Nat.mul_comm (10 ^ r.length) 10, ← Nat.mul_assoc]
      exact Nat.mul_le_mul_right _ (by omega)
  intro h
  have := key l 0 h
  simpa [Lx.numv] using this
theorem num_big {l : List Nat} (h0 : l.headD 0 ≠ 48) (hd : ∀ c ∈ l, Lx.digit c = true) (hl : 10 < l.length) : 2147483647 < Lx.numv l := by
  have key : ∀ (l : List Nat) (acc : Nat), acc * 10 ^ l.length ≤ l.foldl (fun a c => 10 * a + (c - 48)) acc := by
    intro l
    induction l with
    | nil => intro acc; simp
    | cons c r ih =>
      intro acc
      have := ih (10 * acc + (c - 48))
      rw [List.foldl_cons, List.length_cons, Nat.pow_succ]
      refine Nat.le_trans ?_ this
      rw [Nat.mul_comm (10 ^ r.length) 10, ← Nat.mul_assoc]
      exact Nat.mul_le_mul_right _ (by omega)
  cases l with
  | nil => simp at hl
  | cons c r =>
    have hc := hd c (by simp)
    simp only [Lx.digit, Bool.and_eq_true, decide_eq_true_eq] at hc
    simp at h0 hl
    have h1 := key r (c - 48)
    have h2 : 10 ^ 10 ≤ 10 ^ r.length := Nat.pow_le_pow_right (by decide) (by omega)
    have h3 : 1 * 10 ^ 10 ≤ (c - 48) * 10 ^ r.length := Nat.mul_le_mul (by omega) h2
    have e : Lx.numv (c :: r) = r.foldl (fun a c => 10 * a + (c - 48)) (10 * 0 + (c - 48)) := rfl
    rw [e, Nat.mul_zero, Nat.zero_add]
    have h4 : (10 : Nat) ^ 10 = 10000000000 := rfl
    omega

/-- what the reference's number answers of digits -/
def numZ (l : List Nat) : Int := if (1 < l.length ∧ l.headD 0 = 48) ∨ 2147483647 < Lx.numv l then -1 else (Lx.numv l : Nat)

set_option maxHeartbeats 2000000 in
theorem rNumber_any (s : ByteArray) (hs : s.size ≤ 65536) (h0 : 0 < s.size) (hd : ∀ c ∈ Cod.str s, Lx.digit c = true) (w : World) :
    Calls Tryd.prog 55 #[.string s] w fun e w' => e = .returned (.int .i64 (numZ (Cod.str s))) ∧ w = w' := by
  have hc0 : s[0].toNat = (Cod.str s).headD 0 := by
    rw [← Lx.get_str s 0 h0]
    cases Cod.str s <;> rfl
  have hll := Cod.str_len s
  by_cases hz : 1 < s.size ∧ (Cod.str s).headD 0 = 48
  · have e : Hid (numZ (Cod.str s) = -1) := Lib.hid (by unfold numZ; rw [hll, if_pos (.inl hz)])
    have h1 : (1 : Int) < (s.size : Int) := by omega
    have p48 : (s[0].toNat : Int) = 48 := by rw [hc0, hz.2]; rfl
    clear hz hc0 hll hd
    go_enter Tryd.func55, Tryd.ntmps55
    go_wp2_with fail
    go_ret
    exact ⟨by rw [e.out]; rfl, rfl⟩
  · by_cases h10 : 10 < s.size
    · have hne : (Cod.str s).headD 0 ≠ 48 := fun h => hz ⟨by omega, h⟩
      have hbig := num_big hne hd (by rw [hll]; exact h10)
      have e : Hid (numZ (Cod.str s) = -1) := Lib.hid (by unfold numZ; rw [if_pos (.inr hbig)])
      have h1 : (1 : Int) < (s.size : Int) := by omega
      have h10I : (10 : Int) < (s.size : Int) := by omega
      have p48 : ((s[0].toNat : Int) == 48) = false := by rw [hc0, beq_eq_false_iff_ne]; omega
      have a48 : ¬ (s[0].toNat : Int) = 48 := by rw [hc0]; omega
      clear hz hc0 hll hd hne hbig h10
      go_enter Tryd.func55, Tryd.ntmps55
      go_wp2_with fail
      go_ret
      exact ⟨by rw [e.out]; rfl, rfl⟩
    · have hcase : s.size ≤ 1 ∨ (1 < s.size ∧ (Cod.str s).headD 0 ≠ 48) := by omega
      have h10I : (s.size : Int) ≤ 10 := by omega
      have hlow := fun k (hk : k ≤ s.size) => num_lt ((Cod.str s).take k) (fun c hc => hd c (List.mem_of_mem_take hc))
      have hpow : ∀ k, k ≤ 10 → 10 ^ k ≤ 10000000000 := fun k hk => Nat.le_trans (Nat.pow_le_pow_right (by decide) hk) (by decide)
      have hnum : ∀ k, k ≤ s.size → Lx.numv ((Cod.str s).take k) < 10000000000 := fun k hk => by
        have h1 := hlow k hk
        rw [List.length_take, hll] at h1
        have h2 := hpow (min k s.size) (by omega)
        omega
      have hR : Hid (numZ (Cod.str s) = if 2147483647 < Lx.numv (Cod.str s) then (-1 : Int) else ((Lx.numv (Cod.str s) : Nat) : Int)) := Lib.hid (by
        unfold numZ
        rw [hll]
        by_cases hb : 2147483647 < Lx.numv (Cod.str s)
        · rw [if_pos (.inr hb), if_pos hb]
        · rw [if_neg (by rintro (h | h); exact hz h; exact hb h), if_neg hb])
      have hstep : Hid (∀ k (hk : k < s.size), Lx.numv ((Cod.str s).take (k + 1)) = 10 * Lx.numv ((Cod.str s).take k) + (s[k].toNat - 48) ∧ 48 ≤ s[k].toNat ∧ s[k].toNat ≤ 57) := Lib.hid (fun k hk => by
        have h1 := take_snoc (Cod.str s) 0 k (by rw [hll]; exact hk)
        rw [h1, num_step, Lx.get_str s k hk]
        have h2 := hd ((Cod.str s).getD k 0) (by
          rw [List.getD_eq_getElem?_getD, List.getElem?_eq_getElem (by rw [hll]; exact hk)]; exact List.getElem_mem _)
        rw [Lx.get_str s k hk] at h2
        simp only [Lx.digit, Bool.and_eq_true, decide_eq_true_eq] at h2
        exact ⟨rfl, h2⟩)
      have hfull : Hid ((Cod.str s).take s.size = Cod.str s) := Lib.hid (by rw [List.take_of_length_le (by rw [hll]; exact Nat.le_refl _)])
      have HN := Lib.hid hnum
      clear hz hlow hpow hd hll
      clear hnum
      rcases hcase with hc | ⟨hc, hc48⟩
      · have hcI : (s.size : Int) ≤ 1 := by omega
        clear hc0
        go_enter Tryd.func55, Tryd.ntmps55
        go_wp2_with fail
        go_loop [3, 4] (fun a i => ∃ k : Nat, k ≤ s.size ∧ i = .int .i64 (k : Int) ∧ a = .int .i64 (Lx.numv ((Cod.str s).take k) : Nat)) (fun _ i => s.size - (intOf i).toNat)
        case atStart => exact ⟨0, Nat.zero_le _, rfl, rfl⟩
        case round =>
          obtain ⟨k, hk, rfl, rfl⟩ := hrel
          have hb := HN.out k hk
          by_cases hlt : k < s.size
          · have hs1 := hstep.out k hlt
            obtain ⟨e1, e2, e3⟩ := hs1
            have E1 := Lib.hid e1
            clear e1
            generalize Lx.numv ((Cod.str s).take k) = v at *
            go_wp2_with fail
            go_round
            case rel =>
              refine ⟨k + 1, by omega, by go_num, ?_⟩
              rw [E1.out]
              congr 1
              omega
            case measure => simp [intOf]; omega
          · obtain rfl : k = s.size := by omega
            rw [hfull.out] at hb ⊢
            generalize Lx.numv (Cod.str s) = v at *
            by_cases hm : 2147483647 < v
            · have hmI : (2147483647 : Int) < (v : Int) := by omega
              have e : Hid (numZ (Cod.str s) = -1) := Lib.hid (by rw [hR.out, if_pos hm])
              clear hm
              go_wp2_with fail
              go_ret
              exact ⟨by rw [e.out]; rfl, rfl⟩
            · have hmI : (v : Int) ≤ 2147483647 := by omega
              have e : Hid (numZ (Cod.str s) = (v : Nat)) := Lib.hid (by rw [hR.out, if_neg hm])
              clear hm
              go_wp2_with fail
              go_ret
              exact ⟨by rw [e.out]; rfl, rfl⟩
      · have p48 : ((s[0].toNat : Int) == 48) = false := by rw [hc0, beq_eq_false_iff_ne]; omega
        have a48 : ¬ (s[0].toNat : Int) = 48 := by rw [hc0]; omega
        have hcI : (1 : Int) < (s.size : Int) := by omega
        clear hc0 hc48
        go_enter Tryd.func55, Tryd.ntmps55
        go_wp2_with fail
        go_loop [3, 4] (fun a i => ∃ k : Nat, k ≤ s.size ∧ i = .int .i64 (k : Int) ∧ a = .int .i64 (Lx.numv ((Cod.str s).take k) : Nat)) (fun _ i => s.size - (intOf i).toNat)
        case atStart => exact ⟨0, Nat.zero_le _, rfl, rfl⟩
        case round =>
          obtain ⟨k, hk, rfl, rfl⟩ := hrel
          have hb := HN.out k hk
          by_cases hlt : k < s.size
          · have hs1 := hstep.out k hlt
            obtain ⟨e1, e2, e3⟩ := hs1
            have E1 := Lib.hid e1
            clear e1
            generalize Lx.numv ((Cod.str s).take k) = v at *
            go_wp2_with fail
            go_round
            case rel =>
              refine ⟨k + 1, by omega, by go_num, ?_⟩
              rw [E1.out]
              congr 1
              omega
            case measure => simp [intOf]; omega
          · obtain rfl : k = s.size := by omega
            rw [hfull.out] at hb ⊢
            generalize Lx.numv (Cod.str s) = v at *
            by_cases hm : 2147483647 < v
            · have hmI : (2147483647 : Int) < (v : Int) := by omega
              have e : Hid (numZ (Cod.str s) = -1) := Lib.hid (by rw [hR.out, if_pos hm])
              clear hm
              go_wp2_with fail
              go_ret
              exact ⟨by rw [e.out]; rfl, rfl⟩
            · have hmI : (v : Int) ≤ 2147483647 := by omega
              have e : Hid (numZ (Cod.str s) = (v : Nat)) := Lib.hid (by rw [hR.out, if_neg hm])
              clear hm
              go_wp2_with fail
              go_ret
              exact ⟨by rw [e.out]; rfl, rfl⟩
end Go.Proofs.YtobimhmllkfmfaaDoor
