/- THE REFERENCE's SMALL FUNCTIONS: kinds of bytes, runs, numbers, hex digits, marks, parts. -/
import Derived.Test.YtobimhmllkfmfaaDoorLxToks
namespace Go.Proofs.YtobimhmllkfmfaaDoor
open Go.RowKit
set_option linter.unusedVariables false
set_option linter.unusedSimpArgs false
set_option maxRecDepth 100000

theorem rSmall_any (c : Int) (b : Bool) (hb : smallI c = b) (w : World) :
    Calls Tryd.prog 51 #[.int .u8 c] w fun e w' => e = .returned (.bool b) ∧ w = w' := by
  subst hb
  unfold smallI
  by_cases h1 : 97 ≤ c
  · go_enter Tryd.func51, Tryd.ntmps51
    go_wp2
    all_goals go_ret
    all_goals exact ⟨ret_bool (by rw [Bool.eq_iff_iff]; simp <;> omega), rfl⟩
  · go_enter Tryd.func51, Tryd.ntmps51
    go_wp2
    all_goals go_ret
    all_goals exact ⟨ret_bool (by rw [Bool.eq_iff_iff]; simp <;> omega), rfl⟩

theorem rCapital_any (c : Int) (b : Bool) (hb : capitalI c = b) (w : World) :
    Calls Tryd.prog 52 #[.int .u8 c] w fun e w' => e = .returned (.bool b) ∧ w = w' := by
  subst hb
  unfold capitalI
  by_cases h1 : 65 ≤ c
  · go_enter Tryd.func52, Tryd.ntmps52
    go_wp2
    all_goals go_ret
    all_goals exact ⟨ret_bool (by rw [Bool.eq_iff_iff]; simp <;> omega), rfl⟩
  · go_enter Tryd.func52, Tryd.ntmps52
    go_wp2
    all_goals go_ret
    all_goals exact ⟨ret_bool (by rw [Bool.eq_iff_iff]; simp <;> omega), rfl⟩

theorem rDigit_any (c : Int) (b : Bool) (hb : digitI c = b) (w : World) :
    Calls Tryd.prog 53 #[.int .u8 c] w fun e w' => e = .returned (.bool b) ∧ w = w' := by
  subst hb
  unfold digitI
  by_cases h1 : 48 ≤ c
  · go_enter Tryd.func53, Tryd.ntmps53
    go_wp2
    all_goals go_ret
    all_goals exact ⟨ret_bool (by rw [Bool.eq_iff_iff]; simp <;> omega), rfl⟩
  · go_enter Tryd.func53, Tryd.ntmps53
    go_wp2
    all_goals go_ret
    all_goals exact ⟨ret_bool (by rw [Bool.eq_iff_iff]; simp <;> omega), rfl⟩

theorem rGoes_any (c : Nat) (w : World) :
    Calls Tryd.prog 61 #[.int .u8 (c : Int)] w fun e w' => e = .returned (.bool (Lx.goes c)) ∧ w = w' := by
  have H1 := fun b hb w => rSmall_any (c : Int) b hb w
  have H2 := fun b hb w => rCapital_any (c : Int) b hb w
  have H3 := fun b hb w => rDigit_any (c : Int) b hb w
  rw [small_nat] at H1
  rw [capital_nat] at H2
  rw [digit_nat] at H3
  have hg : Lx.goes c = (Lx.small c || (Lx.capital c || (Lx.digit c || c == 95))) := rfl
  have h95 : ((c : Int) == 95) = (c == 95) := by rw [Bool.eq_iff_iff]; simp; omega
  have HG := Lib.hid hg
  clear hg
  generalize Lx.goes c = g at *
  cases b1 : Lx.small c
  all_goals cases b2 : Lx.capital c
  all_goals cases b3 : Lx.digit c
  all_goals
    have K1 := Lib.hid (H1 _ b1); have K2 := Lib.hid (H2 _ b2); have K3 := Lib.hid (H3 _ b3)
    have hgo := HG.out
    rw [b1, b2, b3] at hgo
    have HGO := Lib.hid hgo
    have H95 := Lib.hid h95
    clear H1 H2 H3 b1 b2 b3 hgo HG h95
    go_enter Tryd.func61, Tryd.ntmps61
    go_wp2_with fail
    refine (K1.out _).mono ?_
    rintro e w2 ⟨rfl, rfl⟩
    go_wp2_with fail
    refine (K2.out _).mono ?_
    rintro e w2 ⟨rfl, rfl⟩
    go_wp2_with fail
    refine (K3.out _).mono ?_
    rintro e w2 ⟨rfl, rfl⟩
    go_wp2_with fail
    go_ret
    exact ⟨ret_bool (by rw [HGO.out]; simp [H95.out]), rfl⟩

theorem digit_goes {c : Nat} (h : Lx.goes c = false) : Lx.digit c = false := by
  cases hd : Lx.digit c
  · rfl
  · rw [Lx.goes_of_digit hd] at h; cases h

def runP (d : Bool) : Nat → Bool := if d then Lx.digit else Lx.goes
set_option maxHeartbeats 1000000 in
theorem rRun_any (s : ByteArray) (hs : s.size ≤ 9223372036854775806) (d : Bool) (w : World) :
    Calls Tryd.prog 54 #[.string s, .bool d] w fun e w' => e = .returned (.int .i64 (Lx.run (runP d) (Cod.str s) : Nat)) ∧ w = w' := by
  have hrl := Lx.run_le (runP d) (Cod.str s)
  have hll := Cod.str_len s
  rw [hll] at hrl
  have HLL := Lib.hid hll
  clear hll
  go_enter Tryd.func54, Tryd.ntmps54
  go_wp2_with fail
  go_loopw [5] (fun i wr => ∃ n : Nat, i = .int .i64 (n : Int) ∧ n ≤ Lx.run (runP d) (Cod.str s) ∧ wr = w) (fun i _ => s.size - (intOf i).toNat)
  case atStart => exact ⟨0, rfl, Nat.zero_le _, rfl⟩
  case round =>
    obtain ⟨n, rfl, hn, rfl⟩ := hrel
    by_cases hlt : n < s.size
    · have hc0 := Lx.get_str s n hlt
      have hst := Lx.run_stop (runP d) (Cod.str s) n hn (by rw [HLL.out]; exact hlt)
      have hgo := Lx.run_ge_succ (runP d) (Cod.str s) n hn (by rw [HLL.out]; exact hlt)
      generalize (Cod.str s).getD n 0 = c at *
      have K1 := fun b hb w => rDigit_any (c : Int) b hb w
      rw [digit_nat] at K1
      have K2 := rGoes_any c
      rw [hc0] at K1 K2
      have HC := Lib.hid hc0
      clear hc0
      cases b2 : Lx.goes c
      · have b1 := digit_goes b2
        have hrun := Lib.hid (hst (by unfold runP; cases d <;> simp [b1, b2]))
        have H1 := Lib.hid (K1 false (by rw [← HC.out]; exact b1))
        rw [← HC.out, b2] at K2
        rw [HC.out] at K2
        have H2 := Lib.hid K2
        clear K1 K2 b1 b2 hst hgo
        cases d
        all_goals
          go_wp2_with fail
          refine (H1.out _).mono ?_
          rintro e w2 ⟨rfl, rfl⟩
          go_wp2_with fail
          refine (H2.out _).mono ?_
          rintro e w2 ⟨rfl, rfl⟩
          go_wp2_with fail
          go_ret
          exact ⟨by rw [hrun.out]; rfl, rfl⟩
      · cases b1 : Lx.digit c
        · cases d
          · have hrun := hgo (by simp [runP, b2])
            have H1 := Lib.hid (K1 false (by rw [← HC.out]; exact b1))
            rw [← HC.out, b2] at K2
            rw [HC.out] at K2
            have H2 := Lib.hid K2
            clear K1 K2 b1 b2 hst hgo
            go_wp2_with fail
            refine (H1.out _).mono ?_
            rintro e w2 ⟨rfl, rfl⟩
            go_wp2_with fail
            refine (H2.out _).mono ?_
            rintro e w2 ⟨rfl, rfl⟩
            go_wp2_with fail
            go_roundw
            case rel => exact ⟨n + 1, by go_num, hrun, trivial⟩
            case measure => simp [intOf]; omega
          · have hrun := Lib.hid (hst (by simp [runP, b1]))
            have H1 := Lib.hid (K1 false (by rw [← HC.out]; exact b1))
            rw [← HC.out, b2] at K2
            rw [HC.out] at K2
            have H2 := Lib.hid K2
            clear K1 K2 b1 b2 hst hgo
            go_wp2_with fail
            refine (H1.out _).mono ?_
            rintro e w2 ⟨rfl, rfl⟩
            go_wp2_with fail
            refine (H2.out _).mono ?_
            rintro e w2 ⟨rfl, rfl⟩
            go_wp2_with fail
            go_ret
            exact ⟨by rw [hrun.out]; rfl, rfl⟩
        · have hrun := hgo (by unfold runP; cases d <;> simp [b1, b2])
          have H1 := Lib.hid (K1 true (by rw [← HC.out]; exact b1))
          rw [← HC.out, b2] at K2
          rw [HC.out] at K2
          have H2 := Lib.hid K2
          clear K1 K2 b1 b2 hst hgo
          cases d
          all_goals
            go_wp2_with fail
            refine (H1.out _).mono ?_
            rintro e w2 ⟨rfl, rfl⟩
            go_wp2_with fail
            refine (H2.out _).mono ?_
            rintro e w2 ⟨rfl, rfl⟩
            go_wp2_with fail
            go_roundw
            case rel => exact ⟨n + 1, by go_num, hrun, trivial⟩
            case measure => simp [intOf]; omega
    · go_wp2_with fail
      go_ret
      exact ⟨ret_int (by omega), rfl⟩
end Go.Proofs.YtobimhmllkfmfaaDoor
