/- THE REFERENCE's TEXTS: hex, Quoted, half. -/
import Derived.Test.YthdkaoegegiheaaDoorVaRef2
import Derived.Test.YthdkaoegegiheaaDoorVaQuo
import Derived.Test.YthdkaoegegiheaaDoorVaTxtPlain
namespace Go.Proofs.YthdkaoegegiheaaDoor
open Go.RowKit
set_option linter.unusedVariables false
set_option linter.unusedSimpArgs false
set_option maxRecDepth 100000

theorem str_app (a b : ByteArray) : Cod.str (a ++ b) = Cod.str a ++ Cod.str b := by
  unfold Cod.str
  rw [ByteArray.data_append]
  simp
theorem ofS_of {s : ByteArray} {l : List Nat} (h : Cod.str s = l) : s = Lx.ofS l := by rw [← h, Lx.ofS_str]

theorem hex_any (n : Nat) (hn : n < 16) (w : World) :
    Calls Tryd.prog 125 #[.int .u8 (n : Int)] w fun e w' => ∃ o, e = .returned (.string o) ∧ Cod.str o = [Va.hexd n] ∧ w' = w := by
  have h0 : (0 : Int) ≤ (n : Int) := by omega
  have h1 : (n : Int) ≤ (n : Int) + 1 := by omega
  have h2 : (n : Int) + 1 ≤ 16 := by omega
  have h3 : IntKind.u8.wrap ((n : Int) + 1) = (n : Int) + 1 := by simp [IntKind.wrap, IntKind.signed, IntKind.bits]; omega
  have h4 : ((n : Int) + 1) % 256 = (n : Int) + 1 := by omega
  go_enter Tryd.func125, Tryd.ntmps125
  go_wp2_with fail
  go_ret
  refine ⟨_, rfl, ?_, rfl⟩
  have : ∀ m : Fin 16, Cod.str (({ data := #[48, 49, 50, 51, 52, 53, 54, 55, 56, 57, 65, 66, 67, 68, 69, 70] } : ByteArray).extract m.val (m.val + 1)) = [Va.hexd m.val] := by decide
  exact this ⟨n, hn⟩

def hfV (c : Nat) : Int := match Va.hf c with | some d => (d : Int) | none => -1
theorem half_any (c : Nat) (hc : c < 256) (w : World) :
    Calls Tryd.prog 126 #[.int .u8 (c : Int)] w fun e w' => e = .returned (.int .i64 (hfV c)) ∧ w' = w := by
  by_cases h1 : 48 ≤ c ∧ c ≤ 57
  · have hd : Lx.digit c = true := (Va.digit_iff c).2 h1
    have HE : Hid (hfV c = ((c - 48 : Nat) : Int)) := Lib.hid (by unfold hfV Va.hf; rw [if_pos h1])
    have HD := Lib.hid (fun w => vdigit_any c true hd w)
    have h2 : ((c : Int) - 48) % 256 = ((c - 48 : Nat) : Int) := by omega
    clear hd
    obtain ⟨h3, h4⟩ := h1
    go_enter Tryd.func126, Tryd.ntmps126
    go_wp2_with fail
    refine (HD.out _).mono ?_
    rintro e w1 ⟨rfl, rfl⟩
    go_wp2_with fail
    go_ret
    exact ⟨ret_int (by rw [HE.out]; omega), rfl⟩
  · have hd : Lx.digit c = false := by rw [← Bool.not_eq_true, Va.digit_iff]; exact h1
    have HD := Lib.hid (fun w => vdigit_any c false hd w)
    by_cases h2 : 65 ≤ c ∧ c ≤ 70
    · have HE : Hid (hfV c = ((c - 55 : Nat) : Int)) := Lib.hid (by unfold hfV Va.hf; rw [if_neg h1, if_pos h2])
      have h5 : ((c : Int) - 65) % 256 + 10 = ((c - 55 : Nat) : Int) := by omega
      have h6 : (c : Int) ≥ 65 := by omega
      have h7 : (c : Int) ≤ 70 := by omega
      clear hd h1
      obtain ⟨h3, h4⟩ := h2
      go_enter Tryd.func126, Tryd.ntmps126
      go_wp2_with fail
      refine (HD.out _).mono ?_
      rintro e w1 ⟨rfl, rfl⟩
      go_wp2_with fail
      go_ret
      exact ⟨ret_int (by rw [HE.out]; omega), rfl⟩
    · have HE : Hid (hfV c = -1) := Lib.hid (by unfold hfV Va.hf; rw [if_neg h1, if_neg h2])
      clear hd h1
      by_cases h3 : 65 ≤ c
      · have h6 : (c : Int) ≥ 65 := by omega
        have h7 : ¬ (c : Int) ≤ 70 := by omega
        clear h2
        go_enter Tryd.func126, Tryd.ntmps126
        go_wp2_with fail
        refine (HD.out _).mono ?_
        rintro e w1 ⟨rfl, rfl⟩
        go_wp2_with fail
        go_ret
        exact ⟨by rw [HE.out]; rfl, rfl⟩
      · have h6 : ¬ (c : Int) ≥ 65 := by omega
        clear h2
        go_enter Tryd.func126, Tryd.ntmps126
        go_wp2_with fail
        refine (HD.out _).mono ?_
        rintro e w1 ⟨rfl, rfl⟩
        go_wp2_with fail
        go_ret
        exact ⟨by rw [HE.out]; rfl, rfl⟩

set_option maxHeartbeats 4000000 in
theorem vQuoted_any (s : ByteArray) (hs : s.size ≤ 1000) (w : World) :
    Calls Tryd.prog 81 #[.string s] w fun e w' => e = .returned (.string (Lx.ofS (Va.quoted (Cod.str s)))) ∧ w' = w := by
  have hlb := Cod.str_lt s
  have hll := Cod.str_len s
  have HLB := Lib.hid hlb; have HLL := Lib.hid hll
  clear hlb hll
  go_enter Tryd.func81, Tryd.ntmps81
  go_wp2_with fail
  go_loopw [3, 4] (fun vv iv wr => ∃ (o : ByteArray) (k : Nat), k ≤ s.size ∧ vv = .string o ∧ iv = .int .i64 (k : Nat) ∧ Cod.str o = 34 :: ((Cod.str s).take k).flatMap Va.qb ∧ wr = w) (fun _ iv _ => s.size - (intOf iv).toNat)
  case atStart => exact ⟨_, 0, Nat.zero_le _, rfl, rfl, by rfl, rfl⟩
  case round =>
    obtain ⟨o, k, hk, rfl, rfl, ho, rfl⟩ := hrel
    have hos : o.size ≤ 5000 := by
      have := congrArg List.length ho
      have h2 := flat_len ((Cod.str s).take k)
      rw [Cod.str_len, List.length_cons] at this
      rw [List.length_take] at h2
      omega
    by_cases hlt : k < s.size
    · have hkI : (k : Int) < (s.size : Int) := by omega
      have hk0 : (0 : Int) ≤ (k : Int) := by omega
      have hlk : k < (Cod.str s).length := by rw [HLL.out]; exact hlt
      have hby : s[k].toNat = (Cod.str s)[k] := by
        have := Lx.get_str s k hlt
        rw [← this, List.getD_eq_getElem?_getD, List.getElem?_eq_getElem hlk]; rfl
      have hc : (Cod.str s)[k] < 256 := HLB.out _ (List.getElem_mem hlk)
      have hst : ∀ (o2 l2 : _), Cod.str o2 = Cod.str o ++ l2 → Va.qb (Cod.str s)[k] = l2 → Cod.str o2 = 34 :: ((Cod.str s).take (k + 1)).flatMap Va.qb := fun o2 l2 h1 h2 => by
        rw [h1, ho, List.take_succ_eq_append_getElem hlk, List.flatMap_append]
        simp [h2]
      have hone : ((Cod.str s).drop k).take 1 = [(Cod.str s)[k]] := by rw [List.drop_eq_getElem_cons hlk]; rfl
      generalize (Cod.str s)[k] = c at *
      have HST := Lib.hid hst
      clear hst ho
      by_cases c34 : c = 34
      · subst c34
        go_wp2_with fail
        go_roundw
        case rel => exact ⟨_, k + 1, by omega, rfl, by go_num, HST.out _ [92, 34] (str_app _ _) (by rfl), by trivial⟩
        case measure => simp [intOf]; omega
      · have e1 : ((c : Int) == 34) = false := by rw [beq_eq_false_iff_ne]; omega
        by_cases c92 : c = 92
        · subst c92
          go_wp2_with fail
          go_roundw
          case rel => exact ⟨_, k + 1, by omega, rfl, by go_num, HST.out _ [92, 92] (str_app _ _) (by rfl), by trivial⟩
          case measure => simp [intOf]; omega
        · have e2 : ((c : Int) == 92) = false := by rw [beq_eq_false_iff_ne]; omega
          by_cases c10 : c = 10
          · subst c10
            go_wp2_with fail
            go_roundw
            case rel => exact ⟨_, k + 1, by omega, rfl, by go_num, HST.out _ [92, 110] (str_app _ _) (by rfl), by trivial⟩
            case measure => simp [intOf]; omega
          · have e3 : ((c : Int) == 10) = false := by rw [beq_eq_false_iff_ne]; omega
            by_cases c32 : c < 32
            · have h5 : (c : Int) < 32 := by omega
              obtain ⟨a, ha⟩ : ∃ a : Nat, a = c / 16 := ⟨_, rfl⟩
              obtain ⟨b, hb⟩ : ∃ b : Nat, b = c % 16 := ⟨_, rfl⟩
              have hA : (c : Int) / 16 = (a : Int) := by omega
              have hB : (c : Int) % 16 = (b : Int) := by omega
              have hand : bits BinOp.and IntKind.u8 (c : Int) 15 = (b : Int) := by rw [and15 c hc, hb]
              have HX := Lib.hid (fun w => hex_any a (by omega) w)
              have HY := Lib.hid (fun w => hex_any b (by omega) w)
              have HQ : Hid (Va.qb c = [92, 120, Va.hexd a, Va.hexd b]) := Lib.hid (by unfold Va.qb; rw [if_neg (by omega), if_neg c10, if_pos (by omega), ha, hb])
              clear ha hb
              go_wp2_with fail
              refine (HX.out _).mono ?_
              rintro e w1 ⟨x, rfl, hx, rfl⟩
              have hxs : x.size = 1 := by rw [← Cod.str_len, hx]; rfl
              have HXS := Lib.hid hx
              clear hx
              go_wp2_with fail
              refine (HY.out _).mono ?_
              rintro e w1 ⟨y, rfl, hy, rfl⟩
              have hys : y.size = 1 := by rw [← Cod.str_len, hy]; rfl
              have HYS := Lib.hid hy
              clear hy
              go_wp2_with fail
              go_roundw
              case rel => exact ⟨_, k + 1, by omega, rfl, by go_num, HST.out _ [92, 120, Va.hexd a, Va.hexd b] (by rw [str_app, str_app, str_app, HXS.out, HYS.out]; simp; rfl) HQ.out, by trivial⟩
              case measure => simp [intOf]; omega
            · by_cases c127 : 127 ≤ c
              · have h5 : ¬ (c : Int) < 32 := by omega
                have h6 : (c : Int) ≥ 127 := by omega
                obtain ⟨a, ha⟩ : ∃ a : Nat, a = c / 16 := ⟨_, rfl⟩
                obtain ⟨b, hb⟩ : ∃ b : Nat, b = c % 16 := ⟨_, rfl⟩
                have hA : (c : Int) / 16 = (a : Int) := by omega
                have hB : (c : Int) % 16 = (b : Int) := by omega
                have hand : bits BinOp.and IntKind.u8 (c : Int) 15 = (b : Int) := by rw [and15 c hc, hb]
                have HX := Lib.hid (fun w => hex_any a (by omega) w)
                have HY := Lib.hid (fun w => hex_any b (by omega) w)
                have HQ : Hid (Va.qb c = [92, 120, Va.hexd a, Va.hexd b]) := Lib.hid (by unfold Va.qb; rw [if_neg (by omega), if_neg c10, if_pos (by omega), ha, hb])
                clear ha hb
                go_wp2_with fail
                refine (HX.out _).mono ?_
                rintro e w1 ⟨x, rfl, hx, rfl⟩
                have hxs : x.size = 1 := by rw [← Cod.str_len, hx]; rfl
                have HXS := Lib.hid hx
                clear hx
                go_wp2_with fail
                refine (HY.out _).mono ?_
                rintro e w1 ⟨y, rfl, hy, rfl⟩
                have hys : y.size = 1 := by rw [← Cod.str_len, hy]; rfl
                have HYS := Lib.hid hy
                clear hy
                go_wp2_with fail
                go_roundw
                case rel => exact ⟨_, k + 1, by omega, rfl, by go_num, HST.out _ [92, 120, Va.hexd a, Va.hexd b] (by rw [str_app, str_app, str_app, HXS.out, HYS.out]; simp; rfl) HQ.out, by trivial⟩
                case measure => simp [intOf]; omega
              · have h5 : ¬ (c : Int) < 32 := by omega
                have h6 : ¬ (c : Int) ≥ 127 := by omega
                have HQ : Hid (Va.qb c = [c]) := Lib.hid (by unfold Va.qb; rw [if_neg (by omega), if_neg c10, if_neg (by omega)])
                have hk1 : (k : Int) + 1 ≤ (s.size : Int) := by omega
                have hk2 : (k : Int) ≤ (k : Int) + 1 := by omega
                have hsl : Hid (Cod.str (s.extract k (k + 1)) = [c]) := Lib.hid (by rw [Lx.str_extract, show k + 1 - k = 1 by omega]; exact hone)
                clear c32 c127
                go_wp2_with fail
                go_roundw
                case rel => exact ⟨_, k + 1, by omega, rfl, by go_num, HST.out _ [c] (by rw [str_app, hsl.out]) HQ.out, by trivial⟩
                case measure => simp [intOf]; omega
    · obtain rfl : k = s.size := by omega
      have hkI : ¬ (s.size : Int) < (s.size : Int) := by omega
      have HE : Hid (Cod.str (o ++ { data := #[34] }) = Va.quoted (Cod.str s)) := Lib.hid (by
        rw [str_app, ho, List.take_of_length_le (by rw [HLL.out]; exact Nat.le_refl _)]; rfl)
      clear ho
      go_wp2_with fail
      go_ret
      exact ⟨by rw [ofS_of HE.out]; rfl, rfl⟩
end Go.Proofs.YthdkaoegegiheaaDoor
