/- THE REFERENCE's TEXTS: decimal. Printed by wip/gen_dec.py. -/
import Derived.Test.YthdkaoegegiheaaDoorVaRefT1
namespace Go.Proofs.YthdkaoegegiheaaDoor
open Go.RowKit
set_option linter.unusedVariables false
set_option linter.unusedSimpArgs false
set_option maxRecDepth 100000

def decV : Option Int → Value
  | some n => .tuple #[.int .i64 n, .bool true]
  | none => .tuple #[.int .i64 0, .bool false]
theorem dec_minus {l : List Nat} (h : l.headD 0 = 45) : Va.dec l = (Va.dcF 0 0 (l.drop 1)).map (fun (n : Nat) => -(n : Int)) := by unfold Va.dec; rw [if_pos h]
theorem dec_plus {l : List Nat} (h : ¬ l.headD 0 = 45) : Va.dec l = (Va.dcF 0 0 l).map (fun (n : Nat) => (n : Int)) := by unfold Va.dec; rw [if_neg h]
theorem dcF_yes {k n : Nat} {L : List Nat} (h : k < L.length) (hd : Lx.digit L[k] = true) (hk : k ≤ 11) : Va.dcF k n (L.drop k) = Va.dcF (k + 1) (n * 10 + (L[k] - 48)) (L.drop (k + 1)) := by
  rw [List.drop_eq_getElem_cons h]
  conv => lhs; unfold Va.dcF
  rw [if_pos ⟨hd, hk⟩]
theorem dcF_no {k n : Nat} {L : List Nat} (h : k < L.length) (hd : ¬ (Lx.digit L[k] = true ∧ k ≤ 11)) : Va.dcF k n (L.drop k) = none := by
  rw [List.drop_eq_getElem_cons h]
  unfold Va.dcF
  rw [if_neg hd]
theorem dcF_end {k n : Nat} {L : List Nat} (h : L.length ≤ k) : Va.dcF k n (L.drop k) = some n := by
  rw [List.drop_of_length_le h]; unfold Va.dcF; rfl

set_option maxHeartbeats 4000000 in
theorem decimal_any (s : ByteArray) (hs : 0 < s.size) (hs2 : s.size ≤ 1000000) (w : World) :
    Calls Tryd.prog 84 #[.string s] w fun e w' => e = .returned (decV (Va.dec (Cod.str s))) ∧ w' = w := by
  have hll := Cod.str_len s
  have h0 : 0 < (Cod.str s).length := by omega
  have hby : s[0].toNat = (Cod.str s).headD 0 := by
    have := Lx.get_str s 0 hs
    rw [← this, List.getD_eq_getElem?_getD, List.headD_eq_head?_getD, List.head?_eq_getElem?]
  have hsI : (0 : Int) < (s.size : Int) := by omega
  have hsI1 : (1 : Int) ≤ (s.size : Int) := by omega
  have hc0 : (Cod.str s).headD 0 < 256 := by
    rw [List.headD_eq_head?_getD, List.head?_eq_getElem?, List.getElem?_eq_getElem h0]; exact Cod.str_lt s _ (List.getElem_mem _)
  by_cases h45 : (Cod.str s).headD 0 = 45
  · have HDV := Lib.hid (dec_minus h45)
    rw [h45] at hby
    obtain ⟨L, hL⟩ : ∃ L, L = (Cod.str s).drop 1 := ⟨_, rfl⟩
    have hz : L.length + 1 = s.size := by rw [hL, List.length_drop]; omega
    obtain ⟨r, hr⟩ : ∃ r, r = s.extract 1 s.size := ⟨_, rfl⟩
    have hrl : Cod.str r = L := by rw [hr, hL, Lx.str_extract, List.take_of_length_le (by rw [List.length_drop]; omega)]
    have hrs : r.size = L.length := by rw [← hrl, Cod.str_len]
    rw [← hL] at HDV
    have hr2 : r.size ≤ 1000000 := by omega
    have hgetr : ∀ (k : Nat) (h : k < r.size) (h2 : k < L.length), r[k].toNat = L[k] := fun k h h2 => by
      subst hrl
      have := Lx.get_str r k h
      rw [← this, List.getD_eq_getElem?_getD, List.getElem?_eq_getElem h2]; rfl
    have hLt : ∀ c ∈ L, c < 256 := by subst hrl; exact Cod.str_lt r
    have HGR := Lib.hid hgetr; have HLT := Lib.hid hLt; have HRS := Lib.hid hrs
    have HD := Lib.hid (fun c b hb w => vdigit_any c b hb w)
    clear hgetr hLt hrl h45 hll hrs h0 hc0
    clear hL hz
    go_enter Tryd.func84, Tryd.ntmps84
    go_wp2_with fail
    rw [← hr]
    clear hr
    go_loopw [5, 6] (fun nv iv wr => ∃ k n : Nat, k ≤ L.length ∧ k ≤ 12 ∧ nv = .int .i64 (n : Nat) ∧ iv = .int .i64 (k : Nat) ∧ n < 10 ^ k ∧ Va.dcF 0 0 L = Va.dcF k n (L.drop k) ∧ wr = w) (fun _ iv _ => L.length - (intOf iv).toNat)
    case atStart => exact ⟨0, 0, Nat.zero_le _, by omega, rfl, rfl, by simp, rfl, rfl⟩
    case round =>
      obtain ⟨k, n, hk, hk12, rfl, rfl, hn, hdc, rfl⟩ := hrel
      have hpow : 10 ^ k ≤ 10 ^ 12 := Nat.pow_le_pow_right (by decide) hk12
      have hnb : n ≤ 1000000000000 := by omega
      have hp1 : 10 ^ (k + 1) = 10 ^ k * 10 := Nat.pow_succ 10 k
      by_cases hlt : k < L.length
      · have hltr : k < r.size := by rw [HRS.out]; exact hlt
        have hkI : (k : Int) < (r.size : Int) := by omega
        have hk0 : (0 : Int) ≤ (k : Int) := by omega
        have hbk := HGR.out k hltr hlt
        have hck := HLT.out _ (List.getElem_mem hlt)
        have hyes := dcF_yes (n := n) hlt
        have hno := dcF_no (n := n) hlt
        rw [← hdc] at hyes hno
        generalize L[k] = c at *
        by_cases hd : Lx.digit c = true
        · have hdd := (Va.digit_iff c).1 hd
          have HDT := Lib.hid (HD.out c true hd)
          by_cases h11 : k ≤ 11
          · have HY := Lib.hid (hyes hd h11)
            have h11I : ¬ (11 : Int) < (k : Int) := by omega
            have hsub : ((c : Int) - 48) % 256 = ((c - 48 : Nat) : Int) := by omega
            have hnn : Hid (n * 10 + (c - 48) < 10 ^ (k + 1)) := Lib.hid (by omega)
            clear hyes hno hdc hd hpow hp1 hn
            obtain ⟨hd1, hd2⟩ := hdd
            go_wp2_with fail
            refine (HDT.out _).mono ?_
            rintro e w1 ⟨rfl, rfl⟩
            go_wp2_with fail
            go_roundw
            case rel => exact ⟨k + 1, n * 10 + (c - 48), by omega, by omega, by go_num, by go_num, hnn.out, HY.out, by trivial⟩
            case measure => simp [intOf]; omega
          · have h11I : (11 : Int) < (k : Int) := by omega
            have HY := Lib.hid (hno (fun h => h11 h.2))
            clear hyes hno hdc hd hpow hp1 hn hdd
            go_wp2_with fail
            refine (HDT.out _).mono ?_
            rintro e w1 ⟨rfl, rfl⟩
            go_wp2_with fail
            go_ret2
            exact ⟨by rw [HDV.out, HY.out]; rfl, rfl⟩
        · have hd' : Lx.digit c = false := by simpa using hd
          have HDT := Lib.hid (HD.out c false hd')
          have HY := Lib.hid (hno (fun h => hd h.1))
          clear hyes hno hdc hd hd' hpow hp1 hn
          go_wp2_with fail
          refine (HDT.out _).mono ?_
          rintro e w1 ⟨rfl, rfl⟩
          go_wp2_with fail
          go_ret2
          exact ⟨by rw [HDV.out, HY.out]; rfl, rfl⟩
      · have hltr : ¬ (k : Int) < (r.size : Int) := by have := HRS.out; omega
        have HY := Lib.hid (hdc.trans (dcF_end (by omega)))
        clear hdc hpow hp1 hn
        go_wp2_with fail
        go_ret2
        exact ⟨by rw [HDV.out, HY.out]; rfl, rfl⟩
  · have hdv := dec_plus h45
    have hB : (((Cod.str s).headD 0 : Int) == 45) = false := by rw [beq_eq_false_iff_ne]; omega
    generalize (Cod.str s).headD 0 = c0 at *
    obtain ⟨L, hL⟩ : ∃ L, L = Cod.str s := ⟨_, rfl⟩
    obtain ⟨r, hr⟩ : ∃ r, r = s := ⟨_, rfl⟩
    have hrl : Cod.str r = L := by rw [hr, hL]
    have hrs : r.size = L.length := by rw [← hrl, Cod.str_len]
    have HDV : Hid (Va.dec (Cod.str s) = (Va.dcF 0 0 L).map (fun (n : Nat) => (n : Int))) := Lib.hid (by rw [hL]; exact hdv)
    have hr2 : r.size ≤ 1000000 := by rw [hr]; exact hs2
    clear hdv
    have hgetr : ∀ (k : Nat) (h : k < r.size) (h2 : k < L.length), r[k].toNat = L[k] := fun k h h2 => by
      subst hrl
      have := Lx.get_str r k h
      rw [← this, List.getD_eq_getElem?_getD, List.getElem?_eq_getElem h2]; rfl
    have hLt : ∀ c ∈ L, c < 256 := by subst hrl; exact Cod.str_lt r
    have HGR := Lib.hid hgetr; have HLT := Lib.hid hLt; have HRS := Lib.hid hrs
    have HD := Lib.hid (fun c b hb w => vdigit_any c b hb w)
    clear hgetr hLt hrl h45 hll hrs h0 hc0
    subst hr
    clear hL
    go_enter Tryd.func84, Tryd.ntmps84
    go_wp2_with fail
    go_loopw [5, 6] (fun nv iv wr => ∃ k n : Nat, k ≤ L.length ∧ k ≤ 12 ∧ nv = .int .i64 (n : Nat) ∧ iv = .int .i64 (k : Nat) ∧ n < 10 ^ k ∧ Va.dcF 0 0 L = Va.dcF k n (L.drop k) ∧ wr = w) (fun _ iv _ => L.length - (intOf iv).toNat)
    case atStart => exact ⟨0, 0, Nat.zero_le _, by omega, rfl, rfl, by simp, rfl, rfl⟩
    case round =>
      obtain ⟨k, n, hk, hk12, rfl, rfl, hn, hdc, rfl⟩ := hrel
      have hpow : 10 ^ k ≤ 10 ^ 12 := Nat.pow_le_pow_right (by decide) hk12
      have hnb : n ≤ 1000000000000 := by omega
      have hp1 : 10 ^ (k + 1) = 10 ^ k * 10 := Nat.pow_succ 10 k
      by_cases hlt : k < L.length
      · have hltr : k < r.size := by rw [HRS.out]; exact hlt
        have hkI : (k : Int) < (r.size : Int) := by omega
        have hk0 : (0 : Int) ≤ (k : Int) := by omega
        have hbk := HGR.out k hltr hlt
        have hck := HLT.out _ (List.getElem_mem hlt)
        have hyes := dcF_yes (n := n) hlt
        have hno := dcF_no (n := n) hlt
        rw [← hdc] at hyes hno
        generalize L[k] = c at *
        by_cases hd : Lx.digit c = true
        · have hdd := (Va.digit_iff c).1 hd
          have HDT := Lib.hid (HD.out c true hd)
          by_cases h11 : k ≤ 11
          · have HY := Lib.hid (hyes hd h11)
            have h11I : ¬ (11 : Int) < (k : Int) := by omega
            have hsub : ((c : Int) - 48) % 256 = ((c - 48 : Nat) : Int) := by omega
            have hnn : Hid (n * 10 + (c - 48) < 10 ^ (k + 1)) := Lib.hid (by omega)
            clear hyes hno hdc hd hpow hp1 hn
            obtain ⟨hd1, hd2⟩ := hdd
            go_wp2_with fail
            refine (HDT.out _).mono ?_
            rintro e w1 ⟨rfl, rfl⟩
            go_wp2_with fail
            go_roundw
            case rel => exact ⟨k + 1, n * 10 + (c - 48), by omega, by omega, by go_num, by go_num, hnn.out, HY.out, by trivial⟩
            case measure => simp [intOf]; omega
          · have h11I : (11 : Int) < (k : Int) := by omega
            have HY := Lib.hid (hno (fun h => h11 h.2))
            clear hyes hno hdc hd hpow hp1 hn hdd
            go_wp2_with fail
            refine (HDT.out _).mono ?_
            rintro e w1 ⟨rfl, rfl⟩
            go_wp2_with fail
            go_ret2
            exact ⟨by rw [HDV.out, HY.out]; rfl, rfl⟩
        · have hd' : Lx.digit c = false := by simpa using hd
          have HDT := Lib.hid (HD.out c false hd')
          have HY := Lib.hid (hno (fun h => hd h.1))
          clear hyes hno hdc hd hd' hpow hp1 hn
          go_wp2_with fail
          refine (HDT.out _).mono ?_
          rintro e w1 ⟨rfl, rfl⟩
          go_wp2_with fail
          go_ret2
          exact ⟨by rw [HDV.out, HY.out]; rfl, rfl⟩
      · have hltr : ¬ (k : Int) < (r.size : Int) := by have := HRS.out; omega
        have HY := Lib.hid (hdc.trans (dcF_end (by omega)))
        clear hdc hpow hp1 hn
        go_wp2_with fail
        go_ret2
        exact ⟨by rw [HDV.out, HY.out]; rfl, rfl⟩
end Go.Proofs.YthdkaoegegiheaaDoor
