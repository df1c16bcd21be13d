/- THE REFERENCE's hex digits, marks and parts. -/
import Derived.Test.YtobimhmllkfmfaaDoorRfNum
namespace Go.Proofs.YtobimhmllkfmfaaDoor
open Go.RowKit
set_option linter.unusedVariables false
set_option linter.unusedSimpArgs false
set_option maxRecDepth 100000

def hexZ (o : Option Nat) : Int := match o with | some x => (x : Int) | none => -1
theorem rHex_any (c : Nat) (hc : c < 256) (w : World) :
    Calls Tryd.prog 66 #[.int .u8 (c : Int)] w fun e w' => e = .returned (.int .i64 (hexZ (Lx.hexv c))) ∧ w = w' := by
  have hI : (0 : Int) ≤ (c : Int) := by omega
  have hI2 : (c : Int) < 256 := by omega
  by_cases h1 : 48 ≤ c ∧ c ≤ 57
  · have e : Hid (hexZ (Lx.hexv c) = (c : Int) - 48) := Lib.hid (by unfold Lx.hexv hexZ; rw [if_pos h1]; simp only; omega)
    have a1 : (48 : Int) ≤ (c : Int) := by omega
    have a2 : (c : Int) ≤ 57 := by omega
    clear h1
    go_enter Tryd.func66, Tryd.ntmps66
    go_wp2_with fail
    go_ret
    exact ⟨by rw [e.out]; rfl, rfl⟩
  · by_cases h2 : 97 ≤ c ∧ c ≤ 102
    · have e : Hid (hexZ (Lx.hexv c) = (c : Int) - 97 + 10) := Lib.hid (by unfold Lx.hexv hexZ; rw [if_neg h1, if_pos h2]; simp only; omega)
      have a1 : (97 : Int) ≤ (c : Int) := by omega
      have a2 : (c : Int) ≤ 102 := by omega
      clear h1 h2
      go_enter Tryd.func66, Tryd.ntmps66
      go_wp2_with fail
      go_ret
      exact ⟨by rw [e.out]; rfl, rfl⟩
    · by_cases h3 : 65 ≤ c ∧ c ≤ 70
      · have e : Hid (hexZ (Lx.hexv c) = (c : Int) - 65 + 10) := Lib.hid (by unfold Lx.hexv hexZ; rw [if_neg h1, if_neg h2, if_pos h3]; simp only; omega)
        have a1 : (65 : Int) ≤ (c : Int) := by omega
        have a2 : (c : Int) ≤ 70 := by omega
        clear h1 h2 h3
        go_enter Tryd.func66, Tryd.ntmps66
        go_wp2_with fail
        go_ret
        exact ⟨by rw [e.out]; rfl, rfl⟩
      · have e : Hid (hexZ (Lx.hexv c) = -1) := Lib.hid (by unfold Lx.hexv hexZ; rw [if_neg h1, if_neg h2, if_neg h3])
        have hc4 : (c : Int) < 48 ∨ (57 < (c : Int) ∧ (c : Int) < 65) ∨ (70 < (c : Int) ∧ (c : Int) < 97) ∨ 102 < (c : Int) := by omega
        clear h1 h2 h3
        rcases hc4 with h | ⟨h, h'⟩ | ⟨h, h'⟩ | h
        all_goals
          go_enter Tryd.func66, Tryd.ntmps66
          go_wp2_with fail
          go_ret
          exact ⟨by rw [e.out]; rfl, rfl⟩

theorem ones_iff (a : Nat) : Lx.ones.contains a = true ↔ (a = 40 ∨ a = 41 ∨ a = 123 ∨ a = 125 ∨ a = 44 ∨ a = 46 ∨ a = 58 ∨ a = 61 ∨ a = 60 ∨ a = 62 ∨ a = 43 ∨ a = 45 ∨ a = 42 ∨ a = 47 ∨ a = 95) := by simp [Lx.ones]
theorem two_lit (s : ByteArray) (a b : Nat) (r : List Nat) (hl : Cod.str s = a :: b :: r) (x y : UInt8) : ((s.extract 0 2).toList == [x, y]) = (a == x.toNat && b == y.toNat) := by
  rw [ByteArray.toList_eq]
  have h : (s.extract 0 2).data.toList.map UInt8.toNat = [a, b] := by
    have := Lx.str_extract s 0 2
    rw [hl] at this
    simpa [Cod.str] using this
  match hd : (s.extract 0 2).data.toList, h with
  | [p, q], h =>
    simp at h
    obtain ⟨rfl, rfl⟩ := h
    rw [Bool.eq_iff_iff]
    simp [UInt8.toNat_inj]
theorem rMark_any (s : ByteArray) (h0 : 0 < s.size) (hs : s.size ≤ 9223372036854775807) (w : World) :
    Calls Tryd.prog 57 #[.string s] w fun e w' => e = .returned (.int .i64 (Lx.mark (Cod.str s) : Nat)) ∧ w = w' := by
  have hll := Cod.str_len s
  have hc0 : s[0].toNat = (Cod.str s).headD 0 := by
    rw [← Lx.get_str s 0 h0]
    cases Cod.str s <;> rfl
  cases hl : Cod.str s with
  | nil => rw [hl] at hll; simp at hll; omega
  | cons a r =>
    rw [hl] at hc0 hll
    simp only [List.headD_cons] at hc0
    cases r with
    | nil =>
      have h1 : (s.size : Int) < 2 := by simp at hll; omega
      have hm : Lx.mark [a] = if Lx.ones.contains a then 1 else 0 := rfl
      have HM := Lib.hid hm; have HC := Lib.hid hc0
      clear hl hll hm hc0
      go_enter Tryd.func57, Tryd.ntmps57
      go_wp2_with fail
      all_goals go_ret
      all_goals refine ⟨ret_int ?_, rfl⟩
      all_goals rw [HM.out, ← HC.out]
      all_goals simp only [beq_iff_eq, beq_eq_false_iff_ne, ne_eq] at *
      all_goals first
        | (rw [if_pos ((ones_iff _).2 (by omega))]; rfl)
        | (rw [if_neg (fun h => by have := (ones_iff _).1 h; omega)]; rfl)
    | cons b r =>
      have h1 : (2 : Int) ≤ (s.size : Int) := by simp at hll; omega
      have hm : Lx.mark (a :: b :: r) = if Lx.two a b then 2 else if Lx.ones.contains a then 1 else 0 := rfl
      have t1 := two_lit s a b r hl 58 45
      have t2 := two_lit s a b r hl 33 61
      have t3 := two_lit s a b r hl 60 61
      have t4 := two_lit s a b r hl 62 61
      have h2 : Lx.two a b = ((a == 58 && b == 45) || ((a == 33 && b == 61) || ((a == 60 && b == 61) || (a == 62 && b == 61)))) := rfl
      rw [show UInt8.toNat 58 = 58 from rfl, show UInt8.toNat 45 = 45 from rfl] at t1
      rw [show UInt8.toNat 33 = 33 from rfl, show UInt8.toNat 61 = 61 from rfl] at t2
      rw [show UInt8.toNat 60 = 60 from rfl, show UInt8.toNat 61 = 61 from rfl] at t3
      rw [show UInt8.toNat 62 = 62 from rfl, show UInt8.toNat 61 = 61 from rfl] at t4
      generalize (a == 58 && b == 45) = b1 at *
      generalize (a == 33 && b == 61) = b2 at *
      generalize (a == 60 && b == 61) = b3 at *
      generalize (a == 62 && b == 61) = b4 at *
      have HM := Lib.hid hm; have HC := Lib.hid hc0; have H2 := Lib.hid h2
      clear hl hll hm hc0 h2
      by_cases hany : b1 = true ∨ b2 = true ∨ b3 = true ∨ b4 = true
      · have e : Hid (Lx.mark (a :: b :: r) = 2) := Lib.hid (by rw [HM.out, H2.out, if_pos]; rcases hany with h | h | h | h <;> simp [h])
        have hcs : b1 = true ∨ (b1 = false ∧ b2 = true) ∨ (b1 = false ∧ b2 = false ∧ b3 = true) ∨ (b1 = false ∧ b2 = false ∧ b3 = false ∧ b4 = true) := by
          cases b1 <;> cases b2 <;> cases b3 <;> cases b4 <;> simp_all
        clear hany H2 HM
        rcases hcs with rfl | ⟨rfl, rfl⟩ | ⟨rfl, rfl, rfl⟩ | ⟨rfl, rfl, rfl, rfl⟩
        all_goals
          go_enter Tryd.func57, Tryd.ntmps57
          go_wp2_with fail
          go_ret
          exact ⟨by rw [e.out]; rfl, rfl⟩
      · have e : Hid (Lx.mark (a :: b :: r) = if Lx.ones.contains a then 1 else 0) := Lib.hid (by
          rw [HM.out, H2.out, if_neg]
          intro h
          apply hany
          simpa [Bool.or_eq_true] using h)
        have hcs : b1 = false ∧ b2 = false ∧ b3 = false ∧ b4 = false := by
          cases b1 <;> cases b2 <;> cases b3 <;> cases b4 <;> simp_all
        clear hany H2 HM
        obtain ⟨rfl, rfl, rfl, rfl⟩ := hcs
        go_enter Tryd.func57, Tryd.ntmps57
        go_wp2_with fail
        all_goals go_ret
        all_goals refine ⟨ret_int ?_, rfl⟩
        all_goals rw [e.out, ← HC.out]
        all_goals simp only [beq_iff_eq, beq_eq_false_iff_ne, ne_eq] at *
        all_goals first
          | (rw [if_pos ((ones_iff _).2 (by omega))]; rfl)
          | (rw [if_neg (fun h => by have := (ones_iff _).1 h; omega)]; rfl)
end Go.Proofs.YtobimhmllkfmfaaDoor
