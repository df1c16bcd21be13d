/- slices.rotateCmpFunc: two parts that stand side by side, turned round. (Th) -/
import Derived.Test.YtcalbbfkgdfidaaDoorSoRow
import Derived.Test.YtcalbbfkgdfidaaDoorSoSwapTh
namespace Go.Proofs.YtcalbbfkgdfidaaDoor
open Go.RowKit Go.Sort Go.Lib
set_option linter.unusedVariables false
set_option linter.unusedSimpArgs false
set_option maxRecDepth 100000


set_option maxHeartbeats 4000000 in
theorem rotateTh_any {enc : Nat → List Value} (E : Enc enc 2) (X A B Y : List Nat) (a m b g cap : Nat) (fv : Value) (W : World) (ha : a = X.length) (hm : m = X.length + A.length) (hb : b = X.length + A.length + B.length) (hA : 0 < A.length) (hB : 0 < B.length)
    (hR : Row enc 2 W g (X ++ (A ++ (B ++ Y)))) (hg : g < W.heap.size) (L : Nat) (hL : (X ++ (A ++ (B ++ Y))).length = L) (hsz : L ≤ 1152921504606846976) :
    Calls Tryd.prog 75 #[.slice (some ⟨g, 0, none⟩) L cap, .int .i64 a, .int .i64 m, .int .i64 b, fv] W fun e W' => e = .returned (.tuple #[]) ∧ Row enc 2 W' g (X ++ (B ++ (A ++ Y))) ∧ Mod [g] W W' := by
  have HR := Lib.hid hR; have HE := Lib.hid E; have HG := Lib.hid hg; have HSZ := Lib.hid hsz
  have hl : X.length + (A.length + (B.length + Y.length)) = L := by rw [← hL]; simp
  have HL := Lib.hid hL
  obtain ⟨i0, hi0⟩ : ∃ i0, A.length = i0 := ⟨_, rfl⟩
  obtain ⟨j0, hj0⟩ : ∃ j0, B.length = j0 := ⟨_, rfl⟩
  rw [hi0] at hm hb hA hl; rw [hj0] at hb hB hl
  have HI := Lib.hid hi0; have HJ := Lib.hid hj0; have HA := Lib.hid ha; have HMm := Lib.hid hm; have HBb := Lib.hid hb
  have d1 : (m : Int) - (a : Int) = (i0 : Nat) := by omega
  have d2 : (b : Int) - (m : Int) = (j0 : Nat) := by omega
  have bl : m + j0 ≤ L := by omega
  have mi : i0 ≤ m := by omega
  clear hR E hg hL hi0 hj0 ha hm hb hl
  go_enter Tryd.func75, Tryd.ntmps75
  go_wp2_with fail
  go_loopw [10, 11] (fun iv jv wr => ∃ (P U V S : List Nat) (i j : Nat), iv = .int .i64 (i : Nat) ∧ jv = .int .i64 (j : Nat) ∧ U.length = i ∧ V.length = j ∧ P.length + i = m ∧ 0 < i ∧ 0 < j ∧ X ++ (B ++ (A ++ Y)) = P ++ (V ++ (U ++ S)) ∧ (P ++ (U ++ (V ++ S))).length = L ∧ Row enc 2 wr g (P ++ (U ++ (V ++ S))) ∧ Mod [g] W wr) (fun iv jv _ => (intOf iv).toNat + (intOf jv).toNat)
  case atStart => exact ⟨X, A, B, Y, i0, j0, rfl, rfl, HI.out, HJ.out, by have := HMm.out; omega, hA, hB, rfl, HL.out, HR.out, Mod.refl _ _⟩
  case round =>
    obtain ⟨P, U, V, S, i, j, rfl, rfl, hU, hV, hP, hi, hj, hT, hLL, hr, hmm⟩ := hrel
    have hPl : P.length + i + j ≤ L := by rw [← hLL]; simp [hU, hV]; omega
    have HRR := Lib.hid hr; have HM := Lib.hid hmm; have HT := Lib.hid hT; have HLL := Lib.hid hLL; have HU := Lib.hid hU; have HV := Lib.hid hV
    obtain ⟨p, hp⟩ : ∃ p, P.length = p := ⟨_, rfl⟩
    rw [hp] at hP hPl
    have HP := Lib.hid hp
    have e1 : (m : Int) - (i : Int) = (p : Nat) := by omega
    clear hr hmm hT hLL hU hV hp d1 d2
    have hgw : g < wr.heap.size := Nat.lt_of_lt_of_le HG.out HM.out.size
    rcases Nat.lt_trichotomy j i with hlt | heq | hgt
    · have c1 : ¬ (i : Int) = (j : Int) := by omega
      have c1b : ((i : Int) == (j : Int)) = false := by rw [beq_eq_false_iff_ne]; exact c1
      have c2 : (j : Int) < (i : Int) := by omega
      obtain ⟨d, hd⟩ : ∃ d, d + j = i := ⟨i - j, by omega⟩
      have hdI : (i : Int) - (j : Int) = (d : Nat) := by omega
      obtain ⟨U1, U2, hUe, hU1⟩ : ∃ U1 U2, U = U1 ++ U2 ∧ U1.length = j := ⟨U.take j, U.drop j, (List.take_append_drop _ _).symm, by rw [List.length_take, HU.out]; omega⟩
      have hU2 : U2.length = d := by have := HU.out; rw [hUe, List.length_append] at this; omega
      have hassoc : P ++ (U ++ (V ++ S)) = P ++ (U1 ++ (U2 ++ (V ++ S))) := by rw [hUe, List.append_assoc]
      have HC := Lib.hid (swapRangeTh_any HE.out P U1 U2 V S p m j g cap fv wr HP.out.symm hU1 HV.out (by have := HP.out; omega) (by rw [← hassoc]; exact HRR.out) hgw L (by rw [← hassoc]; exact HLL.out) HSZ.out)
      have HUE := Lib.hid hUe; have HU1 := Lib.hid hU1; have HU2 := Lib.hid hU2
      clear hassoc hgw hUe hU1 hU2
      go_wp2_with fail
      refine Calls.mono HC.out ?_
      rintro e2 w2 ⟨rfl, r2, m2⟩
      have R2 := Lib.hid r2; have M2 := Lib.hid m2
      clear r2 m2 HC
      go_wp2_with fail
      go_roundw
      case rel =>
        refine ⟨P ++ V, U2, U1, S, d, j, rfl, rfl, HU2.out, HU1.out, by rw [List.length_append, HV.out, HP.out]; omega, by omega, by omega, ?_, ?_, ?_, HM.out.trans M2.out (fun t ht => .inl ht)⟩
        · rw [HT.out, HUE.out]; simp only [List.append_assoc]
        · rw [← HLL.out, HUE.out]; simp only [List.length_append]; omega
        · have := R2.out; simp only [List.append_assoc] at this ⊢; exact this
      case measure => simp [intOf]; omega
    · subst heq
      have HC := Lib.hid (swapRangeTh_any HE.out P U [] V S p m j g cap fv wr HP.out.symm HU.out HV.out (by have := HP.out; simp; omega) (by simpa using HRR.out) hgw L (by simpa using HLL.out) HSZ.out)
      clear hgw
      go_wp2_with fail
      refine Calls.mono HC.out ?_
      rintro e2 w2 ⟨rfl, r2, m2⟩
      have R2 := Lib.hid r2; have M2 := Lib.hid m2
      clear r2 m2 HC
      go_wp2_with fail
      go_end0
      refine ⟨rfl, ?_, HM.out.trans M2.out (fun t ht => .inl ht)⟩
      rw [HT.out]
      simpa using R2.out
    · have c1 : ¬ (i : Int) = (j : Int) := by omega
      have c1b : ((i : Int) == (j : Int)) = false := by rw [beq_eq_false_iff_ne]; exact c1
      have c2 : ¬ (j : Int) < (i : Int) := by omega
      obtain ⟨d, hd⟩ : ∃ d, d + i = j := ⟨j - i, by omega⟩
      have hdI : (j : Int) - (i : Int) = (d : Nat) := by omega
      obtain ⟨q, hq⟩ : ∃ q, q = m + d := ⟨_, rfl⟩
      have hqI : (m : Int) + (j : Int) - (i : Int) = (q : Nat) := by omega
      obtain ⟨V1, V2, hVe, hV1⟩ : ∃ V1 V2, V = V1 ++ V2 ∧ V1.length = d := ⟨V.take d, V.drop d, (List.take_append_drop _ _).symm, by rw [List.length_take, HV.out]; omega⟩
      have hV2 : V2.length = i := by have := HV.out; rw [hVe, List.length_append] at this; omega
      have hassoc : P ++ (U ++ (V ++ S)) = P ++ (U ++ (V1 ++ (V2 ++ S))) := by rw [hVe, List.append_assoc]
      have HC := Lib.hid (swapRangeTh_any HE.out P U V1 V2 S p q i g cap fv wr HP.out.symm HU.out hV2 (by have := HP.out; omega) (by rw [← hassoc]; exact HRR.out) hgw L (by rw [← hassoc]; exact HLL.out) HSZ.out)
      have HVE := Lib.hid hVe; have HV1 := Lib.hid hV1; have HV2 := Lib.hid hV2
      have hmj : m + j ≤ L := by omega
      clear hassoc hgw hVe hV1 hV2 hq
      go_wp2_with fail
      refine Calls.mono HC.out ?_
      rintro e2 w2 ⟨rfl, r2, m2⟩
      have R2 := Lib.hid r2; have M2 := Lib.hid m2
      clear r2 m2 HC
      go_wp2_with fail
      go_roundw
      case rel =>
        refine ⟨P, V2, V1, U ++ S, i, d, rfl, rfl, HV2.out, HV1.out, by rw [HP.out]; omega, by omega, by omega, ?_, ?_, ?_, HM.out.trans M2.out (fun t ht => .inl ht)⟩
        · rw [HT.out, HVE.out]; simp only [List.append_assoc]
        · rw [← HLL.out, HVE.out]; simp only [List.length_append]; omega
        · exact R2.out
      case measure => simp [intOf]; omega
end Go.Proofs.YtcalbbfkgdfidaaDoor
