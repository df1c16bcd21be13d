/- slices.insertionSortCmpFunc: a part of a row, sorted. (Th) -/
import Derived.Test.YtcalbbfkgdfidaaDoorSoPast
namespace Go.Proofs.YtcalbbfkgdfidaaDoor
open Go.RowKit Go.Sort Go.Lib
set_option linter.unusedVariables false
set_option linter.unusedSimpArgs false
set_option maxRecDepth 100000


set_option maxHeartbeats 4000000 in
theorem insertionTh_any {enc : Nat → List Value} {f : Nat → Nat → Int} (E : Enc enc 2) (X A Y : List Nat) (a b g cap : Nat) (W : World) (hC : CmpOk 11 enc f W g) (ha : a = X.length) (hb : b = X.length + A.length)
    (hR : Row enc 2 W g (X ++ (A ++ Y))) (hg : g < W.heap.size) (L : Nat) (hL : (X ++ (A ++ Y)).length = L) (hsz : L ≤ 1152921504606846976) :
    Calls Tryd.prog 63 #[.slice (some ⟨g, 0, none⟩) L cap, .int .i64 a, .int .i64 b, .func (.func 11) #[] #[]] W fun e W' => e = .returned (.tuple #[]) ∧ ∃ C, So.Sorted f A C ∧ Row enc 2 W' g (X ++ (C ++ Y)) ∧ Mod [g] W W' := by
  have HR := Lib.hid hR; have HE := Lib.hid E; have HG := Lib.hid hg; have HCC := Lib.hid hC; have HSZ := Lib.hid hsz
  have hl : X.length + (A.length + Y.length) = L := by rw [← hL]; simp
  have HL := Lib.hid hL
  obtain ⟨n, hn⟩ : ∃ n, A.length = n := ⟨_, rfl⟩
  rw [hn] at hb hl
  have HNn := Lib.hid hn; have HA := Lib.hid ha; have HB := Lib.hid hb; have HLL := Lib.hid hl
  have hab : a ≤ b := by omega
  have hbL : b ≤ L := by omega
  clear hR E hg hC hL hn ha hb hl
  go_enter Tryd.func63, Tryd.ntmps63
  go_wp2_with fail
  go_loopw [8] (fun iv wr => ∃ (i : Nat) (D C R : List Nat), iv = .int .i64 (i : Nat) ∧ a < i ∧ i ≤ b + 1 ∧ A = D ++ R ∧ (i = a + D.length ∨ A = [] ∧ i = b + 1) ∧ So.Sorted f D C ∧ Row enc 2 wr g (X ++ (C ++ (R ++ Y))) ∧ Mod [g] W wr) (fun iv _ => b + 1 - (intOf iv).toNat)
  case atStart =>
    cases hAA : A with
    | nil => exact ⟨a + 1, [], [], [], by go_num, by omega, by omega, rfl, .inr ⟨rfl, by have := HNn.out; have := HA.out; have := HB.out; rw [hAA] at *; simp at *; omega⟩, .nil, by have := HR.out; rw [hAA] at this; exact this, Mod.refl _ _⟩
    | cons x R => exact ⟨a + 1, [x], [x], R, by go_num, by omega, by omega, rfl, .inl rfl, ⟨List.Perm.refl _, fun _ _ => List.pairwise_singleton _ _⟩, by have := HR.out; rw [hAA] at this; exact this, Mod.refl _ _⟩
  case round =>
    obtain ⟨i, D, C, R, rfl, hai, hib, hAD, hiD, hS, hr, hm⟩ := hrel
    have HR0 := Lib.hid hr; have HM := Lib.hid hm; have HS := Lib.hid hS; have HAD := Lib.hid hAD; have HID := Lib.hid hiD
    clear hr hm hS hAD hiD
    by_cases hlt : i < b
    · have hltI : (i : Int) < (b : Int) := by omega
      have hiD : i = a + D.length := by
        rcases HID.out with h | h
        · exact h
        · omega
      have hDR : D.length + R.length = n := by have := HNn.out; rw [HAD.out, List.length_append] at this; exact this
      obtain ⟨x, R', hRx⟩ : ∃ x R', R = x :: R' := by
        cases hR : R with
        | nil => rw [hR] at hDR; simp at hDR; have := HA.out; have := HB.out; omega
        | cons x R' => exact ⟨x, R', rfl⟩
      have hCD : C.length = D.length := HS.out.1.length_eq
      have HRX := Lib.hid hRx; have HCD := Lib.hid hCD; have HiD := Lib.hid hiD; have HDR := Lib.hid hDR
      clear hRx hCD hiD hDR HID
      go_wp2_with fail
      go_loopw [9] (fun jv wr2 => ∃ (j : Nat) (P Q : List Nat), jv = .int .i64 (j : Nat) ∧ C = P ++ Q ∧ j = a + P.length ∧ j ≤ i ∧ (∀ q ∈ Q, f x q < 0) ∧ Row enc 2 wr2 g (X ++ (P ++ (x :: (Q ++ (R' ++ Y))))) ∧ Mod [g] W wr2) (fun jv _ => (intOf jv).toNat)
      case atStart => exact ⟨i, C, [], rfl, by simp, by rw [HCD.out]; exact HiD.out, Nat.le_refl _, by simp, by have := HR0.out; rw [HRX.out] at this; exact this, HM.out⟩
      case round =>
        clear HR0 HM
        obtain ⟨j, P, Q, rfl, hCP, hj, hji, hQ, hr, hm⟩ := hrel
        have HRR := Lib.hid hr; have HM := Lib.hid hm; have HCP := Lib.hid hCP; have HQ := Lib.hid hQ; have HJ := Lib.hid hj
        clear hr hm hCP hQ hj
        -- behind the inner loop
        have OUT : Hid (∀ w', (∀ p, P.getLast? = some p → ¬ f x p < 0) → Row enc 2 w' g (X ++ (P ++ (x :: (Q ++ (R' ++ Y))))) → Mod [g] W w' →
            ∃ (i' : Nat) (D' C' R2 : List Nat), Value.int .i64 ((i : Int) + 1) = .int .i64 (i' : Nat) ∧ a < i' ∧ i' ≤ b + 1 ∧ A = D' ++ R2 ∧ (i' = a + D'.length ∨ A = [] ∧ i' = b + 1) ∧ So.Sorted f D' C' ∧ Row enc 2 w' g (X ++ (C' ++ (R2 ++ Y))) ∧ Mod [g] W w') := Lib.hid (by
          intro w' hP hr hm
          refine ⟨i + 1, D ++ [x], P ++ x :: Q, R', by go_num, by omega, by omega, by rw [HAD.out, HRX.out]; simp, .inl (by have := HiD.out; simp; omega), ?_, ?_, hm⟩
          · exact So.Sorted.put (by rw [← HCP.out]; exact HS.out) HQ.out hP
          · simpa using hr)
        by_cases hja : a < j
        · have hjaI : (a : Int) < (j : Int) := by omega
          obtain ⟨q, hq⟩ : ∃ q, j = q + 1 := ⟨j - 1, by omega⟩
          have hqI : (j : Int) - 1 = (q : Nat) := by omega
          obtain ⟨P', p, hPp⟩ : ∃ P' p, P = P' ++ [p] := by
            rcases List.eq_nil_or_concat P with h | ⟨P', p, h⟩
            · have := HJ.out; rw [h] at this; simp at this; omega
            · exact ⟨P', p, by rw [h, List.concat_eq_append]⟩
          have hPl : q = a + P'.length := by have := HJ.out; rw [hPp] at this; simp at this; omega
          obtain ⟨lc, hlc⟩ : ∃ lc, lc = X ++ (P ++ (x :: (Q ++ (R' ++ Y)))) := ⟨_, rfl⟩
          rw [← hlc] at HRR
          have hl2 : lc = (X ++ P') ++ p :: x :: (Q ++ (R' ++ Y)) := by rw [hlc, hPp]; simp
          have hx1 : lc.getD j 0 = x := by
            rw [hl2]
            have := getD_at ((X ++ P') ++ [p]) (Q ++ (R' ++ Y)) x j (by have := HA.out; simp; omega)
            simpa using this
          have hp1 : lc.getD q 0 = p := by rw [hl2]; exact getD_at _ _ _ _ (by have := HA.out; simp; omega)
          have hjl : j < lc.length := by rw [hl2]; have := HA.out; simp; omega
          have hql : q < lc.length := by omega
          have hjL : j < L := by omega
          have hqL : q < L := by omega
          have hgw : g < wr.heap.size := Nat.lt_of_lt_of_le HG.out HM.out.size
          have HX1 := Lib.hid hx1; have HP1 := Lib.hid hp1; have HL2 := Lib.hid hl2; have HLC := Lib.hid hlc; have HPP := Lib.hid hPp; have HGW := Lib.hid hgw; have HPL := Lib.hid hPl
          have HJL := Lib.hid hjl; have HQL := Lib.hid hql
          have wq1 : IntKind.i64.wrap (q : Int) = (q : Int) := by rw [IntKind.wrap_i64]; omega
          obtain ⟨x0, x1, y0, y1, hx, hy, ca0, ca1, cb0, cb1, _⟩ := HRR.out.swap2 HE.out Tryd.prog j q hjl hql
          have HCL := Lib.hid ((HCC.out.past HM.out).call _ _ hx hy)
          rw [hx1, hp1] at HCL
          have ea0 := past_cell ca0; have ea1 := past_cell ca1; have eb0 := past_cell cb0; have eb1 := past_cell cb1
          have HQQ := Lib.hid hq
          clear hx hy hx1 hp1 hl2 hlc hPp hgw hPl hjl hql hq
          obtain ⟨r, hr⟩ : ∃ r, r = f x p := ⟨_, rfl⟩
          rw [← hr] at HCL
          have HRr := Lib.hid hr
          clear hr
          by_cases hneg : r < 0
          · go_wp2_with fail
            have inh := past_one wr
            refine region_past (by kernel_rfl) (by kernel_rfl) ?_
            repeat (quiet_step (exact past_call (HCL.out _)))
            refine wpQuiet_nil ?_
            intro _ hw'
            obtain ⟨⟨wq, mq⟩, hw''⟩ := hw'
            subst hw''
            clear inh
            have R2 := Lib.hid (HRR.out.past mq HGW.out)
            have M2 := Lib.hid (HM.out.trans mq (by simp))
            clear HCL ca0 ca1 cb0 cb1 HRR HM mq
            obtain ⟨x0, x1, y0, y1, hx, hy, ca0, ca1, cb0, cb1, s0, s1, s2, s3, hn⟩ := R2.out.swap2 HE.out Tryd.prog j q HJL.out HQL.out
            have HN := Lib.hid hn
            clear hx hy hn
            go_wp2_with fail
            go_region
            have MN := Lib.hid (M2.out.trans (HN.out.2) (fun t ht => .inl ht))
            have RN := Lib.hid HN.out.1
            clear HN s0 s1 s2 s3 ca0 ca1 cb0 cb1 R2 M2
            generalize World.setCell _ _ _ = wn at *
            go_wp2_with fail
            go_roundw
            case rel =>
              refine ⟨q, P', p :: Q, rfl, by rw [HCP.out, HPP.out]; simp, HPL.out, by have := HQQ.out; omega, ?_, ?_, MN.out⟩
              · intro z hz
                rcases List.mem_cons.1 hz with rfl | hz
                · have := HRr.out; omega
                · exact HQ.out z hz
              · have h := RN.out
                rw [HL2.out, swL_adj _ _ _ _ _ _ (by have := HA.out; have := HPL.out; have := HQQ.out; simp; omega) (by have := HA.out; have := HPL.out; simp; omega)] at h
                simpa using h
            case measure => have := HQQ.out; simp [intOf]; omega
          · go_wp2_with fail
            have inh := past_one wr
            refine region_past (by kernel_rfl) (by kernel_rfl) ?_
            repeat (quiet_step (exact past_call (HCL.out _)))
            refine wpQuiet_nil ?_
            intro _ hw'
            obtain ⟨⟨wq, mq⟩, hw''⟩ := hw'
            subst hw''
            clear inh
            have R2 := Lib.hid (HRR.out.past mq HGW.out)
            have M2 := Lib.hid (HM.out.trans mq (by simp))
            clear HCL ca0 ca1 cb0 cb1 HRR HM mq
            go_wp2_with fail
            go_roundw
            case rel =>
              refine OUT.out _ ?_ (by have := R2.out; rw [HLC.out] at this; exact this) M2.out
              intro z hz
              rw [HPP.out] at hz
              simp at hz
              rw [← hz, ← HRr.out]
              exact hneg
            case measure => simp [intOf]; omega
        · have hjaI : ¬ (a : Int) < (j : Int) := by omega
          have hP0 : P = [] := by
            have := HJ.out
            exact List.length_eq_zero_iff.1 (by omega)
          go_wp2_with fail
          go_quiet (fail)
          go_wp2_with fail
          go_roundw
          case rel => exact OUT.out _ (by rw [hP0]; intro p hp; cases hp) (HRR.out) (HM.out.drewN _)
          case measure => simp [intOf]; omega
    · have hltI : ¬ (i : Int) < (b : Int) := by omega
      go_wp2_with fail
      go_end0
      refine ⟨rfl, C, ?_, ?_, HM.out⟩
      · have hR0 : R = [] := by
          rcases HID.out with h | ⟨h, -⟩
          · have h1 := HNn.out
            rw [HAD.out, List.length_append] at h1
            have := HA.out; have := HB.out
            exact List.length_eq_zero_iff.1 (by omega)
          · have := HAD.out; rw [h] at this
            exact (List.nil_eq_append_iff.1 this).2
        have h1 := HAD.out
        rw [hR0, List.append_nil] at h1
        rw [h1]; exact HS.out
      · have hR0 : R = [] := by
          rcases HID.out with h | ⟨h, -⟩
          · have h1 := HNn.out
            rw [HAD.out, List.length_append] at h1
            have := HA.out; have := HB.out
            exact List.length_eq_zero_iff.1 (by omega)
          · have := HAD.out; rw [h] at this
            exact (List.nil_eq_append_iff.1 this).2
        have h := HR0.out
        rw [hR0] at h
        exact h
end Go.Proofs.YtcalbbfkgdfidaaDoor
