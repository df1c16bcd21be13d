/- slices.symMergeCmpFunc: two rows merged, each of two things or more. (Th) -/
import Derived.Test.YtcalbbfkgdfidaaDoorSoPast
import Derived.Test.YtcalbbfkgdfidaaDoorSoRotTh
import Derived.Deep.DeepCutAuto
namespace Go.Proofs.YtcalbbfkgdfidaaDoor
open Go.RowKit Go.Sort Go.Lib
set_option linter.unusedVariables false
set_option linter.unusedSimpArgs false
set_option maxRecDepth 100000


def SymKTh (enc : Nat → List Value) (f : Nat → Nat → Int) (n : Nat) : Prop := ∀ (X A B Y : List Nat) (a m b g cap L : Nat) (W : World), A.length + B.length ≤ n → 0 < A.length → 0 < B.length → CmpOk 11 enc f W g →
  a = X.length → m = X.length + A.length → b = X.length + A.length + B.length → Row enc 2 W g (X ++ (A ++ (B ++ Y))) → g < W.heap.size → (X ++ (A ++ (B ++ Y))).length = L → L ≤ 1152921504606846976 →
  Calls Tryd.prog 64 #[.slice (some ⟨g, 0, none⟩) L cap, .int .i64 a, .int .i64 m, .int .i64 b, .func (.func 11) #[] #[]] W fun e W' => e = .returned (.tuple #[]) ∧ ∃ C, So.Merged f A B C ∧ Row enc 2 W' g (X ++ (C ++ Y)) ∧ Mod [g] W W'
set_option maxHeartbeats 16000000 in
theorem symCTh_any {enc : Nat → List Value} {f : Nat → Nat → Int} (E : Enc enc 2) (n : Nat) (IH : SymKTh enc f n) (X A B Y : List Nat) (a m b g cap L : Nat) (W : World) (hn : A.length + B.length ≤ n + 1) (hA2 : 2 ≤ A.length) (hB2 : 2 ≤ B.length) (hC : CmpOk 11 enc f W g)
    (ha : a = X.length) (hm : m = X.length + A.length) (hb : b = X.length + A.length + B.length) (hR : Row enc 2 W g (X ++ (A ++ (B ++ Y)))) (hg : g < W.heap.size) (hL : (X ++ (A ++ (B ++ Y))).length = L) (hsz : L ≤ 1152921504606846976) :
    Calls Tryd.prog 64 #[.slice (some ⟨g, 0, none⟩) L cap, .int .i64 a, .int .i64 m, .int .i64 b, .func (.func 11) #[] #[]] W fun e W' => e = .returned (.tuple #[]) ∧ ∃ C, So.Merged f A B C ∧ Row enc 2 W' g (X ++ (C ++ Y)) ∧ Mod [g] W W' := by
  have HR := Lib.hid hR; have HE := Lib.hid E; have HG := Lib.hid hg; have HCC := Lib.hid hC; have HSZ := Lib.hid hsz; have HIH := Lib.hid IH
  have hl : X.length + (A.length + (B.length + Y.length)) = L := by rw [← hL]; simp
  have HL := Lib.hid hL
  obtain ⟨la, hla⟩ : ∃ la, A.length = la := ⟨_, rfl⟩
  obtain ⟨lb, hlb⟩ : ∃ lb, B.length = lb := ⟨_, rfl⟩
  rw [hla] at hm hb hl hn hA2; rw [hlb] at hb hl hn hB2
  obtain ⟨d, hd⟩ : ∃ d, d = (la + lb) / 2 := ⟨_, rfl⟩
  obtain ⟨mid, hmid⟩ : ∃ mid, mid = a + d := ⟨_, rfl⟩
  obtain ⟨nn, hnn⟩ : ∃ nn, nn = mid + m := ⟨_, rfl⟩
  have hm' : m = a + la := by omega
  have hb' : b = m + lb := by omega
  have hXa : X.length = a := ha.symm
  have HLA := Lib.hid hla; have HLB := Lib.hid hlb; have HD := Lib.hid hd; have HMID := Lib.hid hmid; have HNN := Lib.hid hnn; have HM' := Lib.hid hm'; have HB' := Lib.hid hb'; have HXA := Lib.hid hXa; have HN := Lib.hid hn
  have hma : ¬ (m : Int) - (a : Int) = 1 := by omega
  have hmab : ((m : Int) - (a : Int) == 1) = false := by rw [beq_eq_false_iff_ne]; exact hma
  have hbm : ¬ (b : Int) - (m : Int) = 1 := by omega
  have hbmb : ((b : Int) - (m : Int) == 1) = false := by rw [beq_eq_false_iff_ne]; exact hbm
  have hmidI : ((a : Int) + (b : Int)) / 2 = (mid : Nat) := by omega
  have hnnI : (mid : Int) + (m : Int) = (nn : Nat) := by omega
  have hbL : b ≤ L := by omega
  have haL : a ≤ L := by omega
  have hmL : m ≤ L := by omega
  have hmidL : mid ≤ L := by omega
  have hnnL : nn ≤ L + L := by omega
  have wn1 : IntKind.i64.wrap (nn : Int) = (nn : Int) := by rw [IntKind.wrap_i64]; omega
  clear hR E hg hC hL IH hla hlb hd hmid hnn hm' hb' hXa hn ha hm hb hl
  go_enter Tryd.func64, Tryd.ntmps64
  go_upto_if 140 with fail
  go_cut [20, 21, 140] from 141 to 146 (fun sv rv _ wx => ∃ (s0 r0 sA rA : Nat), sv = .int .i64 (sA : Nat) ∧ rv = .int .i64 (rA : Nat) ∧ sA = a + s0 ∧ rA = a + r0 ∧ s0 ≤ r0 ∧ r0 ≤ la ∧ r0 ≤ d ∧ d ≤ lb + s0 ∧ (s0 = 0 ∨ d = lb + s0) ∧ (r0 = la ∨ r0 = d) ∧ W = wx)
  case first =>
    by_cases hc : mid < m
    · have hcI : (mid : Int) < (m : Int) := by omega
      have hdl : lb ≤ d ∧ d < la := by have := HD.out; have := HMID.out; have := HM'.out; omega
      obtain ⟨sx, hsx⟩ : ∃ sx, sx = a + (d - lb) := ⟨_, rfl⟩
      have hsI : (nn : Int) - (b : Int) = (sx : Nat) := by have := HNN.out; have := HMID.out; have := HM'.out; have := HB'.out; omega
      have ws1 : IntKind.i64.wrap (sx : Int) = (sx : Int) := by rw [IntKind.wrap_i64]; have := HMID.out; omega
      have HSX := Lib.hid hsx; have HDL := Lib.hid hdl
      clear hsx hdl
      go_wp2_with fail
      go_meet
      exact ⟨d - lb, d, sx, mid, rfl, rfl, HSX.out, HMID.out, by omega, by have := HDL.out; omega, by omega, by have := HDL.out; omega, .inr (by have := HDL.out; omega), .inr rfl, rfl⟩
    · have hcI : ¬ (mid : Int) < (m : Int) := by omega
      have hdl : la ≤ d ∧ d ≤ lb := by have := HD.out; have := HMID.out; have := HM'.out; omega
      have HDL := Lib.hid hdl
      clear hdl
      go_wp2_with fail
      go_meet
      exact ⟨0, la, a, m, rfl, rfl, rfl, HM'.out, by omega, by omega, by have := HDL.out; omega, by have := HDL.out; omega, .inl rfl, .inl rfl, rfl⟩
  case rest =>
    obtain ⟨s0, r0, sA, rA, rfl, rfl, hsA, hrA, h1, h2, h3, h4, h5, h6, rfl⟩ := hcut
    have HSA := Lib.hid hsA; have HRA := Lib.hid hrA; have H5 := Lib.hid h5; have H6 := Lib.hid h6
    have H1 := Lib.hid h1; have H2 := Lib.hid h2; have H3 := Lib.hid h3; have H4 := Lib.hid h4
    obtain ⟨p, hp⟩ : ∃ p, nn = p + 1 := ⟨nn - 1, by have := HNN.out; have := HM'.out; omega⟩
    have hpI : (nn : Int) - 1 = (p : Nat) := by omega
    have wp1 : IntKind.i64.wrap (p : Int) = (p : Int) := by rw [IntKind.wrap_i64]; omega
    have HP := Lib.hid hp
    clear hsA hrA h1 h2 h3 h4 h5 h6 hp
    go_wp2_with fail
    go_loopw [20, 21, 23] (fun sv rv _ wr => ∃ (s r s' r' : Nat), sv = .int .i64 (s : Nat) ∧ rv = .int .i64 (r : Nat) ∧ s = a + s' ∧ r = a + r' ∧ s0 ≤ s' ∧ s' ≤ r' ∧ r' ≤ r0 ∧ So.Bs3 f A B d s0 r0 s' r' ∧ Row enc 2 wr g (X ++ (A ++ (B ++ Y))) ∧ Mod [g] W wr) (fun sv rv _ _ => (intOf rv).toNat - (intOf sv).toNat)
    case atStart => exact ⟨sA, rA, s0, r0, rfl, rfl, HSA.out, HRA.out, Nat.le_refl _, H1.out, Nat.le_refl _, So.Bs3.start A B d s0 r0, HR.out, Mod.refl _ _⟩
    case round =>
      obtain ⟨s, r, s', r', rfl, rfl, hs, hrr, hs0, hsr, hr0, hS, hr, hmm⟩ := hrel
      have HRR := Lib.hid hr; have HM := Lib.hid hmm; have HS := Lib.hid hS; have HI := Lib.hid hs; have HJ := Lib.hid hrr
      have HS0 := Lib.hid hs0; have HSR := Lib.hid hsr; have HR0 := Lib.hid hr0
      clear hr hmm hS
      by_cases hlt : s < r
      · have hltI : (s : Int) < (r : Int) := by omega
        have hrL : r ≤ L := by have := HM'.out; have := H2.out; omega
        obtain ⟨c', hc'⟩ : ∃ c', c' = (s' + r') / 2 := ⟨_, rfl⟩
        obtain ⟨c, hc⟩ : ∃ c, c = a + c' := ⟨_, rfl⟩
        have hb1 : s' ≤ c' ∧ c' < r' := by omega
        have hcI : ((s : Int) + (r : Int)) / 2 = (c : Nat) := by omega
        have hcla : c' < la := by have := H2.out; omega
        have hcd : c' + 1 ≤ d := by have := H3.out; omega
        have hclb : d - 1 - c' < lb := by have := H4.out; omega
        obtain ⟨e, he⟩ : ∃ e, e = m + (d - 1 - c') := ⟨_, rfl⟩
        have heI : (p : Int) - (c : Int) = (e : Nat) := by have := HP.out; have := HNN.out; have := HMID.out; omega
        have hcL : c < L := by have := HM'.out; omega
        have heL : e < L := by have := HB'.out; omega
        have hcn : c' < A.length := by rw [HLA.out]; exact hcla
        have hen : d - 1 - c' < B.length := by rw [HLB.out]; exact hclb
        obtain ⟨lc, hlc⟩ : ∃ lc, lc = X ++ (A ++ (B ++ Y)) := ⟨_, rfl⟩
        rw [← hlc] at HRR
        have hll : lc.length = L := by rw [hlc]; exact HL.out
        obtain ⟨z, hz⟩ : ∃ z, z = A[c'] := ⟨_, rfl⟩
        obtain ⟨y, hy'⟩ : ∃ y, y = B[d - 1 - c'] := ⟨_, rfl⟩
        have HZ : Hid (∀ hlt, z = A[c']'hlt) := Lib.hid (fun _ => hz)
        have HY : Hid (∀ hlt, y = B[d - 1 - c']'hlt) := Lib.hid (fun _ => hy')
        have hx1 : lc.getD c 0 = z := by
          rw [hlc, hz]
          exact getD_in X A (B ++ Y) c' c hcn (by rw [HXA.out]; exact hc)
        have hx2 : lc.getD e 0 = y := by
          rw [hlc, hy', ← List.append_assoc]
          exact getD_in (X ++ A) B Y _ e hen (by rw [List.length_append, HXA.out, HLA.out, ← HM'.out]; exact he)
        have hgw : g < wr.heap.size := Nat.lt_of_lt_of_le HG.out HM.out.size
        obtain ⟨x0, x1, y0, y1, hx, hy, ca0, ca1, cb0, cb1, _⟩ := HRR.out.swap2 HE.out Tryd.prog e c (by omega) (by omega)
        have HCL := Lib.hid ((HCC.out.past HM.out).call _ _ hx hy)
        rw [hx1, hx2] at HCL
        have ea0 := past_cell ca0; have ea1 := past_cell ca1; have eb0 := past_cell cb0; have eb1 := past_cell cb1
        have HCv := Lib.hid hc; have HB1 := Lib.hid hb1; have HLC := Lib.hid hlc; have HGW := Lib.hid hgw; have HCN := Lib.hid hcn; have HEN := Lib.hid hen; have HCD := Lib.hid hcd
        obtain ⟨q, hq⟩ : ∃ q, q = f y z := ⟨_, rfl⟩
        rw [← hq] at HCL
        have HQ := Lib.hid hq
        have wq1 : IntKind.i64.wrap (c : Int) = (c : Int) := by rw [IntKind.wrap_i64]; omega
        have wq2 : IntKind.i64.wrap (e : Int) = (e : Int) := by rw [IntKind.wrap_i64]; omega
        clear hx hy hx1 hx2 hc hc' hb1 hlc hgw hz hy' hcn hen hcd hcla hclb he hq hll hs hrr hs0 hsr hr0
        by_cases hneg : q < 0
        · go_wp2_with fail
          have inh := past_one wr
          refine region_past (by kernel_rfl) (by kernel_rfl) ?_
          repeat (quiet_step (exact past_call (HCL.out _)))
          refine wpQuiet_nil ?_
          intro _ hw'
          obtain ⟨⟨wq, mq⟩, hw''⟩ := hw'
          subst hw''
          clear inh
          have R2 := Lib.hid (HRR.out.past mq HGW.out)
          have M2 := Lib.hid (HM.out.trans mq (by simp))
          clear HCL ca0 ca1 cb0 cb1 HRR HM mq
          go_wp2_with fail
          go_roundw
          case rel => exact ⟨s, c, s', c', rfl, rfl, HI.out, HCv.out, HS0.out, by have := HB1.out; omega, by have := HB1.out; have := HR0.out; omega, HS.out.down H3.out HCN.out HEN.out (by rw [← HZ.out HCN.out, ← HY.out HEN.out, ← HQ.out]; omega), by have := R2.out; rw [HLC.out] at this; exact this, M2.out⟩
          case measure => have := HB1.out; have := HCv.out; have := HI.out; have := HJ.out; simp [intOf]; omega
        · have hn2 : decide (q < 0) = false := decide_eq_false hneg
          have hn3 : 0 ≤ q := by omega
          go_wp2_with fail
          have inh := past_one wr
          refine region_past (by kernel_rfl) (by kernel_rfl) ?_
          repeat (quiet_step (exact past_call (HCL.out _)))
          refine wpQuiet_nil ?_
          intro _ hw'
          obtain ⟨⟨wq, mq⟩, hw''⟩ := hw'
          subst hw''
          clear inh
          have R2 := Lib.hid (HRR.out.past mq HGW.out)
          have M2 := Lib.hid (HM.out.trans mq (by simp))
          clear HCL ca0 ca1 cb0 cb1 HRR HM mq
          go_wp2_with fail
          go_roundw
          case rel => exact ⟨c + 1, r, c' + 1, r', by go_num, rfl, by have := HCv.out; omega, HJ.out, by have := HB1.out; have := HS0.out; omega, by have := HB1.out; omega, HR0.out, HS.out.up HCD.out HCN.out HEN.out (by rw [← HZ.out HCN.out, ← HY.out HEN.out, ← HQ.out]; omega), by have := R2.out; rw [HLC.out] at this; exact this, M2.out⟩
          case measure => have := HB1.out; have := HCv.out; have := HI.out; have := HJ.out; simp [intOf]; omega
      · have hltI : ¬ (s : Int) < (r : Int) := by omega
        obtain rfl : s' = r' := by omega
        obtain ⟨A1, hA1⟩ : ∃ A1, A1 = A.take s' := ⟨_, rfl⟩
        obtain ⟨A2, hA2'⟩ : ∃ A2, A2 = A.drop s' := ⟨_, rfl⟩
        obtain ⟨B1, hB1⟩ : ∃ B1, B1 = B.take (d - s') := ⟨_, rfl⟩
        obtain ⟨B2, hB2'⟩ : ∃ B2, B2 = B.drop (d - s') := ⟨_, rfl⟩
        have b1 : s' ≤ la := by have := H2.out; omega
        have b2 : s' ≤ d := by have := H3.out; omega
        have b3 : d ≤ lb + s' := by have := H4.out; omega
        have lA1 : A1.length = s' := by rw [hA1, List.length_take, HLA.out]; omega
        have lA2 : A2.length = la - s' := by rw [hA2', List.length_drop, HLA.out]
        have lB1 : B1.length = d - s' := by rw [hB1, List.length_take, HLB.out]; omega
        have lB2 : B2.length = lb - (d - s') := by rw [hB2', List.length_drop, HLB.out]
        have eA : A = A1 ++ A2 := by rw [hA1, hA2', List.take_append_drop]
        have eB : B = B1 ++ B2 := by rw [hB1, hB2', List.take_append_drop]
        obtain ⟨en, hen⟩ : ∃ en, en = m + (d - s') := ⟨_, rfl⟩
        have henI : (nn : Int) - (s : Int) = (en : Nat) := by have := HNN.out; have := HMID.out; omega
        have we1 : IntKind.i64.wrap (en : Int) = (en : Int) := by rw [IntKind.wrap_i64]; have := HB'.out; omega
        have HFIN := Lib.hid (fun ho hp hq hc => So.Bs3.fin HS.out HS0.out HR0.out (by rw [HLA.out]; exact H2.out) H3.out (by rw [HLB.out]; exact H4.out) (by rw [HLB.out]; exact H5.out) (by rw [HLA.out]; exact H6.out) ho hp hq hc)
        rw [← hA1, ← hA2', ← hB1, ← hB2'] at HFIN
        have R0 : Hid (Row enc 2 wr g (X ++ (A1 ++ (A2 ++ (B1 ++ (B2 ++ Y)))))) := Lib.hid (by have := HRR.out; rw [eA, eB] at this; simpa only [List.append_assoc] using this)
        have hlen : (X ++ (A1 ++ (A2 ++ (B1 ++ (B2 ++ Y))))).length = L := by have := HL.out; rw [eA, eB] at this; simpa only [List.append_assoc] using this
        have HLN := Lib.hid hlen; have HA1 := Lib.hid lA1; have HA2 := Lib.hid lA2; have HB1 := Lib.hid lB1; have HB2 := Lib.hid lB2; have HEA := Lib.hid eA; have HEB := Lib.hid eB; have HEN := Lib.hid hen
        have hsm : s = mid ∨ s < mid := by have := HMID.out; omega
        have HSV := Lib.hid hs
        clear hA1 hA2' hB1 hB2' lA1 lA2 lB1 lB2 eA eB hlen hen hs hrr hs0 hsr hr0 hsm HRR HS
        go_upto_region 39 with fail
        go_cut [185] from 178 to 184 (fun tv wx => ∃ gb : Bool, tv = .bool gb ∧ gb = (decide (s' < la) && decide (s' < d)) ∧ wr = wx)
        case first =>
          by_cases k1 : s' < la
          · have k1I : (s : Int) < (m : Int) := by have := HSV.out; have := HM'.out; omega
            by_cases k2 : s' < d
            · have k2I : (m : Int) < (en : Int) := by have := HEN.out; omega
              have hk : (true : Bool) = (decide (s' < la) && decide (s' < d)) := by simp [k1, k2]
              have HK := Lib.hid hk
              clear k1 k2 hk
              go_wp2_with fail
              go_meet
              exact ⟨_, rfl, HK.out, rfl⟩
            · have k2I : ¬ (m : Int) < (en : Int) := by have := HEN.out; omega
              have hk : (false : Bool) = (decide (s' < la) && decide (s' < d)) := by simp [k2]
              have HK := Lib.hid hk
              clear k1 k2 hk
              go_wp2_with fail
              go_meet
              exact ⟨_, rfl, HK.out, rfl⟩
          · have k1I : ¬ (s : Int) < (m : Int) := by have := HSV.out; have := HM'.out; omega
            have hk : (false : Bool) = (decide (s' < la) && decide (s' < d)) := by simp [k1]
            have HK := Lib.hid hk
            clear k1 hk
            go_wp2_with fail
            go_meet
            exact ⟨_, rfl, HK.out, rfl⟩
        case rest =>
          obtain ⟨gb, rfl, hgb, rfl⟩ := hcut
          have HGB := Lib.hid hgb
          clear hgb
          go_upto_if 185 with fail
          go_cut [] from 186 to 191 (fun wx => Row enc 2 wx g (X ++ (A1 ++ (B1 ++ (A2 ++ (B2 ++ Y))))) ∧ Mod [g] W wx)
          case first =>
            cases gb with
            | true =>
              have hk : s' < la ∧ s' < d := by have := HGB.out; simpa using this.symm
              have HC := Lib.hid (rotateTh_any HE.out (X ++ A1) A2 B1 (B2 ++ Y) s m en g cap (.func (.func 11) #[] #[]) wr (by rw [List.length_append, HXA.out, HA1.out]; exact HSV.out) (by rw [List.length_append, HXA.out, HA1.out, HA2.out]; have := HM'.out; omega) (by rw [List.length_append, HXA.out, HA1.out, HA2.out, HB1.out]; have := HM'.out; have := HEN.out; omega) (by rw [HA2.out]; omega) (by rw [HB1.out]; omega)
                (by have := R0.out; simpa only [List.append_assoc] using this) (Nat.lt_of_lt_of_le HG.out HM.out.size) L (by have := HLN.out; simpa only [List.append_assoc] using this) HSZ.out)
              clear hk
              go_wp2_with fail
              refine Calls.mono HC.out ?_
              rintro e2 w2 ⟨rfl, r2, m2⟩
              have R2 := Lib.hid r2; have M2 := Lib.hid m2
              clear r2 m2 HC
              go_wp2_with fail
              go_meet
              exact ⟨by have := R2.out; simpa only [List.append_assoc] using this, HM.out.trans M2.out (fun t ht => .inl ht)⟩
            | false =>
              have h0 : Row enc 2 wr g (X ++ (A1 ++ (B1 ++ (A2 ++ (B2 ++ Y))))) := by
                have hk := HGB.out
                by_cases k1 : s' < la
                · have hb0 : B1 = [] := List.length_eq_zero_iff.1 (by rw [HB1.out]; simp [k1] at hk; omega)
                  have := R0.out; rw [hb0] at this ⊢; simpa using this
                · have ha0 : A2 = [] := List.length_eq_zero_iff.1 (by rw [HA2.out]; omega)
                  have := R0.out; rw [ha0] at this ⊢; simpa using this
              have H0 := Lib.hid h0
              clear h0
              go_wp2_with fail
              go_meet
              exact ⟨H0.out, HM.out⟩
          case rest =>
            obtain ⟨rx, mx⟩ := hcut
            have RX := Lib.hid rx; have MX := Lib.hid mx
            clear rx mx R0 HM HGB
            go_upto_region 41 with fail
            go_cut [199] from 192 to 198 (fun tv wy => ∃ gb : Bool, tv = .bool gb ∧ gb = (decide (0 < s') && decide (s' < d)) ∧ wc = wy)
            case first =>
              by_cases k1 : 0 < s'
              · have k1I : (a : Int) < (s : Int) := by have := HSV.out; omega
                by_cases k2 : s' < d
                · have k2I : (s : Int) < (mid : Int) := by have := HSV.out; have := HMID.out; omega
                  have hk : (true : Bool) = (decide (0 < s') && decide (s' < d)) := by simp [k1, k2]
                  have HK := Lib.hid hk
                  clear k1 k2 hk
                  go_wp2_with fail
                  go_meet
                  exact ⟨_, rfl, HK.out, rfl⟩
                · have k2I : ¬ (s : Int) < (mid : Int) := by have := HSV.out; have := HMID.out; omega
                  have hk : (false : Bool) = (decide (0 < s') && decide (s' < d)) := by simp [k2]
                  have HK := Lib.hid hk
                  clear k1 k2 hk
                  go_wp2_with fail
                  go_meet
                  exact ⟨_, rfl, HK.out, rfl⟩
              · have k1I : ¬ (a : Int) < (s : Int) := by have := HSV.out; omega
                have hk : (false : Bool) = (decide (0 < s') && decide (s' < d)) := by simp [k1]
                have HK := Lib.hid hk
                clear k1 hk
                go_wp2_with fail
                go_meet
                exact ⟨_, rfl, HK.out, rfl⟩
            case rest =>
              obtain ⟨gb, rfl, hgb, rfl⟩ := hcut
              have HGB := Lib.hid hgb
              clear hgb
              go_upto_if 199 with fail
              generalize hwq : wc = wq at *
              clear hwq
              go_cut [] from 200 to 205 (fun wy => ∃ C1, So.Merged f A1 B1 C1 ∧ Row enc 2 wy g (X ++ (C1 ++ (A2 ++ (B2 ++ Y)))) ∧ Mod [g] W wy)
              case first =>
                cases gb with
                | true =>
                  have hk : 0 < s' ∧ s' < d := by have := HGB.out; simpa using this.symm
                  have HC := Lib.hid (HIH.out X A1 B1 (A2 ++ (B2 ++ Y)) a s mid g cap L wq (by rw [HA1.out, HB1.out]; have := HN.out; have := HD.out; omega) (by rw [HA1.out]; exact hk.1) (by rw [HB1.out]; omega) (HCC.out.past MX.out) HXA.out.symm (by rw [HXA.out, HA1.out]; exact HSV.out) (by rw [HXA.out, HA1.out, HB1.out]; have := HMID.out; omega)
                    RX.out (Nat.lt_of_lt_of_le HG.out MX.out.size) (by have := HLN.out; simp only [List.length_append] at this ⊢; omega) HSZ.out)
                  clear hk
                  go_wp2_with fail
                  refine Calls.mono HC.out ?_
                  rintro e2 w2 ⟨rfl, C1, c1, r2, m2⟩
                  have R2 := Lib.hid r2; have M2 := Lib.hid m2; have HC1 := Lib.hid c1
                  clear r2 m2 HC c1
                  go_wp2_with fail
                  go_meet
                  exact ⟨C1, HC1.out, R2.out, MX.out.trans M2.out (fun t ht => .inl ht)⟩
                | false =>
                  have h0 : ∃ C1, So.Merged f A1 B1 C1 ∧ Row enc 2 wq g (X ++ (C1 ++ (A2 ++ (B2 ++ Y)))) := by
                    have hk := HGB.out
                    by_cases k1 : 0 < s'
                    · have hb0 : B1 = [] := List.length_eq_zero_iff.1 (by rw [HB1.out]; simp [k1] at hk; omega)
                      exact ⟨A1, by rw [hb0]; exact So.merged_nil, by have := RX.out; rw [hb0] at this; simpa using this⟩
                    · have ha0 : A1 = [] := List.length_eq_zero_iff.1 (by rw [HA1.out]; omega)
                      exact ⟨B1, by rw [ha0]; exact So.merged_nil', by have := RX.out; rw [ha0] at this; simpa using this⟩
                  have H0 := Lib.hid h0
                  clear h0
                  go_wp2_with fail
                  go_meet
                  obtain ⟨C1, q1, q2⟩ := H0.out
                  exact ⟨C1, q1, q2, MX.out⟩
              case rest =>
                obtain ⟨C1, hc1, ry, my⟩ := hcut
                have RY := Lib.hid ry; have MY := Lib.hid my; have HC1 := Lib.hid hc1
                have hcl : C1.length = d := by rw [hc1.1.length_eq, List.length_append, HA1.out, HB1.out]; omega
                have HCLn := Lib.hid hcl
                clear ry my hc1 hcl RX MX HGB
                have FIN : Hid (∀ C2 w', So.Merged f A2 B2 C2 → Row enc 2 w' g (X ++ (C1 ++ (C2 ++ Y))) → Mod [g] W w' → ∃ C, So.Merged f A B C ∧ Row enc 2 w' g (X ++ (C ++ Y)) ∧ Mod [g] W w') := Lib.hid (by
                  intro C2 w' h2 r2 m2
                  refine ⟨C1 ++ C2, ?_, by simpa only [List.append_assoc] using r2, m2⟩
                  rw [HEA.out, HEB.out]
                  refine So.merged_two HC1.out h2 (fun ho hp hq hc => ?_)
                  rw [← HEA.out, ← HEB.out] at hc
                  rw [← HEA.out] at hp; rw [← HEB.out] at hq
                  exact HFIN.out ho hp hq hc)
                by_cases k1 : s' < la
                · have k1I : (mid : Int) < (en : Int) := by have := HEN.out; have := HMID.out; have := HM'.out; omega
                  by_cases k2 : d - s' < lb
                  · have k2I : (en : Int) < (b : Int) := by have := HEN.out; have := HB'.out; omega
                    have HC := Lib.hid (HIH.out (X ++ C1) A2 B2 Y mid en b g cap L wc (by rw [HA2.out, HB2.out]; have := HN.out; have := HD.out; omega) (by rw [HA2.out]; omega) (by rw [HB2.out]; omega) (HCC.out.past MY.out) (by rw [List.length_append, HXA.out, HCLn.out]; exact HMID.out) (by rw [List.length_append, HXA.out, HCLn.out, HA2.out]; have := HEN.out; have := HM'.out; omega) (by rw [List.length_append, HXA.out, HCLn.out, HA2.out, HB2.out]; have := HB'.out; have := HM'.out; omega)
                      (by have := RY.out; simpa only [List.append_assoc] using this) (Nat.lt_of_lt_of_le HG.out MY.out.size) (by have h1 := HLN.out; have h2 := HCLn.out; have h3 := HA1.out; have h4 := HB1.out; simp only [List.length_append] at h1 ⊢; omega) HSZ.out)
                    clear k1 k2
                    go_wp2_with fail
                    refine Calls.mono HC.out ?_
                    rintro e2 w2 ⟨rfl, C2, c2, r2, m2⟩
                    have R2 := Lib.hid r2; have M2 := Lib.hid m2; have HC2 := Lib.hid c2
                    clear r2 m2 HC c2
                    go_wp2_with fail
                    go_end0
                    exact ⟨rfl, FIN.out C2 _ HC2.out (by have := R2.out; simpa only [List.append_assoc] using this) (MY.out.trans M2.out (fun t ht => .inl ht))⟩
                  · have k2I : ¬ (en : Int) < (b : Int) := by have := HEN.out; have := HB'.out; omega
                    have hb0 : B2 = [] := List.length_eq_zero_iff.1 (by rw [HB2.out]; omega)
                    clear k1 k2
                    go_wp2_with fail
                    go_end0
                    exact ⟨rfl, FIN.out A2 _ (by rw [hb0]; exact So.merged_nil) (by have := RY.out; rw [hb0] at this; simpa using this) MY.out⟩
                · have k1I : ¬ (mid : Int) < (en : Int) := by have := HEN.out; have := HMID.out; have := HM'.out; omega
                  have ha0 : A2 = [] := List.length_eq_zero_iff.1 (by rw [HA2.out]; omega)
                  clear k1
                  go_wp2_with fail
                  go_end0
                  exact ⟨rfl, FIN.out B2 _ (by rw [ha0]; exact So.merged_nil') (by have := RY.out; rw [ha0] at this; simpa using this) MY.out⟩
end Go.Proofs.YtcalbbfkgdfidaaDoor
