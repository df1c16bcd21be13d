/- slices.symMergeCmpFunc: one thing put into a row ahead of it. (Th) -/
import Derived.Test.YtcalbbfkgdfidaaDoorSoPast
namespace Go.Proofs.YtcalbbfkgdfidaaDoor
open Go.RowKit Go.Sort Go.Lib
set_option linter.unusedVariables false
set_option linter.unusedSimpArgs false
set_option maxRecDepth 100000


set_option maxHeartbeats 4000000 in
theorem symBTh_any {enc : Nat → List Value} {f : Nat → Nat → Int} (E : Enc enc 2) (X A Y : List Nat) (y : Nat) (a m b g cap : Nat) (W : World) (hC : CmpOk 11 enc f W g) (ha : a = X.length) (hm : m = X.length + A.length) (hb : b = m + 1) (hA1 : A.length ≠ 1)
    (hR : Row enc 2 W g (X ++ (A ++ (y :: Y)))) (hg : g < W.heap.size) (L : Nat) (hL : (X ++ (A ++ (y :: Y))).length = L) (hsz : L ≤ 1152921504606846976) :
    Calls Tryd.prog 64 #[.slice (some ⟨g, 0, none⟩) L cap, .int .i64 a, .int .i64 m, .int .i64 b, .func (.func 11) #[] #[]] W fun e W' => e = .returned (.tuple #[]) ∧ ∃ C, So.Merged f A [y] C ∧ Row enc 2 W' g (X ++ (C ++ Y)) ∧ Mod [g] W W' := by
  have HR := Lib.hid hR; have HE := Lib.hid E; have HG := Lib.hid hg; have HCC := Lib.hid hC; have HSZ := Lib.hid hsz
  have hl : X.length + (A.length + (Y.length + 1)) = L := by rw [← hL]; simp
  have HL := Lib.hid hL
  obtain ⟨n, hn⟩ : ∃ n, A.length = n := ⟨_, rfl⟩
  rw [hn] at hm hl hA1
  have HNn := Lib.hid hn; have HA := Lib.hid ha; have HMm := Lib.hid hm; have HB := Lib.hid hb; have HLL := Lib.hid hl
  have hma : ¬ (m : Int) - (a : Int) = 1 := by omega
  have hmab : ((m : Int) - (a : Int) == 1) = false := by rw [beq_eq_false_iff_ne]; exact hma
  have hbm : (b : Int) - (m : Int) = 1 := by omega
  have hmn : m = a + n := by omega
  have HMN := Lib.hid hmn
  have ham : a ≤ m := by omega
  have hmL : m < L := by omega
  clear hR E hg hC hL hn ha hm hb hl hmn hA1
  go_enter Tryd.func64, Tryd.ntmps64
  go_wp2_with fail
  go_loopw [14, 15, 16] (fun iv jv _ wr => ∃ (i j i' j' : Nat), iv = .int .i64 (i : Nat) ∧ jv = .int .i64 (j : Nat) ∧ i = a + i' ∧ j = a + j' ∧ i' ≤ j' ∧ j' ≤ n ∧ So.Bs2 f A y i' j' ∧ Row enc 2 wr g (X ++ (A ++ (y :: Y))) ∧ Mod [g] W wr) (fun iv jv _ _ => (intOf jv).toNat - (intOf iv).toNat)
  case atStart => exact ⟨a, m, 0, n, rfl, rfl, rfl, HMN.out, by omega, Nat.le_refl _, by have := So.Bs2.start (f := f) A y; rw [HNn.out] at this; exact this, HR.out, Mod.refl _ _⟩
  case round =>
    obtain ⟨i, j, i', j', rfl, rfl, hi, hj, hij, hjn, hS, hr, hmm⟩ := hrel
    have HRR := Lib.hid hr; have HM := Lib.hid hmm; have HS := Lib.hid hS; have HI := Lib.hid hi; have HJ := Lib.hid hj
    clear hr hmm hS
    by_cases hlt : i < j
    · have hltI : (i : Int) < (j : Int) := by omega
      have hjL : j ≤ L := by have := HMN.out; omega
      obtain ⟨h', hh'⟩ : ∃ h', h' = (i' + j') / 2 := ⟨_, rfl⟩
      obtain ⟨h, hh⟩ : ∃ h, h = a + h' := ⟨_, rfl⟩
      clear hi hj
      have hb1 : i' ≤ h' ∧ h' < j' := by have := HI.out; have := HJ.out; omega
      have hhI : ((i : Int) + (j : Int)) / 2 = (h : Nat) := by have := HI.out; have := HJ.out; omega
      have hhL : h < L := by have := HMN.out; omega
      have hh'n : h' < A.length := by rw [HNn.out]; omega
      obtain ⟨lc, hlc⟩ : ∃ lc, lc = X ++ (A ++ (y :: Y)) := ⟨_, rfl⟩
      rw [← hlc] at HRR
      have hll : lc.length = L := by rw [hlc]; exact HL.out
      obtain ⟨z, hz⟩ : ∃ z, z = A[h'] := ⟨_, rfl⟩
      have hx1 : lc.getD h 0 = z := by
        rw [hlc, hz]
        exact getD_in X A (y :: Y) h' h hh'n (by have := HA.out; omega)
      have HZ : Hid (∀ hlt, z = A[h']'hlt) := Lib.hid (fun _ => hz)
      have hx2 : lc.getD m 0 = y := by
        rw [hlc, ← List.append_assoc]
        exact getD_at _ _ _ _ (by rw [List.length_append, HNn.out]; exact HMm.out)
      have hgw : g < wr.heap.size := Nat.lt_of_lt_of_le HG.out HM.out.size
      obtain ⟨x0, x1, y0, y1, hx, hy, ca0, ca1, cb0, cb1, _⟩ := HRR.out.swap2 HE.out Tryd.prog m h (by omega) (by omega)
      have HCL := Lib.hid ((HCC.out.past HM.out).call _ _ hx hy)
      rw [hx1, hx2] at HCL
      have ea0 := past_cell ca0; have ea1 := past_cell ca1; have eb0 := past_cell cb0; have eb1 := past_cell cb1
      have HH := Lib.hid hh; have HH' := Lib.hid hh'; have HB1 := Lib.hid hb1; have HLC := Lib.hid hlc; have HGW := Lib.hid hgw; have HHN := Lib.hid hh'n
      obtain ⟨r, hr⟩ : ∃ r, r = f y z := ⟨_, rfl⟩
      rw [← hr] at HCL
      have HRr := Lib.hid hr
      clear hx hy hx1 hx2 hh hh' hb1 hlc hgw hz hh'n hr hll
      have wq1 : IntKind.i64.wrap (h : Int) = (h : Int) := by rw [IntKind.wrap_i64]; omega
      by_cases hneg : r < 0
      · go_wp2_with fail
        have inh := past_one wr
        refine region_past (by kernel_rfl) (by kernel_rfl) ?_
        repeat (quiet_step (exact past_call (HCL.out _)))
        refine wpQuiet_nil ?_
        intro _ hw'
        obtain ⟨⟨wq, mq⟩, hw''⟩ := hw'
        subst hw''
        clear inh
        have R2 := Lib.hid (HRR.out.past mq HGW.out)
        have M2 := Lib.hid (HM.out.trans mq (by simp))
        clear HCL ca0 ca1 cb0 cb1 HRR HM mq
        go_wp2_with fail
        go_roundw
        case rel => exact ⟨i, h, i', h', rfl, rfl, HI.out, HH.out, by have := HB1.out; omega, by have := HB1.out; omega, HS.out.down HHN.out (by rw [← HZ.out HHN.out, ← HRr.out]; omega), by have := R2.out; rw [HLC.out] at this; exact this, M2.out⟩
        case measure => have := HB1.out; have := HH.out; have := HI.out; have := HJ.out; simp [intOf]; omega
      · have hn2 : decide (r < 0) = false := decide_eq_false hneg
        have hn3 : 0 ≤ r := by omega
        go_wp2_with fail
        have inh := past_one wr
        refine region_past (by kernel_rfl) (by kernel_rfl) ?_
        repeat (quiet_step (exact past_call (HCL.out _)))
        refine wpQuiet_nil ?_
        intro _ hw'
        obtain ⟨⟨wq, mq⟩, hw''⟩ := hw'
        subst hw''
        clear inh
        have R2 := Lib.hid (HRR.out.past mq HGW.out)
        have M2 := Lib.hid (HM.out.trans mq (by simp))
        clear HCL ca0 ca1 cb0 cb1 HRR HM mq
        go_wp2_with fail
        go_roundw
        case rel => exact ⟨h + 1, j, h' + 1, j', by go_num, rfl, by have := HH.out; omega, HJ.out, by have := HB1.out; omega, hjn, HS.out.up HHN.out (by rw [← HZ.out HHN.out, ← HRr.out]; omega), by have := R2.out; rw [HLC.out] at this; exact this, M2.out⟩
        case measure => have := HB1.out; have := HH.out; have := HI.out; have := HJ.out; simp [intOf]; omega
    · have hltI : ¬ (i : Int) < (j : Int) := by omega
      obtain rfl : i' = j' := by omega
      clear hi hj hij
      go_wp2_with fail
      go_loopw [17] (fun kv wr2 => ∃ (k k' : Nat), kv = .int .i64 (k : Nat) ∧ k = a + k' ∧ i' ≤ k' ∧ k' ≤ n ∧ Row enc 2 wr2 g (X ++ (A.take k' ++ (y :: (A.drop k' ++ Y)))) ∧ Mod [g] W wr2) (fun kv _ => (intOf kv).toNat)
      case atStart => exact ⟨m, n, rfl, HMN.out, hjn, Nat.le_refl _, by have := HRR.out; have e := HNn.out; rw [List.take_of_length_le (by omega), List.drop_of_length_le (by omega)]; exact this, HM.out⟩
      case round =>
        clear HRR HM
        obtain ⟨k, k', rfl, hk, hki, hkn, hr, hmm⟩ := hrel
        have HRR := Lib.hid hr; have HM := Lib.hid hmm; have HK := Lib.hid hk
        clear hr hmm hk
        by_cases hlt2 : i < k
        · have hkI : (i : Int) < (k : Int) := by omega
          obtain ⟨q', hq'⟩ : ∃ q', k' = q' + 1 := ⟨k' - 1, by have := HK.out; have := HI.out; omega⟩
          obtain ⟨q, hq⟩ : ∃ q, k = q + 1 := ⟨k - 1, by omega⟩
          have hqI : (k : Int) - 1 = (q : Nat) := by omega
          have hk'n : q' < A.length := by rw [HNn.out]; omega
          have hqL : q < L := by have := HK.out; have := HMN.out; omega
          have hkL : k < L := by have := HK.out; have := HMN.out; omega
          have hqa : q = a + q' := by have := HK.out; omega
          have wq1 : IntKind.i64.wrap (q : Int) = (q : Int) := by rw [IntKind.wrap_i64]; omega
          obtain ⟨lc, hlc⟩ : ∃ lc, lc = X ++ (A.take k' ++ (y :: (A.drop k' ++ Y))) := ⟨_, rfl⟩
          rw [← hlc] at HRR
          obtain ⟨z, hz⟩ : ∃ z, z = A[q'] := ⟨_, rfl⟩
          have HZ : Hid (∀ hlt, z = A[q']'hlt) := Lib.hid (fun _ => hz)
          have hl2 : lc = (X ++ A.take q') ++ z :: y :: (A.drop k' ++ Y) := by
            rw [hlc, hq', hz, List.take_succ_eq_append_getElem hk'n]
            simp only [List.append_assoc, List.cons_append, List.nil_append]
          have hll : lc.length = L := by
            rw [hlc, ← HL.out]
            simp only [List.length_append, List.length_cons, List.length_take, List.length_drop]
            have := HNn.out
            omega
          obtain ⟨x0, x1, y0, y1, hx, hy, ca0, ca1, cb0, cb1, s0, s1, s2, s3, hn⟩ := HRR.out.swap2 HE.out Tryd.prog k q (by omega) (by omega)
          have HN := Lib.hid hn; have HL2 := Lib.hid hl2; have HQ := Lib.hid hq; have HQ' := Lib.hid hq'; have HKN := Lib.hid hk'n; have HQA := Lib.hid hqa
          clear hx hy hn hl2 hlc hll hq hq' hz hk'n hqa
          go_wp2_with fail
          go_region
          have MN := Lib.hid (HM.out.trans (HN.out.2) (fun t ht => .inl ht))
          have RN := Lib.hid HN.out.1
          clear HN s0 s1 s2 s3 ca0 ca1 cb0 cb1 HRR HM
          generalize World.setCell _ _ _ = wn at *
          go_wp2_with fail
          go_roundw
          case rel =>
            refine ⟨q, q', by first | rfl | go_num, HQA.out, by have := HQ'.out; have := HQA.out; have := HI.out; have := HQ.out; omega, by have := HQ'.out; omega, ?_, MN.out⟩
            have h := RN.out
            have hkl : (A.take q').length = q' := by rw [List.length_take]; have := HKN.out; omega
            rw [HL2.out, swL_adj _ _ _ _ _ _ (by have := HA.out; have := HQA.out; have := HQ.out; rw [List.length_append, hkl]; omega) (by have := HA.out; have := HQA.out; rw [List.length_append, hkl]; omega)] at h
            rw [List.drop_eq_getElem_cons HKN.out, ← HZ.out HKN.out, ← HQ'.out]
            simpa only [List.append_assoc, List.cons_append, List.nil_append] using h
          case measure => have := HQ.out; simp [intOf]; omega
        · have hkI : ¬ (i : Int) < (k : Int) := by omega
          obtain rfl : k' = i' := by have := HK.out; have := HI.out; omega
          go_wp2_with fail
          refine bodyPost_ret (results_none rfl _ _ _) rfl ?_
          exact ⟨rfl, _, HS.out.fin, by simpa only [List.append_assoc, List.cons_append] using HRR.out, HM.out⟩
end Go.Proofs.YtcalbbfkgdfidaaDoor
