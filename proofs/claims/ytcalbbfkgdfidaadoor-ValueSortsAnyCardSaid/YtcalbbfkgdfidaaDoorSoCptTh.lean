/- slices.CompactFunc: of a row the first of each run. (Th) -/
import Derived.Test.YtcalbbfkgdfidaaDoorSoEqTh
import Derived.Test.YtcalbbfkgdfidaaDoorSoPl3
import Derived.Test.YtcalbbfkgdfidaaDoorSoCut
namespace Go.Proofs.YtcalbbfkgdfidaaDoor
open Go.RowKit Go.Sort Go.Lib
set_option linter.unusedVariables false
set_option linter.unusedSimpArgs false
set_option maxRecDepth 100000


theorem zeroTh (w : World) : (zeroValue 37).run Tryd.prog w = .ok (.agg #[.int .i64 0, .bool false]) w := by kernel_rfl
set_option maxHeartbeats 4000000 in
theorem compactTh_any {enc : Nat → List Value} {f : Nat → Nat → Int} (E : Enc enc 2) (C : List Nat) (n g cap p : Nat) (W : World) (hC : EqOkTh enc f W g p) (hR : Row enc 2 W g C) (hn : C.length = n) (hcap : n ≤ cap) (hg : g < W.heap.size) (hsz : n ≤ 1152921504606846976) :
    Calls Tryd.prog 30 #[.slice (some ⟨g, 0, none⟩) n cap, .func (.func 31) #[] #[.pointer (some ⟨p, 0, none⟩)]] W fun e W' => e = .returned (.slice (some ⟨g, 0, none⟩) (So.cpt f C).length cap) ∧ Row enc 2 W' g (So.cpt f C) ∧ Mod [g] W W' := by
  have HR := Lib.hid hR; have HE := Lib.hid E; have HG := Lib.hid hg; have HCC := Lib.hid hC; have HSZ := Lib.hid hsz; have HN := Lib.hid hn
  clear hR E hg hC hn
  by_cases hn2 : n < 2
  · have hnI : (n : Int) < 2 := by omega
    have hcp : So.cpt f C = C := by
      have := HN.out
      match C with
      | [] => rfl
      | [x] => rfl
      | x :: y :: l => simp at this; omega
    rw [hcp]
    have hl := HN.out
    go_enter Tryd.func30, Tryd.ntmps30
    go_wp2_with fail
    go_ret
    exact ⟨by rw [HN.out]; rfl, HR.out, Mod.refl _ _⟩
  · have hnI : ¬ (n : Int) < 2 := by omega
    go_enter Tryd.func30, Tryd.ntmps30
    go_wp2_with fail
    go_loopw [5] (fun kv wr => ∃ (k : Nat), kv = .int .i64 ((k + 1 : Nat) : Int) ∧ k + 1 ≤ n ∧ So.cpt f (C.take (k + 1)) = C.take (k + 1) ∧ Row enc 2 wr g C ∧ Mod [g] W wr) (fun kv _ => n - (intOf kv).toNat)
    case atStart => exact ⟨0, rfl, by omega, So.first_one C, HR.out, Mod.refl _ _⟩
    case round =>
      obtain ⟨k, rfl, hkn, hcp, hr, hm⟩ := hrel
      have HRR := Lib.hid hr; have HM := Lib.hid hm; have HCP := Lib.hid hcp
      obtain ⟨j, hj⟩ : ∃ j, k + 1 = j := ⟨_, rfl⟩
      rw [hj] at hkn ⊢
      have hgw : g < wr.heap.size := Nat.lt_of_lt_of_le HG.out HM.out.size
      have HGW := Lib.hid hgw; have HJ := Lib.hid hj
      clear hr hm hcp hgw hj
      by_cases hlt : j < n
      · have hltI : (j : Int) < (n : Int) := by omega
        have hjI : (j : Int) - 1 = (k : Nat) := by have := HJ.out; omega
        have hk1 : k < n := by have := HJ.out; omega
        have wk1 : IntKind.i64.wrap (k : Int) = (k : Int) := by rw [IntKind.wrap_i64]; omega
        have hjl : j < C.length := by rw [HN.out]; exact hlt
        have hkl : k < C.length := by rw [HN.out]; exact hk1
        obtain ⟨x0, x1, y0, y1, hx, hy, ca0, ca1, cb0, cb1, _⟩ := HRR.out.swap2 HE.out Tryd.prog j k hjl hkl
        have HCL := Lib.hid ((HCC.out.past HM.out).call _ _ hx hy)
        have ej : C.getD j 0 = C[j] := by rw [List.getD_eq_getElem?_getD, List.getElem?_eq_getElem hjl]; rfl
        have ek : C.getD k 0 = C[k] := by rw [List.getD_eq_getElem?_getD, List.getElem?_eq_getElem hkl]; rfl
        obtain ⟨r, hr⟩ : ∃ r, r = f C[j] C[k] := ⟨_, rfl⟩
        rw [ej, ek, ← hr] at HCL
        have ea0 := past_cell ca0; have ea1 := past_cell ca1; have eb0 := past_cell cb0; have eb1 := past_cell cb1
        have HF : Hid (∀ (h1 : k + 1 < C.length) (h2 : k < C.length), f C[k + 1] C[k] = r) := Lib.hid (fun h1 h2 => by subst hr; have hh := HJ.out; subst hh; rfl)
        clear hx hy hr ej ek hjl hkl
        by_cases h0 : r = 0
        · have hdd : decide (r = 0) = true := decide_eq_true h0
          rw [hdd] at HCL
          have H0 := Lib.hid h0
          clear hdd h0
          go_wp2_with fail
          have inh := past_one wr
          refine region_past (by kernel_rfl) (by kernel_rfl) ?_
          repeat (quiet_step (exact past_call (HCL.out _)))
          refine wpQuiet_nil ?_
          intro _ hw'
          obtain ⟨⟨wq, mq⟩, hw''⟩ := hw'
          subst hw''
          clear inh
          have R2 := Lib.hid (HRR.out.past mq HGW.out)
          have M2 := Lib.hid (HM.out.trans mq (by simp))
          clear HCL ca0 ca1 cb0 cb1 HRR HM mq
          go_wp2_with fail
          go_loopw [5, 7] (fun kv qv wr => ∃ (kk q k2 : Nat) (lc : List Nat), kv = .int .i64 (kk : Nat) ∧ qv = .int .i64 ((k2 + 1 : Nat) : Int) ∧ q = j + k2 ∧ So.Cm f C q kk lc ∧ Row enc 2 wr g lc ∧ Mod [g] W wr) (fun _ qv _ => n - (intOf qv).toNat)
          case atStart => exact ⟨j, j, 0, C, rfl, rfl, rfl, by have hh := HJ.out; subst hh; exact So.Cm.start (by rw [HN.out]; exact hlt) HCP.out (by rw [HF.out (by rw [HN.out]; exact hlt) (by rw [HN.out]; exact hk1)]; exact H0.out), R2.out, M2.out⟩
          case round =>
            clear HCP HF H0 R2 M2
            obtain ⟨kk, q, k2, lc, rfl, rfl, hq, hCm, hr, hm⟩ := hrel
            have R3 := Lib.hid hr; have M3 := Lib.hid hm; have HCm := Lib.hid hCm; have HQ := Lib.hid hq
            have hcl := hCm.length
            have hqn : q < n := by rw [← HN.out]; exact hCm.lt
            have hkkn : kk ≤ q := hCm.le
            obtain ⟨ki, hki⟩ : ∃ ki, k2 + 1 = ki := ⟨_, rfl⟩
            have hgw3 : g < wr.heap.size := Nat.lt_of_lt_of_le HG.out M3.out.size
            have HGW3 := Lib.hid hgw3; have HKI := Lib.hid hki
            rw [hki]
            clear hr hm hCm hki hgw3
            by_cases hlt2 : ki < n - j
            · have hltI2 : (ki : Int) < (n : Int) - (j : Int) := by omega
              have hk2I : (ki : Int) - 1 = (k2 : Nat) := by have := HKI.out; omega
              have wk2 : IntKind.i64.wrap (k2 : Int) = (k2 : Int) := by rw [IntKind.wrap_i64]; have := HKI.out; omega
              have hq1 : q + 1 < n := by have := HKI.out; omega
              have hq1l : q + 1 < C.length := by rw [HN.out]; exact hq1
              obtain ⟨x0, x1, y0, y1, hx, hy, ca0, ca1, cb0, cb1, _⟩ := R3.out.swap2 HE.out Tryd.prog (q + 1) q (by omega) (by omega)
              have HCL := Lib.hid ((HCC.out.past M3.out).call _ _ hx hy)
              rw [HCm.out.get (q + 1) (by omega) hq1l, HCm.out.get q (by omega) (by omega)] at HCL
              rw [show (q + 1) * 2 = j * 2 + ki * 2 by have := HKI.out; omega] at ca0 ca1
              rw [show q * 2 = j * 2 + k2 * 2 by omega] at cb0 cb1
              obtain ⟨r2, hr2⟩ : ∃ r, r = f C[q + 1] C[q] := ⟨_, rfl⟩
              rw [← hr2] at HCL
              have ea0 := past_cell ca0; have ea1 := past_cell ca1; have eb0 := past_cell cb0; have eb1 := past_cell cb1
              have HF2 : Hid (∀ (h1 : q + 1 < C.length) (h2 : q < C.length), f C[q + 1] C[q] = r2) := Lib.hid (fun h1 h2 => hr2.symm)
              clear hx hy hr2
              have hkj : ki < n - j := hlt2
              have hkj2 : k2 < n - j := by have := HKI.out; omega
              by_cases h0 : r2 = 0
              · have hdd : decide (r2 = 0) = true := decide_eq_true h0
                rw [hdd] at HCL
                have H0 := Lib.hid h0
                clear hdd h0
                go_wp2_with fail
                have inh := past_one wr
                refine region_past (by kernel_rfl) (by kernel_rfl) ?_
                repeat (quiet_step (exact past_call (HCL.out _)))
                refine wpQuiet_nil ?_
                intro _ hw'
                obtain ⟨⟨wq, mq⟩, hw''⟩ := hw'
                subst hw''
                clear inh
                have R4 := Lib.hid (R3.out.past mq HGW3.out)
                have M4 := Lib.hid (M3.out.trans mq (by simp))
                clear HCL ca0 ca1 cb0 cb1 R3 M3 mq
                go_wp2_with fail
                go_roundw
                case rel => exact ⟨kk, q + 1, ki, lc, rfl, by go_num, by have := HKI.out; have := HQ.out; omega, HCm.out.skip (by rw [HN.out]; exact hq1) (by rw [HF2.out (by rw [HN.out]; exact hq1) (by rw [HN.out]; exact hqn)]; exact H0.out), R4.out, M4.out⟩
                case measure => simp [intOf]; omega
              · have hdd : decide (r2 = 0) = false := decide_eq_false h0
                rw [hdd] at HCL
                have H0 := Lib.hid h0
                clear hdd h0
                go_wp2_with fail
                have inh := past_one wr
                refine region_past (by kernel_rfl) (by kernel_rfl) ?_
                repeat (quiet_step (exact past_call (HCL.out _)))
                refine wpQuiet_nil ?_
                intro _ hw'
                obtain ⟨⟨wq, mq⟩, hw''⟩ := hw'
                subst hw''
                clear inh
                have R4 := Lib.hid (R3.out.past mq HGW3.out)
                have M4 := Lib.hid (M3.out.trans mq (by simp))
                clear HCL ca0 ca1 cb0 cb1 ea0 ea1 eb0 eb1 R3 M3 mq
                obtain ⟨y0, y1, hy, cb0, cb1, s0, s1, hn4⟩ := R4.out.copy2 HE.out Tryd.prog kk (q + 1) (by omega) (by omega)
                have HN4 := Lib.hid hn4
                have eg := HCm.out.get (q + 1) (by omega) (by rw [HN.out]; exact hq1)
                have EG := Lib.hid eg
                rw [show (q + 1) * 2 = j * 2 + ki * 2 by have := HKI.out; have := HQ.out; omega] at cb0 cb1
                have hkkn2 : kk < n := by omega
                clear hy hn4 eg
                go_wp2_with fail
                have MN := Lib.hid (M4.out.trans (HN4.out.2) (fun t ht => .inl ht))
                have RN := Lib.hid HN4.out.1
                clear HN4 s0 s1 cb0 cb1 R4 M4
                generalize World.setCell _ _ _ = wn at *
                go_wp2_with fail
                go_roundw
                case rel => exact ⟨kk + 1, q + 1, ki, lc.set kk (C[q + 1]'(by rw [HN.out]; exact hq1)), by go_num, by go_num, by have := HKI.out; have := HQ.out; omega, HCm.out.keep (by rw [HN.out]; exact hq1) (by rw [HF2.out (by rw [HN.out]; exact hq1) (by rw [HN.out]; exact hqn)]; exact H0.out), by have h := RN.out; rw [EG.out] at h; exact h, MN.out⟩
                case measure => simp [intOf]; omega
            · have hltI2 : ¬ (ki : Int) < (n : Int) - (j : Int) := by omega
              have hqe : q + 1 = C.length := by rw [HN.out]; have := HKI.out; omega
              obtain ⟨R, eR, hK⟩ := HCm.out.fin hqe
              have hRl : lc.length = n := by rw [hcl]; exact HN.out
              obtain ⟨vs, hcl0⟩ := run_clear_k (P := Tryd.prog) wr 35 37 35 (.agg #[.int .i64 0, .bool false]) 2 Tryd.underlying35 zeroTh rfl (fun v hv => by simp [Value.cells] at hv; rcases hv with rfl | rfl <;> rfl) g (kk * 2) (n - kk) (cap - kk) (by omega) (fun i hi => R3.out.there _ (by rw [hRl]; have : (n - kk) * 2 = n * 2 - kk * 2 := Nat.sub_mul ..; omega))
              have hcl2 : ∀ ty, (Builtin.clear_ #[35] ty #[.slice (some ⟨g, kk * 2, none⟩) (n - kk) (cap - kk)]).run Tryd.prog wr = .ok (.tuple #[]) (wr.setCells g (kk * 2) vs) := fun _ => hcl0
              have RF : Hid (Row enc 2 (wr.setCells g (kk * 2) vs) g (So.cpt f C)) := Lib.hid (Row.cut (Row.pre (R := R) (by rw [← eR]; exact R3.out)) vs _ (by rw [hK]))
              have MF : Hid (Mod [g] W (wr.setCells g (kk * 2) vs)) := Lib.hid (M3.out.trans (mod_setCells g vs _ _) (fun t ht => .inl ht))
              have HK := Lib.hid hK
              have hkc : kk ≤ cap := by omega
              have hkn3 : kk ≤ n := by omega
              clear hcl0 hqe eR hK hcl hRl R3 M3
              go_wp2_with fail
              go_ret
              exact ⟨by rw [HK.out]; rfl, RF.out, MF.out⟩
        · have hdd : decide (r = 0) = false := decide_eq_false h0
          rw [hdd] at HCL
          have H0 := Lib.hid h0
          clear hdd h0
          go_wp2_with fail
          have inh := past_one wr
          refine region_past (by kernel_rfl) (by kernel_rfl) ?_
          repeat (quiet_step (exact past_call (HCL.out _)))
          refine wpQuiet_nil ?_
          intro _ hw'
          obtain ⟨⟨wq, mq⟩, hw''⟩ := hw'
          subst hw''
          clear inh
          have R2 := Lib.hid (HRR.out.past mq HGW.out)
          have M2 := Lib.hid (HM.out.trans mq (by simp))
          clear HCL ca0 ca1 cb0 cb1 HRR HM mq
          go_wp2_with fail
          go_roundw
          case rel => exact ⟨j, by go_num, by omega, by have hh := HJ.out; subst hh; exact So.first_next (by rw [HN.out]; exact hlt) HCP.out (by rw [HF.out (by rw [HN.out]; exact hlt) (by rw [HN.out]; exact hk1)]; exact H0.out), R2.out, M2.out⟩
          case measure => simp [intOf]; omega
      · have hltI : ¬ (j : Int) < (n : Int) := by omega
        have hcc : So.cpt f C = C := So.first_end (k := k + 1) (by rw [HN.out]; have := HJ.out; omega) HCP.out
        have HCc := Lib.hid hcc
        clear hcc
        go_wp2_with fail
        go_ret
        rw [HCc.out]
        exact ⟨by rw [HN.out]; rfl, HRR.out, HM.out⟩
end Go.Proofs.YtcalbbfkgdfidaaDoor
