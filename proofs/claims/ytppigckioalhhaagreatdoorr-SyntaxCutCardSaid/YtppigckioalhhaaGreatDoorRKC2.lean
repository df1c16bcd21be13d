/- SyntaxCut: the frame: the statement's arguments opened, the card tied. -/
import Derived.Test.YtppigckioalhhaaGreatDoorRKC1
import Derived.Test.YtppigckioalhhaaGreatDoorRKB10
import Derived.Test.YtppigckioalhhaaGreatDoorRRows
import Derived.ProofKit
import Derived.OpenShut
import Derived.LaidMore
import Derived.Stop.LaidErr
import Derived.Stop.Joined
import Derived.Test.YtppigckioalhhaaGreatDoorRCards
import Derived.Test.YtppigckioalhhaaGreatDoorRTie
import Derived.ShutString
import Derived.SizedLaws
import Derived.JoinedCond
import Derived.Deep.CondSized
import Derived.Deep.DeepHandedRow
import Derived.Deep.DeepWitnessRowRef
import Derived.SevenTiedAt
/- THE LAW SyntaxCut. Printed by wip/gen_sylawcut.py. -/
namespace Go.Proofs.YtppigckioalhhaaGreatDoorR
open Go.RowKit
set_option linter.unusedVariables false
set_option linter.unusedSimpArgs false
set_option maxRecDepth 100000

theorem str_take (s : ByteArray) (n : Nat) : Cod.str (s.extract 0 n) = (Cod.str s).take n := by
  rw [Lx.str_extract, List.drop_zero, Nat.sub_zero]
/-- a program's two lists -/
theorem valP_lit {n : Nat} {p : Pr.Prog} {w : World} {C : Array Value} (h : valP n p w (.agg C)) : ∃ a1 c1 a2 c2, C = #[.slice a1 p.rels.length c1, .slice a2 p.rules.length c2] := by
  obtain ⟨rels, rus, u1, u2, h0, hpp, hb1, hb2, hs1, hs2⟩ := h
  obtain ⟨a1, c1, rfl⟩ := hb1.lit
  obtain ⟨a2, c2, rfl⟩ := hb2.lit
  simp only [Value.agg.injEq] at h0
  subst hpp
  exact ⟨a1, c1, a2, c2, by rw [h0]; simp⟩
theorem fault_code (l : List Nat) : (Lx.fault l).1 = (Lx.given l).2.code := by
  unfold Lx.fault
  split
  · rename_i h; rw [h]
  · rfl

set_option maxHeartbeats 16000000 in
theorem SyntaxCut_any (s : ByteArray) (at_ : Int) (hs : s.size ≤ 140737488351232) (hat : -9223372036854775808 ≤ at_ ∧ at_ ≤ 9223372036854775807) (w : World) (hG : Glob w) :
    Calls Tryz.prog 7 #[.string s, .int .i64 at_] w fun e w' => e = .returned (.bool true) ∧ Mod [] w w' := by
  have hP := fun w hG => entP_any s (by omega) w hG
  have hT := fun w hG => Tokens_any s (by omega) w hG
  have hnz : Sy.Nz (Sy.whole (Sy.envOf (Cod.str s)) (Sy.prog (Sy.envOf (Cod.str s)))) := Sy.nz_whole (Sy.env_last _) (Sy.nz_prog (Sy.env_last _) 0)
  have hcut := fun {p : Pr.Prog} {j : Nat} => Sy.cut_law (p := p) (j := j) (Cod.str_lt s)
  have hE := fun n w hG => entP_any (s.extract 0 n) (by simp [ByteArray.size_extract]; omega) w hG
  have hlen := Cod.str_len s
  simp only [str_take] at hE
  have hnz2 : ∀ n, Sy.Nz (Sy.whole (Sy.envOf ((Cod.str s).take n)) (Sy.prog (Sy.envOf ((Cod.str s).take n)))) := fun n => Sy.nz_whole (Sy.env_last _) (Sy.nz_prog (Sy.env_last _) 0)
  have hoff := fun ln cl h1 h2 h3 w => offset_any s (by omega) ln cl h1 h2 h3 w
  have htk := Sy.env_toks (Cod.str s) (Cod.str_lt s)
  obtain ⟨sl, hsl⟩ : ∃ sl, Cod.str s = sl := ⟨_, rfl⟩
  rw [hsl] at hP hT hnz hcut hE hnz2 hoff hlen htk
  clear hsl
  have HT := Lib.hid hT; have HE := Lib.hid hE; have HOF := Lib.hid hoff
  clear hT hE hoff
  obtain ⟨q, hq⟩ : ∃ q, Sy.whole (Sy.envOf sl) (Sy.prog (Sy.envOf sl)) = q := ⟨_, rfl⟩
  rw [hq] at hP hnz hcut
  cases q with
  | err g =>
    have hg := hnz g rfl
    have hgB : ((g.1 : Int) != 0) = true := by rw [bne_iff_ne]; omega
    have HP := Lib.hid hP
    clear hP hcut hnz hnz2 hq hg htk HE HOF
    go_enter Tryz.func7, Tryz.ntmps7
    go_wp2_with fail
    refine (shown_any w hG).mono ?_
    rintro e0 w0 ⟨rfl, m0⟩
    have M0 := Lib.hid m0
    clear m0
    go_wp2_with fail
    refine (HP.out w0 (hG.past M0.out (by simp))).mono ?_
    rintro e1 w1 ⟨rfl, m1⟩
    have M1 := Lib.hid (M0.out.trans m1 (by simp))
    clear m1
    unfold fltC

    have mA := ((Mod.refl [] w1).alloc (Obj.cells #[.slice none 0 0, .slice none 0 0] 26)).alloc (Obj.cells #[.int .i64 (g.1 : Nat), .int .i64 (g.2.1 : Nat), .int .i64 (g.2.2 : Nat)] 31)
    have eA := two_b w1 #[.slice none 0 0, .slice none 0 0] #[.int .i64 (g.1 : Nat), .int .i64 (g.2.1 : Nat), .int .i64 (g.2.2 : Nat)] 26 31
    go_upto_region 3 with fail
    generalize (w1.alloc (Obj.cells _ 26)).alloc (Obj.cells _ 31) = w2 at *
    have M2 := Lib.hid (M1.out.trans mA (by simp)); have EA := Lib.hid eA
    clear mA eA
    go_wp2_with fail
    refine (HT.out w2 (hG.past M2.out (by simp))).mono ?_
    rintro e3 w3 ⟨tv, rfl, hrow, m3⟩
    obtain ⟨ta, tc, rfl⟩ := hrow.lit
    have M3 := Lib.hid (M2.out.trans m3 (by simp)); have E3 := Lib.hid (m3.at EA.out (by simp)); have HR3 := Lib.hid hrow
    clear m3 EA hrow
    generalize hfl : Lx.fault sl = fl at *
    have HFL := Lib.hid hfl
    clear hfl
    generalize htl : Lx.tokens sl = tl at *
    have HTL := Lib.hid htl
    clear htl
    unfold fltV
    have mB := (Mod.refl [] w3).alloc (Obj.cells #[.int .i64 (fl.1 : Nat), .int .i64 (fl.2.1 : Nat), .int .i64 (fl.2.2 : Nat)] 31)
    have eB := heap_alloc_new w3 (Obj.cells #[.int .i64 (fl.1 : Nat), .int .i64 (fl.2.1 : Nat), .int .i64 (fl.2.2 : Nat)] 31)
    have hz3 := lt_of_block E3.out
    go_upto_region 4 with fail
    generalize w3.alloc (Obj.cells _ 31) = w4 at *
    have M4 := Lib.hid (M3.out.trans mB (by simp)); have E4 := Lib.hid (mB.at E3.out (by simp)); have F4 := Lib.hid eB; have HR4 := Lib.hid (HR3.out.past mB (by simp))
    clear mB eB E3 HR3
    have f0 := cell_at E4.out 0
    have f1 := cell_at F4.out 0
    simp only [List.getElem?_toArray, List.getElem?_cons_zero] at f0 f1

    go_wp2_with fail
    go_ret
    exact ⟨rfl, M4.out⟩
  | ok p j =>
    have HP := Lib.hid hP
    clear hP hnz
    by_cases hc : (Lx.given sl).2.code = 0
    · have htoks : Lx.tokens sl = (Lx.given sl).1 := by unfold Lx.tokens; rw [if_pos hc]
      have hflt : Lx.fault sl = (0, 0, 0) := by unfold Lx.fault; rw [if_pos hc]
      have HTO := Lib.hid htoks; have HCU := Lib.hid (fun (k : Nat) (hk : k < (Lx.given sl).1.length) => hcut rfl hc hk); have HN2 := Lib.hid hnz2; have HFT := Lib.hid hflt
      clear htoks hcut hq hnz2 hflt
      go_enter Tryz.func7, Tryz.ntmps7
      go_wp2_with fail
      refine (shown_any w hG).mono ?_
      rintro e0 w0 ⟨rfl, m0⟩
      have M0 := Lib.hid m0
      clear m0
      go_wp2_with fail
      refine (HP.out w0 (hG.past M0.out (by simp))).mono ?_
      rintro e1 w1 ⟨C, rfl, hval, m1⟩
      have M1 := Lib.hid (M0.out.trans m1 (by simp))
      obtain ⟨a1, c1, a2, c2, rfl⟩ := valP_lit hval
      clear m1 hval
      generalize p.rels.length = n1 at *
      generalize p.rules.length = n2 at *

      have mA := ((Mod.refl [] w1).alloc (Obj.cells #[.slice a1 n1 c1, .slice a2 n2 c2] 26)).alloc (Obj.cells #[.int .i64 0, .int .i64 0, .int .i64 0] 31)
      have eA := two_b w1 #[.slice a1 n1 c1, .slice a2 n2 c2] #[.int .i64 0, .int .i64 0, .int .i64 0] 26 31
      go_upto_region 3 with fail
      generalize (w1.alloc (Obj.cells _ 26)).alloc (Obj.cells _ 31) = w2 at *
      have M2 := Lib.hid (M1.out.trans mA (by simp)); have EA := Lib.hid eA
      clear mA eA
      go_wp2_with fail
      refine (HT.out w2 (hG.past M2.out (by simp))).mono ?_
      rintro e3 w3 ⟨tv, rfl, hrow, m3⟩
      obtain ⟨ta, tc, rfl⟩ := hrow.lit
      have M3 := Lib.hid (M2.out.trans m3 (by simp)); have E3 := Lib.hid (m3.at EA.out (by simp)); have HR3 := Lib.hid hrow
      clear m3 EA hrow
      generalize hfl : Lx.fault sl = fl at *
      have HFL := Lib.hid hfl
      clear hfl
      generalize htl : Lx.tokens sl = tl at *
      have HTL := Lib.hid htl
      clear htl
      unfold fltV
      have mB := (Mod.refl [] w3).alloc (Obj.cells #[.int .i64 (fl.1 : Nat), .int .i64 (fl.2.1 : Nat), .int .i64 (fl.2.2 : Nat)] 31)
      have eB := heap_alloc_new w3 (Obj.cells #[.int .i64 (fl.1 : Nat), .int .i64 (fl.2.1 : Nat), .int .i64 (fl.2.2 : Nat)] 31)
      have hz3 := lt_of_block E3.out
      go_upto_region 4 with fail
      generalize w3.alloc (Obj.cells _ 31) = w4 at *
      have M4 := Lib.hid (M3.out.trans mB (by simp)); have E4 := Lib.hid (mB.at E3.out (by simp)); have F4 := Lib.hid eB; have HR4 := Lib.hid (HR3.out.past mB (by simp))
      clear mB eB E3 HR3
      have f0 := cell_at E4.out 0
      have f1 := cell_at F4.out 0
      simp only [List.getElem?_toArray, List.getElem?_cons_zero] at f0 f1

      have hfB : ((fl.1 : Int) != 0) = false := by rw [HFT.out]; rfl
      by_cases hne : tl = []
      · subst hne
        go_wp2_with fail
        go_ret
        exact ⟨rfl, M4.out⟩
      · have hl0 : 0 < tl.length := List.length_pos_iff.2 hne
        have hlb : ((tl.length : Int) == 0) = false := by rw [beq_eq_false_iff_ne]; omega
        clear hne
        have htlen : tl.length ≤ 65536 := by rw [HTO.out]; exact htk.2
        go_wp2_with fail
        refine (pick_any at_ tl.length hat (by omega) (by omega) _).mono ?_
        rintro e5 w5 ⟨rfl, rfl⟩
        obtain ⟨hk0, hk1⟩ := pick_lt at_ tl.length (by omega)
        obtain ⟨k, hk⟩ : ∃ k : Nat, pickI at_ tl.length = k := ⟨(pickI at_ tl.length).toNat, by omega⟩
        rw [hk] at hk0 hk1 ⊢
        clear hk
        have hkl : k < tl.length := by omega
        have htok := fun t ht => htk.1 t ht
        have hws : (Sy.envOf sl).ws = (Lx.given sl).1 := rfl
        rw [hws] at htok
        have HCU2 := Lib.hid HCU.out
        clear HCU htk hws
        generalize hW : (Lx.given sl).1 = W at *
        obtain rfl : tl = W := HTO.out
        clear hW
        obtain ⟨n, cu1, cu2, cu3, cu3b, cu4, cu5, cu6⟩ := HCU2.out k hkl
        have hok := htok _ (List.getElem_mem hkl)
        obtain ⟨g, c, hcl, t0, t1, t2, t3, t4, t5, t6⟩ := HR4.out.at k tl[k] (List.getElem?_eq_getElem hkl)
        simp only [Value.slice.injEq] at hcl
        obtain ⟨rfl, -, rfl⟩ := hcl
        clear HCU2 htok HTO
        generalize tl[k] = t at *
        obtain ⟨kd, tx, vk, nu, sy, ln, cl⟩ := t
        dsimp only at cu1 cu2 cu3 cu3b cu4 cu5 cu6 t0 t1 t2 t3 t4 t5 t6 hok
        have hkI : (k : Int) < (tl.length : Int) := by omega
        obtain ⟨tB, htB⟩ : ∃ tB, Lx.ofS tx = tB := ⟨_, rfl⟩
        have hts : tB.size = tx.length := by rw [← htB]; simp [Lx.ofS, ByteArray.size]
        rw [htB] at t1
        have HTB := Lib.hid htB; have CU6 := Lib.hid cu6; have HOK := Lib.hid hok
        have hOF := HOF.out ln cl cu3 (by omega) (by omega)
        generalize Lx.offF sl (ln - 1) = Q at *
        have HOFF := Lib.hid hOF
        have hn1 : n ≤ s.size := by omega
        have hnI : IntKind.i64.wrap ((Q : Int) + (cl : Int) - 1 + (tx.length : Int)) = (n : Int) := by
          have e : (Q : Int) + (cl : Int) - 1 + (tx.length : Int) = (n : Int) := by omega
          rw [e]
          exact IntWalk.i64_in _ (by omega)
        have HNI := Lib.hid hnI
        clear htB cu6 hok hOF hnI HOF
        go_upto_region 7 with fail
        have mC := (Mod.refl [] w5).alloc (Obj.cells #[.int .i64 (kd : Nat), .string tB, .int .i64 (vk : Nat), .int .i64 (nu : Nat), .string (Lx.ofS sy), .int .i64 (ln : Nat), .int .i64 (cl : Nat)] 74)
        have eC := heap_alloc_new w5 (Obj.cells #[.int .i64 (kd : Nat), .string tB, .int .i64 (vk : Nat), .int .i64 (nu : Nat), .string (Lx.ofS sy), .int .i64 (ln : Nat), .int .i64 (cl : Nat)] 74)
        generalize w5.alloc (Obj.cells _ 74) = w7 at *
        have M7 := Lib.hid (M4.out.trans mC (by simp)); have T7 := Lib.hid eC
        have QA := Lib.hid (show w7.cell? ⟨w5.heap.size, 1, none⟩ = some (.string tB) from cell_at eC 1); have QB := Lib.hid (show w7.cell? ⟨w5.heap.size, 5, none⟩ = some (.int .i64 (ln : Nat)) from cell_at eC 5); have QC := Lib.hid (show w7.cell? ⟨w5.heap.size, 6, none⟩ = some (.int .i64 (cl : Nat)) from cell_at eC 6)
        clear mC eC t0 t1 t2 t3 t4 t5 t6 E4 F4 HR4 M4
        refine wp_region_held_drew (S := (fun w' : World => Mod [] w7 w')) (by kernel_rfl) (by (try dsimp only); exact (Mod.refl [] w7).drew) (fun hHeld => ?_)
        refine wpAnyH_take (i := 0) (oi := ?_) (v := ?_) ?_ ?_ ?_ ?_ ?_ ?_ (by assumption) ?_
        rotate_left 2
        · (simp only [List.getElem?_toArray, List.getElem?_cons_succ, List.getElem?_cons_zero]) <;> rfl
        · kernel_rfl
        · kernel_rfl
        · kernel_rfl
        rotate_left 1
        · refine Or.inl ⟨by rfl, ?_⟩
          intro w hSw
          have q1 := hSw.cell QA.out (by simp); have q5 := hSw.cell QB.out (by simp); have q6 := hSw.cell QC.out (by simp); clear hSw
          go_simp
          all_goals with_reducible rfl
        rotate_left 1
        · exact fun _ _ _ h => h
        try simp only [Act.put, List.setIfInBounds_toArray, List.set_cons_zero, List.set_cons_succ]
        refine wpAnyH_take (i := 1) (oi := ?_) (v := ?_) ?_ ?_ ?_ ?_ ?_ ?_ (by assumption) ?_
        rotate_left 2
        · (simp only [List.getElem?_toArray, List.getElem?_cons_succ, List.getElem?_cons_zero]) <;> rfl
        · kernel_rfl
        · kernel_rfl
        · kernel_rfl
        rotate_left 1
        · refine Or.inl ⟨by rfl, ?_⟩
          intro w hSw
          have q1 := hSw.cell QA.out (by simp); have q5 := hSw.cell QB.out (by simp); have q6 := hSw.cell QC.out (by simp); clear hSw
          go_simp
          all_goals with_reducible rfl
        rotate_left 1
        · exact fun _ _ _ h => h
        try simp only [Act.put, List.setIfInBounds_toArray, List.set_cons_zero, List.set_cons_succ]
        refine wpAnyH_take (i := 2) (oi := ?_) (v := ?_) ?_ ?_ ?_ ?_ ?_ ?_ (by assumption) ?_
        rotate_left 2
        · (simp only [List.getElem?_toArray, List.getElem?_cons_succ, List.getElem?_cons_zero]) <;> rfl
        · kernel_rfl
        · kernel_rfl
        · kernel_rfl
        rotate_left 1
        · refine Or.inl ⟨by rfl, ?_⟩
          intro w hSw
          have q1 := hSw.cell QA.out (by simp); have q5 := hSw.cell QB.out (by simp); have q6 := hSw.cell QC.out (by simp); clear hSw
          go_simp
          all_goals with_reducible rfl
        rotate_left 1
        · exact fun _ _ _ h => h
        try simp only [Act.put, List.setIfInBounds_toArray, List.set_cons_zero, List.set_cons_succ]
        refine wpAnyH_take (i := 4) (oi := ?_) (v := ?_) ?_ ?_ ?_ ?_ ?_ ?_ (by assumption) ?_
        rotate_left 2
        · (simp only [List.getElem?_toArray, List.getElem?_cons_succ, List.getElem?_cons_zero]) <;> rfl
        · kernel_rfl
        · kernel_rfl
        · kernel_rfl
        rotate_left 1
        · refine Or.inl ⟨by rfl, ?_⟩
          intro w hSw
          have q1 := hSw.cell QA.out (by simp); have q5 := hSw.cell QB.out (by simp); have q6 := hSw.cell QC.out (by simp); clear hSw
          go_simp
          all_goals with_reducible rfl
        rotate_left 1
        · exact fun _ _ _ h => h
        try simp only [Act.put, List.setIfInBounds_toArray, List.set_cons_zero, List.set_cons_succ]
        refine wpAnyH_take (i := 5) (oi := ?_) (v := ?_) ?_ ?_ ?_ ?_ ?_ ?_ (by assumption) ?_
        rotate_left 2
        · (simp only [List.getElem?_toArray, List.getElem?_cons_succ, List.getElem?_cons_zero]) <;> rfl
        · kernel_rfl
        · kernel_rfl
        · kernel_rfl
        rotate_left 1
        · refine Or.inl ⟨by rfl, ?_⟩
          intro w hSw
          have q1 := hSw.cell QA.out (by simp); have q5 := hSw.cell QB.out (by simp); have q6 := hSw.cell QC.out (by simp); clear hSw
          go_simp
          all_goals with_reducible rfl
        rotate_left 1
        · exact fun _ _ _ h => h
        try simp only [Act.put, List.setIfInBounds_toArray, List.set_cons_zero, List.set_cons_succ]
        refine wpAnyH_take (i := 6) (oi := ?_) (v := ?_) ?_ ?_ ?_ ?_ ?_ ?_ (by assumption) ?_
        rotate_left 2
        · (simp only [List.getElem?_toArray, List.getElem?_cons_succ, List.getElem?_cons_zero]) <;> rfl
        · kernel_rfl
        · kernel_rfl
        · kernel_rfl
        rotate_left 1
        · refine Or.inl ⟨by rfl, ?_⟩
          intro w hSw
          have q1 := hSw.cell QA.out (by simp); have q5 := hSw.cell QB.out (by simp); have q6 := hSw.cell QC.out (by simp); clear hSw
          go_simp
          all_goals with_reducible rfl
        rotate_left 1
        · exact fun _ _ _ h => h
        try simp only [Act.put, List.setIfInBounds_toArray, List.set_cons_zero, List.set_cons_succ]
        refine wpAnyH_ready (rs := [3]) (by kernel_rfl) (by simp) ?_
        refine AllReadyH.cons (o := ?_) ?_ ?_ AllReadyH.nil
        rotate_left 1
        · (simp only [List.getElem?_toArray, List.getElem?_cons_succ, List.getElem?_cons_zero]) <;> rfl
        intro K hK
        go_simp
        refine (HOFF.out _).mono ?_
        rintro e8 w8 ⟨rfl, m8⟩
        have M8 := Lib.hid (((Mod.refl [] w7).drew).trans m8 (by simp))
        clear m8
        refine hK.out _ _ (by (try dsimp only); exact M8.out) (fun hHeld => ?_)
        clear hK K
        try simp only [Act.put, List.setIfInBounds_toArray, List.set_cons_zero, List.set_cons_succ]
        refine wpAnyH_take (i := 7) (oi := ?_) (v := ?_) ?_ ?_ ?_ ?_ ?_ ?_ (by assumption) ?_
        rotate_left 2
        · (simp only [List.getElem?_toArray, List.getElem?_cons_succ, List.getElem?_cons_zero]) <;> rfl
        · kernel_rfl
        · kernel_rfl
        · kernel_rfl
        rotate_left 1
        · refine Or.inl ⟨by rfl, ?_⟩
          intro w hSw
          clear hSw
          go_simp
          all_goals with_reducible rfl
        rotate_left 1
        · exact fun _ _ _ h => h
        try simp only [Act.put, List.setIfInBounds_toArray, List.set_cons_zero, List.set_cons_succ]
        refine wpAnyH_take (i := 8) (oi := ?_) (v := ?_) ?_ ?_ ?_ ?_ ?_ ?_ (by assumption) ?_
        rotate_left 2
        · (simp only [List.getElem?_toArray, List.getElem?_cons_succ, List.getElem?_cons_zero]) <;> rfl
        · kernel_rfl
        · kernel_rfl
        · kernel_rfl
        rotate_left 1
        · refine Or.inl ⟨by rfl, ?_⟩
          intro w hSw
          clear hSw
          go_simp
          all_goals with_reducible rfl
        rotate_left 1
        · exact fun _ _ _ h => h
        try simp only [Act.put, List.setIfInBounds_toArray, List.set_cons_zero, List.set_cons_succ]
        refine wpAnyH_done (by kernel_rfl) ?_ _

        rw [HNI.out]
        have n0 : ¬ (n : Int) < 0 := by omega
        have n1 : ¬ (n : Int) > (s.size : Int) := by omega
        have n2 : ¬ (s.size : Int) < (n : Int) := by omega
        have n3 : (n : Int) ≤ (s.size : Int) := by omega
        have n4 : (0 : Int) ≤ (n : Int) := by omega
        have M9 := Lib.hid (M7.out.trans M8.out (by simp)); have T9 := Lib.hid (M8.out.at T7.out (by simp))
        have hE2 := HE.out n w8 (hG.past M9.out (by simp))
        have hz8 := lt_of_block T9.out
        clear QA QB QC HOFF HNI
        rcases CU6.out with ⟨q2, i2, hw2, htx, hkd⟩ | hw2
        · rw [hw2] at hE2
          have HE2 := Lib.hid hE2
          clear hE2 hw2 HE CU6 HN2
          subst hkd
          obtain rfl : tB = { data := #[46] } := by rw [← HTB.out, htx]; rfl
          clear htx
          go_wp2_with fail
          refine HE2.out.mono ?_
          rintro e9 w9 ⟨C, rfl, hv9, m9⟩
          obtain ⟨b1, d1, b2, d2, rfl⟩ := valP_lit hv9
          generalize q2.rels.length = r1 at *
          generalize q2.rules.length = r2 at *
          have mA := ((Mod.refl [] w9).alloc (Obj.cells #[.slice b1 r1 d1, .slice b2 r2 d2] 26)).alloc (Obj.cells #[.int .i64 0, .int .i64 0, .int .i64 0] 31)
          have eA := two_b w9 #[.slice b1 r1 d1, .slice b2 r2 d2] #[.int .i64 0, .int .i64 0, .int .i64 0] 26 31
          have TA := Lib.hid (mA.at (m9.at T9.out (by simp)) (by simp)); have MA := Lib.hid ((M9.out.trans m9 (by simp)).trans mA (by simp))
          go_upto_region 11 with fail
          generalize (w9.alloc (Obj.cells _ 26)).alloc (Obj.cells _ 31) = wA at *
          have f0 : wA.cell? ⟨w9.heap.size + 1, 0, none⟩ = some (.int .i64 0) := cell_at eA 0
          have q0 : wA.cell? ⟨w5.heap.size, 0, none⟩ = some (.int .i64 5) := cell_at TA.out 0
          have q1 : wA.cell? ⟨w5.heap.size, 1, none⟩ = some (.string { data := #[46] }) := cell_at TA.out 1
          clear eA mA hv9 m9
          go_wp2_with fail
          go_ret
          exact ⟨rfl, MA.out⟩
        · rw [hw2] at hE2
          have HE2 := Lib.hid hE2
          clear hE2 hw2 HE CU6 HN2
          obtain ⟨P, hP⟩ : ∃ P, cl + tx.length = P := ⟨_, rfl⟩
          rw [hP] at HE2
          have hPb : ((P : Int) == (cl : Int) + (tB.size : Int)) = true := by rw [beq_iff_eq]; omega
          have hPc : ((P : Int) == (cl : Int) + (tx.length : Int)) = true := by rw [beq_iff_eq]; omega
          clear hP
          go_wp2_with fail
          refine HE2.out.mono ?_
          rintro e9 w9 ⟨rfl, m9⟩
          unfold fltC
          dsimp only
          have mA := ((Mod.refl [] w9).alloc (Obj.cells #[.slice none 0 0, .slice none 0 0] 26)).alloc (Obj.cells #[.int .i64 (42 : Nat), .int .i64 (ln : Nat), .int .i64 (P : Nat)] 31)
          have eA := two_b w9 #[.slice none 0 0, .slice none 0 0] #[.int .i64 (42 : Nat), .int .i64 (ln : Nat), .int .i64 (P : Nat)] 26 31
          have gA := two_a w9 #[.slice none 0 0, .slice none 0 0] #[.int .i64 (42 : Nat), .int .i64 (ln : Nat), .int .i64 (P : Nat)] 26 31
          have TA := Lib.hid (mA.at (m9.at T9.out (by simp)) (by simp)); have MA := Lib.hid ((M9.out.trans m9 (by simp)).trans mA (by simp))
          go_upto_region 11 with fail
          generalize (w9.alloc (Obj.cells _ 26)).alloc (Obj.cells _ 31) = wA at *
          have f0 : wA.cell? ⟨w9.heap.size + 1, 0, none⟩ = some (.int .i64 42) := cell_at eA 0
          have f1 : wA.cell? ⟨w9.heap.size + 1, 1, none⟩ = some (.int .i64 (ln : Nat)) := cell_at eA 1
          have f2 : wA.cell? ⟨w9.heap.size + 1, 2, none⟩ = some (.int .i64 (P : Nat)) := cell_at eA 2
          have g0 : wA.cell? ⟨w9.heap.size, 0, none⟩ = some (.slice none 0 0) := cell_at gA 0
          have g1 : wA.cell? ⟨w9.heap.size, 1, none⟩ = some (.slice none 0 0) := cell_at gA 1
          have q1 : wA.cell? ⟨w5.heap.size, 1, none⟩ = some (.string tB) := cell_at TA.out 1
          have q5 : wA.cell? ⟨w5.heap.size, 5, none⟩ = some (.int .i64 (ln : Nat)) := cell_at TA.out 5
          have q6 : wA.cell? ⟨w5.heap.size, 6, none⟩ = some (.int .i64 (cl : Nat)) := cell_at TA.out 6
          clear eA mA gA m9
          go_wp2_with fail
          go_ret
          exact ⟨rfl, MA.out⟩
    · have hfc : ∀ fl, Lx.fault sl = fl → ((fl.1 : Int) != 0) = true := fun fl h => by rw [bne_iff_ne, ← h, fault_code]; omega
      clear hcut hnz2 htk HE HOF hq
      go_enter Tryz.func7, Tryz.ntmps7
      go_wp2_with fail
      refine (shown_any w hG).mono ?_
      rintro e0 w0 ⟨rfl, m0⟩
      have M0 := Lib.hid m0
      clear m0
      go_wp2_with fail
      refine (HP.out w0 (hG.past M0.out (by simp))).mono ?_
      rintro e1 w1 ⟨C, rfl, hval, m1⟩
      have M1 := Lib.hid (M0.out.trans m1 (by simp))
      obtain ⟨a1, c1, a2, c2, rfl⟩ := valP_lit hval
      clear m1 hval
      generalize p.rels.length = n1 at *
      generalize p.rules.length = n2 at *

      have mA := ((Mod.refl [] w1).alloc (Obj.cells #[.slice a1 n1 c1, .slice a2 n2 c2] 26)).alloc (Obj.cells #[.int .i64 0, .int .i64 0, .int .i64 0] 31)
      have eA := two_b w1 #[.slice a1 n1 c1, .slice a2 n2 c2] #[.int .i64 0, .int .i64 0, .int .i64 0] 26 31
      go_upto_region 3 with fail
      generalize (w1.alloc (Obj.cells _ 26)).alloc (Obj.cells _ 31) = w2 at *
      have M2 := Lib.hid (M1.out.trans mA (by simp)); have EA := Lib.hid eA
      clear mA eA
      go_wp2_with fail
      refine (HT.out w2 (hG.past M2.out (by simp))).mono ?_
      rintro e3 w3 ⟨tv, rfl, hrow, m3⟩
      obtain ⟨ta, tc, rfl⟩ := hrow.lit
      have M3 := Lib.hid (M2.out.trans m3 (by simp)); have E3 := Lib.hid (m3.at EA.out (by simp)); have HR3 := Lib.hid hrow
      clear m3 EA hrow
      generalize hfl : Lx.fault sl = fl at *
      have HFL := Lib.hid hfl
      clear hfl
      generalize htl : Lx.tokens sl = tl at *
      have HTL := Lib.hid htl
      clear htl
      unfold fltV
      have mB := (Mod.refl [] w3).alloc (Obj.cells #[.int .i64 (fl.1 : Nat), .int .i64 (fl.2.1 : Nat), .int .i64 (fl.2.2 : Nat)] 31)
      have eB := heap_alloc_new w3 (Obj.cells #[.int .i64 (fl.1 : Nat), .int .i64 (fl.2.1 : Nat), .int .i64 (fl.2.2 : Nat)] 31)
      have hz3 := lt_of_block E3.out
      go_upto_region 4 with fail
      generalize w3.alloc (Obj.cells _ 31) = w4 at *
      have M4 := Lib.hid (M3.out.trans mB (by simp)); have E4 := Lib.hid (mB.at E3.out (by simp)); have F4 := Lib.hid eB; have HR4 := Lib.hid (HR3.out.past mB (by simp))
      clear mB eB E3 HR3
      have f0 := cell_at E4.out 0
      have f1 := cell_at F4.out 0
      simp only [List.getElem?_toArray, List.getElem?_cons_zero] at f0 f1

      have hfB := hfc _ rfl
      go_wp2_with fail
      go_ret
      exact ⟨rfl, M4.out⟩
end Go.Proofs.YtppigckioalhhaaGreatDoorR
/- WHAT THE ROW's LIST GIVES: the marks, the library's two errors. -/
namespace Go.Proofs.YtppigckioalhhaaGreatDoorR
open Go.RowKit
set_option linter.unusedVariables false
set_option linter.unusedSimpArgs false
set_option maxRecDepth 100000

theorem gRng : Tryz.prog.globalNamed "strconv.ErrRange" = some 3 := by kernel_rfl
theorem gSyn : Tryz.prog.globalNamed "strconv.ErrSyntax" = some 2 := by kernel_rfl
theorem gMrk : Tryz.prog.globalNamed "pedigree/lex.marks" = some 0 := by kernel_rfl
theorem tRng : (Tryz.prog.globals[3]?).map (·.type) = some 199 := by kernel_rfl
theorem tSyn : (Tryz.prog.globals[2]?).map (·.type) = some 199 := by kernel_rfl
theorem tMrk : (Tryz.prog.globals[0]?).map (·.type) = some 187 := by kernel_rfl
theorem starE : "*" ++ "errors.errorString" = "*errors.errorString" := by decide
theorem rowE (u : TypeId) (h : Tryz.prog.typeName? 3 u = some "*errors.errorString") : u = 234 :=
  typeName_ptr_named (nm := "errors.errorString") (by rw [starE]; kernel_rfl) (by kernel_rfl) (by decide) u (by rw [starE]; exact h)
theorem var_heap {P : Program} {w : World} {n : String} {g : Nat} {cs : Array Value} (hg : P.globalNamed n = some g) (h : w.var? P n = some cs) : ∃ T fr, w.heap[g]? = some (.cells cs T fr) := by
  simp only [World.var?, hg, Option.bind_some] at h
  split at h
  · rename_i c T fr he
    cases h
    exact ⟨_, _, he⟩
  · cases h

theorem glob_of_laid {W : World} (h : laidMetH Tryz.prog Rows.syntaxDeepRow.laid W) : Glob W := by
  rw [MakeChecks.laidMetH_plain _ _ _ (by kernel_rfl)] at h
  have h3 := h.tail.tail.tail
  obtain ⟨a0, s0, hv0, -⟩ := laid_sentinel h3 gRng tRng Tryz.underlying199 rowE Tryz.underlying234 Tryz.underlying236 rfl rfl Tryz.underlying9 (by kernel_rfl) (by kernel_rfl)
  obtain ⟨a1, s1, hv1, -⟩ := laid_sentinel h3.tail gSyn tSyn Tryz.underlying199 rowE Tryz.underlying234 Tryz.underlying236 rfl rfl Tryz.underlying9 (by kernel_rfl) (by kernel_rfl)
  obtain ⟨T0, f0, hr⟩ := var_heap gRng hv0
  obtain ⟨T1, f1, hs⟩ := var_heap gSyn hv1
  obtain ⟨ps, ⟨g2, t2, cs2, fu, p2, q2, hg2, ht2, hv2, hd2, -, -⟩, -, -⟩ := h3.tail.tail
  obtain rfl := Option.some.inj (gMrk.symm.trans hg2)
  obtain rfl := Option.some.inj (tMrk.symm.trans ht2)
  obtain ⟨T2, f2, hm⟩ := var_heap gMrk hv2
  obtain ⟨xs, m, rfl, hx, hlen, hn, hel⟩ := DataW.trod_array Tryz.underlying187 hd2
  rw [show Tryz.prog.cellsOf 187 = 19 by kernel_rfl] at hlen
  rw [show Tryz.prog.cellsOf 9 = 1 by kernel_rfl] at hel
  simp only [Prod.mk.injEq, DataW.agg.injEq, Rows.laid_pedigree_lex_marks] at hx
  have hcs : cs2 = (markL.map fun l => Value.string (Lx.ofS l)).toArray := by
    apply Array.ext'
    apply List.ext_getElem?
    intro i
    by_cases hi : i < 19
    · have he := hel i hi
      have hlt : i < cs2.toList.length := by omega
      have hone : (cs2.toList.drop (i * 1)).take 1 = [cs2.toList[i]] := by
        rw [Nat.mul_one, List.drop_eq_getElem_cons hlt]; rfl
      rw [hone] at he
      have hxi : i < xs.length := by omega
      rw [List.getElem?_eq_getElem hxi] at he
      obtain ⟨s, hc, hy, -⟩ := DataW.trod_string Tryz.underlying9 he
      rw [List.getElem?_eq_getElem hlt]
      have hlit : (markL.map fun l => (DataW.lit (.string (l.map UInt8.ofNat)) : DataW Unit)) = xs.map (·.1) := hx.1
      have h1 : (markL.map fun l => (DataW.lit (.string (l.map UInt8.ofNat)) : DataW Unit))[i]? = (xs.map (·.1))[i]? := by rw [hlit]
      rw [List.getElem?_map, List.getElem?_map, List.getElem?_eq_getElem hxi, hy] at h1
      have hmi : i < markL.length := by show i < 19; exact hi
      rw [List.getElem?_eq_getElem hmi] at h1
      simp only [Option.map_some, Option.some.injEq, DataW.lit.injEq, Lit.string.injEq] at h1
      simp only [List.getElem?_map]
      rw [List.getElem?_eq_getElem hmi]
      have hcc : cs2.toList[i] = Value.string s := by simpa using hc
      rw [hcc]
      simp only [Option.map_some]
      congr 2
      unfold Lx.ofS
      rw [h1]
    · rw [List.getElem?_eq_none (by omega), List.getElem?_eq_none (by simp [markL]; omega)]
  exact ⟨⟨_, _, hcs ▸ hm⟩, ⟨_, _, _, _, hs⟩, ⟨_, _, _, _, hr⟩⟩
end Go.Proofs.YtppigckioalhhaaGreatDoorR
namespace Go.Proofs.YtppigckioalhhaaGreatDoorR.pSyntaxCut
open Go.ChangeShapes Go.WideShapes Go.ChangeAt Go.RowKit
open Go.ChangeMaps (open_string shut_string)
set_option linter.unusedVariables false
set_option maxRecDepth 100000
set_option maxHeartbeats 1000000

theorem own : ownKnob Tryz.prog.godebug = none := by kernel_rfl
theorem laidOut : laidOutB Tryz.prog = true := by kernel_rfl

theorem contract (H : Type) (enc : TypeId × Value → H) (W : World) (base : Nat) (args : Array Value) (ds gs : List (DataW H)) (before : List MemPlace)
    (hval : ∀ (j : Nat) t v, Tryz.f7.params[j]? = some t → args[j]? = some v → Value.okWide Tryz.prog W .any base t v)
    (hW : DataW.Whole enc Tryz.prog Tryz.f7.params.toList Rows.syntaxCutSpec.vars false W args.toList ds gs before)
    (hsz0 : (DataW.weightsEach Tryz.prog (Tryz.f7.params.toList ++ Rows.syntaxCutSpec.plain.varTypes Tryz.prog) (ds ++ gs)).all (· ≤ reachBytes) = true)
    (hL : laidMetH Tryz.prog Rows.syntaxCutRow.laid W) :
    Calls Tryz.prog 7 args W fun e W' => ∃ v, e = .returned v ∧ Rows.syntaxCutSpec.post enc Tryz.prog Tryz.f7 false true false false W args v W' := by
  have hW' := hW
  have hG := glob_of_laid hL
  obtain ⟨p, q, hA0, hV, rfl, hfz, hnd⟩ := hW
  have hA : DataW.TrodAll enc Tryz.prog W 0 (fun _ => true) true Tryz.f7.params.toList args.toList ds p := hA0
  rw [Tryz.params7] at hA hval hsz0
  obtain ⟨v0, vs0, d0, ds0, p0, q0, hargs, rfl, rfl, h0, r0⟩ := trodAll_cons hA
  obtain ⟨v1, vs1, d1, ds1, p1, q1, rfl, rfl, rfl, h1, r1⟩ := trodAll_cons r0
  obtain ⟨rfl, rfl, rfl⟩ := trodAll_nil r1
  obtain rfl : args = #[v0, v1] := by cases args; simp_all
  obtain ⟨rfl, rfl⟩ := trodVars_none hV
  obtain ⟨s0, rfl, rfl, rfl, hz0⟩ := open_string Tryz.underlying9 (hval 0 9 v0 rfl rfl) h0
  have hs0 : s0.size ≤ 140737488351232 := by
    have := sized_string hsz0 (j := 0) (t := 9) rfl rfl
    rw [Array.length_toList] at this
    exact this
  obtain ⟨a1, rfl, rfl, rfl, w1⟩ := open_int Tryz.underlying3 (hval 1 3 v1 rfl rfl) h1
  have hr1 : IntKind.i64.min ≤ a1 ∧ a1 ≤ IntKind.i64.max := by simpa [Lit.wf] using w1
  simp [IntKind.min, IntKind.max, IntKind.signed, IntKind.bits] at hr1
  clear hA0
  refine (SyntaxCut_any s0 a1 (by omega) hr1 W hG).mono fun e W' ⟨he, hm⟩ => ?_
  subst he
  have bel : Below W.heap.size W W' := hm.below (Nat.le_refl _) (by simp)
  exact ⟨_, rfl, _, _, _, [], _, [], hW', trodAll_mk1 (shut_bool Tryz.underlying4 _), (trodAll_cons_mk (shut_string Tryz.underlying9 hz0) (trodAll_cons_mk (shut_int Tryz.underlying3 w1) trodAll_mk0)), rfl, bel.frame _, fun h => by cases h⟩

theorem door_met (os : Os) : laidMetH Tryz.prog Rows.syntaxCutRow.laid ((World.doorLaid Tryz.prog 67 os).forCall (fun _ _ => 0) ⟨#[], #[.string ⟨#[]⟩, .int .i64 0], []⟩).memory := by
  rw [MakeChecks.laidMetH_plain _ _ _ (by kernel_rfl)]
  exact laidMet_of_run' 8 (by kernel_rfl) (by kernel_rfl)
theorem reads (os : Os) {H : Type} (enc : TypeId × Value → H) : ∃ places, DataW.whole enc Tryz.prog ((World.doorLaid Tryz.prog 67 os).forCall (fun _ _ => 0) ⟨#[], #[.string ⟨#[]⟩, .int .i64 0], []⟩).memory Tryz.f7.params.toList Rows.syntaxCutSpec.vars false (#[.string ⟨#[]⟩, .int .i64 0] : Array Value).toList 8 = some ([.lit (.string []), .lit (.int .i64 0)], [], places) :=
  ⟨[], by kernel_rfl⟩

theorem lifted (os : Os) (started : os.Started) (H : Type) (enc : TypeId × Value → H) (F : Stop.Interp) :
    ReturnsInHanded {} Tryz.checked os 7 .any ((OpenSpec.ofChange Rows.syntaxCutSpec).preRow enc Tryz.prog Tryz.f7 Rows.syntaxCutRow.domain false Rows.syntaxCutRow.laid) (((OpenSpec.ofChange Rows.syntaxCutSpec).at F).post enc Tryz.prog Tryz.f7 false true false false) := by
  obtain ⟨places, hx⟩ := reads os enc
  refine returnsInHanded_of_row (C := Tryz.checked) (s := OpenSpec.ofChange Rows.syntaxCutSpec) own started (by kernel_rfl) Tryz.func7
    (witness_row_atRef (enc := enc) (C := Tryz.checked) false (World.doorLaid Tryz.prog 67 os) #[.string ⟨#[]⟩, .int .i64 0] rfl (by kernel_rfl) (by kernel_rfl) (by kernel_rfl)
      (OpenSpec.preRow_of_cond 8 hx (by kernel_rfl) (fun k hk => by cases hk) (by kernel_rfl) (door_met os))) ?_
  intro W base args ds gs before hval hW _ _ hsz hL _ _
  exact contract H enc W base args ds gs before hval hW hsz hL

theorem said : Rows.SyntaxCutSaid :=
  OpenClaim.holds_of_cond 7 Tryz.f7 rfl rfl rfl rfl rfl rfl rfl ⟨rfl, rfl, rfl, rfl, rfl⟩ rfl rfl rfl rfl rfl (by kernel_rfl) Tryz.func7 (by kernel_rfl)
    (of_decide_eq_true (by kernel_rfl)) (by unfold Func.isWrapper; first | (rw [if_pos (by decide +kernel)]; kernel_rfl) | (rw [if_neg (by decide +kernel)]; exact ⟨rfl, rfl⟩))
    (fun os started H enc _ F => by rw [OpenClaim.pre_eq_preRow]; exact lifted os started H enc F)

theorem plain (f : FuncId) (fn : Func) (hf : Tryz.pinned.checked.prog.funcNamed "pedigree/pedigreelaw04.SyntaxCut" = some f) (hfn : Tryz.pinned.checked.prog.funcs[f]? = some fn) :
    true = Tryz.pinned.checked.prog.looks [] ∧ ∀ (j : Nat) t, fn.params[j]? = some t → Tryz.pinned.checked.prog.wantsStandIn t = false := by
  obtain rfl : f = 7 := Option.some.inj ((show Tryz.prog.funcNamed "pedigree/pedigreelaw04.SyntaxCut" = some 7 by kernel_rfl).symm.trans hf) |>.symm
  obtain rfl : fn = Tryz.f7 := (Option.some.inj (Tryz.func7.symm.trans hfn)).symm
  refine ⟨by kernel_rfl, fun j t ht => ?_⟩
  rw [Tryz.params7] at ht
  have hm : t ∈ [9, 3] := by simpa using Array.mem_of_getElem? ht
  have hall : ([9, 3].all fun u => !Tryz.prog.wantsStandIn u) = true := by kernel_rfl
  exact (show Tryz.prog.wantsStandIn t = false by simpa using List.all_eq_true.1 hall t hm)

/-- THE STATEMENT -/
theorem proved : Rows.SyntaxCutCardSaid :=
  Claim7.holds_tied_plain_at .later [] _ _ _ _ said (fun _ h => by cases h) (by kernel_rfl) (fun _ h => by cases h) syntaxCut_row_tie rfl ⟨rfl, rfl⟩ (by kernel_rfl) rfl plain (by kernel_rfl)
end Go.Proofs.YtppigckioalhhaaGreatDoorR.pSyntaxCut
