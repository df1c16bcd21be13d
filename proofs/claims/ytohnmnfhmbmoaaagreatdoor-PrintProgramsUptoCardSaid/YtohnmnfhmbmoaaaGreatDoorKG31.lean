/- THE TEXTS MERGED: P5Lit. -/
import Derived.Test.YtohnmnfhmbmoaaaGreatDoorKG30
namespace Go.Proofs.YtohnmnfhmbmoaaaGreatDoor
open Go.RowKit
set_option linter.unusedVariables false
set_option linter.unusedSimpArgs false
set_option maxRecDepth 100000
set_option maxHeartbeats 4000000 in
theorem rlit_other (b:Nat) (k:Int) (a:Pr.Atom) (op:Int) (le re:Pr.Ex) (fn:Int) (av:ByteArray) (of:Pr.Ex) (body:List Pr.Li) (ln cl:Int) (ta la ra oa ya:Option Addr) (tc lc rc oc yc:Nat) (w:World) (n:Nat) (h:k≠1/\k≠2/\k≠3/\k≠4) :
  Calls Tryz.prog 93 #[.agg #[.int .i64 k,.string a.rel,.slice ta a.terms.length tc,.int .i64 op,.int .i64 le.k,.string le.v,.int .i64 le.x.k,.int .i64 le.x.n,.string (Lx.ofS le.x.s),.int .i64 le.op,.slice la le.args.length lc,.int .i64 re.k,.string re.v,.int .i64 re.x.k,.int .i64 re.x.n,.string (Lx.ofS re.x.s),.int .i64 re.op,.slice ra re.args.length rc,.int .i64 fn,.string av,.int .i64 of.k,.string of.v,.int .i64 of.x.k,.int .i64 of.x.n,.string (Lx.ofS of.x.s),.int .i64 of.op,.slice oa of.args.length oc,.slice ya body.length yc,.int .i64 ln,.int .i64 cl],.int .i64 (b:Int)] w (TxR (Pr.pL b (.mk k a op le re fn av of body ln cl)) n w):=by
 have hnone:Pr.pL b (.mk k a op le re fn av of body ln cl)=none:=by
  rw [pL_eq]
  unfold tailO
  rw [if_neg h.1,if_neg h.2.1,if_neg h.2.2.1,if_neg h.2.2.2]
  simp
 rw [hnone]
 have k1:(k == 1)=false:=by rw [beq_eq_false_iff_ne];exact h.1
 have k2:(k == 2)=false:=by rw [beq_eq_false_iff_ne];exact h.2.1
 have k3:(k == 3)=false:=by rw [beq_eq_false_iff_ne];exact h.2.2.1
 have k4:(k == 4)=false:=by rw [beq_eq_false_iff_ne];exact h.2.2.2
 clear hnone h
 have hm0:=((Mod.refl [] w).alloc (Obj.cells #[.int .i64 k,.string a.rel,.slice ta a.terms.length tc,.int .i64 op,.int .i64 le.k,.string le.v,.int .i64 le.x.k,.int .i64 le.x.n,.string (Lx.ofS le.x.s),.int .i64 le.op,.slice la le.args.length lc,.int .i64 re.k,.string re.v,.int .i64 re.x.k,.int .i64 re.x.n,.string (Lx.ofS re.x.s),.int .i64 re.op,.slice ra re.args.length rc,.int .i64 fn,.string av,.int .i64 of.k,.string of.v,.int .i64 of.x.k,.int .i64 of.x.n,.string (Lx.ofS of.x.s),.int .i64 of.op,.slice oa of.args.length oc,.slice ya body.length yc,.int .i64 ln,.int .i64 cl] 49)).alloc (Obj.cells #[.string ⟨#[]⟩,.bool false] 92)
 have e0:=two_a w #[.int .i64 k,.string a.rel,.slice ta a.terms.length tc,.int .i64 op,.int .i64 le.k,.string le.v,.int .i64 le.x.k,.int .i64 le.x.n,.string (Lx.ofS le.x.s),.int .i64 le.op,.slice la le.args.length lc,.int .i64 re.k,.string re.v,.int .i64 re.x.k,.int .i64 re.x.n,.string (Lx.ofS re.x.s),.int .i64 re.op,.slice ra re.args.length rc,.int .i64 fn,.string av,.int .i64 of.k,.string of.v,.int .i64 of.x.k,.int .i64 of.x.n,.string (Lx.ofS of.x.s),.int .i64 of.op,.slice oa of.args.length oc,.slice ya body.length yc,.int .i64 ln,.int .i64 cl] #[.string ⟨#[]⟩,.bool false] 49 92
 have e1:=two_b w #[.int .i64 k,.string a.rel,.slice ta a.terms.length tc,.int .i64 op,.int .i64 le.k,.string le.v,.int .i64 le.x.k,.int .i64 le.x.n,.string (Lx.ofS le.x.s),.int .i64 le.op,.slice la le.args.length lc,.int .i64 re.k,.string re.v,.int .i64 re.x.k,.int .i64 re.x.n,.string (Lx.ofS re.x.s),.int .i64 re.op,.slice ra re.args.length rc,.int .i64 fn,.string av,.int .i64 of.k,.string of.v,.int .i64 of.x.k,.int .i64 of.x.n,.string (Lx.ofS of.x.s),.int .i64 of.op,.slice oa of.args.length oc,.slice ya body.length yc,.int .i64 ln,.int .i64 cl] #[.string ⟨#[]⟩,.bool false] 49 92
 have zA:((w.alloc (Obj.cells #[.int .i64 k,.string a.rel,.slice ta a.terms.length tc,.int .i64 op,.int .i64 le.k,.string le.v,.int .i64 le.x.k,.int .i64 le.x.n,.string (Lx.ofS le.x.s),.int .i64 le.op,.slice la le.args.length lc,.int .i64 re.k,.string re.v,.int .i64 re.x.k,.int .i64 re.x.n,.string (Lx.ofS re.x.s),.int .i64 re.op,.slice ra re.args.length rc,.int .i64 fn,.string av,.int .i64 of.k,.string of.v,.int .i64 of.x.k,.int .i64 of.x.n,.string (Lx.ofS of.x.s),.int .i64 of.op,.slice oa of.args.length oc,.slice ya body.length yc,.int .i64 ln,.int .i64 cl] 49)).alloc (Obj.cells #[.string ⟨#[]⟩,.bool false] 92)).heap.size=w.heap.size+2:=by simp
 have HA:=Hxq (fun w=>rnoAtom_any a ta tc w)
 have HL:=Hxq (fun w=>rnoExpr_any le la lc w)
 have HR:=Hxq (fun w=>rnoExpr_any re ra rc w)
 have HAG:=Hxq (fun w=>rnoAgg_any fn av of body.length oa ya oc yc w)
 unfold exV at HL HR
 unfold agVP at HAG
 generalize hnA:noAtm a=nA at *
 generalize hnL:Pr.noExpr le=nL at *
 generalize hnR:Pr.noExpr re=nR at *
 generalize hnG:noAg fn av of body.length=nG at *
 have HNA:=Lib.hid hnA;have HNL:=Lib.hid hnL;have HNR:=Lib.hid hnR;have HNG:=Lib.hid hnG
 clear hnA hnL hnR hnG
 go_enter Tryz.func93,Tryz.ntmps93
 go_upto_region 1 with fail
 generalize (w.alloc (Obj.cells _ 49)).alloc (Obj.cells _ 92)=w0 at *
 have M0:=Lib.hid hm0;have E0:=Lib.hid e0;have F0:=Lib.hid e1;have ZA:=Lib.hid zA
 clear hm0 e0 e1 zA
 have x1:=cell_at E0.out 1;have x2:=cell_at E0.out 2
 simp only [List.getElem?_toArray,List.getElem?_cons_zero,List.getElem?_cons_succ] at x1 x2
 go_wp2_with fail
 refine (HA.out w0).mono ?_
 rintro e1 w1 ⟨rfl,m1⟩
 have E1:=Hxq (m1.at E0.out (by simp));have F1:=Hxq (m1.at F0.out (by simp));have M1:=Hxq (M0.out.trans m1 (by simp))
 clear m1 x1 x2
 have x4:=cell_at E1.out 4;have x5:=cell_at E1.out 5;have x6:=cell_at E1.out 6;have x7:=cell_at E1.out 7;have x8:=cell_at E1.out 8;have x9:=cell_at E1.out 9;have x10:=cell_at E1.out 10
 simp only [List.getElem?_toArray,List.getElem?_cons_zero,List.getElem?_cons_succ] at x4 x5 x6 x7 x8 x9 x10
 go_wp2_with fail
 refine (HL.out w1).mono ?_
 rintro e2 w2 ⟨rfl,m2⟩
 have E2:=Hxq (m2.at E1.out (by simp));have F2:=Hxq (m2.at F1.out (by simp));have M2:=Hxq (M1.out.trans m2 (by simp))
 clear m2 x4 x5 x6 x7 x8 x9 x10
 have x11:=cell_at E2.out 11;have x12:=cell_at E2.out 12;have x13:=cell_at E2.out 13;have x14:=cell_at E2.out 14;have x15:=cell_at E2.out 15;have x16:=cell_at E2.out 16;have x17:=cell_at E2.out 17
 simp only [List.getElem?_toArray,List.getElem?_cons_zero,List.getElem?_cons_succ] at x11 x12 x13 x14 x15 x16 x17
 go_wp2_with fail
 refine (HR.out w2).mono ?_
 rintro e3 w3 ⟨rfl,m3⟩
 have E3:=Hxq (m3.at E2.out (by simp));have F3:=Hxq (m3.at F2.out (by simp));have M3:=Hxq (M2.out.trans m3 (by simp))
 clear m3 x11 x12 x13 x14 x15 x16 x17
 have x18:=cell_at E3.out 18;have x19:=cell_at E3.out 19;have x20:=cell_at E3.out 20;have x21:=cell_at E3.out 21;have x22:=cell_at E3.out 22;have x23:=cell_at E3.out 23;have x24:=cell_at E3.out 24;have x25:=cell_at E3.out 25;have x26:=cell_at E3.out 26;have x27:=cell_at E3.out 27
 simp only [List.getElem?_toArray,List.getElem?_cons_zero,List.getElem?_cons_succ] at x18 x19 x20 x21 x22 x23 x24 x25 x26 x27
 go_wp2_with fail
 refine (HAG.out w3).mono ?_
 rintro e4 w4 ⟨rfl,m4⟩
 have E4:=Hxq (m4.at E3.out (by simp));have F4:=Hxq (m4.at F3.out (by simp));have M4:=Hxq (M3.out.trans m4 (by simp))
 clear m4 x18 x19 x20 x21 x22 x23 x24 x25 x26 x27
 have x0:=cell_at E4.out 0;have x1:=cell_at E4.out 1;have x2:=cell_at E4.out 2;have x3:=cell_at E4.out 3
 simp only [List.getElem?_toArray,List.getElem?_cons_zero,List.getElem?_cons_succ] at x0 x1 x2 x3
 obtain ⟨sd,hsd⟩:∃ sd,(nL && (nR && decide (op=0)))=sd:=⟨_,rfl⟩
 have HSD:=Lib.hid hsd
 go_upto_region 5 with fail
 go_cut [9] (fun cc wx=>cc=.bool sd/\wx=w4)
 case first =>
  have hop:(op == 0)=decide (op=0):=by rw [Bool.eq_iff_iff,beq_iff_eq,decide_eq_true_eq]
  generalize decide (op=0)=b0 at *
  clear HSD
  cases nL <;> cases nR
  all_goals (
   go_wp2_with fail
   go_meet
   exact ⟨by rw [<-hsd];rfl,rfl⟩)
 case rest =>
  obtain ⟨rfl,hwc⟩:=hcut
  have hw':=hwc.symm
  subst hw'
  clear hsd
  have y0:=cell_at F4.out 0;have y1:=cell_at F4.out 1
  simp only [List.getElem?_toArray,List.getElem?_cons_zero,List.getElem?_cons_succ] at y0 y1
  have fA:∀ j,w4.frozen? ⟨w.heap.size+1,j,none⟩=false:=fun j=>free_at F4.out j
  go_wp2_with fail
  refine bodyPost_ret (results_cell_row rfl _ _ _ _ _ _ _ rfl (setCs_row (vs:=[.string ⟨#[]⟩,.bool true]) F4.out rfl) Tryz.underlying92 rfl (by kernel_rfl)) rfl ⟨_,rfl,⟨⟨#[]⟩,true,rfl,Nat.zero_le _,fun t ht=>(nomatch ht),fun _=>rfl⟩,M4.out.trans (setCs_mod (w.heap.size+1) [.string ⟨#[]⟩,.bool true] 0 w4) (fun t ht=>.inr (by rw [Msq] at ht;omega))⟩
set_option maxHeartbeats 4000000 in
theorem rlit_atom (b:Nat) (k:Int) (a:Pr.Atom) (op:Int) (le re:Pr.Ex) (fn:Int) (av:ByteArray) (of:Pr.Ex) (body:List Pr.Li) (ln cl:Int) (ta la ra oa ya:Option Addr) (tc lc rc oc yc:Nat) (w:World) (h:k=1\/k=2) (hT:TOk w a.terms (.slice ta a.terms.length tc)) (hG:GlobV w) (hlen:2 * aWt a+4<=140737488000000) :
  Calls Tryz.prog 93 #[.agg #[.int .i64 k,.string a.rel,.slice ta a.terms.length tc,.int .i64 op,.int .i64 le.k,.string le.v,.int .i64 le.x.k,.int .i64 le.x.n,.string (Lx.ofS le.x.s),.int .i64 le.op,.slice la le.args.length lc,.int .i64 re.k,.string re.v,.int .i64 re.x.k,.int .i64 re.x.n,.string (Lx.ofS re.x.s),.int .i64 re.op,.slice ra re.args.length rc,.int .i64 fn,.string av,.int .i64 of.k,.string of.v,.int .i64 of.x.k,.int .i64 of.x.n,.string (Lx.ofS of.x.s),.int .i64 of.op,.slice oa of.args.length oc,.slice ya body.length yc,.int .i64 ln,.int .i64 cl],.int .i64 (b:Int)] w (TxR (Pr.pL b (.mk k a op le re fn av of body ln cl)) (2 * aWt a+4) w):=by
 have HT:=Lib.hid hT;have HG:=Lib.hid hG
 obtain ⟨kk,hkk⟩:∃ kk,kk=k:=⟨_,rfl⟩
 have HP:Hid (Pr.pL b (.mk k a op le re fn av of body ln cl)=cat (mustO ((decide (op=0) && (Pr.noExpr le && Pr.noExpr re)) && noAg fn av of body.length)) (cat (some (if kk=2 then [110,111,116,32] else [])) (Pr.pA a))):=Hxq (by
  rw [pL_eq]
  unfold tailO Pr.lacks noAg
  rw [hkk]
  rcases h with rfl | rfl <;> simp [cat_nil])
 have HKK:=Lib.hid hkk
 clear hkk
 generalize Pr.pL b (.mk k a op le re fn av of body ln cl)=o at *
 clear hT hG
 have hm0:=((Mod.refl [] w).alloc (Obj.cells #[.int .i64 k,.string a.rel,.slice ta a.terms.length tc,.int .i64 op,.int .i64 le.k,.string le.v,.int .i64 le.x.k,.int .i64 le.x.n,.string (Lx.ofS le.x.s),.int .i64 le.op,.slice la le.args.length lc,.int .i64 re.k,.string re.v,.int .i64 re.x.k,.int .i64 re.x.n,.string (Lx.ofS re.x.s),.int .i64 re.op,.slice ra re.args.length rc,.int .i64 fn,.string av,.int .i64 of.k,.string of.v,.int .i64 of.x.k,.int .i64 of.x.n,.string (Lx.ofS of.x.s),.int .i64 of.op,.slice oa of.args.length oc,.slice ya body.length yc,.int .i64 ln,.int .i64 cl] 49)).alloc (Obj.cells #[.string ⟨#[]⟩,.bool false] 92)
 have e0:=two_a w #[.int .i64 k,.string a.rel,.slice ta a.terms.length tc,.int .i64 op,.int .i64 le.k,.string le.v,.int .i64 le.x.k,.int .i64 le.x.n,.string (Lx.ofS le.x.s),.int .i64 le.op,.slice la le.args.length lc,.int .i64 re.k,.string re.v,.int .i64 re.x.k,.int .i64 re.x.n,.string (Lx.ofS re.x.s),.int .i64 re.op,.slice ra re.args.length rc,.int .i64 fn,.string av,.int .i64 of.k,.string of.v,.int .i64 of.x.k,.int .i64 of.x.n,.string (Lx.ofS of.x.s),.int .i64 of.op,.slice oa of.args.length oc,.slice ya body.length yc,.int .i64 ln,.int .i64 cl] #[.string ⟨#[]⟩,.bool false] 49 92
 have e1:=two_b w #[.int .i64 k,.string a.rel,.slice ta a.terms.length tc,.int .i64 op,.int .i64 le.k,.string le.v,.int .i64 le.x.k,.int .i64 le.x.n,.string (Lx.ofS le.x.s),.int .i64 le.op,.slice la le.args.length lc,.int .i64 re.k,.string re.v,.int .i64 re.x.k,.int .i64 re.x.n,.string (Lx.ofS re.x.s),.int .i64 re.op,.slice ra re.args.length rc,.int .i64 fn,.string av,.int .i64 of.k,.string of.v,.int .i64 of.x.k,.int .i64 of.x.n,.string (Lx.ofS of.x.s),.int .i64 of.op,.slice oa of.args.length oc,.slice ya body.length yc,.int .i64 ln,.int .i64 cl] #[.string ⟨#[]⟩,.bool false] 49 92
 have zA:((w.alloc (Obj.cells #[.int .i64 k,.string a.rel,.slice ta a.terms.length tc,.int .i64 op,.int .i64 le.k,.string le.v,.int .i64 le.x.k,.int .i64 le.x.n,.string (Lx.ofS le.x.s),.int .i64 le.op,.slice la le.args.length lc,.int .i64 re.k,.string re.v,.int .i64 re.x.k,.int .i64 re.x.n,.string (Lx.ofS re.x.s),.int .i64 re.op,.slice ra re.args.length rc,.int .i64 fn,.string av,.int .i64 of.k,.string of.v,.int .i64 of.x.k,.int .i64 of.x.n,.string (Lx.ofS of.x.s),.int .i64 of.op,.slice oa of.args.length oc,.slice ya body.length yc,.int .i64 ln,.int .i64 cl] 49)).alloc (Obj.cells #[.string ⟨#[]⟩,.bool false] 92)).heap.size=w.heap.size+2:=by simp
 have HA:=Hxq (fun w=>rnoAtom_any a ta tc w)
 have HL:=Hxq (fun w=>rnoExpr_any le la lc w)
 have HR:=Hxq (fun w=>rnoExpr_any re ra rc w)
 have HAG:=Hxq (fun w=>rnoAgg_any fn av of body.length oa ya oc yc w)
 unfold exV at HL HR
 unfold agVP at HAG
 generalize hnA:noAtm a=nA at *
 generalize hnL:Pr.noExpr le=nL at *
 generalize hnR:Pr.noExpr re=nR at *
 generalize hnG:noAg fn av of body.length=nG at *
 have HNA:=Lib.hid hnA;have HNL:=Lib.hid hnL;have HNR:=Lib.hid hnR;have HNG:=Lib.hid hnG
 clear hnA hnL hnR hnG
 go_enter Tryz.func93,Tryz.ntmps93
 go_upto_region 1 with fail
 generalize (w.alloc (Obj.cells _ 49)).alloc (Obj.cells _ 92)=w0 at *
 have M0:=Lib.hid hm0;have E0:=Lib.hid e0;have F0:=Lib.hid e1;have ZA:=Lib.hid zA
 clear hm0 e0 e1 zA
 have x1:=cell_at E0.out 1;have x2:=cell_at E0.out 2
 simp only [List.getElem?_toArray,List.getElem?_cons_zero,List.getElem?_cons_succ] at x1 x2
 go_wp2_with fail
 refine (HA.out w0).mono ?_
 rintro e1 w1 ⟨rfl,m1⟩
 have E1:=Hxq (m1.at E0.out (by simp));have F1:=Hxq (m1.at F0.out (by simp));have M1:=Hxq (M0.out.trans m1 (by simp))
 clear m1 x1 x2
 have x4:=cell_at E1.out 4;have x5:=cell_at E1.out 5;have x6:=cell_at E1.out 6;have x7:=cell_at E1.out 7;have x8:=cell_at E1.out 8;have x9:=cell_at E1.out 9;have x10:=cell_at E1.out 10
 simp only [List.getElem?_toArray,List.getElem?_cons_zero,List.getElem?_cons_succ] at x4 x5 x6 x7 x8 x9 x10
 go_wp2_with fail
 refine (HL.out w1).mono ?_
 rintro e2 w2 ⟨rfl,m2⟩
 have E2:=Hxq (m2.at E1.out (by simp));have F2:=Hxq (m2.at F1.out (by simp));have M2:=Hxq (M1.out.trans m2 (by simp))
 clear m2 x4 x5 x6 x7 x8 x9 x10
 have x11:=cell_at E2.out 11;have x12:=cell_at E2.out 12;have x13:=cell_at E2.out 13;have x14:=cell_at E2.out 14;have x15:=cell_at E2.out 15;have x16:=cell_at E2.out 16;have x17:=cell_at E2.out 17
 simp only [List.getElem?_toArray,List.getElem?_cons_zero,List.getElem?_cons_succ] at x11 x12 x13 x14 x15 x16 x17
 go_wp2_with fail
 refine (HR.out w2).mono ?_
 rintro e3 w3 ⟨rfl,m3⟩
 have E3:=Hxq (m3.at E2.out (by simp));have F3:=Hxq (m3.at F2.out (by simp));have M3:=Hxq (M2.out.trans m3 (by simp))
 clear m3 x11 x12 x13 x14 x15 x16 x17
 have x18:=cell_at E3.out 18;have x19:=cell_at E3.out 19;have x20:=cell_at E3.out 20;have x21:=cell_at E3.out 21;have x22:=cell_at E3.out 22;have x23:=cell_at E3.out 23;have x24:=cell_at E3.out 24;have x25:=cell_at E3.out 25;have x26:=cell_at E3.out 26;have x27:=cell_at E3.out 27
 simp only [List.getElem?_toArray,List.getElem?_cons_zero,List.getElem?_cons_succ] at x18 x19 x20 x21 x22 x23 x24 x25 x26 x27
 go_wp2_with fail
 refine (HAG.out w3).mono ?_
 rintro e4 w4 ⟨rfl,m4⟩
 have E4:=Hxq (m4.at E3.out (by simp));have F4:=Hxq (m4.at F3.out (by simp));have M4:=Hxq (M3.out.trans m4 (by simp))
 clear m4 x18 x19 x20 x21 x22 x23 x24 x25 x26 x27
 have x0:=cell_at E4.out 0;have x1:=cell_at E4.out 1;have x2:=cell_at E4.out 2;have x3:=cell_at E4.out 3
 simp only [List.getElem?_toArray,List.getElem?_cons_zero,List.getElem?_cons_succ] at x0 x1 x2 x3
 obtain ⟨sd,hsd⟩:∃ sd,(nL && (nR && decide (op=0)))=sd:=⟨_,rfl⟩
 have HSD:=Lib.hid hsd
 go_upto_region 5 with fail
 go_cut [9] (fun cc wx=>cc=.bool sd/\wx=w4)
 case first =>
  have hop:(op == 0)=decide (op=0):=by rw [Bool.eq_iff_iff,beq_iff_eq,decide_eq_true_eq]
  generalize decide (op=0)=b0 at *
  clear HSD
  cases nL <;> cases nR
  all_goals (
   go_wp2_with fail
   go_meet
   exact ⟨by rw [<-hsd];rfl,rfl⟩)
 case rest =>
  obtain ⟨rfl,hwc⟩:=hcut
  have hw':=hwc.symm
  subst hw'
  clear hsd
  have HC:Hid (Calls Tryz.prog 60 #[.agg #[.string a.rel,.slice ta a.terms.length tc]] w4 (TxR (Pr.pA a) (2 * aWt a) w4)):=Hxq (ratom_any a _ w4 (HT.out.past M4.out) (HG.out.past M4.out (by simp)) (by omega))
  have hz4:w.heap.size+2<=w4.heap.size:=by have q:=(M4.out).size;have:=lt_of_block F4.out;omega
  rcases h with rfl | rfl
  all_goals (
   go_wp2_with fail
   refine HC.out.mono ?_
   rintro e5 w5 ⟨v,rfl,⟨s,bt,rfl,hs⟩,m5⟩
   have hz5:=m5.size
   have mU:=m5.trans ((Mod.refl [] w5).alloc (Obj.cells #[.string s,.bool bt] 92)) (by simp)
   have xU:=heap_alloc_new w5 (Obj.cells #[.string s,.bool bt] 92)
   go_upto_region 10 with fail
   generalize w5.alloc (Obj.cells _ 92)=w6 at *
   generalize w5.heap.size=pt at *
   have F6:=Hxq (mU.at F4.out (by simp));have E6:=Hxq (mU.at E4.out (by simp));have M6:=Hxq (M4.out.trans mU (by simp));have X6:=Lib.hid xU
   have HS:Hid (TxS (Pr.pA a) (2 * aWt a) s bt):=Lib.hid hs
   have hsz:=hs.1
   clear mU xU m5 hs HC x0 x1 x2 x3
   have u1:=cell_at X6.out 1
   simp only [List.getElem?_toArray,List.getElem?_cons_zero,List.getElem?_cons_succ] at u1
   have fU:∀ j,w6.frozen? ⟨pt,j,none⟩=false:=fun j=>free_at X6.out j
   go_cut [] (fun wx=>wx.heap[pt]?=some (.cells #[.string s,.bool (bt || (!sd || !nG))] 92 (0,0))/\Mod [pt] w6 wx)
   case first =>
    have m7:=fun v=>(Mod.refl [pt] w6).setCell (p:=⟨pt,1,none⟩) (.inl (by simp)) v
    have x7:=fun v=>setCell_at X6.out 1 v
    have M7:=Lib.hid m7;have X7:=Lib.hid x7
    clear m7 x7
    cases bt <;> cases sd <;> cases nG
    all_goals (
     go_wp2_with fail
     go_meet
     exact ⟨X7.out _,M7.out _⟩)
   case rest =>
    obtain ⟨x7,m7⟩:=hcut
    have hp0:w.heap.size∉[pt]:=by rw [Msq];omega
    have hp1:w.heap.size+1∉[pt]:=by rw [Msq];omega
    have X7:=Lib.hid x7;have E7:=Hxq (m7.at E6.out hp0);have F7:=Hxq (m7.at F6.out hp1)
    have M7:=Hxq (M6.out.trans m7 (fun t ht=>.inr (by rw [Msq] at ht;omega)))
    clear x7 m7 u1 fU
    generalize hbb:(bt || (!sd || !nG))=bb at *
    have HBB:=Lib.hid hbb
    clear hbb
    have hsz7:=HS.out.1
    have HF:Hid (∀ S:ByteArray,TxS (cat (some (if kk=2 then [110,111,116,32] else [])) (Pr.pA a)) (2 * aWt a+4) S bt->TxS o (2 * aWt a+4) S bb):=Hxq (fun S hS=>(hS.must (sd && nG)).of (by
      rw [HP.out,<-HSD.out]
      congr 2
      cases nL <;> cases nR <;> cases decide (op=0) <;> rfl) (by rw [<-HBB.out];cases bt <;> cases sd <;> cases nG <;> rfl))
    have z0:=cell_at E7.out 0;have u0:=cell_at X7.out 0;have u1:=cell_at X7.out 1
    simp only [List.getElem?_toArray,List.getElem?_cons_zero,List.getElem?_cons_succ] at z0 u0 u1
    have fU:∀ j,wc.frozen? ⟨pt,j,none⟩=false:=fun j=>free_at X7.out j
    go_upto_if 56 with fail
    generalize hwq:wc=wq at *
    clear hwq
    go_cut [] (fun wx=>∃ S:ByteArray,wx.heap[pt]?=some (.cells #[.string S,.bool bb] 92 (0,0))/\Mod [pt] wq wx/\TxS (cat (some (if kk=2 then [110,111,116,32] else [])) (Pr.pA a)) (2 * aWt a+4) S bt)
    case first =>
     have xN:=fun v=>setCell_at X7.out 0 v
     have mN:=fun v=>(Mod.refl [pt] wq).setCell (p:=⟨pt,0,none⟩) (.inl (by simp)) v
     have XN:=Lib.hid xN;have MN:=Lib.hid mN
     clear xN mN
     go_wp2_with fail
     go_meet
     first
      | exact ⟨s,X7.out,Mod.refl _ _,(HS.out.of (by rw [HKK.out];exact cat_nil _) rfl).le (by omega)⟩
      | exact ⟨{ data:=#[110,111,116,32] }++s,XN.out _,MN.out _,((TxS.app (TxS.lit [110,111,116,32] { data:=#[110,111,116,32] } rfl) HS.out).of (by rw [HKK.out];rfl) rfl).le (by show 4+2 * aWt a<=_;omega)⟩
    case rest =>
     clear z0 u0 u1 fU
     obtain ⟨S,x8,m8,hS⟩:=hcut
     have F8:=Hxq (m8.at F7.out hp1);have M8:=Hxq (M7.out.trans m8 (fun t ht=>.inr (by rw [Msq] at ht;omega)))
     have u0:=cell_at x8 0;have u1:=cell_at x8 1
     simp only [List.getElem?_toArray,List.getElem?_cons_zero,List.getElem?_cons_succ] at u0 u1
     have HFF:=Hxq (HF.out S hS)
     have fA:∀ j,wc.frozen? ⟨w.heap.size+1,j,none⟩=false:=fun j=>free_at F8.out j
     have b0:=cell_at F8.out 0;have b1:=cell_at F8.out 1
     simp only [List.getElem?_toArray,List.getElem?_cons_zero,List.getElem?_cons_succ] at b0 b1
     clear x8 m8 hS
     go_wp2_with fail
     refine bodyPost_ret (results_cell_row rfl _ _ _ _ _ _ _ rfl (setCs_row (vs:=[.string S,.bool bb]) F8.out rfl) Tryz.underlying92 rfl (by kernel_rfl)) rfl ⟨_,rfl,⟨S,bb,rfl,HFF.out⟩,M8.out.trans (setCs_mod (w.heap.size+1) [.string S,.bool bb] 0 wc) (fun t ht=>.inr (by rw [Msq] at ht;omega))⟩)
set_option maxHeartbeats 8000000 in
theorem rlit_cmp (b:Nat) (k:Int) (a:Pr.Atom) (op:Int) (le re:Pr.Ex) (fn:Int) (av:ByteArray) (of:Pr.Ex) (body:List Pr.Li) (ln cl:Int) (ta la ra oa ya:Option Addr) (tc lc rc oc yc:Nat) (w:World) (hk:k=3) (hl:EOk w le (.slice la le.args.length lc)) (hr:EOk w re (.slice ra re.args.length rc)) (hG:GlobV w) (hlen:exWt le+exWt re+4<=140737488000000) :
  Calls Tryz.prog 93 #[.agg #[.int .i64 k,.string a.rel,.slice ta a.terms.length tc,.int .i64 op,.int .i64 le.k,.string le.v,.int .i64 le.x.k,.int .i64 le.x.n,.string (Lx.ofS le.x.s),.int .i64 le.op,.slice la le.args.length lc,.int .i64 re.k,.string re.v,.int .i64 re.x.k,.int .i64 re.x.n,.string (Lx.ofS re.x.s),.int .i64 re.op,.slice ra re.args.length rc,.int .i64 fn,.string av,.int .i64 of.k,.string of.v,.int .i64 of.x.k,.int .i64 of.x.n,.string (Lx.ofS of.x.s),.int .i64 of.op,.slice oa of.args.length oc,.slice ya body.length yc,.int .i64 ln,.int .i64 cl],.int .i64 (b:Int)] w (TxR (Pr.pL b (.mk k a op le re fn av of body ln cl)) (exWt le+exWt re+4) w):=by
 have HLE:=Lib.hid hl;have HRE:=Lib.hid hr;have HG:=Lib.hid hG
 subst hk
 have HP:Hid (Pr.pL b (.mk 3 a op le re fn av of body ln cl)=cat (mustO (noAtm a && noAg fn av of body.length)) (cat (cat (Pr.pE 17 le) (cmpO op)) (Pr.pE 17 re))):=Hxq (by
  rw [pL_eq]
  unfold tailO Pr.lacks noAg noAtm
  simp)
 generalize Pr.pL b (.mk 3 a op le re fn av of body ln cl)=o at *
 obtain ⟨cs,hcs⟩:∃ cs,Lx.ofS (Pr.cmp op)=cs:=⟨_,rfl⟩
 have hcz:cs.size<=4:=by
  rw [<-hcs,ofS_size]
  unfold Pr.cmp
  repeat' split
  all_goals decide
 have HCS:=Lib.hid hcs
 have HCO:Hid (TxS (cmpO op) 4 cs (decide (op<1) || decide (6<op))):=Hxq (by
  unfold cmpO
  by_cases h:1<=op/\op<=6
  ·rw [if_pos h,decide_eq_false (by omega),decide_eq_false (by omega)]
   exact ⟨hcz,fun t ht=>by cases ht;exact ⟨rfl,hcs.symm⟩,fun hn=>by cases hn⟩
  ·rw [if_neg h]
   refine ⟨hcz,fun t ht=>(nomatch ht),fun _=>?_⟩
   rw [Bool.or_eq_true,decide_eq_true_eq,decide_eq_true_eq]
   omega)
 clear hl hr hG hcs
 have hm0:=((Mod.refl [] w).alloc (Obj.cells #[.int .i64 3,.string a.rel,.slice ta a.terms.length tc,.int .i64 op,.int .i64 le.k,.string le.v,.int .i64 le.x.k,.int .i64 le.x.n,.string (Lx.ofS le.x.s),.int .i64 le.op,.slice la le.args.length lc,.int .i64 re.k,.string re.v,.int .i64 re.x.k,.int .i64 re.x.n,.string (Lx.ofS re.x.s),.int .i64 re.op,.slice ra re.args.length rc,.int .i64 fn,.string av,.int .i64 of.k,.string of.v,.int .i64 of.x.k,.int .i64 of.x.n,.string (Lx.ofS of.x.s),.int .i64 of.op,.slice oa of.args.length oc,.slice ya body.length yc,.int .i64 ln,.int .i64 cl] 49)).alloc (Obj.cells #[.string ⟨#[]⟩,.bool false] 92)
 have e0:=two_a w #[.int .i64 3,.string a.rel,.slice ta a.terms.length tc,.int .i64 op,.int .i64 le.k,.string le.v,.int .i64 le.x.k,.int .i64 le.x.n,.string (Lx.ofS le.x.s),.int .i64 le.op,.slice la le.args.length lc,.int .i64 re.k,.string re.v,.int .i64 re.x.k,.int .i64 re.x.n,.string (Lx.ofS re.x.s),.int .i64 re.op,.slice ra re.args.length rc,.int .i64 fn,.string av,.int .i64 of.k,.string of.v,.int .i64 of.x.k,.int .i64 of.x.n,.string (Lx.ofS of.x.s),.int .i64 of.op,.slice oa of.args.length oc,.slice ya body.length yc,.int .i64 ln,.int .i64 cl] #[.string ⟨#[]⟩,.bool false] 49 92
 have e1:=two_b w #[.int .i64 3,.string a.rel,.slice ta a.terms.length tc,.int .i64 op,.int .i64 le.k,.string le.v,.int .i64 le.x.k,.int .i64 le.x.n,.string (Lx.ofS le.x.s),.int .i64 le.op,.slice la le.args.length lc,.int .i64 re.k,.string re.v,.int .i64 re.x.k,.int .i64 re.x.n,.string (Lx.ofS re.x.s),.int .i64 re.op,.slice ra re.args.length rc,.int .i64 fn,.string av,.int .i64 of.k,.string of.v,.int .i64 of.x.k,.int .i64 of.x.n,.string (Lx.ofS of.x.s),.int .i64 of.op,.slice oa of.args.length oc,.slice ya body.length yc,.int .i64 ln,.int .i64 cl] #[.string ⟨#[]⟩,.bool false] 49 92
 have zA:((w.alloc (Obj.cells #[.int .i64 3,.string a.rel,.slice ta a.terms.length tc,.int .i64 op,.int .i64 le.k,.string le.v,.int .i64 le.x.k,.int .i64 le.x.n,.string (Lx.ofS le.x.s),.int .i64 le.op,.slice la le.args.length lc,.int .i64 re.k,.string re.v,.int .i64 re.x.k,.int .i64 re.x.n,.string (Lx.ofS re.x.s),.int .i64 re.op,.slice ra re.args.length rc,.int .i64 fn,.string av,.int .i64 of.k,.string of.v,.int .i64 of.x.k,.int .i64 of.x.n,.string (Lx.ofS of.x.s),.int .i64 of.op,.slice oa of.args.length oc,.slice ya body.length yc,.int .i64 ln,.int .i64 cl] 49)).alloc (Obj.cells #[.string ⟨#[]⟩,.bool false] 92)).heap.size=w.heap.size+2:=by simp
 have HA:=Hxq (fun w=>rnoAtom_any a ta tc w)
 have HL:=Hxq (fun w=>rnoExpr_any le la lc w)
 have HR:=Hxq (fun w=>rnoExpr_any re ra rc w)
 have HAG:=Hxq (fun w=>rnoAgg_any fn av of body.length oa ya oc yc w)
 unfold exV at HL HR
 unfold agVP at HAG
 generalize hnA:noAtm a=nA at *
 generalize hnL:Pr.noExpr le=nL at *
 generalize hnR:Pr.noExpr re=nR at *
 generalize hnG:noAg fn av of body.length=nG at *
 have HNA:=Lib.hid hnA;have HNL:=Lib.hid hnL;have HNR:=Lib.hid hnR;have HNG:=Lib.hid hnG
 clear hnA hnL hnR hnG
 go_enter Tryz.func93,Tryz.ntmps93
 go_upto_region 1 with fail
 generalize (w.alloc (Obj.cells _ 49)).alloc (Obj.cells _ 92)=w0 at *
 have M0:=Lib.hid hm0;have E0:=Lib.hid e0;have F0:=Lib.hid e1;have ZA:=Lib.hid zA
 clear hm0 e0 e1 zA
 have x1:=cell_at E0.out 1;have x2:=cell_at E0.out 2
 simp only [List.getElem?_toArray,List.getElem?_cons_zero,List.getElem?_cons_succ] at x1 x2
 go_wp2_with fail
 refine (HA.out w0).mono ?_
 rintro e1 w1 ⟨rfl,m1⟩
 have E1:=Hxq (m1.at E0.out (by simp));have F1:=Hxq (m1.at F0.out (by simp));have M1:=Hxq (M0.out.trans m1 (by simp))
 clear m1 x1 x2
 have x4:=cell_at E1.out 4;have x5:=cell_at E1.out 5;have x6:=cell_at E1.out 6;have x7:=cell_at E1.out 7;have x8:=cell_at E1.out 8;have x9:=cell_at E1.out 9;have x10:=cell_at E1.out 10
 simp only [List.getElem?_toArray,List.getElem?_cons_zero,List.getElem?_cons_succ] at x4 x5 x6 x7 x8 x9 x10
 go_wp2_with fail
 refine (HL.out w1).mono ?_
 rintro e2 w2 ⟨rfl,m2⟩
 have E2:=Hxq (m2.at E1.out (by simp));have F2:=Hxq (m2.at F1.out (by simp));have M2:=Hxq (M1.out.trans m2 (by simp))
 clear m2 x4 x5 x6 x7 x8 x9 x10
 have x11:=cell_at E2.out 11;have x12:=cell_at E2.out 12;have x13:=cell_at E2.out 13;have x14:=cell_at E2.out 14;have x15:=cell_at E2.out 15;have x16:=cell_at E2.out 16;have x17:=cell_at E2.out 17
 simp only [List.getElem?_toArray,List.getElem?_cons_zero,List.getElem?_cons_succ] at x11 x12 x13 x14 x15 x16 x17
 go_wp2_with fail
 refine (HR.out w2).mono ?_
 rintro e3 w3 ⟨rfl,m3⟩
 have E3:=Hxq (m3.at E2.out (by simp));have F3:=Hxq (m3.at F2.out (by simp));have M3:=Hxq (M2.out.trans m3 (by simp))
 clear m3 x11 x12 x13 x14 x15 x16 x17
 have x18:=cell_at E3.out 18;have x19:=cell_at E3.out 19;have x20:=cell_at E3.out 20;have x21:=cell_at E3.out 21;have x22:=cell_at E3.out 22;have x23:=cell_at E3.out 23;have x24:=cell_at E3.out 24;have x25:=cell_at E3.out 25;have x26:=cell_at E3.out 26;have x27:=cell_at E3.out 27
 simp only [List.getElem?_toArray,List.getElem?_cons_zero,List.getElem?_cons_succ] at x18 x19 x20 x21 x22 x23 x24 x25 x26 x27
 go_wp2_with fail
 refine (HAG.out w3).mono ?_
 rintro e4 w4 ⟨rfl,m4⟩
 have E4:=Hxq (m4.at E3.out (by simp));have F4:=Hxq (m4.at F3.out (by simp));have M4:=Hxq (M3.out.trans m4 (by simp))
 clear m4 x18 x19 x20 x21 x22 x23 x24 x25 x26 x27
 have x0:=cell_at E4.out 0;have x1:=cell_at E4.out 1;have x2:=cell_at E4.out 2;have x3:=cell_at E4.out 3
 simp only [List.getElem?_toArray,List.getElem?_cons_zero,List.getElem?_cons_succ] at x0 x1 x2 x3
 obtain ⟨sd,hsd⟩:∃ sd,(nL && (nR && decide (op=0)))=sd:=⟨_,rfl⟩
 have HSD:=Lib.hid hsd
 go_upto_region 5 with fail
 go_cut [9] (fun cc wx=>cc=.bool sd/\wx=w4)
 case first =>
  have hop:(op == 0)=decide (op=0):=by rw [Bool.eq_iff_iff,beq_iff_eq,decide_eq_true_eq]
  generalize decide (op=0)=b0 at *
  clear HSD
  cases nL <;> cases nR
  all_goals (
   go_wp2_with fail
   go_meet
   exact ⟨by rw [<-hsd];rfl,rfl⟩)
 case rest =>
  obtain ⟨rfl,hwc⟩:=hcut
  have hw':=hwc.symm
  subst hw'
  clear hsd
  have HC1:Hid (Calls Tryz.prog 125 #[.agg (exV le (.slice la le.args.length lc)),.int .i64 16] w4 (TxR (Pr.pE 17 le) (exWt le) w4)):=Hxq (exr_all 17 (by omega) le _ 16 w4 rfl (HLE.out.past M4.out) (HG.out.past M4.out (by simp)) (by omega))
  unfold exV at HC1
  have hz4:w.heap.size+2<=w4.heap.size:=by have q:=(M4.out).size;have:=lt_of_block F4.out;omega
  clear x0 x1 x2 x3
  have x0:=cell_at E4.out 0;have x4:=cell_at E4.out 4;have x5:=cell_at E4.out 5;have x6:=cell_at E4.out 6;have x7:=cell_at E4.out 7;have x8:=cell_at E4.out 8;have x9:=cell_at E4.out 9;have x10:=cell_at E4.out 10
  simp only [List.getElem?_toArray,List.getElem?_cons_zero,List.getElem?_cons_succ] at x0 x4 x5 x6 x7 x8 x9 x10
  go_wp2_with fail
  refine HC1.out.mono ?_
  rintro e5 w5 ⟨v,rfl,⟨s,bs,rfl,hs⟩,m5⟩
  have hz5:=m5.size
  have mU:=m5.trans ((Mod.refl [] w5).alloc (Obj.cells #[.string s,.bool bs] 92)) (by simp)
  have xU:=heap_alloc_new w5 (Obj.cells #[.string s,.bool bs] 92)
  have zU:(w5.alloc (Obj.cells #[.string s,.bool bs] 92)).heap.size=w5.heap.size+1:=by simp
  go_upto_region 16 with fail
  generalize w5.alloc (Obj.cells _ 92)=w6 at *
  generalize w5.heap.size=pt at *
  have F6:=Hxq (mU.at F4.out (by simp));have E6:=Hxq (mU.at E4.out (by simp));have M6:=Hxq (M4.out.trans mU (by simp));have X6:=Lib.hid xU;have Z6:=Lib.hid zU
  have HS:Hid (TxS (Pr.pE 17 le) (exWt le) s bs):=Lib.hid hs
  have hsz:=hs.1
  clear mU xU m5 hs HC1 zU x0 x4 x5 x6 x7 x8 x9 x10
  have HC2:Hid (Calls Tryz.prog 125 #[.agg (exV re (.slice ra re.args.length rc)),.int .i64 16] w6 (TxR (Pr.pE 17 re) (exWt re) w6)):=Hxq (exr_all 17 (by omega) re _ 16 w6 rfl (HRE.out.past M6.out) (HG.out.past M6.out (by simp)) (by omega))
  unfold exV at HC2
  have y11:=cell_at E6.out 11;have y12:=cell_at E6.out 12;have y13:=cell_at E6.out 13;have y14:=cell_at E6.out 14;have y15:=cell_at E6.out 15;have y16:=cell_at E6.out 16;have y17:=cell_at E6.out 17
  simp only [List.getElem?_toArray,List.getElem?_cons_zero,List.getElem?_cons_succ] at y11 y12 y13 y14 y15 y16 y17
  go_wp2_with fail
  refine HC2.out.mono ?_
  rintro e7 w7 ⟨v,rfl,⟨t,bt,rfl,ht⟩,m7⟩
  have hz7:=m7.size
  have mU:=m7.trans ((Mod.refl [] w7).alloc (Obj.cells #[.string t,.bool bt] 92)) (by simp)
  have xU:=heap_alloc_new w7 (Obj.cells #[.string t,.bool bt] 92)
  go_upto_region 17 with fail
  generalize w7.alloc (Obj.cells _ 92)=w8 at *
  generalize w7.heap.size=pu at *
  have F8:=Hxq (mU.at F6.out (by simp));have E8:=Hxq (mU.at E6.out (by simp));have M8:=Hxq (M6.out.trans mU (by simp));have X8:=Hxq (mU.at X6.out (by simp));have Y8:=Lib.hid xU
  have HT:Hid (TxS (Pr.pE 17 re) (exWt re) t bt):=Lib.hid ht
  have htz:=ht.1
  clear mU xU m7 ht HC2 y11 y12 y13 y14 y15 y16 y17
  have HF:Hid (∀ B,(bs || (bt || (!nA || (!nG || (decide (op<1) || decide (6<op))))))=B->TxS o (exWt le+exWt re+4) (s++cs++t) B):=Hxq (fun B hB=>((((HS.out.app HCO.out).app HT.out).must (nA && nG)).of HP.out (by
   rw [<-hB]
   cases bs <;> cases bt <;> cases nA <;> cases nG <;> simp)).le (by omega))
  have z2:=cell_at E8.out 3;have s0:=cell_at X8.out 0;have s1:=cell_at X8.out 1;have t0:=cell_at Y8.out 0;have t1:=cell_at Y8.out 1
  simp only [List.getElem?_toArray,List.getElem?_cons_zero,List.getElem?_cons_succ] at z2 s0 s1 t0 t1
  obtain ⟨d1,hd1⟩:∃ d1,decide (op<1)=d1:=⟨_,rfl⟩
  obtain ⟨d2,hd2⟩:∃ d2,decide (6<op)=d2:=⟨_,rfl⟩
  have hcase:bs=true\/(bs=false/\bt=true)\/(bs=false/\bt=false/\nA=false)\/(bs=false/\bt=false/\nA=true/\nG=false)\/(bs=false/\bt=false/\nA=true/\nG=true/\d1=true)\/(bs=false/\bt=false/\nA=true/\nG=true/\d1=false/\d2=true)\/(bs=false/\bt=false/\nA=true/\nG=true/\d1=false/\d2=false):=by
   cases bs <;> cases bt <;> cases nA <;> cases nG <;> cases d1 <;> cases d2 <;> simp
  have HD:=Hxq (And.intro hd1 hd2)
  clear hz4 hz5 hz7
  rcases hcase with rfl | ⟨rfl,rfl⟩ | ⟨rfl,rfl,rfl⟩ | ⟨rfl,rfl,rfl,rfl⟩ | ⟨rfl,rfl,rfl,rfl,rfl⟩ | ⟨rfl,rfl,rfl,rfl,rfl,rfl⟩ | ⟨rfl,rfl,rfl,rfl,rfl,rfl⟩
  all_goals (
   refine tl_region (fun wS=>Mod [] w8 wS) [34] (by kernel_rfl) ?_
   have hHeld:Mod [] w8 w8.drew:=(Mod.refl [] w8).drew
   try simp only [Act.put,Lq1,Lq2,Lq3]
   generalize w8.drew=wd at *
   refine TlAny.take 0 (v:=?_) hHeld ?_ ?_ ?_
   rotate_left 1
   ·refine Or.inl ⟨by rfl,?_⟩
    intro wS hSw
    replace hSw:Mod [] w8 wS:=hSw
    clear hSw
    go_simp
    all_goals with_reducible rfl
   ·exact fun _ _ _ h=>h
   try simp only [Act.put,Lq1,Lq2,Lq3]
   refine TlAny.take 1 (v:=?_) hHeld ?_ ?_ ?_
   rotate_left 1
   ·refine Or.inl ⟨by rfl,?_⟩
    intro wS hSw
    replace hSw:Mod [] w8 wS:=hSw
    have p:=hSw.cell s0 (by simp)
    clear hSw
    go_simp
    all_goals with_reducible rfl
   ·exact fun _ _ _ h=>h
   try simp only [Act.put,Lq1,Lq2,Lq3]
   refine TlAny.take 2 (v:=?_) hHeld ?_ ?_ ?_
   rotate_left 1
   ·refine Or.inl ⟨by rfl,?_⟩
    intro wS hSw
    replace hSw:Mod [] w8 wS:=hSw
    clear hSw
    go_simp
    all_goals with_reducible rfl
   ·exact fun _ _ _ h=>h
   try simp only [Act.put,Lq1,Lq2,Lq3]
   refine TlAny.take 3 (v:=?_) hHeld ?_ ?_ ?_
   rotate_left 1
   ·refine Or.inl ⟨by rfl,?_⟩
    intro wS hSw
    replace hSw:Mod [] w8 wS:=hSw
    have p:=hSw.cell z2 (by simp)
    clear hSw
    go_simp
    all_goals with_reducible rfl
   ·exact fun _ _ _ h=>h
   try simp only [Act.put,Lq1,Lq2,Lq3]
   refine TlAny.take 6 (v:=?_) hHeld ?_ ?_ ?_
   rotate_left 1
   ·refine Or.inl ⟨by rfl,?_⟩
    intro wS hSw
    replace hSw:Mod [] w8 wS:=hSw
    clear hSw
    go_simp
    all_goals with_reducible rfl
   ·exact fun _ _ _ h=>h
   try simp only [Act.put,Lq1,Lq2,Lq3]
   refine TlAny.take 7 (v:=?_) hHeld ?_ ?_ ?_
   rotate_left 1
   ·refine Or.inl ⟨by rfl,?_⟩
    intro wS hSw
    replace hSw:Mod [] w8 wS:=hSw
    have p:=hSw.cell t0 (by simp)
    clear hSw
    go_simp
    all_goals with_reducible rfl
   ·exact fun _ _ _ h=>h
   try simp only [Act.put,Lq1,Lq2,Lq3]
   refine TlAny.take 9 (v:=?_) hHeld ?_ ?_ ?_
   rotate_left 1
   ·refine Or.inl ⟨by rfl,?_⟩
    intro wS hSw
    replace hSw:Mod [] w8 wS:=hSw
    clear hSw
    go_simp
    all_goals with_reducible rfl
   ·exact fun _ _ _ h=>h
   try simp only [Act.put,Lq1,Lq2,Lq3]
   refine TlAny.take 10 (v:=?_) hHeld ?_ ?_ ?_
   rotate_left 1
   ·refine Or.inl ⟨by rfl,?_⟩
    intro wS hSw
    replace hSw:Mod [] w8 wS:=hSw
    have p:=hSw.cell s1 (by simp)
    clear hSw
    go_simp
    all_goals with_reducible rfl
   ·exact fun _ _ _ h=>h
   try simp only [Act.put,Lq1,Lq2,Lq3]
   refine TlAny.one 4 ?_
   intro K hK
   go_simp
   refine (rcompared_any op _).mono ?_
   rintro e2 v1 ⟨rfl,hv1⟩
   subst hv1
   rw [HCS.out]
   refine hK.out _ _ (fun _=>hHeld) ?_
   clear hK K
   try simp only [Act.put,Lq1,Lq2,Lq3]
   refine TlAny.take 5 (v:=?_) hHeld ?_ ?_ ?_
   rotate_left 1
   ·refine Or.inl ⟨by rfl,?_⟩
    intro wS hSw
    replace hSw:Mod [] w8 wS:=hSw
    clear hSw
    go_simp;(try rw [if_neg (by (try simp only [ByteArray.size_append]);omega)])
    all_goals with_reducible rfl
   ·exact fun _ _ _ h=>h
   try simp only [Act.put,Lq1,Lq2,Lq3]
   refine TlAny.take 8 (v:=?_) hHeld ?_ ?_ ?_
   rotate_left 1
   ·refine Or.inl ⟨by rfl,?_⟩
    intro wS hSw
    replace hSw:Mod [] w8 wS:=hSw
    clear hSw
    go_simp;(try rw [if_neg (by (try simp only [ByteArray.size_append]);omega)])
    all_goals with_reducible rfl
   ·exact fun _ _ _ h=>h
   try simp only [Act.put,Lq1,Lq2,Lq3]
   refine TlAny.take 11 (v:=?_) hHeld ?_ ?_ ?_
   rotate_left 1
   ·refine Or.inl ⟨by rfl,?_⟩
    intro wS hSw
    replace hSw:Mod [] w8 wS:=hSw
    clear hSw
    go_simp
    all_goals with_reducible rfl
   ·exact fun _ _ _ h=>h
   try simp only [Act.put,Lq1,Lq2,Lq3]
   refine TlAny.take 12 (v:=?_) hHeld ?_ ?_ ?_
   rotate_left 1
   ·first
     | (refine Or.inl ⟨by rfl,?_⟩;intro wS hSw;replace hSw:Mod [] w8 wS:=hSw;clear hSw;go_simp;(try rw [hd1]);(try rw [hd2]);all_goals with_reducible rfl)
     | (refine Or.inr ⟨by kernel_rfl,?_⟩;with_reducible rfl)
   ·exact fun _ _ _ h=>h
   try simp only [Act.put,Lq1,Lq2,Lq3]
   refine TlAny.take 13 (v:=?_) hHeld ?_ ?_ ?_
   rotate_left 1
   ·first
     | (refine Or.inl ⟨by rfl,?_⟩;intro wS hSw;replace hSw:Mod [] w8 wS:=hSw;have p:=hSw.cell t1 (by simp);clear hSw;go_simp;(try rw [hd1]);(try rw [hd2]);all_goals with_reducible rfl)
     | (refine Or.inr ⟨by kernel_rfl,?_⟩;with_reducible rfl)
   ·exact fun _ _ _ h=>h
   try simp only [Act.put,Lq1,Lq2,Lq3]
   refine TlAny.take 14 (v:=?_) hHeld ?_ ?_ ?_
   rotate_left 1
   ·refine Or.inl ⟨by rfl,?_⟩
    intro wS hSw
    replace hSw:Mod [] w8 wS:=hSw
    clear hSw
    go_simp
    all_goals with_reducible rfl
   ·exact fun _ _ _ h=>h
   try simp only [Act.put,Lq1,Lq2,Lq3]
   refine TlAny.take 15 (v:=?_) hHeld ?_ ?_ ?_
   rotate_left 1
   ·refine Or.inl ⟨by rfl,?_⟩
    intro wS hSw
    replace hSw:Mod [] w8 wS:=hSw
    clear hSw
    go_simp
    all_goals with_reducible rfl
   ·exact fun _ _ _ h=>h
   try simp only [Act.put,Lq1,Lq2,Lq3]
   refine TlAny.take 16 (v:=?_) hHeld ?_ ?_ ?_
   rotate_left 1
   ·first
     | (refine Or.inl ⟨by rfl,?_⟩;intro wS hSw;replace hSw:Mod [] w8 wS:=hSw;clear hSw;go_simp;(try rw [hd1]);(try rw [hd2]);all_goals with_reducible rfl)
     | (refine Or.inr ⟨by kernel_rfl,?_⟩;with_reducible rfl)
   ·exact fun _ _ _ h=>h
   try simp only [Act.put,Lq1,Lq2,Lq3]
   refine TlAny.take 17 (v:=?_) hHeld ?_ ?_ ?_
   rotate_left 1
   ·first
     | (refine Or.inl ⟨by rfl,?_⟩;intro wS hSw;replace hSw:Mod [] w8 wS:=hSw;clear hSw;go_simp;(try rw [hd1]);(try rw [hd2]);all_goals with_reducible rfl)
     | (refine Or.inr ⟨by kernel_rfl,?_⟩;with_reducible rfl)
   ·exact fun _ _ _ h=>h
   try simp only [Act.put,Lq1,Lq2,Lq3]
   refine TlAny.take 18 (v:=?_) hHeld ?_ ?_ ?_
   rotate_left 1
   ·refine Or.inl ⟨by rfl,?_⟩
    intro wS hSw
    replace hSw:Mod [] w8 wS:=hSw
    clear hSw
    go_simp
    all_goals with_reducible rfl
   ·exact fun _ _ _ h=>h
   try simp only [Act.put,Lq1,Lq2,Lq3]
   refine TlAny.take 19 (v:=?_) hHeld ?_ ?_ ?_
   rotate_left 1
   ·refine Or.inl ⟨by rfl,?_⟩
    intro wS hSw
    replace hSw:Mod [] w8 wS:=hSw
    clear hSw
    go_simp
    all_goals with_reducible rfl
   ·exact fun _ _ _ h=>h
   try simp only [Act.put,Lq1,Lq2,Lq3]
   refine TlAny.take 20 (v:=?_) hHeld ?_ ?_ ?_
   rotate_left 1
   ·first
     | (refine Or.inl ⟨by rfl,?_⟩;intro wS hSw;replace hSw:Mod [] w8 wS:=hSw;clear hSw;go_simp;(try rw [hd1]);(try rw [hd2]);all_goals with_reducible rfl)
     | (refine Or.inr ⟨by kernel_rfl,?_⟩;with_reducible rfl)
   ·exact fun _ _ _ h=>h
   try simp only [Act.put,Lq1,Lq2,Lq3]
   refine TlAny.take 21 (v:=?_) hHeld ?_ ?_ ?_
   rotate_left 1
   ·first
     | (refine Or.inl ⟨by rfl,?_⟩;intro wS hSw;replace hSw:Mod [] w8 wS:=hSw;clear hSw;go_simp;(try rw [hd1]);(try rw [hd2]);all_goals with_reducible rfl)
     | (refine Or.inr ⟨by kernel_rfl,?_⟩;with_reducible rfl)
   ·exact fun _ _ _ h=>h
   try simp only [Act.put,Lq1,Lq2,Lq3]
   refine TlAny.take 22 (v:=?_) hHeld ?_ ?_ ?_
   rotate_left 1
   ·refine Or.inl ⟨by rfl,?_⟩
    intro wS hSw
    replace hSw:Mod [] w8 wS:=hSw
    clear hSw
    go_simp
    all_goals with_reducible rfl
   ·exact fun _ _ _ h=>h
   try simp only [Act.put,Lq1,Lq2,Lq3]
   refine TlAny.take 23 (v:=?_) hHeld ?_ ?_ ?_
   rotate_left 1
   ·refine Or.inl ⟨by rfl,?_⟩
    intro wS hSw
    replace hSw:Mod [] w8 wS:=hSw
    clear hSw
    go_simp
    all_goals with_reducible rfl
   ·exact fun _ _ _ h=>h
   try simp only [Act.put,Lq1,Lq2,Lq3]
   refine TlAny.take 24 (v:=?_) hHeld ?_ ?_ ?_
   rotate_left 1
   ·first
     | (refine Or.inl ⟨by rfl,?_⟩;intro wS hSw;replace hSw:Mod [] w8 wS:=hSw;clear hSw;go_simp;(try rw [hd1]);(try rw [hd2]);all_goals with_reducible rfl)
     | (refine Or.inr ⟨by kernel_rfl,?_⟩;with_reducible rfl)
   ·exact fun _ _ _ h=>h
   try simp only [Act.put,Lq1,Lq2,Lq3]
   refine TlAny.take 25 (v:=?_) hHeld ?_ ?_ ?_
   rotate_left 1
   ·first
     | (refine Or.inl ⟨by rfl,?_⟩;intro wS hSw;replace hSw:Mod [] w8 wS:=hSw;have p:=hSw.cell z2 (by simp);clear hSw;go_simp;(try rw [hd1]);(try rw [hd2]);all_goals with_reducible rfl)
     | (refine Or.inr ⟨by kernel_rfl,?_⟩;with_reducible rfl)
   ·exact fun _ _ _ h=>h
   try simp only [Act.put,Lq1,Lq2,Lq3]
   refine TlAny.take 26 (v:=?_) hHeld ?_ ?_ ?_
   rotate_left 1
   ·first
     | (refine Or.inl ⟨by rfl,?_⟩;intro wS hSw;replace hSw:Mod [] w8 wS:=hSw;clear hSw;go_simp;(try rw [hd1]);(try rw [hd2]);all_goals with_reducible rfl)
     | (refine Or.inr ⟨by kernel_rfl,?_⟩;with_reducible rfl)
   ·exact fun _ _ _ h=>h
   try simp only [Act.put,Lq1,Lq2,Lq3]
   refine TlAny.take 27 (v:=?_) hHeld ?_ ?_ ?_
   rotate_left 1
   ·refine Or.inl ⟨by rfl,?_⟩
    intro wS hSw
    replace hSw:Mod [] w8 wS:=hSw
    clear hSw
    go_simp
    all_goals with_reducible rfl
   ·exact fun _ _ _ h=>h
   try simp only [Act.put,Lq1,Lq2,Lq3]
   refine TlAny.take 28 (v:=?_) hHeld ?_ ?_ ?_
   rotate_left 1
   ·refine Or.inl ⟨by rfl,?_⟩
    intro wS hSw
    replace hSw:Mod [] w8 wS:=hSw
    clear hSw
    go_simp
    all_goals with_reducible rfl
   ·exact fun _ _ _ h=>h
   try simp only [Act.put,Lq1,Lq2,Lq3]
   refine TlAny.take 29 (v:=?_) hHeld ?_ ?_ ?_
   rotate_left 1
   ·first
     | (refine Or.inl ⟨by rfl,?_⟩;intro wS hSw;replace hSw:Mod [] w8 wS:=hSw;clear hSw;go_simp;(try rw [hd1]);(try rw [hd2]);all_goals with_reducible rfl)
     | (refine Or.inr ⟨by kernel_rfl,?_⟩;with_reducible rfl)
   ·exact fun _ _ _ h=>h
   try simp only [Act.put,Lq1,Lq2,Lq3]
   refine TlAny.take 30 (v:=?_) hHeld ?_ ?_ ?_
   rotate_left 1
   ·first
     | (refine Or.inl ⟨by rfl,?_⟩;intro wS hSw;replace hSw:Mod [] w8 wS:=hSw;have p:=hSw.cell z2 (by simp);clear hSw;go_simp;(try rw [hd1]);(try rw [hd2]);all_goals with_reducible rfl)
     | (refine Or.inr ⟨by kernel_rfl,?_⟩;with_reducible rfl)
   ·exact fun _ _ _ h=>h
   try simp only [Act.put,Lq1,Lq2,Lq3]
   refine TlAny.take 31 (v:=?_) hHeld ?_ ?_ ?_
   rotate_left 1
   ·first
     | (refine Or.inl ⟨by rfl,?_⟩;intro wS hSw;replace hSw:Mod [] w8 wS:=hSw;clear hSw;go_simp;(try rw [hd1]);(try rw [hd2]);all_goals with_reducible rfl)
     | (refine Or.inr ⟨by kernel_rfl,?_⟩;with_reducible rfl)
   ·exact fun _ _ _ h=>h
   try simp only [Act.put,Lq1,Lq2,Lq3]
   refine TlAny.take 32 (v:=?_) hHeld ?_ ?_ ?_
   rotate_left 1
   ·refine Or.inl ⟨by rfl,?_⟩
    intro wS hSw
    replace hSw:Mod [] w8 wS:=hSw
    clear hSw
    go_simp
    all_goals with_reducible rfl
   ·exact fun _ _ _ h=>h
   try simp only [Act.put,Lq1,Lq2,Lq3]
   refine TlAny.take 33 (v:=?_) hHeld ?_ ?_ ?_
   rotate_left 1
   ·refine Or.inl ⟨by rfl,?_⟩
    intro wS hSw
    replace hSw:Mod [] w8 wS:=hSw
    clear hSw
    go_simp
    all_goals with_reducible rfl
   ·exact fun _ _ _ h=>h
   try simp only [Act.put,Lq1,Lq2,Lq3]
   have b0:=cell_at F8.out 0;have b1:=cell_at F8.out 1
   simp only [List.getElem?_toArray,List.getElem?_cons_zero,List.getElem?_cons_succ] at b0 b1
   replace b0:=hHeld.cell b0 (by simp);replace b1:=hHeld.cell b1 (by simp)
   have fA:∀ j,v1.frozen? ⟨w.heap.size+1,j,none⟩=false:=fun j=>free_at (hHeld.at F8.out (by simp)) j
   refine TlAny.one 34 ?_
   intro K hK
   go_simp
   refine hK.out _ _ (fun hN=>absurd hN (by decide)) ?_
   clear hK K
   try simp only [Act.put,Lq1,Lq2,Lq3]
   refine TlAny.fin ?_
   have F9:=Hxq (hHeld.at F8.out (by simp));have M9:=Hxq (M8.out.trans hHeld (by simp))
   go_wp2_with fail
   generalize hS2:(s++cs++t:ByteArray)=S2 at *
   refine bodyPost_ret (results_cell_row rfl _ _ _ _ _ _ _ rfl (setCs_row (vs:=[.string S2,.bool _]) F9.out rfl) Tryz.underlying92 rfl (by kernel_rfl)) rfl ⟨_,rfl,⟨S2,_,rfl,HF.out _ (by simp [HD.out.1,HD.out.2])⟩,M9.out.trans (setCs_mod (w.heap.size+1) [.string S2,.bool _] 0 v1) (fun t ht=>.inr (by rw [Msq] at ht;omega))⟩)
end Go.Proofs.YtohnmnfhmbmoaaaGreatDoor
