/- THE TEXTS MERGED: P5LitG P5Told P5Ent LxJoin LxAlone SySq SyDeepP. -/
import Derived.Test.YtohnmnfhmbmoaaaDoorKA20
namespace Go.Proofs.YtohnmnfhmbmoaaaDoor
open Go.RowKit
set_option linter.unusedVariables false
set_option linter.unusedSimpArgs false
set_option maxRecDepth 100000
set_option maxHeartbeats 4000000 in
theorem rlit_agg (b:Nat) (k:Int) (a:Pr.Atom) (op:Int) (le re:Pr.Ex) (fn:Int) (av:ByteArray) (of:Pr.Ex) (body:List Pr.Li) (ln cl:Int) (ta la ra oa ya:Option Addr) (tc lc rc oc yc:Nat) (w:World) (hk:k=4) (n:Nat) (hA:∀ w,GlobV w->EOk w of (.slice oa of.args.length oc)->BOk w body (.slice ya body.length yc)->Calls Tryd.prog 49 #[.agg (agVP fn av of (.slice oa of.args.length oc) (.slice ya body.length yc)),.int .i64 (b:Int)] w (TxR (pG b fn av of body) n w)) (hO:EOk w of (.slice oa of.args.length oc)) (hB:BOk w body (.slice ya body.length yc)) (hG:GlobV w) :
  Calls Tryd.prog 29 #[.agg #[.int .i64 k,.string a.rel,.slice ta a.terms.length tc,.int .i64 op,.int .i64 le.k,.string le.v,.int .i64 le.x.k,.int .i64 le.x.n,.string (Lx.ofS le.x.s),.int .i64 le.op,.slice la le.args.length lc,.int .i64 re.k,.string re.v,.int .i64 re.x.k,.int .i64 re.x.n,.string (Lx.ofS re.x.s),.int .i64 re.op,.slice ra re.args.length rc,.int .i64 fn,.string av,.int .i64 of.k,.string of.v,.int .i64 of.x.k,.int .i64 of.x.n,.string (Lx.ofS of.x.s),.int .i64 of.op,.slice oa of.args.length oc,.slice ya body.length yc,.int .i64 ln,.int .i64 cl],.int .i64 (b:Int)] w (TxR (Pr.pL b (.mk k a op le re fn av of body ln cl)) n w):=by
 have HO:=Lib.hid hO;have HB:=Lib.hid hB;have HG:=Lib.hid hG
 unfold agVP at hA
 have HAA:=Lib.hid hA
 subst hk
 have HP:Hid (Pr.pL b (.mk 4 a op le re fn av of body ln cl)=cat (mustO (noAtm a && (decide (op=0) && (Pr.noExpr le && Pr.noExpr re)))) (pG b fn av of body)):=Hxq (by
  rw [pL_eq]
  unfold tailO Pr.lacks noAtm
  simp)
 generalize Pr.pL b (.mk 4 a op le re fn av of body ln cl)=o at *
 generalize pG b fn av of body=og at *
 clear hO hB hG hA
 have hm0:=((Mod.refl [] w).alloc (Obj.cells #[.int .i64 4,.string a.rel,.slice ta a.terms.length tc,.int .i64 op,.int .i64 le.k,.string le.v,.int .i64 le.x.k,.int .i64 le.x.n,.string (Lx.ofS le.x.s),.int .i64 le.op,.slice la le.args.length lc,.int .i64 re.k,.string re.v,.int .i64 re.x.k,.int .i64 re.x.n,.string (Lx.ofS re.x.s),.int .i64 re.op,.slice ra re.args.length rc,.int .i64 fn,.string av,.int .i64 of.k,.string of.v,.int .i64 of.x.k,.int .i64 of.x.n,.string (Lx.ofS of.x.s),.int .i64 of.op,.slice oa of.args.length oc,.slice ya body.length yc,.int .i64 ln,.int .i64 cl] 38)).alloc (Obj.cells #[.string ⟨#[]⟩,.bool false] 79)
 have e0:=two_a w #[.int .i64 4,.string a.rel,.slice ta a.terms.length tc,.int .i64 op,.int .i64 le.k,.string le.v,.int .i64 le.x.k,.int .i64 le.x.n,.string (Lx.ofS le.x.s),.int .i64 le.op,.slice la le.args.length lc,.int .i64 re.k,.string re.v,.int .i64 re.x.k,.int .i64 re.x.n,.string (Lx.ofS re.x.s),.int .i64 re.op,.slice ra re.args.length rc,.int .i64 fn,.string av,.int .i64 of.k,.string of.v,.int .i64 of.x.k,.int .i64 of.x.n,.string (Lx.ofS of.x.s),.int .i64 of.op,.slice oa of.args.length oc,.slice ya body.length yc,.int .i64 ln,.int .i64 cl] #[.string ⟨#[]⟩,.bool false] 38 79
 have e1:=two_b w #[.int .i64 4,.string a.rel,.slice ta a.terms.length tc,.int .i64 op,.int .i64 le.k,.string le.v,.int .i64 le.x.k,.int .i64 le.x.n,.string (Lx.ofS le.x.s),.int .i64 le.op,.slice la le.args.length lc,.int .i64 re.k,.string re.v,.int .i64 re.x.k,.int .i64 re.x.n,.string (Lx.ofS re.x.s),.int .i64 re.op,.slice ra re.args.length rc,.int .i64 fn,.string av,.int .i64 of.k,.string of.v,.int .i64 of.x.k,.int .i64 of.x.n,.string (Lx.ofS of.x.s),.int .i64 of.op,.slice oa of.args.length oc,.slice ya body.length yc,.int .i64 ln,.int .i64 cl] #[.string ⟨#[]⟩,.bool false] 38 79
 have zA:((w.alloc (Obj.cells #[.int .i64 4,.string a.rel,.slice ta a.terms.length tc,.int .i64 op,.int .i64 le.k,.string le.v,.int .i64 le.x.k,.int .i64 le.x.n,.string (Lx.ofS le.x.s),.int .i64 le.op,.slice la le.args.length lc,.int .i64 re.k,.string re.v,.int .i64 re.x.k,.int .i64 re.x.n,.string (Lx.ofS re.x.s),.int .i64 re.op,.slice ra re.args.length rc,.int .i64 fn,.string av,.int .i64 of.k,.string of.v,.int .i64 of.x.k,.int .i64 of.x.n,.string (Lx.ofS of.x.s),.int .i64 of.op,.slice oa of.args.length oc,.slice ya body.length yc,.int .i64 ln,.int .i64 cl] 38)).alloc (Obj.cells #[.string ⟨#[]⟩,.bool false] 79)).heap.size=w.heap.size+2:=by simp
 have HA:=Hxq (fun w=>rnoAtom_any a ta tc w)
 have HL:=Hxq (fun w=>rnoExpr_any le la lc w)
 have HR:=Hxq (fun w=>rnoExpr_any re ra rc w)
 have HAG:=Hxq (fun w=>rnoAgg_any fn av of body.length oa ya oc yc w)
 unfold exV at HL HR
 unfold agVP at HAG
 generalize hnA:noAtm a=nA at *
 generalize hnL:Pr.noExpr le=nL at *
 generalize hnR:Pr.noExpr re=nR at *
 generalize hnG:noAg fn av of body.length=nG at *
 have HNA:=Lib.hid hnA;have HNL:=Lib.hid hnL;have HNR:=Lib.hid hnR;have HNG:=Lib.hid hnG
 clear hnA hnL hnR hnG
 go_enter Tryd.func29,Tryd.ntmps29
 go_upto_region 1 with fail
 generalize (w.alloc (Obj.cells _ 38)).alloc (Obj.cells _ 79)=w0 at *
 have M0:=Lib.hid hm0;have E0:=Lib.hid e0;have F0:=Lib.hid e1;have ZA:=Lib.hid zA
 clear hm0 e0 e1 zA
 have x1:=cell_at E0.out 1;have x2:=cell_at E0.out 2
 simp only [List.getElem?_toArray,List.getElem?_cons_zero,List.getElem?_cons_succ] at x1 x2
 go_wp2_with fail
 refine (HA.out w0).mono ?_
 rintro e1 w1 ⟨rfl,m1⟩
 have E1:=Hxq (m1.at E0.out (by simp));have F1:=Hxq (m1.at F0.out (by simp));have M1:=Hxq (M0.out.trans m1 (by simp))
 clear m1 x1 x2
 have x4:=cell_at E1.out 4;have x5:=cell_at E1.out 5;have x6:=cell_at E1.out 6;have x7:=cell_at E1.out 7;have x8:=cell_at E1.out 8;have x9:=cell_at E1.out 9;have x10:=cell_at E1.out 10
 simp only [List.getElem?_toArray,List.getElem?_cons_zero,List.getElem?_cons_succ] at x4 x5 x6 x7 x8 x9 x10
 go_wp2_with fail
 refine (HL.out w1).mono ?_
 rintro e2 w2 ⟨rfl,m2⟩
 have E2:=Hxq (m2.at E1.out (by simp));have F2:=Hxq (m2.at F1.out (by simp));have M2:=Hxq (M1.out.trans m2 (by simp))
 clear m2 x4 x5 x6 x7 x8 x9 x10
 have x11:=cell_at E2.out 11;have x12:=cell_at E2.out 12;have x13:=cell_at E2.out 13;have x14:=cell_at E2.out 14;have x15:=cell_at E2.out 15;have x16:=cell_at E2.out 16;have x17:=cell_at E2.out 17
 simp only [List.getElem?_toArray,List.getElem?_cons_zero,List.getElem?_cons_succ] at x11 x12 x13 x14 x15 x16 x17
 go_wp2_with fail
 refine (HR.out w2).mono ?_
 rintro e3 w3 ⟨rfl,m3⟩
 have E3:=Hxq (m3.at E2.out (by simp));have F3:=Hxq (m3.at F2.out (by simp));have M3:=Hxq (M2.out.trans m3 (by simp))
 clear m3 x11 x12 x13 x14 x15 x16 x17
 have x18:=cell_at E3.out 18;have x19:=cell_at E3.out 19;have x20:=cell_at E3.out 20;have x21:=cell_at E3.out 21;have x22:=cell_at E3.out 22;have x23:=cell_at E3.out 23;have x24:=cell_at E3.out 24;have x25:=cell_at E3.out 25;have x26:=cell_at E3.out 26;have x27:=cell_at E3.out 27
 simp only [List.getElem?_toArray,List.getElem?_cons_zero,List.getElem?_cons_succ] at x18 x19 x20 x21 x22 x23 x24 x25 x26 x27
 go_wp2_with fail
 refine (HAG.out w3).mono ?_
 rintro e4 w4 ⟨rfl,m4⟩
 have E4:=Hxq (m4.at E3.out (by simp));have F4:=Hxq (m4.at F3.out (by simp));have M4:=Hxq (M3.out.trans m4 (by simp))
 clear m4 x18 x19 x20 x21 x22 x23 x24 x25 x26 x27
 have x0:=cell_at E4.out 0;have x1:=cell_at E4.out 1;have x2:=cell_at E4.out 2;have x3:=cell_at E4.out 3
 simp only [List.getElem?_toArray,List.getElem?_cons_zero,List.getElem?_cons_succ] at x0 x1 x2 x3
 obtain ⟨sd,hsd⟩:∃ sd,(nL && (nR && decide (op=0)))=sd:=⟨_,rfl⟩
 have HSD:=Lib.hid hsd
 go_upto_region 5 with fail
 go_cut [9] (fun cc wx=>cc=.bool sd/\wx=w4)
 case first =>
  have hop:(op == 0)=decide (op=0):=by rw [Bool.eq_iff_iff,beq_iff_eq,decide_eq_true_eq]
  generalize decide (op=0)=b0 at *
  clear HSD
  cases nL <;> cases nR
  all_goals (
   go_wp2_with fail
   go_meet
   exact ⟨by rw [<-hsd];rfl,rfl⟩)
 case rest =>
  obtain ⟨rfl,hwc⟩:=hcut
  have hw':=hwc.symm
  subst hw'
  clear hsd
  have HC:=Hxq (HAA.out w4 (HG.out.past M4.out (by simp)) (HO.out.past M4.out) (HB.out.past M4.out))
  have hz4:w.heap.size+2<=w4.heap.size:=by have q:=(M4.out).size;have:=lt_of_block F4.out;omega
  clear x0 x1 x2 x3
  have x0:=cell_at E4.out 0;have x18:=cell_at E4.out 18;have x19:=cell_at E4.out 19;have x20:=cell_at E4.out 20;have x21:=cell_at E4.out 21;have x22:=cell_at E4.out 22;have x23:=cell_at E4.out 23;have x24:=cell_at E4.out 24;have x25:=cell_at E4.out 25;have x26:=cell_at E4.out 26;have x27:=cell_at E4.out 27
  simp only [List.getElem?_toArray,List.getElem?_cons_zero,List.getElem?_cons_succ] at x0 x18 x19 x20 x21 x22 x23 x24 x25 x26 x27
  go_wp2_with fail
  refine HC.out.mono ?_
  rintro e5 w5 ⟨v,rfl,⟨s,bt,rfl,hs⟩,m5⟩
  have hz5:=m5.size
  have mU:=m5.trans ((Mod.refl [] w5).alloc (Obj.cells #[.string s,.bool bt] 79)) (by simp)
  have xU:=heap_alloc_new w5 (Obj.cells #[.string s,.bool bt] 79)
  go_upto_region 20 with fail
  generalize w5.alloc (Obj.cells _ 79)=w6 at *
  generalize w5.heap.size=pt at *
  have F6:=Hxq (mU.at F4.out (by simp));have M6:=Hxq (M4.out.trans mU (by simp));have X6:=Lib.hid xU
  have HS:Hid (TxS og n s bt):=Lib.hid hs
  clear mU xU m5 hs HC x0 x18 x19 x20 x21 x22 x23 x24 x25 x26 x27
  have u1:=cell_at X6.out 1
  simp only [List.getElem?_toArray,List.getElem?_cons_zero,List.getElem?_cons_succ] at u1
  have fU:∀ j,w6.frozen? ⟨pt,j,none⟩=false:=fun j=>free_at X6.out j
  go_cut [] (fun wx=>wx.heap[pt]?=some (.cells #[.string s,.bool (bt || (!nA || !sd))] 79 (0,0))/\Mod [pt] w6 wx)
  case first =>
   have m7:=fun v=>(Mod.refl [pt] w6).setCell (p:=⟨pt,1,none⟩) (.inl (by simp)) v
   have x7:=fun v=>setCell_at X6.out 1 v
   have M7:=Lib.hid m7;have X7:=Lib.hid x7
   clear m7 x7
   cases bt <;> cases sd <;> cases nA
   all_goals (
    go_wp2_with fail
    go_meet
    exact ⟨X7.out _,M7.out _⟩)
  case rest =>
   obtain ⟨x7,m7⟩:=hcut
   have hp1:w.heap.size+1∉[pt]:=by rw [Msq];omega
   have X7:=Lib.hid x7;have F7:=Hxq (m7.at F6.out hp1)
   have M7:=Hxq (M6.out.trans m7 (fun t ht=>.inr (by rw [Msq] at ht;omega)))
   clear x7 m7 u1 fU
   generalize hbb:(bt || (!nA || !sd))=bb at *
   have HBB:=Lib.hid hbb
   clear hbb
   have HF:Hid (TxS o n s bb):=Hxq ((HS.out.must (nA && sd)).of (by
    rw [HP.out,<-HSD.out]
    congr 2
    cases nL <;> cases nR <;> cases decide (op=0) <;> rfl) (by rw [<-HBB.out];cases bt <;> cases sd <;> cases nA <;> rfl))
   have u0:=cell_at X7.out 0;have u1:=cell_at X7.out 1;have b0:=cell_at F7.out 0;have b1:=cell_at F7.out 1
   simp only [List.getElem?_toArray,List.getElem?_cons_zero,List.getElem?_cons_succ] at u0 u1 b0 b1
   have fA:∀ j,wc.frozen? ⟨w.heap.size+1,j,none⟩=false:=fun j=>free_at F7.out j
   go_wp2_with fail
   refine bodyPost_ret (results_cell_row rfl _ _ _ _ _ _ _ rfl (setCs_row (vs:=[.string s,.bool bb]) F7.out rfl) Tryd.underlying79 rfl (by kernel_rfl)) rfl ⟨_,rfl,⟨s,bb,rfl,HF.out⟩,M7.out.trans (setCs_mod (w.heap.size+1) [.string s,.bool bb] 0 wc) (fun t ht=>.inr (by rw [Msq] at ht;omega))⟩
/-- every literal, with so many braces -/
theorem rlit_of (b:Nat) (hb:b<=16) (hB:∀ c,b=c+1->R5B c):R5L b:=by
 intro e U w hL hG hlen
 obtain ⟨k,a,op,le,re,fn,av,of,body,ln,cl⟩:=e
 obtain ⟨hT,hl,hr,ho,hbo⟩:=hL.parts
 obtain ⟨Ut,Ul,Ur,Uo,Ub⟩:=U
 dsimp only at hT hl hr ho hbo
 obtain ⟨ta,tc,rfl⟩:=hT.lit
 obtain ⟨la,lc,rfl⟩:=hl.lit
 obtain ⟨ra,rc,rfl⟩:=hr.lit
 obtain ⟨oa,oc,rfl⟩:=ho.lit
 obtain ⟨ya,yc,rfl⟩:=hbo.lit
 have hw:lWt (.mk k a op le re fn av of body ln cl)=aWt a+exWt le+exWt re+exWt of+av.size+1000+lsWt body:=by rw [lWt]
 rw [hw] at hlen ⊢
 show Calls Tryd.prog 29 #[.agg #[.int .i64 k,.string a.rel,.slice ta a.terms.length tc,.int .i64 op,.int .i64 le.k,.string le.v,.int .i64 le.x.k,.int .i64 le.x.n,.string (Lx.ofS le.x.s),.int .i64 le.op,.slice la le.args.length lc,.int .i64 re.k,.string re.v,.int .i64 re.x.k,.int .i64 re.x.n,.string (Lx.ofS re.x.s),.int .i64 re.op,.slice ra re.args.length rc,.int .i64 fn,.string av,.int .i64 of.k,.string of.v,.int .i64 of.x.k,.int .i64 of.x.n,.string (Lx.ofS of.x.s),.int .i64 of.op,.slice oa of.args.length oc,.slice ya body.length yc,.int .i64 ln,.int .i64 cl],.int .i64 (b:Int)] w _
 by_cases h12:k=1\/k=2
 ·exact (rlit_atom b k a op le re fn av of body ln cl ta la ra oa ya tc lc rc oc yc w h12 hT hG (by omega)).mono fun _ _ h=>h.le (by omega)
 ·by_cases h3:k=3
  ·exact (rlit_cmp b k a op le re fn av of body ln cl ta la ra oa ya tc lc rc oc yc w h3 hl hr hG (by omega)).mono fun _ _ h=>h.le (by omega)
  ·by_cases h4:k=4
   ·refine (rlit_agg b k a op le re fn av of body ln cl ta la ra oa ya tc lc rc oc yc w h4 (av.size+exWt of+2 * lsWt body+50) (fun w' hG' ho' hb'=>?_) ho hbo hG).mono fun _ _ h=>h.le (by omega)
    by_cases hbad:fn<1\/4<fn\/b=0\/body.length=0
    ·exact ragg_bad b fn av of body oa ya oc yc _ w' hbad
    ·obtain ⟨c,rfl⟩:∃ c,b=c+1:=⟨b - 1,by omega⟩
     exact ragg_any c (hB c rfl) fn av of body oa ya oc yc _ w' (by omega) (by omega) rfl (by omega) (by omega) ho' hb' hG' (by omega)
   ·exact rlit_other b k a op le re fn av of body ln cl ta la ra oa ya tc lc rc oc yc w _ ⟨fun h=>h12 (.inl h),fun h=>h12 (.inr h),h3,h4⟩
theorem rlit_all (b:Nat) (h:b<=16):R5L b:=by
 induction b with
 | zero=>exact rlit_of 0 h (fun c hc=>by omega)
 | succ b ih =>
  refine rlit_of (b+1) h (fun c hc=>?_)
  obtain rfl:b=c:=by omega
  exact rlits_of (ih (by omega))
theorem rlits_all (b:Nat) (h:b<=16):R5B b:=rlits_of (rlit_all b h)
theorem rtold_any (o:Option (List Nat)) (n:Nat) (v:Value) (w:World) (h:TxV o n v):Calls Tryd.prog 27 #[v] w fun e w'=>e=.returned (tv o)/\Mod [] w w':=by
 obtain ⟨s,b,rfl,-,h1,h2⟩:=h
 cases o with
 | none =>
  obtain rfl:=h2 rfl
  clear h1 h2
  go_enter Tryd.func27,Tryd.ntmps27
  go_wp2_with fail
  go_ret2
  exact ⟨rfl,(Mod.refl [] w).alloc _⟩
 | some t =>
  obtain ⟨rfl,rfl⟩:=h1 t rfl
  clear h1 h2
  unfold tv
  dsimp only
  generalize Lx.ofS t=s at *
  go_enter Tryd.func27,Tryd.ntmps27
  go_wp2_with fail
  go_ret2
  exact ⟨rfl,(Mod.refl [] w).alloc _⟩
set_option maxHeartbeats 2000000 in
theorem rExpr_any (e:Pr.Ex) (u:Value) (w:World) (hE:EOk w e u) (hG:GlobV w) (hlen:exWt e<=140737488000000) :
  Calls Tryd.prog 18 #[.agg (exV e u)] w fun e' w'=>e'=.returned (tv (Pr.pE 17 e))/\Mod [] w w':=by
 obtain ⟨ea,ec,rfl⟩:=hE.lit
 have mA:=(Mod.refl [] w).alloc (Obj.cells #[.int .i64 e.k,.string e.v,.int .i64 e.x.k,.int .i64 e.x.n,.string (Lx.ofS e.x.s),.int .i64 e.op,.slice ea e.args.length ec] 34)
 have eA:=heap_alloc_new w (Obj.cells #[.int .i64 e.k,.string e.v,.int .i64 e.x.k,.int .i64 e.x.n,.string (Lx.ofS e.x.s),.int .i64 e.op,.slice ea e.args.length ec] 34)
 have HC:=Hxq (exr_all 17 (by omega) e _ 16 _ rfl (hE.past mA) (hG.past mA (by simp)) hlen)
 clear hG
 have HT:=Hxq (fun v w (h:TxV (Pr.pE 17 e) (exWt e) v)=>rtold_any _ _ v w h)
 generalize Pr.pE 17 e=o at *
 generalize exWt e=n at *
 try unfold exV at *
 go_enter Tryd.func18,Tryd.ntmps18
 go_upto_region 1 with fail
 generalize w.alloc (Obj.cells _ 34)=w0 at *
 generalize w.heap.size=g at *
 have x0:=cell_at eA 0;have x1:=cell_at eA 1;have x2:=cell_at eA 2;have x3:=cell_at eA 3;have x4:=cell_at eA 4;have x5:=cell_at eA 5;have x6:=cell_at eA 6
 simp only [List.getElem?_toArray,List.getElem?_cons_zero,List.getElem?_cons_succ] at x0 x1 x2 x3 x4 x5 x6
 go_wp2_with fail
 refine HC.out.mono ?_
 rintro e w1 ⟨v,rfl,hv,m1⟩
 have M1:=Hxq (mA.trans m1 (by simp));have HV:=Lib.hid hv
 clear m1 hv
 go_wp2_with fail
 refine (HT.out v w1 HV.out).mono ?_
 rintro e w2 ⟨rfl,m2⟩
 have M2:=Hxq (M1.out.trans m2 (by simp))
 clear m2 HT HC
 cases o
 all_goals (
  unfold tv
  go_wp2_with fail
  go_ret2
  exact ⟨rfl,M2.out⟩)
set_option maxHeartbeats 2000000 in
theorem rAtom_any (a:Pr.Atom) (u:Value) (w:World) (hT:TOk w a.terms u) (hG:GlobV w) (hlen:2 * aWt a<=140737488000000) :
  Calls Tryd.prog 17 #[.agg #[.string a.rel,u]] w fun e' w'=>e'=.returned (tv (Pr.pA a))/\Mod [] w w':=by
 obtain ⟨ta,tc,rfl⟩:=hT.lit
 have mA:=(Mod.refl [] w).alloc (Obj.cells #[.string a.rel,.slice ta a.terms.length tc] 24)
 have eA:=heap_alloc_new w (Obj.cells #[.string a.rel,.slice ta a.terms.length tc] 24)
 have HC:=Hxq (ratom_any a _ _ (hT.past mA) (hG.past mA (by simp)) hlen)
 clear hG
 have HT:=Hxq (fun v w (h:TxV (Pr.pA a) (2 * aWt a) v)=>rtold_any _ _ v w h)
 generalize Pr.pA a=o at *
 generalize 2 * aWt a=n at *
 try unfold exV at *
 go_enter Tryd.func17,Tryd.ntmps17
 go_upto_region 1 with fail
 generalize w.alloc (Obj.cells _ 24)=w0 at *
 generalize w.heap.size=g at *
 have x0:=cell_at eA 0;have x1:=cell_at eA 1
 simp only [List.getElem?_toArray,List.getElem?_cons_zero,List.getElem?_cons_succ] at x0 x1
 go_wp2_with fail
 refine HC.out.mono ?_
 rintro e w1 ⟨v,rfl,hv,m1⟩
 have M1:=Hxq (mA.trans m1 (by simp));have HV:=Lib.hid hv
 clear m1 hv
 go_wp2_with fail
 refine (HT.out v w1 HV.out).mono ?_
 rintro e w2 ⟨rfl,m2⟩
 have M2:=Hxq (M1.out.trans m2 (by simp))
 clear m2 HT HC
 cases o
 all_goals (
  unfold tv
  go_wp2_with fail
  go_ret2
  exact ⟨rfl,M2.out⟩)
set_option maxHeartbeats 2000000 in
theorem rRule_any (r:Pr.Rul) (tu bu:Value) (w:World) (hT:TOk w r.head.terms tu) (hB:BOk w r.body bu) (hG:GlobV w) (hlen:2 * rWt r<=140737488000000) :
  Calls Tryd.prog 15 #[.agg #[.string r.head.rel,tu,bu,.int .i64 r.line,.int .i64 r.col]] w fun e' w'=>e'=.returned (tv (Pr.pR r))/\Mod [] w w':=by
 obtain ⟨ta,tc,rfl⟩:=hT.lit
 obtain ⟨ba,bc,rfl⟩:=hB.lit
 have mA:=(Mod.refl [] w).alloc (Obj.cells #[.string r.head.rel,.slice ta r.head.terms.length tc,.slice ba r.body.length bc,.int .i64 r.line,.int .i64 r.col] 29)
 have eA:=heap_alloc_new w (Obj.cells #[.string r.head.rel,.slice ta r.head.terms.length tc,.slice ba r.body.length bc,.int .i64 r.line,.int .i64 r.col] 29)
 have HC:=Hxq (rrule_any (rlits_all 16 (Nat.le_refl _)) r _ _ _ (hT.past mA) (hB.past mA) (hG.past mA (by simp)) hlen)
 clear hG
 have HT:=Hxq (fun v w (h:TxV (Pr.pR r) (2 * rWt r) v)=>rtold_any _ _ v w h)
 generalize Pr.pR r=o at *
 generalize 2 * rWt r=n at *
 try unfold exV at *
 go_enter Tryd.func15,Tryd.ntmps15
 go_upto_region 1 with fail
 generalize w.alloc (Obj.cells _ 29)=w0 at *
 generalize w.heap.size=g at *
 have x0:=cell_at eA 0;have x1:=cell_at eA 1;have x2:=cell_at eA 2;have x3:=cell_at eA 3;have x4:=cell_at eA 4
 simp only [List.getElem?_toArray,List.getElem?_cons_zero,List.getElem?_cons_succ] at x0 x1 x2 x3 x4
 go_wp2_with fail
 refine HC.out.mono ?_
 rintro e w1 ⟨v,rfl,hv,m1⟩
 have M1:=Hxq (mA.trans m1 (by simp));have HV:=Lib.hid hv
 clear m1 hv
 go_wp2_with fail
 refine (HT.out v w1 HV.out).mono ?_
 rintro e w2 ⟨rfl,m2⟩
 have M2:=Hxq (M1.out.trans m2 (by simp))
 clear m2 HT HC
 cases o
 all_goals (
  unfold tv
  go_wp2_with fail
  go_ret2
  exact ⟨rfl,M2.out⟩)
set_option maxHeartbeats 2000000 in
theorem rLiteral_any (k:Int) (a:Pr.Atom) (op:Int) (le re:Pr.Ex) (fn:Int) (av:ByteArray) (of:Pr.Ex) (body:List Pr.Li) (ln cl:Int) (Ut Ul Ur Uo Ub:Value) (w:World) (hL:LOk w (.mk k a op le re fn av of body ln cl) ⟨Ut,Ul,Ur,Uo,Ub⟩) (hG:GlobV w) (hlen:2 * lWt (.mk k a op le re fn av of body ln cl)<=140737488000000) :
  Calls Tryd.prog 16 #[.agg (liV (.mk k a op le re fn av of body ln cl) ⟨Ut,Ul,Ur,Uo,Ub⟩)] w fun e' w'=>e'=.returned (tv (Pr.pL 16 (.mk k a op le re fn av of body ln cl)))/\Mod [] w w':=by
 obtain ⟨hT,hl,hr,ho,hb⟩:=hL.parts
 dsimp only at hT hl hr ho hb
 obtain ⟨ta,tc,rfl⟩:=hT.lit
 obtain ⟨la,lc,rfl⟩:=hl.lit
 obtain ⟨ra,rc,rfl⟩:=hr.lit
 obtain ⟨oa,oc,rfl⟩:=ho.lit
 obtain ⟨ya,yc,rfl⟩:=hb.lit
 clear hT hl hr ho hb
 have mA:=(Mod.refl [] w).alloc (Obj.cells #[.int .i64 k,.string a.rel,.slice ta a.terms.length tc,.int .i64 op,.int .i64 le.k,.string le.v,.int .i64 le.x.k,.int .i64 le.x.n,.string (Lx.ofS le.x.s),.int .i64 le.op,.slice la le.args.length lc,.int .i64 re.k,.string re.v,.int .i64 re.x.k,.int .i64 re.x.n,.string (Lx.ofS re.x.s),.int .i64 re.op,.slice ra re.args.length rc,.int .i64 fn,.string av,.int .i64 of.k,.string of.v,.int .i64 of.x.k,.int .i64 of.x.n,.string (Lx.ofS of.x.s),.int .i64 of.op,.slice oa of.args.length oc,.slice ya body.length yc,.int .i64 ln,.int .i64 cl] 38)
 have eA:=heap_alloc_new w (Obj.cells #[.int .i64 k,.string a.rel,.slice ta a.terms.length tc,.int .i64 op,.int .i64 le.k,.string le.v,.int .i64 le.x.k,.int .i64 le.x.n,.string (Lx.ofS le.x.s),.int .i64 le.op,.slice la le.args.length lc,.int .i64 re.k,.string re.v,.int .i64 re.x.k,.int .i64 re.x.n,.string (Lx.ofS re.x.s),.int .i64 re.op,.slice ra re.args.length rc,.int .i64 fn,.string av,.int .i64 of.k,.string of.v,.int .i64 of.x.k,.int .i64 of.x.n,.string (Lx.ofS of.x.s),.int .i64 of.op,.slice oa of.args.length oc,.slice ya body.length yc,.int .i64 ln,.int .i64 cl] 38)
 have HC:Hid (Calls Tryd.prog 29 #[.agg #[.int .i64 k,.string a.rel,.slice ta a.terms.length tc,.int .i64 op,.int .i64 le.k,.string le.v,.int .i64 le.x.k,.int .i64 le.x.n,.string (Lx.ofS le.x.s),.int .i64 le.op,.slice la le.args.length lc,.int .i64 re.k,.string re.v,.int .i64 re.x.k,.int .i64 re.x.n,.string (Lx.ofS re.x.s),.int .i64 re.op,.slice ra re.args.length rc,.int .i64 fn,.string av,.int .i64 of.k,.string of.v,.int .i64 of.x.k,.int .i64 of.x.n,.string (Lx.ofS of.x.s),.int .i64 of.op,.slice oa of.args.length oc,.slice ya body.length yc,.int .i64 ln,.int .i64 cl],.int .i64 16] _ (TxR (Pr.pL 16 (.mk k a op le re fn av of body ln cl)) (2 * lWt (.mk k a op le re fn av of body ln cl) - 100) _)):=Hxq (rlit_all 16 (Nat.le_refl _) (.mk k a op le re fn av of body ln cl) ⟨_,_,_,_,_⟩ _ (hL.past mA) (hG.past mA (by simp)) (by omega))
 clear hG
 have HT:=Hxq (fun v w (h:TxV (Pr.pL 16 (.mk k a op le re fn av of body ln cl)) (2 * lWt (.mk k a op le re fn av of body ln cl) - 100) v)=>rtold_any _ _ v w h)
 generalize Pr.pL 16 (.mk k a op le re fn av of body ln cl)=o at *
 generalize 2 * lWt (.mk k a op le re fn av of body ln cl) - 100=n at *
 try unfold exV at *
 unfold liV
 go_enter Tryd.func16,Tryd.ntmps16
 go_upto_region 1 with fail
 generalize w.alloc (Obj.cells _ 38)=w0 at *
 generalize w.heap.size=g at *
 have XR:=CellsAt.range (cs:=[Value.int IntKind.i64 k,Value.string a.rel,Value.slice ta a.terms.length tc,Value.int IntKind.i64 op,Value.int IntKind.i64 le.k,Value.string le.v,Value.int IntKind.i64 le.x.k,Value.int IntKind.i64 le.x.n,Value.string (Lx.ofS le.x.s),Value.int IntKind.i64 le.op,Value.slice la le.args.length lc,Value.int IntKind.i64 re.k,Value.string re.v,Value.int IntKind.i64 re.x.k,Value.int IntKind.i64 re.x.n,Value.string (Lx.ofS re.x.s),Value.int IntKind.i64 re.op,Value.slice ra re.args.length rc,Value.int IntKind.i64 fn,Value.string av,Value.int IntKind.i64 of.k,Value.string of.v,Value.int IntKind.i64 of.x.k,Value.int IntKind.i64 of.x.n,Value.string (Lx.ofS of.x.s),Value.int IntKind.i64 of.op,Value.slice oa of.args.length oc,Value.slice ya body.length yc,Value.int IntKind.i64 ln,Value.int IntKind.i64 cl]) (CellsAt.of eA)
 go_wp2_with (refine wpList_load_mid rfl 38 _ rfl g 0 rfl _ _ XR Tryd.underlying38 rfl (by kernel_rfl) ?_)
 refine HC.out.mono ?_
 rintro e w1 ⟨v,rfl,hv,m1⟩
 have M1:=Hxq (mA.trans m1 (by simp));have HV:=Lib.hid hv
 clear m1 hv
 go_wp2_with fail
 refine (HT.out v w1 HV.out).mono ?_
 rintro e w2 ⟨rfl,m2⟩
 have M2:=Hxq (M1.out.trans m2 (by simp))
 clear m2 HT HC
 cases o
 all_goals (
  unfold tv
  go_wp2_with fail
  go_ret2
  exact ⟨rfl,M2.out⟩)
end Go.Proofs.YtohnmnfhmbmoaaaDoor
namespace Go.Proofs.YtohnmnfhmbmoaaaDoor.Lx
set_option linter.unusedSimpArgs false
set_option linter.unusedVariables false
theorem esc_join {s:List Nat} {b j:Nat} (h:esc s=some (b,j)) (t:List Nat):esc (s++t)=some (b,j):=by
 match s with
 | []=>simp [esc] at h
 | [c] =>
  unfold esc at h ⊢
  simp only [List.cons_append,List.nil_append] at h ⊢
  by_cases h1:c=34\/c=92
  ·rw [if_pos h1] at h ⊢;exact h
  ·rw [if_neg h1] at h ⊢
   by_cases h2:c=110
   ·rw [if_pos h2] at h ⊢;exact h
   ·rw [if_neg h2] at h
    by_cases h3:c=120 <;> simp [h3] at h
 | [c,x] =>
  unfold esc at h ⊢
  simp only [List.cons_append,List.nil_append] at h ⊢
  by_cases h1:c=34\/c=92
  ·rw [if_pos h1] at h ⊢;exact h
  ·rw [if_neg h1] at h ⊢
   by_cases h2:c=110
   ·rw [if_pos h2] at h ⊢;exact h
   ·rw [if_neg h2] at h
    by_cases h3:c=120 <;> simp [h3] at h
 | c :: x :: y :: u=>simpa [esc] using h
theorem quoF_join:∀ (k:Nat) (s acc:List Nat) (n:Nat) (l:List Nat) (m:Nat),(∀ c∈s,c<256)->quoF k s acc n=some (l,m)->∀ (t:List Nat) (j:Nat),quoF (k+j) (s++t) acc n=some (l,m)
 | 0,_,_,_,_,_,_,h=>by simp [quoF] at h
 | k+1,[],_,_,_,_,_,h=>by simp [quoF] at h
 | k+1,c :: r,acc,n,l,m,hs,h=>fun t j=>by
  have hr:∀ c∈r,c<256:=fun x hx=>hs x (by simp [hx])
  rw [show k+1+j=(k+j)+1 by omega,List.cons_append]
  unfold quoF at h ⊢
  by_cases h1:c=34
  ·rw [if_pos h1] at h ⊢;exact h
  ·rw [if_neg h1] at h ⊢
   by_cases h2:c=10
   ·rw [if_pos h2] at h;simp at h
   ·rw [if_neg h2] at h ⊢
    by_cases h3:c=92
    ·rw [if_pos h3] at h ⊢
     cases he:esc r with
     | none=>rw [he] at h;simp at h
     | some p =>
      obtain ⟨b,m'⟩:=p
      rw [he] at h
      rw [esc_join he t]
      obtain ⟨e1,e2,-⟩:=esc_len hr he
      simp only at h ⊢
      rw [List.drop_append_of_le_length e2]
      exact quoF_join k _ _ _ l m (fun c hc=>hr c (List.mem_of_mem_drop hc)) h t j
    ·rw [if_neg h3] at h ⊢
     exact quoF_join k _ _ _ l m hr h t j
theorem quo_join {s l:List Nat} {m:Nat} (hs:∀ c∈s,c<256) (h:quo s=some (l,m)) (t:List Nat):quo (s++t)=some (l,m):=by
 cases s with
 | nil=>simp [quo,quoF] at h
 | cons c r =>
  unfold quo at h ⊢
  have:=quoF_join _ _ _ _ l m (fun c hc=>hs c (List.mem_of_mem_drop hc)) h t t.length
  rw [show (c :: r).length+t.length=(c :: r++t).length by simp;omega] at this
  exact this
theorem run_take (p:Nat->Bool) (s:List Nat) (k:Nat):run p (s.take k)=min k (run p s):=by
 induction s generalizing k with
 | nil=>simp [run_nil]
 | cons c t ih =>
  cases k with
  | zero=>simp [run_nil]
  | succ k =>
   rw [List.take_succ_cons,run_cons,run_cons,ih]
   split <;> omega
theorem esc_take {s:List Nat} {b j:Nat} (h:esc s=some (b,j)) (q:Nat) (hq:j<=q):esc (s.take q)=some (b,j):=by
 match s with
 | []=>simp [esc] at h
 | [c] =>
  unfold esc at h
  simp only at h
  by_cases h1:c=34\/c=92
  ·rw [if_pos h1] at h
   simp only [Option.some.injEq,Prod.mk.injEq] at h
   obtain ⟨rfl,rfl⟩:=h
   rw [List.take_of_length_le (by simpa using hq)]
   unfold esc;simp only;rw [if_pos h1]
  ·rw [if_neg h1] at h
   by_cases h2:c=110
   ·rw [if_pos h2] at h
    simp only [Option.some.injEq,Prod.mk.injEq] at h
    obtain ⟨rfl,rfl⟩:=h
    rw [List.take_of_length_le (by simpa using hq)]
    unfold esc;simp only;rw [if_neg h1,if_pos h2]
   ·rw [if_neg h2] at h
    by_cases h3:c=120 <;> simp [h3] at h
 | c :: x :: t =>
  unfold esc at h
  simp only at h
  by_cases h1:c=34\/c=92
  ·rw [if_pos h1] at h
   simp only [Option.some.injEq,Prod.mk.injEq] at h
   obtain ⟨rfl,rfl⟩:=h
   obtain ⟨q',rfl⟩:∃ q',q=q'+1:=⟨q - 1,by omega⟩
   rw [List.take_succ_cons]
   unfold esc;simp only;rw [if_pos h1]
  ·rw [if_neg h1] at h
   by_cases h2:c=110
   ·rw [if_pos h2] at h
    simp only [Option.some.injEq,Prod.mk.injEq] at h
    obtain ⟨rfl,rfl⟩:=h
    obtain ⟨q',rfl⟩:∃ q',q=q'+1:=⟨q - 1,by omega⟩
    rw [List.take_succ_cons]
    unfold esc;simp only;rw [if_neg h1,if_pos h2]
   ·rw [if_neg h2] at h
    by_cases h3:c=120
    ·rw [if_pos h3] at h
     cases t with
     | nil=>simp at h
     | cons y u =>
      have hj:j=3:=by
       simp only at h
       cases hx:hexv x with
       | none=>rw [hx] at h;simp at h
       | some u1 =>
        cases hy:hexv y with
        | none=>rw [hx,hy] at h;simp at h
        | some u2=>rw [hx,hy] at h;simp at h;omega
      subst hj
      obtain ⟨q',rfl⟩:∃ q',q=q'+3:=⟨q - 3,by omega⟩
      simp only [List.take_succ_cons]
      unfold esc
      simp only
      rw [if_neg h1,if_neg h2,if_pos h3]
      exact h
    ·simp [h3] at h
theorem quoF_take:∀ (k:Nat) (s acc:List Nat) (n:Nat) (l:List Nat) (m:Nat),(∀ c∈s,c<256)->(∀ c∈acc,c<256)->quoF k s acc n=some (l,m)->∀ k',m - n<=k'->quoF k' (s.take (m - n)) acc n=some (l,m)
 | 0,_,_,_,_,_,_,_,h=>by simp [quoF] at h
 | k+1,[],_,_,_,_,_,_,h=>by simp [quoF] at h
 | k+1,c :: r,acc,n,l,m,hs,ha,h=>fun k' hk=>by
  have hr:∀ c∈r,c<256:=fun x hx=>hs x (by simp [hx])
  have hl:=quoF_len (k+1) (c :: r) acc n l m hs ha h
  obtain ⟨q,hq⟩:∃ q,m - n=q+1:=⟨m - n - 1,by omega⟩
  obtain ⟨k'',rfl⟩:∃ k'',k'=k''+1:=⟨k' - 1,by omega⟩
  rw [hq,List.take_succ_cons]
  unfold quoF at h ⊢
  by_cases h1:c=34
  ·rw [if_pos h1] at h ⊢;exact h
  ·rw [if_neg h1] at h ⊢
   by_cases h2:c=10
   ·rw [if_pos h2] at h;simp at h
   ·rw [if_neg h2] at h ⊢
    by_cases h3:c=92
    ·rw [if_pos h3] at h ⊢
     cases he:esc r with
     | none=>rw [he] at h;simp at h
     | some p =>
      obtain ⟨b,j⟩:=p
      rw [he] at h
      simp only at h
      obtain ⟨e1,e2,e3⟩:=esc_len hr he
      have ha':∀ c∈acc++[b],c<256:=fun x hx=>by
       rcases List.mem_append.1 hx with hx | hx
       ·exact ha x hx
       ·simp at hx;omega
      have hl2:=quoF_len k (r.drop j) (acc++[b]) (n+1+j) l m (fun c hc=>hr c (List.mem_of_mem_drop hc)) ha' h
      rw [esc_take he q (by omega)]
      simp only
      have:=quoF_take k (r.drop j) (acc++[b]) (n+1+j) l m (fun c hc=>hr c (List.mem_of_mem_drop hc)) ha' h k'' (by omega)
      rw [List.drop_take,show q - j=m - (n+1+j) by omega]
      exact this
    ·rw [if_neg h3] at h ⊢
     have ha':∀ x∈acc++[c],x<256:=fun x hx=>by
      rcases List.mem_append.1 hx with hx | hx
      ·exact ha x hx
      ·simp at hx;have:=hs c (by simp);omega
     have:=quoF_take k r (acc++[c]) (n+1) l m hr ha' h k'' (by omega)
     rw [show q=m - (n+1) by omega]
     exact this
theorem quo_take {s l:List Nat} {m:Nat} (hs:∀ c∈s,c<256) (h:quo s=some (l,m)):quo (s.take m)=some (l,m):=by
 cases s with
 | nil=>simp [quo,quoF] at h
 | cons c r =>
  obtain ⟨l1,l2,-⟩:=quo_len hs h
  unfold quo at h ⊢
  obtain ⟨q,rfl⟩:∃ q,m=q+1:=⟨m - 1,by omega⟩
  have:=quoF_take _ _ _ _ l (q+1) (fun c hc=>hs c (List.mem_of_mem_drop hc)) (by simp) h (q+1) (by omega)
  simp only [List.take_succ_cons,List.drop_succ_cons,List.drop_zero,List.length_cons,List.length_take,Nat.add_sub_cancel] at this ⊢
  have hle:min q r.length=q:=by simp at l2;omega
  rw [hle]
  exact this
theorem headD_take {s:List Nat} {n:Nat} (h:1<=n):(s.take n).headD 0=s.headD 0:=by
 cases s with
 | nil=>simp
 | cons c t =>
  obtain ⟨q,rfl⟩:∃ q,n=q+1:=⟨n - 1,by omega⟩
  rfl
theorem skip_take:∀ (s:List Nat) (b:Bool) (k:Nat),skipN b (s.take k)=min k (skipN b s)
 | [],b,k=>by simp [skipN]
 | c :: t,b,0=>by simp [skipN]
 | c :: t,b,k+1=>by
  rw [List.take_succ_cons]
  unfold skipN
  simp only
  rw [skip_take t _ k]
  generalize (if c=35 then true else if c=10 then false else b)=b'
  by_cases h:(!b' && !blank c)=true
  ·rw [if_pos h,if_pos h];omega
  ·rw [if_neg h,if_neg h];omega
theorem word_takeN {s:List Nat} {w:Wd} (hb:∀ c∈s,c<256) (h0:s≠[]) (h:word s=.ok w) (k:Nat) (hk:w.n<=k):word (s.take k)=.ok w:=by
 obtain ⟨l1,l2,-⟩:=word_len hb h0 h
 have e1:=headD_take (s:=s) (n:=k) (by omega)
 unfold word at h ⊢
 rw [e1]
 by_cases c1:(small (s.headD 0) || capital (s.headD 0))=true
 ·rw [if_pos c1] at h ⊢
  by_cases c2:32<run goes s
  ·rw [if_pos c2] at h;simp at h
  ·rw [if_neg c2] at h
   simp only [Rw.ok.injEq] at h
   subst h
   simp only at hk
   have e2:run goes (s.take k)=run goes s:=by rw [run_take];omega
   rw [e2,if_neg c2]
 ·rw [if_neg c1] at h ⊢
  by_cases c2:digit (s.headD 0)=true
  ·rw [if_pos c2] at h ⊢
   by_cases c3:(1<run digit s/\s.headD 0=48)\/2147483647<numv (s.take (run digit s))\/run digit s<run goes s
   ·rw [if_pos c3] at h;simp at h
   ·rw [if_neg c3] at h
    simp only [Rw.ok.injEq] at h
    subst h
    simp only at hk
    have e2:run digit (s.take k)=run digit s:=by rw [run_take];omega
    have e3:run goes (s.take k)=min k (run goes s):=run_take _ _ _
    rw [e2,e3,List.take_take,show min (run digit s) k=run digit s by omega,if_neg (by omega)]
  ·rw [if_neg c2] at h ⊢
   by_cases c3:s.headD 0=34
   ·rw [if_pos c3] at h ⊢
    cases hq:quo s with
    | none=>rw [hq] at h;simp at h
    | some p =>
     obtain ⟨l,m⟩:=p
     rw [hq] at h
     simp only [Rw.ok.injEq] at h
     subst h
     simp only at hk l2
     have h1:=quo_take hb hq
     have h2:=quo_join (fun c hc=>hb c (List.mem_of_mem_take hc)) h1 ((s.drop m).take (k - m))
     rw [<-List.take_add,show m+(k - m)=k by omega] at h2
     rw [h2]
   ·rw [if_neg c3] at h ⊢
    by_cases c4:mark s=0
    ·rw [if_pos c4] at h;simp at h
    ·rw [if_neg c4] at h
     simp only [Rw.ok.injEq] at h
     subst h
     simp only at hk
     have:mark (s.take k)=mark s:=by
      match s,h0,k,hk with
      | [a],_,k,hk =>
       rw [List.take_of_length_le (by simp;simp at l1;omega)]
      | a :: b :: t,_,0,hk=>simp at l1;omega
      | a :: b :: t,_,1,hk =>
       have:mark (a :: b :: t)=1:=by omega
       have h1:two a b=false:=by
        cases ht:two a b with
        | false=>rfl
        | true=>simp [mark,ht] at this
       simp only [mark,h1] at this
       have h2:ones.contains a=true:=by
        cases ho:ones.contains a with
        | true=>rfl
        | false=>rw [ho] at this;simp at this
       simp only [List.take_succ_cons,List.take_zero,mark,h1,h2]
       rfl
      | a :: b :: t,_,k+2,hk=>simp [mark]
     rw [this,if_neg c4]
/-- s, that begins at place p, begins with the words l; what is left, and its place -/
inductive Sq:List Nat->Nat × Nat->List Tok->List Nat->Nat × Nat->Prop
 | nil (s:List Nat) (p:Nat × Nat):Sq s p [] s p
 | word {s:List Nat} {p:Nat × Nat} {u:List Nat} {w:Wd} {l:List Tok} {r:List Nat} {q:Nat × Nat} (hs:s.drop (skipN false s)=u) (h0:u≠[]) (hw:word u=.ok w)
   (h:Sq (u.drop w.n) (adv (adv p (s.take (skipN false s))) (u.take w.n)) l r q) :
   Sq s p (⟨w.kind,u.take w.n,w.vk,w.num,w.sym,(adv p (s.take (skipN false s))).1,(adv p (s.take (skipN false s))).2⟩ :: l) r q
theorem Sq.trans {a b c:List Nat} {p q o:Nat × Nat} {l m:List Tok} (h:Sq a p l b q) (k:Sq b q m c o):Sq a p (l++m) c o:=by
 induction h with
 | nil s p=>exact k
 | word hs h0 hw h ih=>exact .word hs h0 hw (ih k)
theorem Sq.split {c:List Nat} {o:Nat × Nat} (m:List Tok):∀ {l:List Tok} {a:List Nat} {p:Nat × Nat},Sq a p (l++m) c o->∃ b q,Sq a p l b q/\Sq b q m c o
 | [],a,p,h=>⟨a,p,.nil a p,h⟩
 | t :: l,a,p,h=>by
  rw [List.cons_append] at h
  generalize hx:t :: (l++m)=x at h
  cases h with
  | nil=>cases hx
  | word hs h0 hw h =>
   simp only [List.cons.injEq] at hx
   obtain ⟨rfl,hx⟩:=hx
   subst hx
   obtain ⟨b,q,h1,h2⟩:=Sq.split m h
   exact ⟨b,q,.word hs h0 hw h1,h2⟩
theorem Sq.len {s r:List Nat} {p q:Nat × Nat} {l:List Tok} (h:Sq s p l r q) (hb:∀ c∈s,c<256):l.length+r.length<=s.length:=by
 induction h with
 | nil s p=>simp
 | @word s p u w l r q hs h0 hw h ih =>
  have hu:∀ c∈u,c<256:=fun c hc=>hb c (by rw [<-hs] at hc;exact List.mem_of_mem_drop hc)
  obtain ⟨l1,l2,-⟩:=word_len hu h0 hw
  have:=ih (fun c hc=>hu c (List.mem_of_mem_drop hc))
  have hul:u.length<=s.length:=by rw [<-hs,List.length_drop];omega
  rw [List.length_drop] at this
  rw [List.length_cons]
  omega
/-- cut off behind the words -/
theorem Sq.take {s r:List Nat} {p q:Nat × Nat} {l:List Tok} (h:Sq s p l r q):∀ (hb:∀ c∈s,c<256) (j:Nat),Sq (s.take (s.length - r.length+j)) p l (r.take j) q:=by
 induction h with
 | nil s p =>
  intro hb j
  rw [show s.length - s.length+j=j by omega]
  exact .nil _ _
 | @word s p u w l r q hs h0 hw h ih =>
  intro hb j
  have hu:∀ c∈u,c<256:=fun c hc=>hb c (by rw [<-hs] at hc;exact List.mem_of_mem_drop hc)
  obtain ⟨l1,l2,-⟩:=word_len hu h0 hw
  have hd:∀ c∈u.drop w.n,c<256:=fun c hc=>hu c (List.mem_of_mem_drop hc)
  have ih:=ih hd j
  have hlen:=h.len hd
  rw [List.length_drop] at hlen
  have hul:u.length=s.length - skipN false s:=by rw [<-hs,List.length_drop]
  have hsk:=skipN_le false s
  have hul0:0<u.length:=List.length_pos_iff.2 h0
  generalize hJ:s.length - r.length+j=J
  have hJ2:skipN false s+w.n<=J:=by omega
  have hsk2:skipN false (s.take J)=skipN false s:=by rw [skip_take];omega
  have e1:(s.take J).drop (skipN false (s.take J))=u.take (J - skipN false s):=by rw [hsk2,List.drop_take,hs]
  have e2:(s.take J).take (skipN false (s.take J))=s.take (skipN false s):=by rw [hsk2,List.take_take,show min (skipN false s) J=skipN false s by omega]
  have e3:(u.take (J - skipN false s)).take w.n=u.take w.n:=by rw [List.take_take,show min w.n (J - skipN false s)=w.n by omega]
  have e4:(u.take (J - skipN false s)).drop w.n=(u.drop w.n).take ((u.drop w.n).length - r.length+j):=by
   rw [List.drop_take,List.length_drop]
   congr 1
   omega
  have:=Sq.word (s:=s.take J) (p:=p) (l:=l) (r:=r.take j) (q:=q) e1 (by
   intro h5
   have:=congrArg List.length h5
   rw [List.length_take,List.length_nil] at this
   omega) (word_takeN hu h0 hw _ (by omega)) (by rw [e2,e3,e4];exact ih)
  rw [e2,e3] at this
  exact this
/-- at another place the words are the same but for their places -/
theorem Sq.place {s r:List Nat} {p q:Nat × Nat} {l:List Tok} (h:Sq s p l r q):∀ p',∃ l' q',Sq s p' l' r q'/\l'.map (fun t=>(t.kind,t.text,t.vk,t.num,t.sym))=l.map (fun t=>(t.kind,t.text,t.vk,t.num,t.sym)):=by
 induction h with
 | nil s p=>exact fun p'=>⟨[],p',.nil _ _,rfl⟩
 | word hs h0 hw h ih =>
  intro p'
  obtain ⟨l',q',h1,h2⟩:=ih (adv (adv p' _) _)
  exact ⟨_,q',.word hs h0 hw h1,by simp [h2]⟩
end Go.Proofs.YtohnmnfhmbmoaaaDoor.Lx
namespace Go.Proofs.YtohnmnfhmbmoaaaDoor.Sy
open Lx (Tok St word skipN goes)
open Pr (Ex)
set_option linter.unusedVariables false
set_option linter.unusedSimpArgs false
/-- a word but for its place -/
structure Sh where
 kind:Nat
 text:List Nat
 vk:Nat
 num:Nat
 sym:List Nat
deriving DecidableEq
def sh (t:Lx.Tok):Sh:=⟨t.kind,t.text,t.vk,t.num,t.sym⟩
end Go.Proofs.YtohnmnfhmbmoaaaDoor.Sy
