/- THE TEXTS MERGED: P5LitG RtLex RtExp RtLit RtProg RtMay RtVal PwMem. -/
import Derived.Test.YtohnmnfhmbmoaaaGreatDoorKG31
namespace Go.Proofs.YtohnmnfhmbmoaaaGreatDoor
open Go.RowKit
set_option linter.unusedVariables false
set_option linter.unusedSimpArgs false
set_option maxRecDepth 100000
set_option maxHeartbeats 4000000 in
theorem rlit_agg (b:Nat) (k:Int) (a:Pr.Atom) (op:Int) (le re:Pr.Ex) (fn:Int) (av:ByteArray) (of:Pr.Ex) (body:List Pr.Li) (ln cl:Int) (ta la ra oa ya:Option Addr) (tc lc rc oc yc:Nat) (w:World) (hk:k=4) (n:Nat) (hA:∀ w,GlobV w->EOk w of (.slice oa of.args.length oc)->BOk w body (.slice ya body.length yc)->Calls Tryz.prog 127 #[.agg (agVP fn av of (.slice oa of.args.length oc) (.slice ya body.length yc)),.int .i64 (b:Int)] w (TxR (pG b fn av of body) n w)) (hO:EOk w of (.slice oa of.args.length oc)) (hB:BOk w body (.slice ya body.length yc)) (hG:GlobV w) :
  Calls Tryz.prog 93 #[.agg #[.int .i64 k,.string a.rel,.slice ta a.terms.length tc,.int .i64 op,.int .i64 le.k,.string le.v,.int .i64 le.x.k,.int .i64 le.x.n,.string (Lx.ofS le.x.s),.int .i64 le.op,.slice la le.args.length lc,.int .i64 re.k,.string re.v,.int .i64 re.x.k,.int .i64 re.x.n,.string (Lx.ofS re.x.s),.int .i64 re.op,.slice ra re.args.length rc,.int .i64 fn,.string av,.int .i64 of.k,.string of.v,.int .i64 of.x.k,.int .i64 of.x.n,.string (Lx.ofS of.x.s),.int .i64 of.op,.slice oa of.args.length oc,.slice ya body.length yc,.int .i64 ln,.int .i64 cl],.int .i64 (b:Int)] w (TxR (Pr.pL b (.mk k a op le re fn av of body ln cl)) n w):=by
 have HO:=Lib.hid hO;have HB:=Lib.hid hB;have HG:=Lib.hid hG
 unfold agVP at hA
 have HAA:=Lib.hid hA
 subst hk
 have HP:Hid (Pr.pL b (.mk 4 a op le re fn av of body ln cl)=cat (mustO (noAtm a && (decide (op=0) && (Pr.noExpr le && Pr.noExpr re)))) (pG b fn av of body)):=Hxq (by
  rw [pL_eq]
  unfold tailO Pr.lacks noAtm
  simp)
 generalize Pr.pL b (.mk 4 a op le re fn av of body ln cl)=o at *
 generalize pG b fn av of body=og at *
 clear hO hB hG hA
 have hm0:=((Mod.refl [] w).alloc (Obj.cells #[.int .i64 4,.string a.rel,.slice ta a.terms.length tc,.int .i64 op,.int .i64 le.k,.string le.v,.int .i64 le.x.k,.int .i64 le.x.n,.string (Lx.ofS le.x.s),.int .i64 le.op,.slice la le.args.length lc,.int .i64 re.k,.string re.v,.int .i64 re.x.k,.int .i64 re.x.n,.string (Lx.ofS re.x.s),.int .i64 re.op,.slice ra re.args.length rc,.int .i64 fn,.string av,.int .i64 of.k,.string of.v,.int .i64 of.x.k,.int .i64 of.x.n,.string (Lx.ofS of.x.s),.int .i64 of.op,.slice oa of.args.length oc,.slice ya body.length yc,.int .i64 ln,.int .i64 cl] 49)).alloc (Obj.cells #[.string ⟨#[]⟩,.bool false] 92)
 have e0:=two_a w #[.int .i64 4,.string a.rel,.slice ta a.terms.length tc,.int .i64 op,.int .i64 le.k,.string le.v,.int .i64 le.x.k,.int .i64 le.x.n,.string (Lx.ofS le.x.s),.int .i64 le.op,.slice la le.args.length lc,.int .i64 re.k,.string re.v,.int .i64 re.x.k,.int .i64 re.x.n,.string (Lx.ofS re.x.s),.int .i64 re.op,.slice ra re.args.length rc,.int .i64 fn,.string av,.int .i64 of.k,.string of.v,.int .i64 of.x.k,.int .i64 of.x.n,.string (Lx.ofS of.x.s),.int .i64 of.op,.slice oa of.args.length oc,.slice ya body.length yc,.int .i64 ln,.int .i64 cl] #[.string ⟨#[]⟩,.bool false] 49 92
 have e1:=two_b w #[.int .i64 4,.string a.rel,.slice ta a.terms.length tc,.int .i64 op,.int .i64 le.k,.string le.v,.int .i64 le.x.k,.int .i64 le.x.n,.string (Lx.ofS le.x.s),.int .i64 le.op,.slice la le.args.length lc,.int .i64 re.k,.string re.v,.int .i64 re.x.k,.int .i64 re.x.n,.string (Lx.ofS re.x.s),.int .i64 re.op,.slice ra re.args.length rc,.int .i64 fn,.string av,.int .i64 of.k,.string of.v,.int .i64 of.x.k,.int .i64 of.x.n,.string (Lx.ofS of.x.s),.int .i64 of.op,.slice oa of.args.length oc,.slice ya body.length yc,.int .i64 ln,.int .i64 cl] #[.string ⟨#[]⟩,.bool false] 49 92
 have zA:((w.alloc (Obj.cells #[.int .i64 4,.string a.rel,.slice ta a.terms.length tc,.int .i64 op,.int .i64 le.k,.string le.v,.int .i64 le.x.k,.int .i64 le.x.n,.string (Lx.ofS le.x.s),.int .i64 le.op,.slice la le.args.length lc,.int .i64 re.k,.string re.v,.int .i64 re.x.k,.int .i64 re.x.n,.string (Lx.ofS re.x.s),.int .i64 re.op,.slice ra re.args.length rc,.int .i64 fn,.string av,.int .i64 of.k,.string of.v,.int .i64 of.x.k,.int .i64 of.x.n,.string (Lx.ofS of.x.s),.int .i64 of.op,.slice oa of.args.length oc,.slice ya body.length yc,.int .i64 ln,.int .i64 cl] 49)).alloc (Obj.cells #[.string ⟨#[]⟩,.bool false] 92)).heap.size=w.heap.size+2:=by simp
 have HA:=Hxq (fun w=>rnoAtom_any a ta tc w)
 have HL:=Hxq (fun w=>rnoExpr_any le la lc w)
 have HR:=Hxq (fun w=>rnoExpr_any re ra rc w)
 have HAG:=Hxq (fun w=>rnoAgg_any fn av of body.length oa ya oc yc w)
 unfold exV at HL HR
 unfold agVP at HAG
 generalize hnA:noAtm a=nA at *
 generalize hnL:Pr.noExpr le=nL at *
 generalize hnR:Pr.noExpr re=nR at *
 generalize hnG:noAg fn av of body.length=nG at *
 have HNA:=Lib.hid hnA;have HNL:=Lib.hid hnL;have HNR:=Lib.hid hnR;have HNG:=Lib.hid hnG
 clear hnA hnL hnR hnG
 go_enter Tryz.func93,Tryz.ntmps93
 go_upto_region 1 with fail
 generalize (w.alloc (Obj.cells _ 49)).alloc (Obj.cells _ 92)=w0 at *
 have M0:=Lib.hid hm0;have E0:=Lib.hid e0;have F0:=Lib.hid e1;have ZA:=Lib.hid zA
 clear hm0 e0 e1 zA
 have x1:=cell_at E0.out 1;have x2:=cell_at E0.out 2
 simp only [List.getElem?_toArray,List.getElem?_cons_zero,List.getElem?_cons_succ] at x1 x2
 go_wp2_with fail
 refine (HA.out w0).mono ?_
 rintro e1 w1 ⟨rfl,m1⟩
 have E1:=Hxq (m1.at E0.out (by simp));have F1:=Hxq (m1.at F0.out (by simp));have M1:=Hxq (M0.out.trans m1 (by simp))
 clear m1 x1 x2
 have x4:=cell_at E1.out 4;have x5:=cell_at E1.out 5;have x6:=cell_at E1.out 6;have x7:=cell_at E1.out 7;have x8:=cell_at E1.out 8;have x9:=cell_at E1.out 9;have x10:=cell_at E1.out 10
 simp only [List.getElem?_toArray,List.getElem?_cons_zero,List.getElem?_cons_succ] at x4 x5 x6 x7 x8 x9 x10
 go_wp2_with fail
 refine (HL.out w1).mono ?_
 rintro e2 w2 ⟨rfl,m2⟩
 have E2:=Hxq (m2.at E1.out (by simp));have F2:=Hxq (m2.at F1.out (by simp));have M2:=Hxq (M1.out.trans m2 (by simp))
 clear m2 x4 x5 x6 x7 x8 x9 x10
 have x11:=cell_at E2.out 11;have x12:=cell_at E2.out 12;have x13:=cell_at E2.out 13;have x14:=cell_at E2.out 14;have x15:=cell_at E2.out 15;have x16:=cell_at E2.out 16;have x17:=cell_at E2.out 17
 simp only [List.getElem?_toArray,List.getElem?_cons_zero,List.getElem?_cons_succ] at x11 x12 x13 x14 x15 x16 x17
 go_wp2_with fail
 refine (HR.out w2).mono ?_
 rintro e3 w3 ⟨rfl,m3⟩
 have E3:=Hxq (m3.at E2.out (by simp));have F3:=Hxq (m3.at F2.out (by simp));have M3:=Hxq (M2.out.trans m3 (by simp))
 clear m3 x11 x12 x13 x14 x15 x16 x17
 have x18:=cell_at E3.out 18;have x19:=cell_at E3.out 19;have x20:=cell_at E3.out 20;have x21:=cell_at E3.out 21;have x22:=cell_at E3.out 22;have x23:=cell_at E3.out 23;have x24:=cell_at E3.out 24;have x25:=cell_at E3.out 25;have x26:=cell_at E3.out 26;have x27:=cell_at E3.out 27
 simp only [List.getElem?_toArray,List.getElem?_cons_zero,List.getElem?_cons_succ] at x18 x19 x20 x21 x22 x23 x24 x25 x26 x27
 go_wp2_with fail
 refine (HAG.out w3).mono ?_
 rintro e4 w4 ⟨rfl,m4⟩
 have E4:=Hxq (m4.at E3.out (by simp));have F4:=Hxq (m4.at F3.out (by simp));have M4:=Hxq (M3.out.trans m4 (by simp))
 clear m4 x18 x19 x20 x21 x22 x23 x24 x25 x26 x27
 have x0:=cell_at E4.out 0;have x1:=cell_at E4.out 1;have x2:=cell_at E4.out 2;have x3:=cell_at E4.out 3
 simp only [List.getElem?_toArray,List.getElem?_cons_zero,List.getElem?_cons_succ] at x0 x1 x2 x3
 obtain ⟨sd,hsd⟩:∃ sd,(nL && (nR && decide (op=0)))=sd:=⟨_,rfl⟩
 have HSD:=Lib.hid hsd
 go_upto_region 5 with fail
 go_cut [9] (fun cc wx=>cc=.bool sd/\wx=w4)
 case first =>
  have hop:(op == 0)=decide (op=0):=by rw [Bool.eq_iff_iff,beq_iff_eq,decide_eq_true_eq]
  generalize decide (op=0)=b0 at *
  clear HSD
  cases nL <;> cases nR
  all_goals (
   go_wp2_with fail
   go_meet
   exact ⟨by rw [<-hsd];rfl,rfl⟩)
 case rest =>
  obtain ⟨rfl,hwc⟩:=hcut
  have hw':=hwc.symm
  subst hw'
  clear hsd
  have HC:=Hxq (HAA.out w4 (HG.out.past M4.out (by simp)) (HO.out.past M4.out) (HB.out.past M4.out))
  have hz4:w.heap.size+2<=w4.heap.size:=by have q:=(M4.out).size;have:=lt_of_block F4.out;omega
  clear x0 x1 x2 x3
  have x0:=cell_at E4.out 0;have x18:=cell_at E4.out 18;have x19:=cell_at E4.out 19;have x20:=cell_at E4.out 20;have x21:=cell_at E4.out 21;have x22:=cell_at E4.out 22;have x23:=cell_at E4.out 23;have x24:=cell_at E4.out 24;have x25:=cell_at E4.out 25;have x26:=cell_at E4.out 26;have x27:=cell_at E4.out 27
  simp only [List.getElem?_toArray,List.getElem?_cons_zero,List.getElem?_cons_succ] at x0 x18 x19 x20 x21 x22 x23 x24 x25 x26 x27
  go_wp2_with fail
  refine HC.out.mono ?_
  rintro e5 w5 ⟨v,rfl,⟨s,bt,rfl,hs⟩,m5⟩
  have hz5:=m5.size
  have mU:=m5.trans ((Mod.refl [] w5).alloc (Obj.cells #[.string s,.bool bt] 92)) (by simp)
  have xU:=heap_alloc_new w5 (Obj.cells #[.string s,.bool bt] 92)
  go_upto_region 20 with fail
  generalize w5.alloc (Obj.cells _ 92)=w6 at *
  generalize w5.heap.size=pt at *
  have F6:=Hxq (mU.at F4.out (by simp));have M6:=Hxq (M4.out.trans mU (by simp));have X6:=Lib.hid xU
  have HS:Hid (TxS og n s bt):=Lib.hid hs
  clear mU xU m5 hs HC x0 x18 x19 x20 x21 x22 x23 x24 x25 x26 x27
  have u1:=cell_at X6.out 1
  simp only [List.getElem?_toArray,List.getElem?_cons_zero,List.getElem?_cons_succ] at u1
  have fU:∀ j,w6.frozen? ⟨pt,j,none⟩=false:=fun j=>free_at X6.out j
  go_cut [] (fun wx=>wx.heap[pt]?=some (.cells #[.string s,.bool (bt || (!nA || !sd))] 92 (0,0))/\Mod [pt] w6 wx)
  case first =>
   have m7:=fun v=>(Mod.refl [pt] w6).setCell (p:=⟨pt,1,none⟩) (.inl (by simp)) v
   have x7:=fun v=>setCell_at X6.out 1 v
   have M7:=Lib.hid m7;have X7:=Lib.hid x7
   clear m7 x7
   cases bt <;> cases sd <;> cases nA
   all_goals (
    go_wp2_with fail
    go_meet
    exact ⟨X7.out _,M7.out _⟩)
  case rest =>
   obtain ⟨x7,m7⟩:=hcut
   have hp1:w.heap.size+1∉[pt]:=by rw [Msq];omega
   have X7:=Lib.hid x7;have F7:=Hxq (m7.at F6.out hp1)
   have M7:=Hxq (M6.out.trans m7 (fun t ht=>.inr (by rw [Msq] at ht;omega)))
   clear x7 m7 u1 fU
   generalize hbb:(bt || (!nA || !sd))=bb at *
   have HBB:=Lib.hid hbb
   clear hbb
   have HF:Hid (TxS o n s bb):=Hxq ((HS.out.must (nA && sd)).of (by
    rw [HP.out,<-HSD.out]
    congr 2
    cases nL <;> cases nR <;> cases decide (op=0) <;> rfl) (by rw [<-HBB.out];cases bt <;> cases sd <;> cases nA <;> rfl))
   have u0:=cell_at X7.out 0;have u1:=cell_at X7.out 1;have b0:=cell_at F7.out 0;have b1:=cell_at F7.out 1
   simp only [List.getElem?_toArray,List.getElem?_cons_zero,List.getElem?_cons_succ] at u0 u1 b0 b1
   have fA:∀ j,wc.frozen? ⟨w.heap.size+1,j,none⟩=false:=fun j=>free_at F7.out j
   go_wp2_with fail
   refine bodyPost_ret (results_cell_row rfl _ _ _ _ _ _ _ rfl (setCs_row (vs:=[.string s,.bool bb]) F7.out rfl) Tryz.underlying92 rfl (by kernel_rfl)) rfl ⟨_,rfl,⟨s,bb,rfl,HF.out⟩,M7.out.trans (setCs_mod (w.heap.size+1) [.string s,.bool bb] 0 wc) (fun t ht=>.inr (by rw [Msq] at ht;omega))⟩
/-- every literal, with so many braces -/
theorem rlit_of (b:Nat) (hb:b<=16) (hB:∀ c,b=c+1->R5B c):R5L b:=by
 intro e U w hL hG hlen
 obtain ⟨k,a,op,le,re,fn,av,of,body,ln,cl⟩:=e
 obtain ⟨hT,hl,hr,ho,hbo⟩:=hL.parts
 obtain ⟨Ut,Ul,Ur,Uo,Ub⟩:=U
 dsimp only at hT hl hr ho hbo
 obtain ⟨ta,tc,rfl⟩:=hT.lit
 obtain ⟨la,lc,rfl⟩:=hl.lit
 obtain ⟨ra,rc,rfl⟩:=hr.lit
 obtain ⟨oa,oc,rfl⟩:=ho.lit
 obtain ⟨ya,yc,rfl⟩:=hbo.lit
 have hw:lWt (.mk k a op le re fn av of body ln cl)=aWt a+exWt le+exWt re+exWt of+av.size+1000+lsWt body:=by rw [lWt]
 rw [hw] at hlen ⊢
 show Calls Tryz.prog 93 #[.agg #[.int .i64 k,.string a.rel,.slice ta a.terms.length tc,.int .i64 op,.int .i64 le.k,.string le.v,.int .i64 le.x.k,.int .i64 le.x.n,.string (Lx.ofS le.x.s),.int .i64 le.op,.slice la le.args.length lc,.int .i64 re.k,.string re.v,.int .i64 re.x.k,.int .i64 re.x.n,.string (Lx.ofS re.x.s),.int .i64 re.op,.slice ra re.args.length rc,.int .i64 fn,.string av,.int .i64 of.k,.string of.v,.int .i64 of.x.k,.int .i64 of.x.n,.string (Lx.ofS of.x.s),.int .i64 of.op,.slice oa of.args.length oc,.slice ya body.length yc,.int .i64 ln,.int .i64 cl],.int .i64 (b:Int)] w _
 by_cases h12:k=1\/k=2
 ·exact (rlit_atom b k a op le re fn av of body ln cl ta la ra oa ya tc lc rc oc yc w h12 hT hG (by omega)).mono fun _ _ h=>h.le (by omega)
 ·by_cases h3:k=3
  ·exact (rlit_cmp b k a op le re fn av of body ln cl ta la ra oa ya tc lc rc oc yc w h3 hl hr hG (by omega)).mono fun _ _ h=>h.le (by omega)
  ·by_cases h4:k=4
   ·refine (rlit_agg b k a op le re fn av of body ln cl ta la ra oa ya tc lc rc oc yc w h4 (av.size+exWt of+2 * lsWt body+50) (fun w' hG' ho' hb'=>?_) ho hbo hG).mono fun _ _ h=>h.le (by omega)
    by_cases hbad:fn<1\/4<fn\/b=0\/body.length=0
    ·exact ragg_bad b fn av of body oa ya oc yc _ w' hbad
    ·obtain ⟨c,rfl⟩:∃ c,b=c+1:=⟨b - 1,by omega⟩
     exact ragg_any c (hB c rfl) fn av of body oa ya oc yc _ w' (by omega) (by omega) rfl (by omega) (by omega) ho' hb' hG' (by omega)
   ·exact rlit_other b k a op le re fn av of body ln cl ta la ra oa ya tc lc rc oc yc w _ ⟨fun h=>h12 (.inl h),fun h=>h12 (.inr h),h3,h4⟩
theorem rlit_all (b:Nat) (h:b<=16):R5L b:=by
 induction b with
 | zero=>exact rlit_of 0 h (fun c hc=>by omega)
 | succ b ih =>
  refine rlit_of (b+1) h (fun c hc=>?_)
  obtain rfl:b=c:=by omega
  exact rlits_of (ih (by omega))
theorem rlits_all (b:Nat) (h:b<=16):R5B b:=rlits_of (rlit_all b h)
end Go.Proofs.YtohnmnfhmbmoaaaGreatDoor
namespace Go.Proofs.YtohnmnfhmbmoaaaGreatDoor.Rt
open Lx (Tok Sq small capital digit goes run two ones word skipN adv hexv esc quoF quo numv)
open Sy (sh Sh)
set_option linter.unusedVariables false
set_option linter.unusedSimpArgs false
/-- words without places -/
def tM (s:List Nat):Tok:=⟨5,s,0,0,[],0,0⟩
def tN (s:List Nat):Tok:=⟨1,s,0,0,[],0,0⟩
def tD (s:List Nat) (u:Nat):Tok:=⟨3,s,1,u,[],0,0⟩
def tQ (l:List Nat):Tok:=⟨4,Va.quoted l,2,0,l,0,0⟩
def any (_:Nat):Bool:=true
def brk (c:Nat):Bool:=!goes c
/-- digits -/
def dig (u:Nat):List Nat:=(Lib.decDigits u).map UInt8.toNat
open Lx (Tok Sq)
open Sy (sh Sh Env exprF chainF constant sign plain level txt)
open Pr (Ex pE pO binds strength)
open Cod (str)
/-- a value's words -/
def tx (x:Va.Val):List Tok :=
 if x.k=1 then (if x.n<0 then [tM [45],tD (dig x.n.natAbs) x.n.natAbs] else [tD (dig x.n.toNat) x.n.toNat])
 else if Va.name x.s=true then [tN x.s] else [tQ x.s]
/-- every value is of bytes -/
inductive ExO:Ex->Prop
 | mk {k:Int} {v:ByteArray} {x:Va.Val} {op:Int} {args:List Ex} (hx:∀ c∈x.s,c<256) (h:∀ a∈args,ExO a):ExO (.mk k v x op args)
theorem pO_one (j:Nat) (k:Int) (v:ByteArray) (x:Va.Val) (op:Int) (a:Ex):pO (j+1) (.mk k v x op [a]) =
  if op=6 then (if binds a<3\/(a.k=2/\a.x.k=1/\0<a.x.n) then (pE j a).map (fun t=>40 :: (t++[41])) else pE (j+1) a).map (fun t=>45 :: ((if a.k=2/\a.x.k=1/\a.x.n=0 then [45] else [])++t)) else none:=rfl
theorem pO_two (j:Nat) (k:Int) (v:ByteArray) (x:Va.Val) (op:Int) (a b:Ex):pO (j+1) (.mk k v x op [a,b]) =
  if op=6 then none else
   match (if binds a<strength op then (pE j a).map (fun t=>40 :: (t++[41])) else pE (j+1) a),(if binds b<=strength op then (pE j b).map (fun t=>40 :: (t++[41])) else pE (j+1) b) with
   | some l,some r=>some (l++(32 :: (Pr.sign op++(32 :: r))))
   | _,_=>none:=rfl
theorem pO_nil (j:Nat) (k:Int) (v:ByteArray) (x:Va.Val) (op:Int):pO (j+1) (.mk k v x op [])=none:=rfl
theorem pO_more (j:Nat) (k:Int) (v:ByteArray) (x:Va.Val) (op:Int) (a b c:Ex) (r:List Ex):pO (j+1) (.mk k v x op (a :: b :: c :: r))=none:=rfl
open Sy (sh Sh Env PR sign plain level txt must bodyF bodyOf litF aggOf expr fnOf cmpOf bareL ex0 at0)
open Pr (Ex Li Atom Term Rul Rel Prog seqO commas pL pE)
/-- a comparison's word -/
def ct (op:Int):Tok:=if op=1 then tM [61] else if op=2 then tM [33,61] else if op=3 then tM [60] else if op=4 then tM [60,61] else if op=5 then tM [62] else tM [62,61]
/-- every value is of bytes -/
inductive LiO:Li->Prop
 | mk {k:Int} {a:Atom} {op:Int} {l r:Ex} {fn:Int} {av:ByteArray} {of:Ex} {body:List Li} {ln cl:Int} (ha:∀ t∈a.terms,∀ c∈t.x.s,c<256) (hl:ExO l) (hr:ExO r) (ho:ExO of) (hb:∀ x∈body,LiO x):LiO (.mk k a op l r fn av of body ln cl)
def RB (x y:Li):Prop:=bareL x=bareL y
open Sy (sh Sh Env PR sign plain level txt must bodyOf litF aggOf expr fnOf bareL bareU bareR bareP ex0 at0 progF)
open Pr (Ex Li Atom Term Rul Rel Prog seqO commas pL pE pA pR pD pP pB lines)
/-- behind a rule: no operator, no comma, no arrow -/
def Fin (t:Tok):Prop:=(level t).1=0/\sign t [44]=false/\sign t [58,45]=false
/-- a rule -/
def RuO (r:Rul):Prop:=(∀ t∈r.head.terms,∀ c∈t.x.s,c<256)/\∀ x∈r.body,LiO x
def PgO (p:Prog):Prop:=∀ r∈p.rules,RuO r
end Go.Proofs.YtohnmnfhmbmoaaaGreatDoor.Rt
namespace Go.Proofs.YtohnmnfhmbmoaaaGreatDoor.Lx
set_option linter.unusedVariables false
set_option linter.unusedSimpArgs false
end Go.Proofs.YtohnmnfhmbmoaaaGreatDoor.Lx
namespace Go.Proofs.YtohnmnfhmbmoaaaGreatDoor.Rt
open Lx (Tok Sq)
open Sy (sh Sh Env PR sign plain level txt must bodyF bodyOf litF aggOf expr exprF chainF constant operand fnOf cmpOf tyOf bareL ex0 at0 progF)
open Pr (Ex Li Atom Term Rul Rel Prog seqO commas pL pE pO pT pA pR pD pP pB binds strength)
open Cod (str)
set_option linter.unusedVariables false
set_option linter.unusedSimpArgs false
theorem pE_mono:∀ (k:Nat) (e:Ex) (s:List Nat),pE k e=some s->∀ m,k<=m->pE m e=some s:=by
 intro k
 induction k using Nat.strongRecOn with
 | ind k ih =>
 intro e s h m hm
 cases k with
 | zero=>unfold pE at h;cases h
 | succ k =>
 obtain ⟨m,rfl⟩:∃ q,m=q+1:=⟨m - 1,by omega⟩
 by_cases h1:e.k=1
 ·rw [Pr.pE_var _ _ h1] at h ⊢;exact h
 by_cases h2:e.k=2
 ·rw [Pr.pE_val _ _ h2] at h ⊢;exact h
 by_cases h4:e.k=4
 ·rw [Pr.pE_op _ _ h4] at h ⊢
  by_cases hc:e.v.size=0/\e.x=Va.zero/\0<strength e.op
  ·rw [if_pos hc] at h ⊢
   cases k with
   | zero=>unfold pO at h;cases h
   | succ j =>
    obtain ⟨q,rfl⟩:∃ q,m=q+1:=⟨m - 1,by omega⟩
    have br:∀ (c:Prop) [Decidable c] (a:Ex) (f:List Nat->List Nat) (s:List Nat),(if c then (pE j a).map f else pE (j+1) a)=some s->(if c then (pE q a).map f else pE (q+1) a)=some s:=by
     intro c _ a f s hx
     split at hx
     ·rename_i hc
      rw [if_pos hc]
      obtain ⟨t,ht,rfl⟩:=Option.map_eq_some_iff.1 hx
      rw [ih j (by omega) a t ht q (by omega)]
      rfl
     ·rename_i hc
      rw [if_neg hc]
      exact ih (j+1) (by omega) a s hx (q+1) (by omega)
    clear hc h1 h2 h4
    obtain ⟨ek,ev,ex,op,args⟩:=e
    rcases args with _ | ⟨a,_ | ⟨b,_ | ⟨c,r⟩⟩⟩
    ·rw [pO_nil] at h;cases h
    ·rw [pO_one] at h ⊢
     by_cases h6:op=6
     ·rw [if_pos h6] at h ⊢
      obtain ⟨t,ht,rfl⟩:=Option.map_eq_some_iff.1 h
      rw [br _ _ _ _ ht]
      rfl
     ·rw [if_neg h6] at h;cases h
    ·rw [pO_two] at h ⊢
     by_cases h6:op=6
     ·rw [if_pos h6] at h;cases h
     ·rw [if_neg h6] at h ⊢
      generalize hX:(if binds a<strength op then (pE j a).map (fun t=>40 :: (t++[41])) else pE (j+1) a)=X at h
      generalize hY:(if binds b<=strength op then (pE j b).map (fun t=>40 :: (t++[41])) else pE (j+1) b)=Y at h
      cases X with
      | none=>cases h
      | some x =>
       cases Y with
       | none=>cases h
       | some y =>
        rw [br _ _ _ _ hX,br _ _ _ _ hY]
        exact h
    ·rw [pO_more] at h;cases h
  ·rw [if_neg hc] at h;cases h
 ·rw [Pr.pE_other _ _ h1 h2 h4] at h;cases h
/-- it can be written, with that depth -/
def Can (k:Nat) (e:Ex):Prop:=∃ s,pE k e=some s
theorem Can.mono {k m:Nat} {e:Ex} (h:Can k e) (hm:k<=m):Can m e:=h.imp (fun s hs=>pE_mono k e s hs m hm)
structure J (line:Nat) (e:Ex) (d:Nat):Prop where
 can:Can (d+1) e
 brk:binds e<line->Can d e
open Sy (sh Sh Env PR sign plain level txt must bodyF bodyOf litF aggOf expr exprF chainF constant fnOf cmpOf tyOf bareL bareU bareR bareP ex0 at0 progF)
open Pr (Ex Li Atom Term Rul Rel Prog seqO commas pL pE pT pA pR pD pP pB)
/-- a value of bytes, a number of 64 bits -/
structure VO (x:Va.Val):Prop where
 byte:∀ c∈x.s,c<256
 lo:-9223372036854775808<=x.n
 hi:x.n<=9223372036854775807
inductive ExV:Ex->Prop
 | mk {k:Int} {v:ByteArray} {x:Va.Val} {op:Int} {args:List Ex} (hx:VO x) (h:∀ a∈args,ExV a):ExV (.mk k v x op args)
inductive LiV:Li->Prop
 | mk {k:Int} {a:Atom} {op:Int} {l r:Ex} {fn:Int} {av:ByteArray} {of:Ex} {body:List Li} {ln cl:Int} (ha:∀ t∈a.terms,VO t.x) (hl:ExV l) (hr:ExV r) (ho:ExV of) (hb:∀ x∈body,LiV x):LiV (.mk k a op l r fn av of body ln cl)
def RuV (r:Rul):Prop:=(∀ t∈r.head.terms,VO t.x)/\∀ x∈r.body,LiV x
def PgV (p:Prog):Prop:=∀ r∈p.rules,RuV r
theorem ExV.o {e:Ex} (h:ExV e):ExO e:=by
 induction h with
 | mk hx h ih=>exact .mk hx.byte ih
theorem LiV.o {e:Li} (h:LiV e):LiO e:=by
 induction h with
 | mk ha hl hr ho hb ih=>exact .mk (fun t ht=>(ha t ht).byte) hl.o hr.o ho.o ih
theorem PgV.o {p:Prog} (h:PgV p):PgO p:=fun r hr=>⟨fun t ht=>((h r hr).1 t ht).byte,fun x hx=>((h r hr).2 x hx).o⟩
/-- the words' symbols are of bytes -/
def WB (v:Env):Prop:=∀ i,∀ c∈(v.tk i).sym,c<256
end Go.Proofs.YtohnmnfhmbmoaaaGreatDoor.Rt
namespace Go.Proofs.YtohnmnfhmbmoaaaGreatDoor
open Go.RowKit
set_option linter.unusedVariables false
set_option linter.unusedSimpArgs false
theorem Rt.VO.ok {x:Va.Val} (h:Rt.VO x):x.Ok:=⟨h.byte,h.lo,h.hi⟩
theorem ExAt.cells {w:World} {b o:Nat} {e:Pr.Ex} {u:Value} (h:CellsAt w b o (exV e u)):ExAt w b o e u :=
 ⟨h 0 _ rfl,h 1 _ rfl,h 2 _ rfl,h 3 _ rfl,h 4 _ rfl,h 5 _ rfl,h 6 _ rfl⟩
theorem TmAt.cells {w:World} {b o:Nat} {t:Pr.Term} (h:CellsAt w b o (tmV t)):TmAt w b o t :=
 ⟨h 0 _ rfl,h 1 _ rfl,h 2 _ rfl,h 3 _ rfl,h 4 _ rfl⟩
theorem EB.eok {F:Nat->Prop} {w:World} {e:Pr.Ex} {u:Value} (h:EB F w e u) (hv:Rt.ExV e):EOk w e u:=by
 induction h with
 | nil=>cases hv with | mk hx ha=>exact .nil hx.ok
 | row hF hb h1 h2 ih =>
  cases hv with
  | mk hx ha=>exact .row hx.ok (fun i h=>ExAt.cells (h1 i h)) (fun i h=>ih i h (ha _ (List.getElem_mem h)))
theorem RowB.tok {F:Nat->Prop} {w:World} {ts:List Pr.Term} {u:Value} (h:RowB F w 5 tmV ts u) (hv:∀ t∈ts,Rt.VO t.x):TOk w ts u:=by
 cases h with
 | nil=>exact .nil
 | row hF hb h1 hc=>exact .row (fun i h=>TmAt.cells (h1 i h)) (fun i h=>(hv _ (List.getElem_mem h)).ok)
theorem LB.lok {F:Nat->Prop} {w:World} {e:Pr.Li} {U:LU} (h:LB F w e U) (hv:Rt.LiV e):LOk w e U:=by
 induction h with
 | @mk k a op l r fn av of body ln cl U ub cb us ht hl hr ho hb h1 h2 hc ih =>
  cases hv with
  | mk va vl vr vo vb =>
   rcases body with _ | ⟨x,rest⟩
   ·exact .nil (ht.tok va) (hl.eok vl) (hr.eok vr) (ho.eok vo) hb
   ·obtain ⟨g,off,rfl,-,-,-⟩:=h1 0 (by simp)
    refine .row (ht.tok va) (hl.eok vl) (hr.eok vr) (ho.eok vo) hb (fun i h=>?_) (fun i h=>ih i h (vb _ (List.getElem_mem h)))
    obtain ⟨g',off',e,-,-,hc⟩:=h1 i h
    cases e
    exact hc
theorem BB.bok {F:Nat->Prop} {w:World} {body:List Pr.Li} {u:Value} (h:BB F w body u) (hv:∀ x∈body,Rt.LiV x):BOk w body u:=by
 obtain ⟨ub,cb,us,rfl,h1,h2,-⟩:=h
 rcases body with _ | ⟨x,rest⟩
 ·exact .inl ⟨rfl,_,_,rfl⟩
 ·obtain ⟨g,off,rfl,-,-,-⟩:=h1 0 (by simp)
  refine .inr ⟨g,off,cb,us,rfl,fun i h=>?_,fun i h=>(h2 i h).lok (hv _ (List.getElem_mem h))⟩
  obtain ⟨g',off',e,-,-,hc⟩:=h1 i h
  cases e
  exact hc
theorem RowB.yok {F:Nat->Prop} {w:World} {ts:List Int} {u:Value} (h:RowB F w 1 intC ts u):YOk w ts u:=by
 cases h with
 | nil=>exact .nil
 | row hF hb h1 hc =>
  refine .row (fun i h=>?_)
  have:=h1 i h 0 (.int .i64 ts[i]) rfl
  simpa using this
/-- a program that was read: Program_any's hypotheses -/
theorem PgB.ok {F:Nat->Prop} {w:World} {p:Pr.Prog} {x:Value} (h:PgB F w p x) (hv:Rt.PgV p):∃ du ru,x=.agg #[du,ru]/\DsOk w p.rels du/\RsOk w p.rules ru:=by
 obtain ⟨rels,rus,u1,u2,rfl,rfl,h1,h2,h3,h4⟩:=h
 refine ⟨u1,u2,rfl,?_,?_⟩
 ·show DsOk w (rels.map (·.1)) u1
  cases h1 with
  | nil=>exact .nil
  | @row _ b off c hF hb hc hcap =>
   have:DsOk w (rels.map (·.1)) (.slice (some ⟨b,off,none⟩) (rels.map (·.1)).length c):=by
    refine .row (us:=fun i=>(rels.map (·.2)).getD i (.int .i64 0)) (fun i h=>?_) (fun i h=>?_)
    ·have hi:i<rels.length:=by simpa using h
     have:=hc i hi
     simp only [List.getElem_map,List.getD_eq_getElem?_getD,List.getElem?_map,List.getElem?_eq_getElem hi,Option.map_some,Option.getD_some]
     exact this
    ·have hi:i<rels.length:=by simpa using h
     simp only [List.getElem_map,List.getD_eq_getElem?_getD,List.getElem?_map,List.getElem?_eq_getElem hi,Option.map_some,Option.getD_some]
     exact RowB.yok (h3 _ (List.getElem_mem hi))
   simpa using this
 ·show RsOk w (rus.map (·.1)) u2
  have hv2:∀ q∈rus,Rt.RuV q.1:=fun q hq=>hv q.1 (List.mem_map.2 ⟨q,hq,rfl⟩)
  cases h2 with
  | nil=>exact .nil
  | @row _ b off c hF hb hc hcap =>
   have:RsOk w (rus.map (·.1)) (.slice (some ⟨b,off,none⟩) (rus.map (·.1)).length c):=by
    refine .row (ts:=fun i=>(rus.map (·.2.1)).getD i (.int .i64 0)) (us:=fun i=>(rus.map (·.2.2)).getD i (.int .i64 0)) (fun i h=>?_) (fun i h=>?_) (fun i h=>?_)
    ·have hi:i<rus.length:=by simpa using h
     have:=hc i hi
     simp only [List.getElem_map,List.getD_eq_getElem?_getD,List.getElem?_map,List.getElem?_eq_getElem hi,Option.map_some,Option.getD_some]
     exact this
    ·have hi:i<rus.length:=by simpa using h
     simp only [List.getElem_map,List.getD_eq_getElem?_getD,List.getElem?_map,List.getElem?_eq_getElem hi,Option.map_some,Option.getD_some]
     exact (h4 _ (List.getElem_mem hi)).1.tok (hv2 _ (List.getElem_mem hi)).1
    ·have hi:i<rus.length:=by simpa using h
     simp only [List.getElem_map,List.getD_eq_getElem?_getD,List.getElem?_map,List.getElem?_eq_getElem hi,Option.map_some,Option.getD_some]
     exact (h4 _ (List.getElem_mem hi)).2.bok (hv2 _ (List.getElem_mem hi)).2
   simpa using this
end Go.Proofs.YtohnmnfhmbmoaaaGreatDoor
