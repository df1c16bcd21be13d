/- THE TEXTS MERGED: TwLits. -/
import Derived.Test.YtohnmnfhmbmoaaaGreatDoorKG7
namespace Go.Proofs.YtohnmnfhmbmoaaaGreatDoor
open Go.RowKit
set_option linter.unusedVariables false
set_option linter.unusedSimpArgs false
set_option maxRecDepth 100000
/-- what comes out: a body in new blocks, without places -/
def PlRT (l:List Pr.Li) (w:World) (e:Ending) (w':World):Prop:=∃ (a:Option Addr) (c:Nat),e=.returned (.slice a l.length c)/\BT (fun k=>w.heap.size<=k) w' (l.map Sy.bareL) (.slice a l.length c)/\Mod [] w w'
def PLCT (d:Nat):Prop:=∀ (l:List Pr.Li),liDs l<d->l.length<=134217728->liMs l<=134217728->∀ (F:Nat->Prop) (u:Value) (w:World),BB F w l u ->
 Calls Tryz.prog 34 #[u] w (PlRT l w)
set_option maxHeartbeats 8000000 in
theorem plct_of (d:Nat) (hS:PLCT d):PLCT (d+1):=by
 intro l hd hl hM F u w h
 obtain ⟨src,a1,c1,rfl,hsm,hla,hsb⟩:=h.lat
 have hln:src.length=l.length:=by rw [<-List.length_map (f:=(·.1)),hsm]
 have hM1:src.length<=134217728:=by omega
 have HS:=Lib.hid hS;have HSM:=Lib.hid hsm;have HLN:=Lib.hid hln
 have HSB:Hid (∀ p∈src,BL (fun k=>k<w.heap.size) w p):=Hxq (fun p hp=>LB.mono (hsb p hp) (fun k _ hk=>hk))
 have HC:=Hxq (cloneL_any src hM1 a1 c1 w hla (fun x hx=>csL_one (hsb x hx)))
 clear h hS hsm hsb hla hln
 go_enter Tryz.func34,Tryz.ntmps34
 go_wp2_with fail
 refine HC.out.mono ?_
 rintro e1 w1 ⟨a2,c2,rfl,hown,hnew,hm1⟩
 have R0:Hid (RI 49 30 csL BLT w w1 [] src a2 c2):=Hxq (RI.start hown hnew)
 have M1:=Lib.hid hm1
 clear hown hnew hm1 HC
 go_wp2_with fail
 go_loopw [10] (fun iv wr=>∃ (done:List (Pr.Li × LU)),iv=.int .i64 (done.length:Nat)/\done.map (·.1)=(l.take done.length).map Sy.bareL/\RI 49 30 csL BLT w wr done src a2 c2/\Mod [] w wr) (fun iv _=>src.length - (intOf iv).toNat)
 case atStart=>exact ⟨[],rfl,by simp,R0.out,M1.out⟩
 case round =>
  obtain ⟨done,rfl,hmap,hR,hmw⟩:=hrel
  have HMW:=Lib.hid hmw;have HM:=Lib.hid hmap;have RR:=Lib.hid hR
  clear hR hmw hmap
  by_cases hlt:done.length<src.length
  ·have hjI:(done.length:Int)<(src.length:Int):=by omega
   have hj0:(0:Int)<=(done.length:Int):=by omega
   obtain ⟨g,hg,hMI⟩:=RR.out.mid liV_size hlt
   subst hg
   have hla:done.length<l.length:=by have:=HLN.out;omega
   have hsx:src[done.length].1=l[done.length]:=by
    have e:=congrArg (fun l=>l[done.length]?) HSM.out
    simp only [List.getElem?_map,List.getElem?_eq_getElem hlt,List.getElem?_eq_getElem hla,Option.map_some,Option.some.injEq] at e
    exact e
   have hbx:=HSB.out _ (List.getElem_mem hlt)
   have hdj:=liDs_mem l done.length hla
   have hmj:=liMs_mem l done.length hla
   have HY:Hid (l[done.length]?=some l[done.length]):=Hxq (List.getElem?_eq_getElem hla)
   rw [<-hsx] at hdj hmj HY
   generalize src[done.length]=z at *
   obtain ⟨⟨k,⟨rel,ts⟩,op,le,re,fn,av,of,body,ln,cl⟩,U1⟩:=z
   dsimp only at hdj hmj HY hsx
   have hbx2:=LB.keep hbx HMW.out (by simp)
   obtain ⟨ht1,hl1,hr1,ho1,hb1⟩:=hbx2.parts
   obtain ⟨t1,l1,r1,q1,b1⟩:=U1
   dsimp only at ht1 hl1 hr1 ho1 hb1
   obtain ⟨ta1,tc1,rfl⟩:=ht1.lit;obtain ⟨la1,lc1,rfl⟩:=hl1.lit;obtain ⟨ra1,rc1,rfl⟩:=hr1.lit;obtain ⟨oa1,oc1,rfl⟩:=ho1.lit;obtain ⟨ba1,bc1,rfl⟩:=hb1.lit
   have hD:liDs body<d:=by simp only [liD] at hdj;omega
   simp only [liM] at hmj
   have hB1:ts.length<=134217728:=by omega
   have hB2:exM le<=134217728:=by omega
   have hB3:exM re<=134217728:=by omega
   have hB4:exM of<=134217728:=by omega
   have hB5:body.length<=134217728:=by omega
   have hB6:liMs body<=134217728:=by omega
   have hws:=HMW.out.size
   have HT:=Lib.hid ht1;have HL:=Lib.hid hl1;have HR:=Lib.hid hr1;have HO:=Lib.hid ho1;have HB:=Lib.hid hb1
   have G0:Hid (MI 49 30 csL BLT w wr done [.int .i64 k,.string rel,.slice ta1 ts.length tc1,.int .i64 op,.int .i64 le.k,.string le.v,.int .i64 le.x.k,.int .i64 le.x.n,.string (Lx.ofS le.x.s),.int .i64 le.op,.slice la1 le.args.length lc1,.int .i64 re.k,.string re.v,.int .i64 re.x.k,.int .i64 re.x.n,.string (Lx.ofS re.x.s),.int .i64 re.op,.slice ra1 re.args.length rc1,.int .i64 fn,.string av,.int .i64 of.k,.string of.v,.int .i64 of.x.k,.int .i64 of.x.n,.string (Lx.ofS of.x.s),.int .i64 of.op,.slice oa1 of.args.length oc1,.slice ba1 body.length bc1,.int .i64 ln,.int .i64 cl] (src.drop (done.length+1)) g c2 src.length):=Lib.hid hMI
   have hgl:=hMI.lt
   have hgn:=hMI.new
   clear hdj hmj hbx hbx2 hsx ht1 hl1 hr1 ho1 hb1 hMI
   have fG:∀ j,wr.frozen? ⟨g,j,none⟩=false:=fun j=>G0.out.frozen j
   have c28:=G0.out.cell liV_size 28 (.int .i64 ln) rfl
   have c29:=G0.out.cell liV_size 29 (.int .i64 cl) rfl
   go_upto_region 7 with fail
   have G1:Hid (MI 49 30 csL BLT w ((wr.setCell ⟨g,done.length * 30+28,none⟩ (.int .i64 0)).setCell ⟨g,done.length * 30+28+1,none⟩ (.int .i64 0)) done [.int .i64 k,.string rel,.slice ta1 ts.length tc1,.int .i64 op,.int .i64 le.k,.string le.v,.int .i64 le.x.k,.int .i64 le.x.n,.string (Lx.ofS le.x.s),.int .i64 le.op,.slice la1 le.args.length lc1,.int .i64 re.k,.string re.v,.int .i64 re.x.k,.int .i64 re.x.n,.string (Lx.ofS re.x.s),.int .i64 re.op,.slice ra1 re.args.length rc1,.int .i64 fn,.string av,.int .i64 of.k,.string of.v,.int .i64 of.x.k,.int .i64 of.x.n,.string (Lx.ofS of.x.s),.int .i64 of.op,.slice oa1 of.args.length oc1,.slice ba1 body.length bc1,.int .i64 0,.int .i64 0] (src.drop (done.length+1)) g c2 src.length):=Hxq (G0.out.sets bearsLT 28 [.int .i64 0,.int .i64 0] (by simp))
   have M1':Hid (Mod [g] wr ((wr.setCell ⟨g,done.length * 30+28,none⟩ (.int .i64 0)).setCell ⟨g,done.length * 30+28+1,none⟩ (.int .i64 0))):=Hxq (setCs_mod g [.int .i64 0,.int .i64 0] (done.length * 30+28) wr)
   clear fG c28 c29
   generalize ((wr.setCell ⟨g,done.length * 30+28,none⟩ (.int .i64 0)).setCell ⟨g,done.length * 30+28+1,none⟩ (.int .i64 0))=q1 at *
   have cT:=G1.out.cell liV_size 2 (.slice ta1 ts.length tc1) rfl
   go_wp2_with fail
   refine (cloneT_any ts hB1 ta1 tc1 q1 (RowB.lat (HT.out.keep M1'.out (by simp;omega)))).mono ?_
   rintro e2 w2 ⟨ta3,tc3,rfl,hown,hnew,hm2⟩
   have hq1:=M1'.out.size
   have E0:Hid (RowT (fun k=>w.heap.size<=k/\k≠g) w2 88 5 tmV ts (.slice ta3 ts.length tc3)):=Hxq (RowT.of_owns (base:=0) tmV_size hown (fun k hk=>by have:=hnew k hk;omega))
   have G2:=Hxq (G1.out.keep bearsLT hm2 (by simp))
   have M2:=Hxq (M1'.out.trans hm2 (by simp))
   clear hown hnew hm2 cT G1 M1' hq1
   have cT:=G2.out.cell liV_size 2 (.slice ta1 ts.length tc1) rfl
   have fG:∀ j,w2.frozen? ⟨g,j,none⟩=false:=fun j=>G2.out.frozen j
   go_upto_region 8 with fail
   have G3:Hid (MI 49 30 csL BLT w (w2.setCell ⟨g,done.length * 30+2,none⟩ (.slice ta3 ts.length tc3)) done [.int .i64 k,.string rel,.slice ta3 ts.length tc3,.int .i64 op,.int .i64 le.k,.string le.v,.int .i64 le.x.k,.int .i64 le.x.n,.string (Lx.ofS le.x.s),.int .i64 le.op,.slice la1 le.args.length lc1,.int .i64 re.k,.string re.v,.int .i64 re.x.k,.int .i64 re.x.n,.string (Lx.ofS re.x.s),.int .i64 re.op,.slice ra1 re.args.length rc1,.int .i64 fn,.string av,.int .i64 of.k,.string of.v,.int .i64 of.x.k,.int .i64 of.x.n,.string (Lx.ofS of.x.s),.int .i64 of.op,.slice oa1 of.args.length oc1,.slice ba1 body.length bc1,.int .i64 0,.int .i64 0] (src.drop (done.length+1)) g c2 src.length):=Hxq (G2.out.sets bearsLT 2 [.slice ta3 ts.length tc3] (by simp))
   have Q3:Hid (Mod [g] w2 (w2.setCell ⟨g,done.length * 30+2,none⟩ (.slice ta3 ts.length tc3))):=Hxq (setCs_mod g [.slice ta3 ts.length tc3] (done.length * 30+2) w2)
   clear fG cT G2
   generalize (w2.setCell ⟨g,done.length * 30+2,none⟩ (.slice ta3 ts.length tc3))=q3 at *
   have M3:=Hxq (M2.out.trans Q3.out (by simp))
   have E0:=Hxq (E0.out.keep Q3.out (by simp))
   clear M2 Q3
   have hgq:=G3.out.lt
   have d4:=G3.out.cell liV_size 4 (.int .i64 le.k) rfl
   have d5:=G3.out.cell liV_size 5 (.string le.v) rfl
   have d6:=G3.out.cell liV_size 6 (.int .i64 le.x.k) rfl
   have d7:=G3.out.cell liV_size 7 (.int .i64 le.x.n) rfl
   have d8:=G3.out.cell liV_size 8 (.string (Lx.ofS le.x.s)) rfl
   have d9:=G3.out.cell liV_size 9 (.int .i64 le.op) rfl
   have d10:=G3.out.cell liV_size 10 (.slice la1 le.args.length lc1) rfl
   have d11:=G3.out.cell liV_size 11 (.int .i64 re.k) rfl
   have d12:=G3.out.cell liV_size 12 (.string re.v) rfl
   have d13:=G3.out.cell liV_size 13 (.int .i64 re.x.k) rfl
   have d14:=G3.out.cell liV_size 14 (.int .i64 re.x.n) rfl
   have d15:=G3.out.cell liV_size 15 (.string (Lx.ofS re.x.s)) rfl
   have d16:=G3.out.cell liV_size 16 (.int .i64 re.op) rfl
   have d17:=G3.out.cell liV_size 17 (.slice ra1 re.args.length rc1) rfl
   have d20:=G3.out.cell liV_size 20 (.int .i64 of.k) rfl
   have d21:=G3.out.cell liV_size 21 (.string of.v) rfl
   have d22:=G3.out.cell liV_size 22 (.int .i64 of.x.k) rfl
   have d23:=G3.out.cell liV_size 23 (.int .i64 of.x.n) rfl
   have d24:=G3.out.cell liV_size 24 (.string (Lx.ofS of.x.s)) rfl
   have d25:=G3.out.cell liV_size 25 (.int .i64 of.op) rfl
   have d26:=G3.out.cell liV_size 26 (.slice oa1 of.args.length oc1) rfl
   have hwq:w.heap.size<=q3.heap.size:=Nat.le_trans hws M3.out.size
   refine tl_region (fun wS=>Mod [] q3 wS) [0,1,2,3,4,5,8,9,10,13,14,15,16,19,20,21,22,23,24,25,26,27,28] (by kernel_rfl) ?_
   have hHeld:Mod [] q3 q3.drew:=(Mod.refl [] q3).drew
   have E0:=Hxq (E0.out.keep hHeld (by simp))
   try simp only [Act.put,Lq1,Lq2,Lq3]
   refine TlAny.pure 0 (v:=?_) ?_ ?_ ?_
   rotate_left 1
   ·refine Or.inl ⟨by rfl,?_⟩
    intro wS _
    go_simp
    all_goals with_reducible rfl
   ·exact fun _ _ _ h=>h
   try simp only [Act.put,Lq1,Lq2,Lq3]
   refine TlAny.pure 1 (v:=?_) ?_ ?_ ?_
   rotate_left 1
   ·refine Or.inl ⟨by rfl,?_⟩
    intro wS _
    go_simp
    all_goals with_reducible rfl
   ·exact fun _ _ _ h=>h
   try simp only [Act.put,Lq1,Lq2,Lq3]
   refine TlAny.pure 2 (v:=?_) ?_ ?_ ?_
   rotate_left 1
   ·refine Or.inl ⟨by rfl,?_⟩
    intro wS _
    go_simp
    all_goals with_reducible rfl
   ·exact fun _ _ _ h=>h
   try simp only [Act.put,Lq1,Lq2,Lq3]
   refine TlAny.pure 3 (v:=?_) ?_ ?_ ?_
   rotate_left 1
   ·refine Or.inl ⟨by rfl,?_⟩
    intro wS _
    go_simp
    all_goals with_reducible rfl
   ·exact fun _ _ _ h=>h
   try simp only [Act.put,Lq1,Lq2,Lq3]
   refine TlAny.pure 4 (v:=?_) ?_ ?_ ?_
   rotate_left 1
   ·refine Or.inl ⟨by rfl,?_⟩
    intro wS _
    go_simp
    all_goals with_reducible rfl
   ·exact fun _ _ _ h=>h
   try simp only [Act.put,Lq1,Lq2,Lq3]
   refine TlAny.pure 5 (v:=?_) ?_ ?_ ?_
   rotate_left 1
   ·refine Or.inl ⟨by rfl,?_⟩
    intro wS _
    go_simp
    all_goals with_reducible rfl
   ·exact fun _ _ _ h=>h
   try simp only [Act.put,Lq1,Lq2,Lq3]
   refine TlAny.pure 8 (v:=?_) ?_ ?_ ?_
   rotate_left 1
   ·refine Or.inl ⟨by rfl,?_⟩
    intro wS _
    go_simp
    all_goals with_reducible rfl
   ·exact fun _ _ _ h=>h
   try simp only [Act.put,Lq1,Lq2,Lq3]
   refine TlAny.pure 9 (v:=?_) ?_ ?_ ?_
   rotate_left 1
   ·refine Or.inl ⟨by rfl,?_⟩
    intro wS _
    go_simp
    all_goals with_reducible rfl
   ·exact fun _ _ _ h=>h
   try simp only [Act.put,Lq1,Lq2,Lq3]
   refine TlAny.pure 10 (v:=?_) ?_ ?_ ?_
   rotate_left 1
   ·refine Or.inl ⟨by rfl,?_⟩
    intro wS _
    go_simp
    all_goals with_reducible rfl
   ·exact fun _ _ _ h=>h
   try simp only [Act.put,Lq1,Lq2,Lq3]
   refine TlAny.pure 13 (v:=?_) ?_ ?_ ?_
   rotate_left 1
   ·refine Or.inl ⟨by rfl,?_⟩
    intro wS _
    go_simp
    all_goals with_reducible rfl
   ·exact fun _ _ _ h=>h
   try simp only [Act.put,Lq1,Lq2,Lq3]
   refine TlAny.pure 14 (v:=?_) ?_ ?_ ?_
   rotate_left 1
   ·refine Or.inl ⟨by rfl,?_⟩
    intro wS _
    go_simp
    all_goals with_reducible rfl
   ·exact fun _ _ _ h=>h
   try simp only [Act.put,Lq1,Lq2,Lq3]
   refine TlAny.pure 15 (v:=?_) ?_ ?_ ?_
   rotate_left 1
   ·refine Or.inl ⟨by rfl,?_⟩
    intro wS _
    go_simp
    all_goals with_reducible rfl
   ·exact fun _ _ _ h=>h
   try simp only [Act.put,Lq1,Lq2,Lq3]
   refine TlAny.pure 16 (v:=?_) ?_ ?_ ?_
   rotate_left 1
   ·refine Or.inl ⟨by rfl,?_⟩
    intro wS _
    go_simp
    all_goals with_reducible rfl
   ·exact fun _ _ _ h=>h
   try simp only [Act.put,Lq1,Lq2,Lq3]
   refine TlAny.take 6 (v:=?_) hHeld ?_ ?_ ?_
   rotate_left 1
   ·refine Or.inl ⟨by rfl,?_⟩
    intro wS hSw
    replace hSw:Mod [] q3 wS:=hSw
    have p4:=hSw.cell d4 (by simp)
    have p5:=hSw.cell d5 (by simp)
    have p6:=hSw.cell d6 (by simp)
    have p7:=hSw.cell d7 (by simp)
    have p8:=hSw.cell d8 (by simp)
    have p9:=hSw.cell d9 (by simp)
    have p10:=hSw.cell d10 (by simp)
    clear hSw
    go_simp
    all_goals with_reducible rfl
   ·exact fun _ _ _ h=>h
   try simp only [Act.put,Lq1,Lq2,Lq3]
   refine TlAny.take 11 (v:=?_) hHeld ?_ ?_ ?_
   rotate_left 1
   ·refine Or.inl ⟨by rfl,?_⟩
    intro wS hSw
    replace hSw:Mod [] q3 wS:=hSw
    have p11:=hSw.cell d11 (by simp)
    have p12:=hSw.cell d12 (by simp)
    have p13:=hSw.cell d13 (by simp)
    have p14:=hSw.cell d14 (by simp)
    have p15:=hSw.cell d15 (by simp)
    have p16:=hSw.cell d16 (by simp)
    have p17:=hSw.cell d17 (by simp)
    clear hSw
    go_simp
    all_goals with_reducible rfl
   ·exact fun _ _ _ h=>h
   try simp only [Act.put,Lq1,Lq2,Lq3]
   refine TlAny.take 17 (v:=?_) hHeld ?_ ?_ ?_
   rotate_left 1
   ·refine Or.inl ⟨by rfl,?_⟩
    intro wS hSw
    replace hSw:Mod [] q3 wS:=hSw
    have p20:=hSw.cell d20 (by simp)
    have p21:=hSw.cell d21 (by simp)
    have p22:=hSw.cell d22 (by simp)
    have p23:=hSw.cell d23 (by simp)
    have p24:=hSw.cell d24 (by simp)
    have p25:=hSw.cell d25 (by simp)
    have p26:=hSw.cell d26 (by simp)
    clear hSw
    go_simp
    all_goals with_reducible rfl
   ·exact fun _ _ _ h=>h
   try simp only [Act.put,Lq1,Lq2,Lq3]
   clear d4 d5 d6 d7 d8 d9 d10 d11 d12 d13 d14 d15 d16 d17 d20 d21 d22 d23 d24 d25 d26
   refine TlAny.one 7 ?_
   intro K hK
   go_simp
   refine (pexpr_T le hB2 _ _ (HL.out.keep (M3.out.trans hHeld (by simp)) (by simp;omega))).mono ?_
   rintro e4 v1 ⟨u1,rfl,r1,m1⟩
   obtain ⟨la3,lc3,rfl⟩:=r1.lit
   have hsz1:q3.heap.size<=(q3.drew).heap.size:=hHeld.size
   have E1:Hid (ET (fun k=>w.heap.size<=k/\k≠g) v1 le (.slice la3 le.args.length lc3)):=Hxq (r1.mono (fun k hk _=>by omega))
   have E0:=Hxq (E0.out.keep m1 (by simp))
   replace hHeld:Mod [] q3 v1:=hHeld.trans m1 (by simp)
   clear m1 r1 hsz1
   unfold exV
   refine hK.out _ _ (fun _=>hHeld) ?_
   clear hK K
   try simp only [Act.put,Lq1,Lq2,Lq3]
   refine TlAny.one 12 ?_
   intro K hK
   go_simp
   refine (pexpr_T re hB3 _ _ (HR.out.keep (M3.out.trans hHeld (by simp)) (by simp;omega))).mono ?_
   rintro e5 v2 ⟨u2,rfl,r2,m2⟩
   obtain ⟨ra3,rc3,rfl⟩:=r2.lit
   have hsz2:q3.heap.size<=(v1).heap.size:=hHeld.size
   have E2:Hid (ET (fun k=>w.heap.size<=k/\k≠g) v2 re (.slice ra3 re.args.length rc3)):=Hxq (r2.mono (fun k hk _=>by omega))
   have E0:=Hxq (E0.out.keep m2 (by simp))
   have E1:=Hxq (E1.out.keep m2 (by simp))
   replace hHeld:Mod [] q3 v2:=hHeld.trans m2 (by simp)
   clear m2 r2 hsz2
   unfold exV
   refine hK.out _ _ (fun _=>hHeld) ?_
   clear hK K
   try simp only [Act.put,Lq1,Lq2,Lq3]
   refine TlAny.one 18 ?_
   intro K hK
   go_simp
   refine (pexpr_T of hB4 _ _ (HO.out.keep (M3.out.trans hHeld (by simp)) (by simp;omega))).mono ?_
   rintro e6 v3 ⟨u3,rfl,r3,m3⟩
   obtain ⟨oa3,oc3,rfl⟩:=r3.lit
   have hsz3:q3.heap.size<=(v2).heap.size:=hHeld.size
   have E3:Hid (ET (fun k=>w.heap.size<=k/\k≠g) v3 of (.slice oa3 of.args.length oc3)):=Hxq (r3.mono (fun k hk _=>by omega))
   have E0:=Hxq (E0.out.keep m3 (by simp))
   have E1:=Hxq (E1.out.keep m3 (by simp))
   have E2:=Hxq (E2.out.keep m3 (by simp))
   replace hHeld:Mod [] q3 v3:=hHeld.trans m3 (by simp)
   clear m3 r3 hsz3
   unfold exV
   refine hK.out _ _ (fun _=>hHeld) ?_
   clear hK K
   try simp only [Act.put,Lq1,Lq2,Lq3]
   have N3:=Hxq (M3.out.trans hHeld (by simp))
   have G4:=Hxq (G3.out.keep bearsLT hHeld (by simp))
   clear hHeld
   refine TlAny.pure 19 (v:=?_) ?_ ?_ ?_
   rotate_left 1
   ·refine Or.inl ⟨by rfl,?_⟩
    intro wS _
    go_simp
    all_goals with_reducible rfl
   ·exact fun _ _ _ h=>h
   try simp only [Act.put,Lq1,Lq2,Lq3]
   refine TlAny.pure 20 (v:=?_) ?_ ?_ ?_
   rotate_left 1
   ·refine Or.inl ⟨by rfl,?_⟩
    intro wS _
    go_simp
    all_goals with_reducible rfl
   ·exact fun _ _ _ h=>h
   try simp only [Act.put,Lq1,Lq2,Lq3]
   have fG:∀ j,v3.frozen? ⟨g,j,none⟩=false:=fun j=>G4.out.frozen j
   have s4:=G4.out.cell liV_size 4 (.int .i64 le.k) rfl
   have s5:=G4.out.cell liV_size 5 (.string le.v) rfl
   have s6:=G4.out.cell liV_size 6 (.int .i64 le.x.k) rfl
   have s7:=G4.out.cell liV_size 7 (.int .i64 le.x.n) rfl
   have s8:=G4.out.cell liV_size 8 (.string (Lx.ofS le.x.s)) rfl
   have s9:=G4.out.cell liV_size 9 (.int .i64 le.op) rfl
   have s10:=G4.out.cell liV_size 10 (.slice la1 le.args.length lc1) rfl
   refine TlAny.one 21 ?_
   intro K hK
   go_simp
   refine hK.out _ _ (fun hT=>absurd hT (by decide)) ?_
   clear hK K
   try simp only [Act.put,Lq1,Lq2,Lq3]
   clear fG s4 s5 s6 s7 s8 s9 s10
   have G5:Hid (MI 49 30 csL BLT w (((((((v3.setCell ⟨g,done.length * 30+4,none⟩ (.int .i64 le.k)).setCell ⟨g,done.length * 30+5,none⟩ (.string le.v)).setCell ⟨g,done.length * 30+6,none⟩ (.int .i64 le.x.k)).setCell ⟨g,done.length * 30+7,none⟩ (.int .i64 le.x.n)).setCell ⟨g,done.length * 30+8,none⟩ (.string (Lx.ofS le.x.s))).setCell ⟨g,done.length * 30+9,none⟩ (.int .i64 le.op)).setCell ⟨g,done.length * 30+10,none⟩ (.slice la3 le.args.length lc3)) done [.int .i64 k,.string rel,.slice ta3 ts.length tc3,.int .i64 op,.int .i64 le.k,.string le.v,.int .i64 le.x.k,.int .i64 le.x.n,.string (Lx.ofS le.x.s),.int .i64 le.op,.slice la3 le.args.length lc3,.int .i64 re.k,.string re.v,.int .i64 re.x.k,.int .i64 re.x.n,.string (Lx.ofS re.x.s),.int .i64 re.op,.slice ra1 re.args.length rc1,.int .i64 fn,.string av,.int .i64 of.k,.string of.v,.int .i64 of.x.k,.int .i64 of.x.n,.string (Lx.ofS of.x.s),.int .i64 of.op,.slice oa1 of.args.length oc1,.slice ba1 body.length bc1,.int .i64 0,.int .i64 0] (src.drop (done.length+1)) g c2 src.length):=Hxq (G4.out.sets bearsLT 4 [.int .i64 le.k,.string le.v,.int .i64 le.x.k,.int .i64 le.x.n,.string (Lx.ofS le.x.s),.int .i64 le.op,.slice la3 le.args.length lc3] (by simp))
   have Q4:Hid (Mod [g] v3 (((((((v3.setCell ⟨g,done.length * 30+4,none⟩ (.int .i64 le.k)).setCell ⟨g,done.length * 30+5,none⟩ (.string le.v)).setCell ⟨g,done.length * 30+6,none⟩ (.int .i64 le.x.k)).setCell ⟨g,done.length * 30+7,none⟩ (.int .i64 le.x.n)).setCell ⟨g,done.length * 30+8,none⟩ (.string (Lx.ofS le.x.s))).setCell ⟨g,done.length * 30+9,none⟩ (.int .i64 le.op)).setCell ⟨g,done.length * 30+10,none⟩ (.slice la3 le.args.length lc3))):=Hxq (setCs_mod g [.int .i64 le.k,.string le.v,.int .i64 le.x.k,.int .i64 le.x.n,.string (Lx.ofS le.x.s),.int .i64 le.op,.slice la3 le.args.length lc3] (done.length * 30+4) v3)
   generalize (((((((v3.setCell ⟨g,done.length * 30+4,none⟩ (.int .i64 le.k)).setCell ⟨g,done.length * 30+5,none⟩ (.string le.v)).setCell ⟨g,done.length * 30+6,none⟩ (.int .i64 le.x.k)).setCell ⟨g,done.length * 30+7,none⟩ (.int .i64 le.x.n)).setCell ⟨g,done.length * 30+8,none⟩ (.string (Lx.ofS le.x.s))).setCell ⟨g,done.length * 30+9,none⟩ (.int .i64 le.op)).setCell ⟨g,done.length * 30+10,none⟩ (.slice la3 le.args.length lc3))=q4 at *
   have E0:=Hxq (E0.out.keep Q4.out (by simp))
   have E1:=Hxq (E1.out.keep Q4.out (by simp))
   have E2:=Hxq (E2.out.keep Q4.out (by simp))
   have E3:=Hxq (E3.out.keep Q4.out (by simp))
   have N4:=Hxq (N3.out.trans Q4.out (by simp))
   clear Q4 G4
   refine TlAny.pure 22 (v:=?_) ?_ ?_ ?_
   rotate_left 1
   ·refine Or.inl ⟨by rfl,?_⟩
    intro wS _
    go_simp
    all_goals with_reducible rfl
   ·exact fun _ _ _ h=>h
   try simp only [Act.put,Lq1,Lq2,Lq3]
   refine TlAny.pure 23 (v:=?_) ?_ ?_ ?_
   rotate_left 1
   ·refine Or.inl ⟨by rfl,?_⟩
    intro wS _
    go_simp
    all_goals with_reducible rfl
   ·exact fun _ _ _ h=>h
   try simp only [Act.put,Lq1,Lq2,Lq3]
   have fG:∀ j,q4.frozen? ⟨g,j,none⟩=false:=fun j=>G5.out.frozen j
   have s11:=G5.out.cell liV_size 11 (.int .i64 re.k) rfl
   have s12:=G5.out.cell liV_size 12 (.string re.v) rfl
   have s13:=G5.out.cell liV_size 13 (.int .i64 re.x.k) rfl
   have s14:=G5.out.cell liV_size 14 (.int .i64 re.x.n) rfl
   have s15:=G5.out.cell liV_size 15 (.string (Lx.ofS re.x.s)) rfl
   have s16:=G5.out.cell liV_size 16 (.int .i64 re.op) rfl
   have s17:=G5.out.cell liV_size 17 (.slice ra1 re.args.length rc1) rfl
   refine TlAny.one 24 ?_
   intro K hK
   go_simp
   refine hK.out _ _ (fun hT=>absurd hT (by decide)) ?_
   clear hK K
   try simp only [Act.put,Lq1,Lq2,Lq3]
   clear fG s11 s12 s13 s14 s15 s16 s17
   have G6:Hid (MI 49 30 csL BLT w (((((((q4.setCell ⟨g,done.length * 30+11,none⟩ (.int .i64 re.k)).setCell ⟨g,done.length * 30+12,none⟩ (.string re.v)).setCell ⟨g,done.length * 30+13,none⟩ (.int .i64 re.x.k)).setCell ⟨g,done.length * 30+14,none⟩ (.int .i64 re.x.n)).setCell ⟨g,done.length * 30+15,none⟩ (.string (Lx.ofS re.x.s))).setCell ⟨g,done.length * 30+16,none⟩ (.int .i64 re.op)).setCell ⟨g,done.length * 30+17,none⟩ (.slice ra3 re.args.length rc3)) done [.int .i64 k,.string rel,.slice ta3 ts.length tc3,.int .i64 op,.int .i64 le.k,.string le.v,.int .i64 le.x.k,.int .i64 le.x.n,.string (Lx.ofS le.x.s),.int .i64 le.op,.slice la3 le.args.length lc3,.int .i64 re.k,.string re.v,.int .i64 re.x.k,.int .i64 re.x.n,.string (Lx.ofS re.x.s),.int .i64 re.op,.slice ra3 re.args.length rc3,.int .i64 fn,.string av,.int .i64 of.k,.string of.v,.int .i64 of.x.k,.int .i64 of.x.n,.string (Lx.ofS of.x.s),.int .i64 of.op,.slice oa1 of.args.length oc1,.slice ba1 body.length bc1,.int .i64 0,.int .i64 0] (src.drop (done.length+1)) g c2 src.length):=Hxq (G5.out.sets bearsLT 11 [.int .i64 re.k,.string re.v,.int .i64 re.x.k,.int .i64 re.x.n,.string (Lx.ofS re.x.s),.int .i64 re.op,.slice ra3 re.args.length rc3] (by simp))
   have Q5:Hid (Mod [g] q4 (((((((q4.setCell ⟨g,done.length * 30+11,none⟩ (.int .i64 re.k)).setCell ⟨g,done.length * 30+12,none⟩ (.string re.v)).setCell ⟨g,done.length * 30+13,none⟩ (.int .i64 re.x.k)).setCell ⟨g,done.length * 30+14,none⟩ (.int .i64 re.x.n)).setCell ⟨g,done.length * 30+15,none⟩ (.string (Lx.ofS re.x.s))).setCell ⟨g,done.length * 30+16,none⟩ (.int .i64 re.op)).setCell ⟨g,done.length * 30+17,none⟩ (.slice ra3 re.args.length rc3))):=Hxq (setCs_mod g [.int .i64 re.k,.string re.v,.int .i64 re.x.k,.int .i64 re.x.n,.string (Lx.ofS re.x.s),.int .i64 re.op,.slice ra3 re.args.length rc3] (done.length * 30+11) q4)
   generalize (((((((q4.setCell ⟨g,done.length * 30+11,none⟩ (.int .i64 re.k)).setCell ⟨g,done.length * 30+12,none⟩ (.string re.v)).setCell ⟨g,done.length * 30+13,none⟩ (.int .i64 re.x.k)).setCell ⟨g,done.length * 30+14,none⟩ (.int .i64 re.x.n)).setCell ⟨g,done.length * 30+15,none⟩ (.string (Lx.ofS re.x.s))).setCell ⟨g,done.length * 30+16,none⟩ (.int .i64 re.op)).setCell ⟨g,done.length * 30+17,none⟩ (.slice ra3 re.args.length rc3))=q5 at *
   have E0:=Hxq (E0.out.keep Q5.out (by simp))
   have E1:=Hxq (E1.out.keep Q5.out (by simp))
   have E2:=Hxq (E2.out.keep Q5.out (by simp))
   have E3:=Hxq (E3.out.keep Q5.out (by simp))
   have N5:=Hxq (N4.out.trans Q5.out (by simp))
   clear Q5 G5
   refine TlAny.pure 25 (v:=?_) ?_ ?_ ?_
   rotate_left 1
   ·refine Or.inl ⟨by rfl,?_⟩
    intro wS _
    go_simp
    all_goals with_reducible rfl
   ·exact fun _ _ _ h=>h
   try simp only [Act.put,Lq1,Lq2,Lq3]
   refine TlAny.pure 26 (v:=?_) ?_ ?_ ?_
   rotate_left 1
   ·refine Or.inl ⟨by rfl,?_⟩
    intro wS _
    go_simp
    all_goals with_reducible rfl
   ·exact fun _ _ _ h=>h
   try simp only [Act.put,Lq1,Lq2,Lq3]
   refine TlAny.pure 27 (v:=?_) ?_ ?_ ?_
   rotate_left 1
   ·refine Or.inl ⟨by rfl,?_⟩
    intro wS _
    go_simp
    all_goals with_reducible rfl
   ·exact fun _ _ _ h=>h
   try simp only [Act.put,Lq1,Lq2,Lq3]
   have fG:∀ j,q5.frozen? ⟨g,j,none⟩=false:=fun j=>G6.out.frozen j
   have s20:=G6.out.cell liV_size 20 (.int .i64 of.k) rfl
   have s21:=G6.out.cell liV_size 21 (.string of.v) rfl
   have s22:=G6.out.cell liV_size 22 (.int .i64 of.x.k) rfl
   have s23:=G6.out.cell liV_size 23 (.int .i64 of.x.n) rfl
   have s24:=G6.out.cell liV_size 24 (.string (Lx.ofS of.x.s)) rfl
   have s25:=G6.out.cell liV_size 25 (.int .i64 of.op) rfl
   have s26:=G6.out.cell liV_size 26 (.slice oa1 of.args.length oc1) rfl
   refine TlAny.one 28 ?_
   intro K hK
   go_simp
   refine hK.out _ _ (fun hT=>absurd hT (by decide)) ?_
   clear hK K
   try simp only [Act.put,Lq1,Lq2,Lq3]
   clear fG s20 s21 s22 s23 s24 s25 s26
   have G7:Hid (MI 49 30 csL BLT w (((((((q5.setCell ⟨g,done.length * 30+20,none⟩ (.int .i64 of.k)).setCell ⟨g,done.length * 30+21,none⟩ (.string of.v)).setCell ⟨g,done.length * 30+22,none⟩ (.int .i64 of.x.k)).setCell ⟨g,done.length * 30+23,none⟩ (.int .i64 of.x.n)).setCell ⟨g,done.length * 30+24,none⟩ (.string (Lx.ofS of.x.s))).setCell ⟨g,done.length * 30+25,none⟩ (.int .i64 of.op)).setCell ⟨g,done.length * 30+26,none⟩ (.slice oa3 of.args.length oc3)) done [.int .i64 k,.string rel,.slice ta3 ts.length tc3,.int .i64 op,.int .i64 le.k,.string le.v,.int .i64 le.x.k,.int .i64 le.x.n,.string (Lx.ofS le.x.s),.int .i64 le.op,.slice la3 le.args.length lc3,.int .i64 re.k,.string re.v,.int .i64 re.x.k,.int .i64 re.x.n,.string (Lx.ofS re.x.s),.int .i64 re.op,.slice ra3 re.args.length rc3,.int .i64 fn,.string av,.int .i64 of.k,.string of.v,.int .i64 of.x.k,.int .i64 of.x.n,.string (Lx.ofS of.x.s),.int .i64 of.op,.slice oa3 of.args.length oc3,.slice ba1 body.length bc1,.int .i64 0,.int .i64 0] (src.drop (done.length+1)) g c2 src.length):=Hxq (G6.out.sets bearsLT 20 [.int .i64 of.k,.string of.v,.int .i64 of.x.k,.int .i64 of.x.n,.string (Lx.ofS of.x.s),.int .i64 of.op,.slice oa3 of.args.length oc3] (by simp))
   have Q6:Hid (Mod [g] q5 (((((((q5.setCell ⟨g,done.length * 30+20,none⟩ (.int .i64 of.k)).setCell ⟨g,done.length * 30+21,none⟩ (.string of.v)).setCell ⟨g,done.length * 30+22,none⟩ (.int .i64 of.x.k)).setCell ⟨g,done.length * 30+23,none⟩ (.int .i64 of.x.n)).setCell ⟨g,done.length * 30+24,none⟩ (.string (Lx.ofS of.x.s))).setCell ⟨g,done.length * 30+25,none⟩ (.int .i64 of.op)).setCell ⟨g,done.length * 30+26,none⟩ (.slice oa3 of.args.length oc3))):=Hxq (setCs_mod g [.int .i64 of.k,.string of.v,.int .i64 of.x.k,.int .i64 of.x.n,.string (Lx.ofS of.x.s),.int .i64 of.op,.slice oa3 of.args.length oc3] (done.length * 30+20) q5)
   generalize (((((((q5.setCell ⟨g,done.length * 30+20,none⟩ (.int .i64 of.k)).setCell ⟨g,done.length * 30+21,none⟩ (.string of.v)).setCell ⟨g,done.length * 30+22,none⟩ (.int .i64 of.x.k)).setCell ⟨g,done.length * 30+23,none⟩ (.int .i64 of.x.n)).setCell ⟨g,done.length * 30+24,none⟩ (.string (Lx.ofS of.x.s))).setCell ⟨g,done.length * 30+25,none⟩ (.int .i64 of.op)).setCell ⟨g,done.length * 30+26,none⟩ (.slice oa3 of.args.length oc3))=q6 at *
   have E0:=Hxq (E0.out.keep Q6.out (by simp))
   have E1:=Hxq (E1.out.keep Q6.out (by simp))
   have E2:=Hxq (E2.out.keep Q6.out (by simp))
   have E3:=Hxq (E3.out.keep Q6.out (by simp))
   have N6:=Hxq (N5.out.trans Q6.out (by simp))
   clear Q6 G6
   refine TlAny.fin ?_
   have cT:=G7.out.cell liV_size 27 (.slice ba1 body.length bc1) rfl
   have hb7:=Hxq (HB.out.keep N6.out (by simp;omega))
   go_wp2_with fail
   refine (HS.out body hD hB5 hB6 _ _ q6 hb7.out).mono ?_
   rintro e7 v7 ⟨ba3,bc3,rfl,hbb,m7⟩
   have hq6:=N6.out.size
   have E4:Hid (BT (fun k=>w.heap.size<=k/\k≠g) v7 (body.map Sy.bareL) (.slice ba3 body.length bc3)):=Hxq (hbb.mono (fun k hk _=>by omega))
   have E0:=Hxq (E0.out.keep m7 (by simp));have E1:=Hxq (E1.out.keep m7 (by simp));have E2:=Hxq (E2.out.keep m7 (by simp));have E3:=Hxq (E3.out.keep m7 (by simp))
   have G8:=Hxq (G7.out.keep bearsLT m7 (by simp))
   have N7:=Hxq (N6.out.trans m7 (by simp))
   clear hbb m7 cT hb7 hq6 G7 N6
   have cT:=G8.out.cell liV_size 27 (.slice ba1 body.length bc1) rfl
   have fG:∀ j,v7.frozen? ⟨g,j,none⟩=false:=fun j=>G8.out.frozen j
   go_upto_region 10 with fail
   have G9:Hid (MI 49 30 csL BLT w (v7.setCell ⟨g,done.length * 30+27,none⟩ (.slice ba3 body.length bc3)) done [.int .i64 k,.string rel,.slice ta3 ts.length tc3,.int .i64 op,.int .i64 le.k,.string le.v,.int .i64 le.x.k,.int .i64 le.x.n,.string (Lx.ofS le.x.s),.int .i64 le.op,.slice la3 le.args.length lc3,.int .i64 re.k,.string re.v,.int .i64 re.x.k,.int .i64 re.x.n,.string (Lx.ofS re.x.s),.int .i64 re.op,.slice ra3 re.args.length rc3,.int .i64 fn,.string av,.int .i64 of.k,.string of.v,.int .i64 of.x.k,.int .i64 of.x.n,.string (Lx.ofS of.x.s),.int .i64 of.op,.slice oa3 of.args.length oc3,.slice ba3 body.length bc3,.int .i64 0,.int .i64 0] (src.drop (done.length+1)) g c2 src.length):=Hxq (G8.out.sets bearsLT 27 [.slice ba3 body.length bc3] (by simp))
   have Q9:Hid (Mod [g] v7 (v7.setCell ⟨g,done.length * 30+27,none⟩ (.slice ba3 body.length bc3))):=Hxq (setCs_mod g [.slice ba3 body.length bc3] (done.length * 30+27) v7)
   clear fG cT G8
   generalize (v7.setCell ⟨g,done.length * 30+27,none⟩ (.slice ba3 body.length bc3))=q9 at *
   have hp9:BLT (fun k=>w.heap.size<=k/\k≠g) q9 ((Pr.Li.mk k ⟨rel,ts⟩ op le re fn av of (body.map Sy.bareL) 0 0,(⟨.slice ta3 ts.length tc3,.slice la3 le.args.length lc3,.slice ra3 re.args.length rc3,.slice oa3 of.args.length oc3,.slice ba3 body.length bc3⟩:LU)))  :=LT.of (E0.out.keep Q9.out (by simp)) (E1.out.keep Q9.out (by simp)) (E2.out.keep Q9.out (by simp)) (E3.out.keep Q9.out (by simp)) (E4.out.keep Q9.out (by simp))
   have R9:=Hxq (MI.fin bearsLT ((Pr.Li.mk k ⟨rel,ts⟩ op le re fn av of (body.map Sy.bareL) 0 0,(⟨.slice ta3 ts.length tc3,.slice la3 le.args.length lc3,.slice ra3 re.args.length rc3,.slice oa3 of.args.length oc3,.slice ba3 body.length bc3⟩:LU))) G9.out hlt hp9)
   have M9:Hid (Mod [] w q9):=Hxq (HMW.out.trans (N7.out.trans Q9.out (by simp)) (fun s hs=>.inr (by rw [Msq] at hs;omega)))
   clear E0 E1 E2 E3 E4 G9 Q9 N7 hp9 M3 G3 G0
   go_wp2_with fail
   go_roundw
   case rel =>
    refine ⟨done++[(Pr.Li.mk k ⟨rel,ts⟩ op le re fn av of (body.map Sy.bareL) 0 0,(⟨.slice ta3 ts.length tc3,.slice la3 le.args.length lc3,.slice ra3 re.args.length rc3,.slice oa3 of.args.length oc3,.slice ba3 body.length bc3⟩:LU))],by rw [List.length_append];go_num,?_,R9.out,M9.out⟩
    rw [List.map_append,HM.out,show ∀ z:Pr.Li × LU,(done++[z]).length=done.length+1 from fun z=>by simp,List.take_add_one,HY.out]
    simp [Sy.bareL_eq]
   case measure=>simp [intOf];omega
  ·obtain hae:done.length=src.length:=by have:=RR.out.le;omega
   have hjI:¬ (done.length:Int)<(src.length:Int):=by omega
   have OW:=Hxq (RR.out.all hae)
   have hn:=RR.out.new
   rw [<-hae] at hn
   have HBB:Hid (BT (fun k=>w.heap.size<=k) wr (done.map (·.1)) (.slice a2 done.length c2)):=Hxq (BT.of_row done OW.out hn (fun p hp=>LT.mono (RR.out.sub p hp) (fun k hk _=>hk.1)))
   have HME:Hid (done.map (·.1)=l.map Sy.bareL):=Hxq (by rw [HM.out,hae,HLN.out,List.take_length])
   have HAE:=Lib.hid hae
   clear hn OW hae
   go_wp2_with fail
   go_ret
   have e1:=HBB.out
   have e2:=HAE.out
   have e3:=HLN.out
   rw [HME.out,e2,e3] at e1
   exact ⟨a2,c2,by rw [e3];rfl,e1,HMW.out⟩
theorem plct_all:∀ d,PLCT d
 | 0=>fun l hd=>absurd hd (by omega)
 | d+1=>plct_of d (plct_all d)
theorem plits_T {F:Nat->Prop} (l:List Pr.Li) (hl:l.length<=134217728) (hM:liMs l<=134217728) (u:Value) (w:World) (h:BB F w l u) :
  Calls Tryz.prog 34 #[u] w (PlRT l w):=plct_all (liDs l+1) l (Nat.lt_succ_self _) hl hM F u w h
end Go.Proofs.YtohnmnfhmbmoaaaGreatDoor
