/- THE TEXTS MERGED: TyCopy3 TyProg. -/
import Derived.Test.YtohnmnfhmbmoaaaGreatDoorKG6
namespace Go.Proofs.YtohnmnfhmbmoaaaGreatDoor
open Go.RowKit
set_option linter.unusedVariables false
set_option linter.unusedSimpArgs false
set_option maxRecDepth 100000
/-- a copy: its row is the call's own, the rest in other new blocks -/
def CpBT (l:List Pr.Li) (w:World) (e:Ending) (w':World):Prop:=∃ (acc:List (Pr.Li × LU)) (va:Option Addr) (vc:Nat),e=.returned (.slice va acc.length vc)/\acc.map (·.1)=l/\GI 49 30 csL BLT [] w w' acc va vc/\Mod [] w w'
def CLCT (d:Nat):Prop:=∀ (l:List Pr.Li),liDs l<d->l.length<=134217728->liMs l<=134217728->∀ (F:Nat->Prop) (u:Value) (w:World),BB F w l u ->
 Calls Tryz.prog 27 #[u] w (CpBT l w)
set_option maxHeartbeats 16000000 in
theorem clct_of (d:Nat) (hS:CLCT d):CLCT (d+1):=by
 intro l hd hl hM F u w h
 obtain ⟨a1,c1,rfl⟩:=h.lit
 obtain ⟨i0,hinf,hz0,hz1,hz2⟩:=info_parts Tryz.infoLit
 have HS:=Lib.hid hS;have H1:=Hxq (h.mono (F':=fun k=>k<w.heap.size) (fun k _ h=>h))
 have G00:Hid (GI 49 30 csL BLT [] w w [] none 0):=Hxq (GI.nil (by simp))
 clear h hS
 go_enter Tryz.func27,Tryz.ntmps27
 go_wp2_with fail
 go_loopw [3,4] (fun ov iv wr=>∃ (acc:List (Pr.Li × LU)) (va:Option Addr) (vc:Nat),ov=.slice va acc.length vc/\iv=.int .i64 (acc.length:Nat)/\acc.map (·.1)=l.take acc.length/\acc.length<=l.length/\GI 49 30 csL BLT [] w wr acc va vc) (fun _ iv _=>l.length - (intOf iv).toNat)
 case atStart=>exact ⟨[],none,0,rfl,rfl,by simp,by simp,G00.out⟩
 case round =>
  obtain ⟨acc,va,vc,rfl,rfl,hmap,hle,hG⟩:=hrel
  have MW0:=Lib.hid hG.mod
  have G0:=Lib.hid hG;have HMP:=Lib.hid hmap
  clear hG hmap
  by_cases hlt:acc.length<l.length
  ·have hjI:(acc.length:Int)<(l.length:Int):=by omega
   have hj0:(0:Int)<=(acc.length:Int):=by omega
   obtain ⟨g1,o1,U1,rfl,hc1,hL1⟩:=(H1.out.keep MW0.out (by simp)).at acc.length hlt
   have hdj:=liDs_mem l acc.length hlt
   have hmj:=liMs_mem l acc.length hlt
   have HY:Hid (l[acc.length]?=some l[acc.length]):=Hxq (List.getElem?_eq_getElem hlt)
   generalize l[acc.length]=y at *
   obtain ⟨k,⟨rel,ts⟩,op,le,re,fn,av,of,body,ln,cl⟩:=y
   obtain ⟨ht1,hl1,hr1,ho1,hb1⟩:=hL1.parts
   obtain ⟨t1,l1,r1,q1,b1⟩:=U1
   dsimp only at ht1 hl1 hr1 ho1 hb1
   obtain ⟨ta1,tc1,rfl⟩:=ht1.lit;obtain ⟨la1,lc1,rfl⟩:=hl1.lit;obtain ⟨ra1,rc1,rfl⟩:=hr1.lit;obtain ⟨oa1,oc1,rfl⟩:=ho1.lit;obtain ⟨ba1,bc1,rfl⟩:=hb1.lit
   have hD:liDs body<d:=by simp only [liD] at hdj;omega
   simp only [liM] at hmj
   have hB1:ts.length<=134217728:=by omega
   have hB2:exM le<=134217728:=by omega
   have hB3:exM re<=134217728:=by omega
   have hB4:exM of<=134217728:=by omega
   have hB5:body.length<=134217728:=by omega
   have hB6:liMs body<=134217728:=by omega
   clear hdj hmj hL1
   have hws:=MW0.out.size
   have HT:=Lib.hid ht1;have HL:=Lib.hid hl1;have HR:=Lib.hid hr1;have HO:=Lib.hid ho1;have HB:=Lib.hid hb1
   clear ht1 hl1 hr1 ho1 hb1
   unfold liV at hc1
   dsimp only at hc1
   obtain ⟨C1,hC1⟩:∃ C:Array Value,C=#[.int .i64 k,.string rel,.slice ta1 ts.length tc1,.int .i64 op,.int .i64 le.k,.string le.v,.int .i64 le.x.k,.int .i64 le.x.n,.string (Lx.ofS le.x.s),.int .i64 le.op,.slice la1 le.args.length lc1,.int .i64 re.k,.string re.v,.int .i64 re.x.k,.int .i64 re.x.n,.string (Lx.ofS re.x.s),.int .i64 re.op,.slice ra1 re.args.length rc1,.int .i64 fn,.string av,.int .i64 of.k,.string of.v,.int .i64 of.x.k,.int .i64 of.x.n,.string (Lx.ofS of.x.s),.int .i64 of.op,.slice oa1 of.args.length oc1,.slice ba1 body.length bc1,.int .i64 ln,.int .i64 cl]:=⟨_,rfl⟩
   rw [<-hC1] at hc1
   have z1:C1.size=30:=by rw [hC1];rfl
   have w1:=Hxq (show C1.toList.all (·.oneCell')=true by rw [hC1];rfl)
   have HC1:=Lib.hid hC1;have K1:=Lib.hid hc1.rng
   clear hC1 hc1
   have hsz:∀ C:Array Value,C.size=30->(Tryz.prog.info? 49).map (·.size)=some C.toList.length:=fun C h=>by rw [Array.length_toList,h];exact Tryz.sizeLit
   have HSZ:=Lib.hid hsz
   clear hsz
   go_upto_region 6 with (first | refine wpList_load_mid rfl 49 _ rfl g1 (o1+acc.length * 30) rfl C1.toList _ K1.out Tryz.underlying49 rfl (HSZ.out C1 z1) ?_ | refine wpList_store_new rfl 49 _ _ rfl wr wr.heap.size C1 #[.int .i64 0,.string ⟨#[]⟩,.slice none 0 0,.int .i64 0,.int .i64 0,.string ⟨#[]⟩,.int .i64 0,.int .i64 0,.string ⟨#[]⟩,.int .i64 0,.slice none 0 0,.int .i64 0,.string ⟨#[]⟩,.int .i64 0,.int .i64 0,.string ⟨#[]⟩,.int .i64 0,.slice none 0 0,.int .i64 0,.string ⟨#[]⟩,.int .i64 0,.string ⟨#[]⟩,.int .i64 0,.int .i64 0,.string ⟨#[]⟩,.int .i64 0,.slice none 0 0,.slice none 0 0,.int .i64 0,.int .i64 0] 49 rfl rfl rfl rfl (by rw [z1];exact Tryz.sizeLit) (by rw [z1];rfl) w1.out ?_)
   have n1:=(Mod.refl [] wr).alloc (Obj.cells C1 49)
   have x1:=heap_alloc_new wr (Obj.cells C1 49)
   generalize wr.alloc (Obj.cells C1 49)=wa at *
   have hza:=lt_of_block x1
   have X0:=Lib.hid x1;have NA:=Lib.hid n1
   clear n1 x1 K1 w1
   rw [HC1.out] at X0
   clear HC1 z1 HSZ
   generalize hpx:wr.heap.size=px at *
   have MW:=Hxq ((NA.out).mono (T:=[px]) (by simp))
   have M0:=Hxq (Mod.refl [px] wa)
   have x1:=cell_at X0.out 1;have x2:=cell_at X0.out 2
   simp only [List.getElem?_toArray,List.getElem?_cons_zero,List.getElem?_cons_succ] at x1 x2
   go_wp2_with fail
   refine (copyAtom_T ⟨rel,ts⟩ hB1 _ wa (HT.out.keep (MW.out.trans M0.out (by simp)) (by simp;omega))).mono ?_
   rintro e1 v1 ⟨u1,rfl,r1,m1⟩
   obtain ⟨ta3,tc3,rfl⟩:=r1.lit
   have Y1:=Hxq (m1.at X0.out (by simp));have N1:=Hxq (M0.out.trans m1 (by simp))
   have ss1:=M0.out.size
   have R1:=Hxq (r1.mono (F':=fun k=>wa.heap.size<=k) (fun k hk _=>by omega))
   clear ss1
   clear m1 r1 x1 x2
   have x1:=cell_at Y1.out 1;have x2:=cell_at Y1.out 2
   simp only [List.getElem?_toArray,List.getElem?_cons_zero,List.getElem?_cons_succ] at x1 x2
   have fA:∀ j,v1.frozen? ⟨px,j,none⟩=false:=fun j=>free_at Y1.out j
   go_upto_region 7 with fail
   have X1:Hid (((v1.setCell ⟨px,1,none⟩ (.string rel)).setCell ⟨px,2,none⟩ (.slice ta3 ts.length tc3)).heap[px]?=some (.cells #[.int .i64 k,.string rel,.slice ta3 ts.length tc3,.int .i64 op,.int .i64 le.k,.string le.v,.int .i64 le.x.k,.int .i64 le.x.n,.string (Lx.ofS le.x.s),.int .i64 le.op,.slice la1 le.args.length lc1,.int .i64 re.k,.string re.v,.int .i64 re.x.k,.int .i64 re.x.n,.string (Lx.ofS re.x.s),.int .i64 re.op,.slice ra1 re.args.length rc1,.int .i64 fn,.string av,.int .i64 of.k,.string of.v,.int .i64 of.x.k,.int .i64 of.x.n,.string (Lx.ofS of.x.s),.int .i64 of.op,.slice oa1 of.args.length oc1,.slice ba1 body.length bc1,.int .i64 ln,.int .i64 cl] 49 (0,0))):=Hxq (setCs_heap [.string rel,.slice ta3 ts.length tc3] 1 [.int .i64 k,.string rel,.slice ta1 ts.length tc1,.int .i64 op,.int .i64 le.k,.string le.v,.int .i64 le.x.k,.int .i64 le.x.n,.string (Lx.ofS le.x.s),.int .i64 le.op,.slice la1 le.args.length lc1,.int .i64 re.k,.string re.v,.int .i64 re.x.k,.int .i64 re.x.n,.string (Lx.ofS re.x.s),.int .i64 re.op,.slice ra1 re.args.length rc1,.int .i64 fn,.string av,.int .i64 of.k,.string of.v,.int .i64 of.x.k,.int .i64 of.x.n,.string (Lx.ofS of.x.s),.int .i64 of.op,.slice oa1 of.args.length oc1,.slice ba1 body.length bc1,.int .i64 ln,.int .i64 cl] v1 Y1.out)
   have Q1:Hid (Mod [px] v1 ((v1.setCell ⟨px,1,none⟩ (.string rel)).setCell ⟨px,2,none⟩ (.slice ta3 ts.length tc3))):=Hxq (setCs_mod px [.string rel,.slice ta3 ts.length tc3] 1 v1)
   generalize ((v1.setCell ⟨px,1,none⟩ (.string rel)).setCell ⟨px,2,none⟩ (.slice ta3 ts.length tc3))=q1 at *
   have M1:=Hxq (N1.out.trans Q1.out (by simp))
   have R1:=Hxq (R1.out.keep Q1.out (fun s hs=>by rw [Msq] at hs;omega))
   clear N1 Q1
   clear fA Y1 x1 x2
   have x4:=cell_at X1.out 4;have x5:=cell_at X1.out 5;have x6:=cell_at X1.out 6;have x7:=cell_at X1.out 7;have x8:=cell_at X1.out 8;have x9:=cell_at X1.out 9;have x10:=cell_at X1.out 10
   simp only [List.getElem?_toArray,List.getElem?_cons_zero,List.getElem?_cons_succ] at x4 x5 x6 x7 x8 x9 x10
   go_wp2_with fail
   refine (copyExpr_T le hB2 _ q1 (HL.out.keep (MW.out.trans M1.out (by simp)) (by simp;omega))).mono ?_
   rintro e2 v2 ⟨u2,rfl,r2,m2⟩
   obtain ⟨la3,lc3,rfl⟩:=r2.lit
   have Y2:=Hxq (m2.at X1.out (by simp));have N2:=Hxq (M1.out.trans m2 (by simp))
   have ss2:=M1.out.size
   have R2:=Hxq (r2.mono (F':=fun k=>wa.heap.size<=k) (fun k hk _=>by omega))
   have R1:=Hxq (R1.out.keep m2 (by simp))
   clear ss2
   clear m2 r2 x4 x5 x6 x7 x8 x9 x10
   have x4:=cell_at Y2.out 4;have x5:=cell_at Y2.out 5;have x6:=cell_at Y2.out 6;have x7:=cell_at Y2.out 7;have x8:=cell_at Y2.out 8;have x9:=cell_at Y2.out 9;have x10:=cell_at Y2.out 10
   simp only [List.getElem?_toArray,List.getElem?_cons_zero,List.getElem?_cons_succ] at x4 x5 x6 x7 x8 x9 x10
   have fA:∀ j,v2.frozen? ⟨px,j,none⟩=false:=fun j=>free_at Y2.out j
   unfold exV
   go_upto_region 8 with fail
   have X2:Hid ((((((((v2.setCell ⟨px,4,none⟩ (.int .i64 le.k)).setCell ⟨px,5,none⟩ (.string le.v)).setCell ⟨px,6,none⟩ (.int .i64 le.x.k)).setCell ⟨px,7,none⟩ (.int .i64 le.x.n)).setCell ⟨px,8,none⟩ (.string (Lx.ofS le.x.s))).setCell ⟨px,9,none⟩ (.int .i64 le.op)).setCell ⟨px,10,none⟩ (.slice la3 le.args.length lc3)).heap[px]?=some (.cells #[.int .i64 k,.string rel,.slice ta3 ts.length tc3,.int .i64 op,.int .i64 le.k,.string le.v,.int .i64 le.x.k,.int .i64 le.x.n,.string (Lx.ofS le.x.s),.int .i64 le.op,.slice la3 le.args.length lc3,.int .i64 re.k,.string re.v,.int .i64 re.x.k,.int .i64 re.x.n,.string (Lx.ofS re.x.s),.int .i64 re.op,.slice ra1 re.args.length rc1,.int .i64 fn,.string av,.int .i64 of.k,.string of.v,.int .i64 of.x.k,.int .i64 of.x.n,.string (Lx.ofS of.x.s),.int .i64 of.op,.slice oa1 of.args.length oc1,.slice ba1 body.length bc1,.int .i64 ln,.int .i64 cl] 49 (0,0))):=Hxq (setCs_heap [.int .i64 le.k,.string le.v,.int .i64 le.x.k,.int .i64 le.x.n,.string (Lx.ofS le.x.s),.int .i64 le.op,.slice la3 le.args.length lc3] 4 [.int .i64 k,.string rel,.slice ta3 ts.length tc3,.int .i64 op,.int .i64 le.k,.string le.v,.int .i64 le.x.k,.int .i64 le.x.n,.string (Lx.ofS le.x.s),.int .i64 le.op,.slice la1 le.args.length lc1,.int .i64 re.k,.string re.v,.int .i64 re.x.k,.int .i64 re.x.n,.string (Lx.ofS re.x.s),.int .i64 re.op,.slice ra1 re.args.length rc1,.int .i64 fn,.string av,.int .i64 of.k,.string of.v,.int .i64 of.x.k,.int .i64 of.x.n,.string (Lx.ofS of.x.s),.int .i64 of.op,.slice oa1 of.args.length oc1,.slice ba1 body.length bc1,.int .i64 ln,.int .i64 cl] v2 Y2.out)
   have Q2:Hid (Mod [px] v2 (((((((v2.setCell ⟨px,4,none⟩ (.int .i64 le.k)).setCell ⟨px,5,none⟩ (.string le.v)).setCell ⟨px,6,none⟩ (.int .i64 le.x.k)).setCell ⟨px,7,none⟩ (.int .i64 le.x.n)).setCell ⟨px,8,none⟩ (.string (Lx.ofS le.x.s))).setCell ⟨px,9,none⟩ (.int .i64 le.op)).setCell ⟨px,10,none⟩ (.slice la3 le.args.length lc3))):=Hxq (setCs_mod px [.int .i64 le.k,.string le.v,.int .i64 le.x.k,.int .i64 le.x.n,.string (Lx.ofS le.x.s),.int .i64 le.op,.slice la3 le.args.length lc3] 4 v2)
   generalize (((((((v2.setCell ⟨px,4,none⟩ (.int .i64 le.k)).setCell ⟨px,5,none⟩ (.string le.v)).setCell ⟨px,6,none⟩ (.int .i64 le.x.k)).setCell ⟨px,7,none⟩ (.int .i64 le.x.n)).setCell ⟨px,8,none⟩ (.string (Lx.ofS le.x.s))).setCell ⟨px,9,none⟩ (.int .i64 le.op)).setCell ⟨px,10,none⟩ (.slice la3 le.args.length lc3))=q2 at *
   have M2:=Hxq (N2.out.trans Q2.out (by simp))
   have R1:=Hxq (R1.out.keep Q2.out (fun s hs=>by rw [Msq] at hs;omega))
   have R2:=Hxq (R2.out.keep Q2.out (fun s hs=>by rw [Msq] at hs;omega))
   clear N2 Q2
   clear fA Y2 x4 x5 x6 x7 x8 x9 x10
   have x11:=cell_at X2.out 11;have x12:=cell_at X2.out 12;have x13:=cell_at X2.out 13;have x14:=cell_at X2.out 14;have x15:=cell_at X2.out 15;have x16:=cell_at X2.out 16;have x17:=cell_at X2.out 17
   simp only [List.getElem?_toArray,List.getElem?_cons_zero,List.getElem?_cons_succ] at x11 x12 x13 x14 x15 x16 x17
   go_wp2_with fail
   refine (copyExpr_T re hB3 _ q2 (HR.out.keep (MW.out.trans M2.out (by simp)) (by simp;omega))).mono ?_
   rintro e3 v3 ⟨u3,rfl,r3,m3⟩
   obtain ⟨ra3,rc3,rfl⟩:=r3.lit
   have Y3:=Hxq (m3.at X2.out (by simp));have N3:=Hxq (M2.out.trans m3 (by simp))
   have ss3:=M2.out.size
   have R3:=Hxq (r3.mono (F':=fun k=>wa.heap.size<=k) (fun k hk _=>by omega))
   have R1:=Hxq (R1.out.keep m3 (by simp))
   have R2:=Hxq (R2.out.keep m3 (by simp))
   clear ss3
   clear m3 r3 x11 x12 x13 x14 x15 x16 x17
   have x11:=cell_at Y3.out 11;have x12:=cell_at Y3.out 12;have x13:=cell_at Y3.out 13;have x14:=cell_at Y3.out 14;have x15:=cell_at Y3.out 15;have x16:=cell_at Y3.out 16;have x17:=cell_at Y3.out 17
   simp only [List.getElem?_toArray,List.getElem?_cons_zero,List.getElem?_cons_succ] at x11 x12 x13 x14 x15 x16 x17
   have fA:∀ j,v3.frozen? ⟨px,j,none⟩=false:=fun j=>free_at Y3.out j
   unfold exV
   go_upto_region 9 with fail
   have X3:Hid ((((((((v3.setCell ⟨px,11,none⟩ (.int .i64 re.k)).setCell ⟨px,12,none⟩ (.string re.v)).setCell ⟨px,13,none⟩ (.int .i64 re.x.k)).setCell ⟨px,14,none⟩ (.int .i64 re.x.n)).setCell ⟨px,15,none⟩ (.string (Lx.ofS re.x.s))).setCell ⟨px,16,none⟩ (.int .i64 re.op)).setCell ⟨px,17,none⟩ (.slice ra3 re.args.length rc3)).heap[px]?=some (.cells #[.int .i64 k,.string rel,.slice ta3 ts.length tc3,.int .i64 op,.int .i64 le.k,.string le.v,.int .i64 le.x.k,.int .i64 le.x.n,.string (Lx.ofS le.x.s),.int .i64 le.op,.slice la3 le.args.length lc3,.int .i64 re.k,.string re.v,.int .i64 re.x.k,.int .i64 re.x.n,.string (Lx.ofS re.x.s),.int .i64 re.op,.slice ra3 re.args.length rc3,.int .i64 fn,.string av,.int .i64 of.k,.string of.v,.int .i64 of.x.k,.int .i64 of.x.n,.string (Lx.ofS of.x.s),.int .i64 of.op,.slice oa1 of.args.length oc1,.slice ba1 body.length bc1,.int .i64 ln,.int .i64 cl] 49 (0,0))):=Hxq (setCs_heap [.int .i64 re.k,.string re.v,.int .i64 re.x.k,.int .i64 re.x.n,.string (Lx.ofS re.x.s),.int .i64 re.op,.slice ra3 re.args.length rc3] 11 [.int .i64 k,.string rel,.slice ta3 ts.length tc3,.int .i64 op,.int .i64 le.k,.string le.v,.int .i64 le.x.k,.int .i64 le.x.n,.string (Lx.ofS le.x.s),.int .i64 le.op,.slice la3 le.args.length lc3,.int .i64 re.k,.string re.v,.int .i64 re.x.k,.int .i64 re.x.n,.string (Lx.ofS re.x.s),.int .i64 re.op,.slice ra1 re.args.length rc1,.int .i64 fn,.string av,.int .i64 of.k,.string of.v,.int .i64 of.x.k,.int .i64 of.x.n,.string (Lx.ofS of.x.s),.int .i64 of.op,.slice oa1 of.args.length oc1,.slice ba1 body.length bc1,.int .i64 ln,.int .i64 cl] v3 Y3.out)
   have Q3:Hid (Mod [px] v3 (((((((v3.setCell ⟨px,11,none⟩ (.int .i64 re.k)).setCell ⟨px,12,none⟩ (.string re.v)).setCell ⟨px,13,none⟩ (.int .i64 re.x.k)).setCell ⟨px,14,none⟩ (.int .i64 re.x.n)).setCell ⟨px,15,none⟩ (.string (Lx.ofS re.x.s))).setCell ⟨px,16,none⟩ (.int .i64 re.op)).setCell ⟨px,17,none⟩ (.slice ra3 re.args.length rc3))):=Hxq (setCs_mod px [.int .i64 re.k,.string re.v,.int .i64 re.x.k,.int .i64 re.x.n,.string (Lx.ofS re.x.s),.int .i64 re.op,.slice ra3 re.args.length rc3] 11 v3)
   generalize (((((((v3.setCell ⟨px,11,none⟩ (.int .i64 re.k)).setCell ⟨px,12,none⟩ (.string re.v)).setCell ⟨px,13,none⟩ (.int .i64 re.x.k)).setCell ⟨px,14,none⟩ (.int .i64 re.x.n)).setCell ⟨px,15,none⟩ (.string (Lx.ofS re.x.s))).setCell ⟨px,16,none⟩ (.int .i64 re.op)).setCell ⟨px,17,none⟩ (.slice ra3 re.args.length rc3))=q3 at *
   have M3:=Hxq (N3.out.trans Q3.out (by simp))
   have R1:=Hxq (R1.out.keep Q3.out (fun s hs=>by rw [Msq] at hs;omega))
   have R2:=Hxq (R2.out.keep Q3.out (fun s hs=>by rw [Msq] at hs;omega))
   have R3:=Hxq (R3.out.keep Q3.out (fun s hs=>by rw [Msq] at hs;omega))
   clear N3 Q3
   clear fA Y3 x11 x12 x13 x14 x15 x16 x17
   have x20:=cell_at X3.out 20;have x21:=cell_at X3.out 21;have x22:=cell_at X3.out 22;have x23:=cell_at X3.out 23;have x24:=cell_at X3.out 24;have x25:=cell_at X3.out 25;have x26:=cell_at X3.out 26
   simp only [List.getElem?_toArray,List.getElem?_cons_zero,List.getElem?_cons_succ] at x20 x21 x22 x23 x24 x25 x26
   go_wp2_with fail
   refine (copyExpr_T of hB4 _ q3 (HO.out.keep (MW.out.trans M3.out (by simp)) (by simp;omega))).mono ?_
   rintro e4 v4 ⟨u4,rfl,r4,m4⟩
   obtain ⟨oa3,oc3,rfl⟩:=r4.lit
   have Y4:=Hxq (m4.at X3.out (by simp));have N4:=Hxq (M3.out.trans m4 (by simp))
   have ss4:=M3.out.size
   have R4:=Hxq (r4.mono (F':=fun k=>wa.heap.size<=k) (fun k hk _=>by omega))
   have R1:=Hxq (R1.out.keep m4 (by simp))
   have R2:=Hxq (R2.out.keep m4 (by simp))
   have R3:=Hxq (R3.out.keep m4 (by simp))
   clear ss4
   clear m4 r4 x20 x21 x22 x23 x24 x25 x26
   have x20:=cell_at Y4.out 20;have x21:=cell_at Y4.out 21;have x22:=cell_at Y4.out 22;have x23:=cell_at Y4.out 23;have x24:=cell_at Y4.out 24;have x25:=cell_at Y4.out 25;have x26:=cell_at Y4.out 26
   simp only [List.getElem?_toArray,List.getElem?_cons_zero,List.getElem?_cons_succ] at x20 x21 x22 x23 x24 x25 x26
   have fA:∀ j,v4.frozen? ⟨px,j,none⟩=false:=fun j=>free_at Y4.out j
   unfold exV
   go_upto_region 10 with fail
   have X4:Hid ((((((((v4.setCell ⟨px,20,none⟩ (.int .i64 of.k)).setCell ⟨px,21,none⟩ (.string of.v)).setCell ⟨px,22,none⟩ (.int .i64 of.x.k)).setCell ⟨px,23,none⟩ (.int .i64 of.x.n)).setCell ⟨px,24,none⟩ (.string (Lx.ofS of.x.s))).setCell ⟨px,25,none⟩ (.int .i64 of.op)).setCell ⟨px,26,none⟩ (.slice oa3 of.args.length oc3)).heap[px]?=some (.cells #[.int .i64 k,.string rel,.slice ta3 ts.length tc3,.int .i64 op,.int .i64 le.k,.string le.v,.int .i64 le.x.k,.int .i64 le.x.n,.string (Lx.ofS le.x.s),.int .i64 le.op,.slice la3 le.args.length lc3,.int .i64 re.k,.string re.v,.int .i64 re.x.k,.int .i64 re.x.n,.string (Lx.ofS re.x.s),.int .i64 re.op,.slice ra3 re.args.length rc3,.int .i64 fn,.string av,.int .i64 of.k,.string of.v,.int .i64 of.x.k,.int .i64 of.x.n,.string (Lx.ofS of.x.s),.int .i64 of.op,.slice oa3 of.args.length oc3,.slice ba1 body.length bc1,.int .i64 ln,.int .i64 cl] 49 (0,0))):=Hxq (setCs_heap [.int .i64 of.k,.string of.v,.int .i64 of.x.k,.int .i64 of.x.n,.string (Lx.ofS of.x.s),.int .i64 of.op,.slice oa3 of.args.length oc3] 20 [.int .i64 k,.string rel,.slice ta3 ts.length tc3,.int .i64 op,.int .i64 le.k,.string le.v,.int .i64 le.x.k,.int .i64 le.x.n,.string (Lx.ofS le.x.s),.int .i64 le.op,.slice la3 le.args.length lc3,.int .i64 re.k,.string re.v,.int .i64 re.x.k,.int .i64 re.x.n,.string (Lx.ofS re.x.s),.int .i64 re.op,.slice ra3 re.args.length rc3,.int .i64 fn,.string av,.int .i64 of.k,.string of.v,.int .i64 of.x.k,.int .i64 of.x.n,.string (Lx.ofS of.x.s),.int .i64 of.op,.slice oa1 of.args.length oc1,.slice ba1 body.length bc1,.int .i64 ln,.int .i64 cl] v4 Y4.out)
   have Q4:Hid (Mod [px] v4 (((((((v4.setCell ⟨px,20,none⟩ (.int .i64 of.k)).setCell ⟨px,21,none⟩ (.string of.v)).setCell ⟨px,22,none⟩ (.int .i64 of.x.k)).setCell ⟨px,23,none⟩ (.int .i64 of.x.n)).setCell ⟨px,24,none⟩ (.string (Lx.ofS of.x.s))).setCell ⟨px,25,none⟩ (.int .i64 of.op)).setCell ⟨px,26,none⟩ (.slice oa3 of.args.length oc3))):=Hxq (setCs_mod px [.int .i64 of.k,.string of.v,.int .i64 of.x.k,.int .i64 of.x.n,.string (Lx.ofS of.x.s),.int .i64 of.op,.slice oa3 of.args.length oc3] 20 v4)
   generalize (((((((v4.setCell ⟨px,20,none⟩ (.int .i64 of.k)).setCell ⟨px,21,none⟩ (.string of.v)).setCell ⟨px,22,none⟩ (.int .i64 of.x.k)).setCell ⟨px,23,none⟩ (.int .i64 of.x.n)).setCell ⟨px,24,none⟩ (.string (Lx.ofS of.x.s))).setCell ⟨px,25,none⟩ (.int .i64 of.op)).setCell ⟨px,26,none⟩ (.slice oa3 of.args.length oc3))=q4 at *
   have M4:=Hxq (N4.out.trans Q4.out (by simp))
   have R1:=Hxq (R1.out.keep Q4.out (fun s hs=>by rw [Msq] at hs;omega))
   have R2:=Hxq (R2.out.keep Q4.out (fun s hs=>by rw [Msq] at hs;omega))
   have R3:=Hxq (R3.out.keep Q4.out (fun s hs=>by rw [Msq] at hs;omega))
   have R4:=Hxq (R4.out.keep Q4.out (fun s hs=>by rw [Msq] at hs;omega))
   clear N4 Q4
   clear fA Y4 x20 x21 x22 x23 x24 x25 x26
   have x27:=cell_at X4.out 27
   simp only [List.getElem?_toArray,List.getElem?_cons_zero,List.getElem?_cons_succ] at x27
   go_wp2_with fail
   refine (HS.out body hD hB5 hB6 _ _ q4 (HB.out.keep (MW.out.trans M4.out (by simp)) (by simp;omega))).mono ?_
   rintro e5 v5 ⟨bacc,ba3,bc3,rfl,bm5,r5,m5⟩
   have Y5:=Hxq (m5.at X4.out (by simp));have N5:=Hxq (M4.out.trans m5 (by simp))
   have ss5:=M4.out.size
   have R5:Hid (BT (fun k=>wa.heap.size<=k) v5 body (.slice ba3 bacc.length bc3)):=Hxq (bm5 ▸ (BT.of_gi r5).mono (fun k hk _=>by omega))
   clear bm5
   have R1:=Hxq (R1.out.keep m5 (by simp))
   have R2:=Hxq (R2.out.keep m5 (by simp))
   have R3:=Hxq (R3.out.keep m5 (by simp))
   have R4:=Hxq (R4.out.keep m5 (by simp))
   clear ss5
   clear m5 r5 x27
   have x27:=cell_at Y5.out 27
   simp only [List.getElem?_toArray,List.getElem?_cons_zero,List.getElem?_cons_succ] at x27
   have fA:∀ j,v5.frozen? ⟨px,j,none⟩=false:=fun j=>free_at Y5.out j
   go_upto_region 11 with fail
   have X5:Hid ((v5.setCell ⟨px,27,none⟩ (.slice ba3 bacc.length bc3)).heap[px]?=some (.cells #[.int .i64 k,.string rel,.slice ta3 ts.length tc3,.int .i64 op,.int .i64 le.k,.string le.v,.int .i64 le.x.k,.int .i64 le.x.n,.string (Lx.ofS le.x.s),.int .i64 le.op,.slice la3 le.args.length lc3,.int .i64 re.k,.string re.v,.int .i64 re.x.k,.int .i64 re.x.n,.string (Lx.ofS re.x.s),.int .i64 re.op,.slice ra3 re.args.length rc3,.int .i64 fn,.string av,.int .i64 of.k,.string of.v,.int .i64 of.x.k,.int .i64 of.x.n,.string (Lx.ofS of.x.s),.int .i64 of.op,.slice oa3 of.args.length oc3,.slice ba3 bacc.length bc3,.int .i64 ln,.int .i64 cl] 49 (0,0))):=Hxq (setCs_heap [.slice ba3 bacc.length bc3] 27 [.int .i64 k,.string rel,.slice ta3 ts.length tc3,.int .i64 op,.int .i64 le.k,.string le.v,.int .i64 le.x.k,.int .i64 le.x.n,.string (Lx.ofS le.x.s),.int .i64 le.op,.slice la3 le.args.length lc3,.int .i64 re.k,.string re.v,.int .i64 re.x.k,.int .i64 re.x.n,.string (Lx.ofS re.x.s),.int .i64 re.op,.slice ra3 re.args.length rc3,.int .i64 fn,.string av,.int .i64 of.k,.string of.v,.int .i64 of.x.k,.int .i64 of.x.n,.string (Lx.ofS of.x.s),.int .i64 of.op,.slice oa3 of.args.length oc3,.slice ba1 body.length bc1,.int .i64 ln,.int .i64 cl] v5 Y5.out)
   have Q5:Hid (Mod [px] v5 (v5.setCell ⟨px,27,none⟩ (.slice ba3 bacc.length bc3))):=Hxq (setCs_mod px [.slice ba3 bacc.length bc3] 27 v5)
   generalize (v5.setCell ⟨px,27,none⟩ (.slice ba3 bacc.length bc3))=q5 at *
   have M5:=Hxq (N5.out.trans Q5.out (by simp))
   have R1:=Hxq (R1.out.keep Q5.out (fun s hs=>by rw [Msq] at hs;omega))
   have R2:=Hxq (R2.out.keep Q5.out (fun s hs=>by rw [Msq] at hs;omega))
   have R3:=Hxq (R3.out.keep Q5.out (fun s hs=>by rw [Msq] at hs;omega))
   have R4:=Hxq (R4.out.keep Q5.out (fun s hs=>by rw [Msq] at hs;omega))
   have R5:=Hxq (R5.out.keep Q5.out (fun s hs=>by rw [Msq] at hs;omega))
   clear N5 Q5
   clear fA Y5 x27
   have MZ:=Hxq (NA.out.trans (S:=[]) M5.out (fun s hs=>.inr (by rw [Msq] at hs;omega)))
   have GZ:=Hxq (G0.out.keep bearsLT MZ.out)
   have hn4:=Hxq (fun k hk=>fp_lt G0.out.row k hk)
   obtain ⟨C5,hC5⟩:∃ C:Array Value,C=#[.int .i64 k,.string rel,.slice ta3 ts.length tc3,.int .i64 op,.int .i64 le.k,.string le.v,.int .i64 le.x.k,.int .i64 le.x.n,.string (Lx.ofS le.x.s),.int .i64 le.op,.slice la3 le.args.length lc3,.int .i64 re.k,.string re.v,.int .i64 re.x.k,.int .i64 re.x.n,.string (Lx.ofS re.x.s),.int .i64 re.op,.slice ra3 re.args.length rc3,.int .i64 fn,.string av,.int .i64 of.k,.string of.v,.int .i64 of.x.k,.int .i64 of.x.n,.string (Lx.ofS of.x.s),.int .i64 of.op,.slice oa3 of.args.length oc3,.slice ba3 bacc.length bc3,.int .i64 ln,.int .i64 cl]:=⟨_,rfl⟩
   have z5:C5.size=30:=by rw [hC5];rfl
   have HX5:Hid (q5.heap[px]?=some (.cells C5 49 (0,0))):=Hxq (by rw [hC5];exact X5.out)
   have hlb:LT (fun k=>wa.heap.size<=k) q5 (Pr.Li.mk k ⟨rel,ts⟩ op le re fn av of body ln cl) ⟨.slice ta3 ts.length tc3,.slice la3 le.args.length lc3,.slice ra3 re.args.length rc3,.slice oa3 of.args.length oc3,.slice ba3 bacc.length bc3⟩:=.of R1.out R2.out R3.out R4.out R5.out
   have hcl:csL (Pr.Li.mk k ⟨rel,ts⟩ op le re fn av of body ln cl,⟨.slice ta3 ts.length tc3,.slice la3 le.args.length lc3,.slice ra3 re.args.length rc3,.slice oa3 of.args.length oc3,.slice ba3 bacc.length bc3⟩)=C5:=hC5.symm
   have hone5:=liV_one (Pr.Li.mk k ⟨rel,ts⟩ op le re fn av of body ln cl,⟨.slice ta3 ts.length tc3,.slice la3 le.args.length lc3,.slice ra3 re.args.length rc3,.slice oa3 of.args.length oc3,.slice ba3 bacc.length bc3⟩) hlb.lb
   have hone5':∀ u∈C5.toList,u.oneCell'=true:=by rw [<-hcl];exact hone5
   obtain ⟨NW,hNW⟩:∃ z:Pr.Li × LU,z=(Pr.Li.mk k ⟨rel,ts⟩ op le re fn av of body ln cl,⟨.slice ta3 ts.length tc3,.slice la3 le.args.length lc3,.slice ra3 re.args.length rc3,.slice oa3 of.args.length oc3,.slice ba3 bacc.length bc3⟩):=⟨_,rfl⟩
   have hNW1:=Hxq (show NW.1=Pr.Li.mk k ⟨rel,ts⟩ op le re fn av of body ln cl by rw [hNW])
   rw [<-hNW] at hcl
   have FB:Hid (∀ wX,wX=q5.alloc (Obj.cells C5 49)->GI 49 30 csL BLT [] w wX acc va vc/\BLT (fun k=>wa.heap.size<=k) wX NW/\Src Tryz.prog 30 43 (.slice (some ⟨q5.heap.size,0,none⟩) 1 1) 1 (csL NW).toList wX):=Hxq (fun wX e=>by
    subst e
    have mA:=(Mod.refl [] q5).alloc (Obj.cells C5 49)
    rw [hcl]
    refine ⟨GZ.out.keep bearsLT mA,?_,src_one (cs:=C5) Tryz.underlying43 (heap_alloc_new q5 _) z5 hone5'⟩
    rw [hNW]
    exact hlb.keep mA (by simp))
   have hsz5:(Tryz.prog.info? 49).map (·.size)=some C5.size:=by rw [z5];exact Tryz.sizeLit
   have HS5:=Lib.hid hsz5
   clear GZ R1 R2 R3 R4 R5 hC5 X5 hlb hcl hone5 hone5' hNW hsz5
   go_wp2_with (first | refine wpList_load_row rfl 49 _ rfl px C5 49 (0,0) rfl HX5.out _ Tryz.underlying49 rfl HS5.out ?_ | refine wpList_slice_one rfl 43 49 _ rfl C5 i0 (.agg #[.int .i64 0,.string ⟨#[]⟩,.slice none 0 0,.int .i64 0,.int .i64 0,.string ⟨#[]⟩,.int .i64 0,.int .i64 0,.string ⟨#[]⟩,.int .i64 0,.slice none 0 0,.int .i64 0,.string ⟨#[]⟩,.int .i64 0,.int .i64 0,.string ⟨#[]⟩,.int .i64 0,.slice none 0 0,.int .i64 0,.string ⟨#[]⟩,.int .i64 0,.string ⟨#[]⟩,.int .i64 0,.int .i64 0,.string ⟨#[]⟩,.int .i64 0,.slice none 0 0,.slice none 0 0,.int .i64 0,.int .i64 0]) rfl Tryz.underlying43 hinf hz0 (by rw [hz1];exact z5) (by rw [hz1];omega) (by rw [hz1];omega) ?_ | (at_builtin;refine wpList_append_src _ rfl _ _ 43 43 rfl 49 i0 (.agg #[.int .i64 0,.string ⟨#[]⟩,.slice none 0 0,.int .i64 0,.int .i64 0,.string ⟨#[]⟩,.int .i64 0,.int .i64 0,.string ⟨#[]⟩,.int .i64 0,.slice none 0 0,.int .i64 0,.string ⟨#[]⟩,.int .i64 0,.int .i64 0,.string ⟨#[]⟩,.int .i64 0,.slice none 0 0,.int .i64 0,.string ⟨#[]⟩,.int .i64 0,.string ⟨#[]⟩,.int .i64 0,.int .i64 0,.string ⟨#[]⟩,.int .i64 0,.slice none 0 0,.slice none 0 0,.int .i64 0,.int .i64 0]) 30 384 Tryz.underlying43 hinf hz0 hz1 hz2 rfl (.slice va acc.length vc) acc.length (rowCells csL acc) rfl (FB.out _ rfl).1.row _ 1 (csL NW).toList rfl (FB.out _ rfl).2.2 (by unfold maxLen;omega) (by omega) ?_))
   intro v' w5 hown5 hm5 hf5 hn5
   obtain ⟨va5,vc5,rfl⟩:=owns_slice hown5
   obtain ⟨GX,LX,SX⟩:=FB.out _ rfl
   have G6:=Hxq (GX.grow (p:=NW) bearsLT hm5 LX (fun k hk=>by have:=hn4.out k hk;omega) (by omega) hown5 (fun k hk=>by
    rcases hf5 k hk with hh | hh
    ·exact .inl hh
    ·exact .inr (by simpa using hh)))
   clear hown5 hm5 hf5 hn5 GX LX SX FB hn4 HX5 HS5 z5
   go_wp2_with fail
   go_roundw
   case rel =>
    refine ⟨acc++[NW],va5,vc5,by simp,by rw [List.length_append];go_num,?_,by simp;omega,G6.out⟩
    rw [List.map_append,HMP.out,show ∀ z:Pr.Li × LU,(acc++[z]).length=acc.length+1 from fun z=>by simp,List.take_add_one,HY.out,<-hNW1.out];rfl
   case measure=>simp [intOf];omega
  ·have hae:acc.length=l.length:=by omega
   have hjI:¬ (acc.length:Int)<(l.length:Int):=by omega
   have HAE:=Lib.hid hae
   clear hae
   go_wp2_with fail
   go_ret
   exact ⟨acc,va,vc,rfl,by rw [HMP.out,HAE.out,List.take_length],G0.out,MW0.out⟩
theorem clct_all:∀ d,CLCT d
 | 0=>fun l hd=>absurd hd (by omega)
 | d+1=>clct_of d (clct_all d)
theorem copyLits_T {F:Nat->Prop} (l:List Pr.Li) (hl:l.length<=134217728) (hM:liMs l<=134217728) (u:Value) (w:World) (h:BB F w l u) :
  Calls Tryz.prog 27 #[u] w (CpBT l w):=clct_all (liDs l+1) l (Nat.lt_succ_self _) hl hM F u w h
def RelT (F:Nat->Prop) (w:World) (p:RelU):Prop:=RowT F w 3 1 intC p.1.types p.2
def RulT (F:Nat->Prop) (w:World) (p:RulU):Prop:=RowT F w 88 5 tmV p.1.head.terms p.2.1/\BT F w p.1.body p.2.2
theorem RelT.keep {F:Nat->Prop} {S:List Nat} {w w':World} {p:RelU} (h:RelT F w p) (hm:Mod S w w') (hS:∀ s∈S,¬ F s):RelT F w' p:=RowT.keep h hm hS
theorem RelT.mono {F F':Nat->Prop} {w:World} {p:RelU} (h:RelT F w p) (hF:∀ k,F k->k<w.heap.size->F' k):RelT F' w p:=RowT.mono h hF
theorem RulT.keep {F:Nat->Prop} {S:List Nat} {w w':World} {p:RulU} (h:RulT F w p) (hm:Mod S w w') (hS:∀ s∈S,¬ F s):RulT F w' p:=⟨h.1.keep hm hS,h.2.keep hm hS⟩
theorem RulT.mono {F F':Nat->Prop} {w:World} {p:RulU} (h:RulT F w p) (hF:∀ k,F k->k<w.heap.size->F' k):RulT F' w p:=⟨h.1.mono hF,h.2.mono hF⟩
theorem RelT.rb {F:Nat->Prop} {w:World} {p:RelU} (h:RelT F w p):RelB F w p:=RowT.rb h
theorem RulT.rb {F:Nat->Prop} {w:World} {p:RulU} (h:RulT F w p):RulB F w p:=⟨h.1.rb,h.2.bb⟩
structure PIT (w0:World) (b pb:Nat) (rels:List RelU) (rus:List RulU) (W:World) (va:Option Addr) (vc:Nat) (ua:Option Addr) (uc:Nat):Prop where
 box:W.heap[pb]?=some (.cells #[.slice va rels.length vc,.slice ua rus.length uc] 25 (0,0))
 rowR:W.ownsRow 0 70 4 (.slice va rels.length vc) rels.length (rowCells csR rels)
 rowU:W.ownsRow 0 63 5 (.slice ua rus.length uc) rus.length (rowCells csU rus)
 newR:∀ k∈fp (.slice va rels.length vc),w0.heap.size<=k/\k≠pb
 newU:∀ k∈fp (.slice ua rus.length uc),w0.heap.size<=k/\k≠pb
 dis:∀ k∈fp (.slice va rels.length vc),k∉fp (.slice ua rus.length uc)
 subR:∀ p∈rels,RelT (PF w0 pb (.slice va rels.length vc) (.slice ua rus.length uc)) W p
 subU:∀ p∈rus,RulT (PF w0 pb (.slice va rels.length vc) (.slice ua rus.length uc)) W p
 pbn:w0.heap.size<=pb
 bl:b<w0.heap.size
 mod:Mod [b] w0 W
section
variable {w0:World} {b pb:Nat} {rels:List RelU} {rus:List RulU} {W W':World} {va:Option Addr} {vc:Nat} {ua:Option Addr} {uc:Nat}
theorem PIT.keep (h:PIT w0 b pb rels rus W va vc ua uc) (hm:Mod [b] W W'):PIT w0 b pb rels rus W' va vc ua uc:=by
 have h1:=h.pbn
 have h3:=h.bl
 refine ⟨hm.at h.box (by simp;omega),hm.owns h.rowR (fun k hk=>?_),hm.owns h.rowU (fun k hk=>?_),h.newR,h.newU,h.dis,fun p hp=>(h.subR p hp).keep hm (fun s hs=>?_),fun p hp=>(h.subU p hp).keep hm (fun s hs=>?_),h.pbn,h.bl,h.mod.trans hm (by simp)⟩
 ·have:=(h.newR k hk).1;simp;omega
 ·have:=(h.newU k hk).1;simp;omega
 all_goals (rw [Msq] at hs;subst hs;rintro ⟨h4,-⟩;omega)
/-- a relation more -/
theorem PIT.growR {va':Option Addr} {vc':Nat} {p:RelU} {n:Nat} (h:PIT w0 b pb rels rus W va vc ua uc) (hm:Mod (fp (.slice va rels.length vc)) W W') (hp:RelT (fun k=>n<=k) W p) (hpb:pb<n) (hR:∀ k∈fp (.slice va rels.length vc),k<n) (hU:∀ k∈fp (.slice ua rus.length uc),k<n)
  (hown:W'.ownsRow 0 70 4 (.slice va' (rels.length+1) vc') (rels.length+1) (rowCells csR rels++(csR p).toList))
  (hf:∀ k∈fp (.slice va' (rels.length+1) vc'),k∈fp (.slice va rels.length vc)\/W.heap.size<=k) :
  PIT w0 b pb (rels++[p]) rus (W'.setCell ⟨pb,0,none⟩ (.slice va' (rels.length+1) vc')) va' vc' ua uc:=by
 have e1:(rels++[p]).length=rels.length+1:=by simp
 have hnR:=h.newR
 have hnU:=h.newU
 have hdis:=h.dis
 have hpbn:=h.pbn
 have hbx:=lt_of_block h.box
 have hUl:=fun k hk=>fp_lt h.rowU k hk
 have hsz:=h.mod.size
 have hna:pb∉fp (.slice va rels.length vc):=fun hk=>(hnR pb hk).2 rfl
 have hnR':∀ k∈fp (.slice va' (rels.length+1) vc'),w0.heap.size<=k/\k≠pb:=fun k hk=>by
  rcases hf k hk with hh | hh
  ·exact hnR k hh
  ·exact ⟨by omega,by omega⟩
 have hdis':∀ k∈fp (.slice va' (rels.length+1) vc'),k∉fp (.slice ua rus.length uc):=fun k hk hu=>by
  rcases hf k hk with hh | hh
  ·exact hdis k hh hu
  ·have:=hUl k hu;omega
 have hm2:Mod [pb] W' (W'.setCell ⟨pb,0,none⟩ (.slice va' (rels.length+1) vc')):=(Mod.refl [pb] W').setCell (p:=⟨pb,0,none⟩) (.inl (by simp)) _
 have hstep:∀ k,PF w0 pb (.slice va rels.length vc) (.slice ua rus.length uc) k->k<W.heap.size->PF w0 pb (.slice va' (rels.length+1) vc') (.slice ua rus.length uc) k:=fun k hk hk2 =>
  ⟨hk.1,hk.2.1,fun hh=>by
   rcases hf k hh with h1 | h1
   ·exact hk.2.2.1 h1
   ·omega,hk.2.2.2⟩
 have hmm:Mod (pb :: fp (.slice va rels.length vc)) W (W'.setCell ⟨pb,0,none⟩ (.slice va' (rels.length+1) vc')):=(hm.mono (fun t ht=>.inl (List.mem_cons_of_mem _ ht))).trans hm2 (by simp)
 have hkeep:∀ s∈pb :: fp (.slice va rels.length vc),¬ (PF w0 pb (.slice va rels.length vc) (.slice ua rus.length uc) s/\s<W.heap.size):=fun s hs hh=>by
  rcases List.mem_cons.1 hs with rfl | hs
  ·exact hh.1.2.1 rfl
  ·exact hh.1.2.2.1 hs
 refine ⟨?_,?_,?_,by rw [e1];exact hnR',hnU,by rw [e1];exact hdis',?_,?_,h.pbn,h.bl,?_⟩
 ·have:=setCell_at (hm.at h.box hna) 0 (.slice va' (rels.length+1) vc')
  rw [this,e1]
  simp
 ·rw [e1,rowCells_snoc]
  exact hm2.owns hown (fun k hk=>by have:=(hnR' k hk).2;simp;omega)
 ·exact hm2.owns (hm.owns h.rowU (fun k hk hk2=>hdis k hk2 hk)) (fun k hk=>by have:=(hnU k hk).2;simp;omega)
 ·intro q hq
  rw [e1]
  rcases List.mem_append.1 hq with hq | hq
  ·refine (((h.subR q hq).mono (F':=fun k=>PF w0 pb (.slice va rels.length vc) (.slice ua rus.length uc) k/\k<W.heap.size) (fun k hk hk2=>⟨hk,hk2⟩)).keep hmm hkeep).mono (fun k hk _=>hstep k hk.1 hk.2)
  ·rw [Msq] at hq
   subst hq
   refine ((hp.mono (F':=fun k=>n<=k/\k<W.heap.size) (fun k hk hk2=>⟨hk,hk2⟩)).keep hmm (fun s hs hh=>?_)).mono (fun k hk _=>⟨by omega,by omega,fun hh=>?_,fun hh=>?_⟩)
   ·rcases List.mem_cons.1 hs with rfl | hs
    ·omega
    ·have:=hR s hs;omega
   ·rcases hf k hh with h1 | h1
    ·have:=hR k h1;omega
    ·omega
   ·have:=hU k hh;omega
 ·intro q hq
  rw [e1]
  exact (((h.subU q hq).mono (F':=fun k=>PF w0 pb (.slice va rels.length vc) (.slice ua rus.length uc) k/\k<W.heap.size) (fun k hk hk2=>⟨hk,hk2⟩)).keep hmm hkeep).mono (fun k hk _=>hstep k hk.1 hk.2)
 ·refine h.mod.trans hmm (fun k hk=>?_)
  rcases List.mem_cons.1 hk with rfl | hk
  ·exact .inr hpbn
  ·exact .inr (hnR k hk).1
/-- a rule more -/
theorem PIT.growU {ua':Option Addr} {uc':Nat} {p:RulU} {n:Nat} (h:PIT w0 b pb rels rus W va vc ua uc) (hm:Mod (fp (.slice ua rus.length uc)) W W') (hp:RulT (fun k=>n<=k) W p) (hpb:pb<n) (hR:∀ k∈fp (.slice ua rus.length uc),k<n) (hU:∀ k∈fp (.slice va rels.length vc),k<n)
  (hown:W'.ownsRow 0 63 5 (.slice ua' (rus.length+1) uc') (rus.length+1) (rowCells csU rus++(csU p).toList))
  (hf:∀ k∈fp (.slice ua' (rus.length+1) uc'),k∈fp (.slice ua rus.length uc)\/W.heap.size<=k) :
  PIT w0 b pb rels (rus++[p]) (W'.setCell ⟨pb,1,none⟩ (.slice ua' (rus.length+1) uc')) va vc ua' uc':=by
 have e1:(rus++[p]).length=rus.length+1:=by simp
 have hnR:=h.newU
 have hnU:=h.newR
 have hdis:∀ k∈fp (.slice ua rus.length uc),k∉fp (.slice va rels.length vc):=fun k hk hk2=>h.dis k hk2 hk
 have hpbn:=h.pbn
 have hbx:=lt_of_block h.box
 have hUl:=fun k hk=>fp_lt h.rowR k hk
 have hsz:=h.mod.size
 have hna:pb∉fp (.slice ua rus.length uc):=fun hk=>(hnR pb hk).2 rfl
 have hnR':∀ k∈fp (.slice ua' (rus.length+1) uc'),w0.heap.size<=k/\k≠pb:=fun k hk=>by
  rcases hf k hk with hh | hh
  ·exact hnR k hh
  ·exact ⟨by omega,by omega⟩
 have hdis':∀ k∈fp (.slice ua' (rus.length+1) uc'),k∉fp (.slice va rels.length vc):=fun k hk hu=>by
  rcases hf k hk with hh | hh
  ·exact hdis k hh hu
  ·have:=hUl k hu;omega
 have hm2:Mod [pb] W' (W'.setCell ⟨pb,1,none⟩ (.slice ua' (rus.length+1) uc')):=(Mod.refl [pb] W').setCell (p:=⟨pb,1,none⟩) (.inl (by simp)) _
 have hstep:∀ k,PF w0 pb (.slice va rels.length vc) (.slice ua rus.length uc) k->k<W.heap.size->PF w0 pb (.slice va rels.length vc) (.slice ua' (rus.length+1) uc') k:=fun k hk hk2 =>
  ⟨hk.1,hk.2.1,hk.2.2.1,fun hh=>by
   rcases hf k hh with h1 | h1
   ·exact hk.2.2.2 h1
   ·omega⟩
 have hmm:Mod (pb :: fp (.slice ua rus.length uc)) W (W'.setCell ⟨pb,1,none⟩ (.slice ua' (rus.length+1) uc')):=(hm.mono (fun t ht=>.inl (List.mem_cons_of_mem _ ht))).trans hm2 (by simp)
 have hkeep:∀ s∈pb :: fp (.slice ua rus.length uc),¬ (PF w0 pb (.slice va rels.length vc) (.slice ua rus.length uc) s/\s<W.heap.size):=fun s hs hh=>by
  rcases List.mem_cons.1 hs with rfl | hs
  ·exact hh.1.2.1 rfl
  ·exact hh.1.2.2.2 hs
 refine ⟨?_,?_,?_,hnU,by rw [e1];exact hnR',by rw [e1];exact fun k hk hk2=>hdis' k hk2 hk,?_,?_,h.pbn,h.bl,?_⟩
 ·have:=setCell_at (hm.at h.box hna) 1 (.slice ua' (rus.length+1) uc')
  rw [this,e1]
  simp
 ·exact hm2.owns (hm.owns h.rowR (fun k hk hk2=>hdis k hk2 hk)) (fun k hk=>by have:=(hnU k hk).2;simp;omega)
 ·rw [e1,rowCells_snoc]
  exact hm2.owns hown (fun k hk=>by have:=(hnR' k hk).2;simp;omega)
 ·intro q hq
  rw [e1]
  exact (((h.subR q hq).mono (F':=fun k=>PF w0 pb (.slice va rels.length vc) (.slice ua rus.length uc) k/\k<W.heap.size) (fun k hk hk2=>⟨hk,hk2⟩)).keep hmm hkeep).mono (fun k hk _=>hstep k hk.1 hk.2)
 ·intro q hq
  rw [e1]
  rcases List.mem_append.1 hq with hq | hq
  ·refine (((h.subU q hq).mono (F':=fun k=>PF w0 pb (.slice va rels.length vc) (.slice ua rus.length uc) k/\k<W.heap.size) (fun k hk hk2=>⟨hk,hk2⟩)).keep hmm hkeep).mono (fun k hk _=>hstep k hk.1 hk.2)
  ·rw [Msq] at hq
   subst hq
   refine ((hp.mono (F':=fun k=>n<=k/\k<W.heap.size) (fun k hk hk2=>⟨hk,hk2⟩)).keep hmm (fun s hs hh=>?_)).mono (fun k hk _=>⟨by omega,by omega,fun hh=>?_,fun hh=>?_⟩)
   ·rcases List.mem_cons.1 hs with rfl | hs
    ·omega
    ·have:=hR s hs;omega
   ·have:=hU k hh;omega
   ·rcases hf k hh with h1 | h1
    ·have:=hR k h1;omega
    ·omega
 ·refine h.mod.trans hmm (fun k hk=>?_)
  rcases List.mem_cons.1 hk with rfl | hk
  ·exact .inr hpbn
  ·exact .inr (hnR k hk).1
end
end Go.Proofs.YtohnmnfhmbmoaaaGreatDoor
