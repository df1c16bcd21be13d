/- THE TEXTS MERGED: SySame2 SyGrow SyCopy SyCopy2 SySlice. -/
import Derived.Test.YtohnmnfhmbmoaaaDoorKA22
import Derived.Great.BuildSlice
namespace Go.Proofs.YtohnmnfhmbmoaaaDoor
open Go.RowKit
set_option linter.unusedVariables false
set_option linter.unusedSimpArgs false
set_option maxRecDepth 100000
mutual
def liD:Pr.Li->Nat
 | .mk _ _ _ _ _ _ _ _ body _ _=>liDs body+1
def liDs:List Pr.Li->Nat
 | []=>0
 | e :: r=>max (liD e) (liDs r)
end
mutual
/-- no list is longer -/
def liM:Pr.Li->Nat
 | .mk _ a _ l r _ _ of body _ _=>max a.terms.length (max (exM l) (max (exM r) (max (exM of) (max body.length (liMs body)))))
def liMs:List Pr.Li->Nat
 | []=>0
 | e :: r=>max (liM e) (liMs r)
end
theorem liDs_mem:∀ (l:List Pr.Li) (i:Nat) (h:i<l.length),liD l[i]<=liDs l
 | e :: r,0,h=>by simp only [List.getElem_cons_zero,liDs];omega
 | e :: r,i+1,h=>by
  simp only [List.getElem_cons_succ,liDs]
  have:=liDs_mem r i (by simpa using h)
  omega
theorem liMs_mem:∀ (l:List Pr.Li) (i:Nat) (h:i<l.length),liM l[i]<=liMs l
 | e :: r,0,h=>by simp only [List.getElem_cons_zero,liMs];omega
 | e :: r,i+1,h=>by
  simp only [List.getElem_cons_succ,liMs]
  have:=liMs_mem r i (by simpa using h)
  omega
theorem CellsAt.rng {w:World} {b o:Nat} {xs:Array Value} (h:CellsAt w b o xs):w.rangeAt b o xs.toList:=fun j v hv=>h j v (by simpa using hv)
def SLi (d:Nat):Prop:=∀ (l:List Pr.Li),liDs l<d->l.length<=140737488355328->liMs l<=140737488355328->∀ (F G:Nat->Prop) (u u':Value) (w:World),BB F w l u->BB G w l u' ->
 Calls Tryd.prog 13 #[u,u'] w (Tru w)
set_option maxHeartbeats 16000000 in
theorem sli_of (d:Nat) (hS:SLi d):SLi (d+1):=by
 intro l hd hl hM F G u u' w h h'
 obtain ⟨a1,c1,rfl⟩:=h.lit
 obtain ⟨a2,c2,rfl⟩:=h'.lit
 have HS:=Lib.hid hS;have H1:=Lib.hid h;have H2:=Lib.hid h'
 clear h h' hS
 go_enter Tryd.func13,Tryd.ntmps13
 go_wp2_with fail
 go_loopw [5] (fun iv wr=>∃ j:Nat,j<=l.length/\iv=.int .i64 (j:Nat)/\Mod [] w wr) (fun iv _=>l.length - (intOf iv).toNat)
 case atStart=>exact ⟨0,Nat.zero_le _,rfl,Mod.refl _ _⟩
 case round =>
  obtain ⟨j,hj,rfl,hm⟩:=hrel
  have MR:=Lib.hid hm
  clear hm
  by_cases hlt:j<l.length
  ·have hjI:(j:Int)<(l.length:Int):=by omega
   have hj0:(0:Int)<=(j:Int):=by omega
   obtain ⟨g1,o1,U1,rfl,hc1,hL1⟩:=(H1.out.keep MR.out (by simp)).at j hlt
   obtain ⟨g2,o2,U2,rfl,hc2,hL2⟩:=(H2.out.keep MR.out (by simp)).at j hlt
   have hdj:=liDs_mem l j hlt
   have hmj:=liMs_mem l j hlt
   generalize l[j]=y at *
   obtain ⟨k,⟨rel,ts⟩,op,le,re,fn,av,of,body,ln,cl⟩:=y
   obtain ⟨ht1,hl1,hr1,ho1,hb1⟩:=hL1.parts
   obtain ⟨ht2,hl2,hr2,ho2,hb2⟩:=hL2.parts
   obtain ⟨t1,l1,r1,q1,b1⟩:=U1
   obtain ⟨t2,l2,r2,q2,b2⟩:=U2
   dsimp only at ht1 hl1 hr1 ho1 hb1 ht2 hl2 hr2 ho2 hb2
   obtain ⟨ta1,tc1,rfl⟩:=ht1.lit;obtain ⟨la1,lc1,rfl⟩:=hl1.lit;obtain ⟨ra1,rc1,rfl⟩:=hr1.lit;obtain ⟨oa1,oc1,rfl⟩:=ho1.lit;obtain ⟨ba1,bc1,rfl⟩:=hb1.lit
   obtain ⟨ta2,tc2,rfl⟩:=ht2.lit;obtain ⟨la2,lc2,rfl⟩:=hl2.lit;obtain ⟨ra2,rc2,rfl⟩:=hr2.lit;obtain ⟨oa2,oc2,rfl⟩:=ho2.lit;obtain ⟨ba2,bc2,rfl⟩:=hb2.lit
   have hD:liDs body<d:=by simp only [liD] at hdj;omega
   simp only [liM] at hmj
   have hB1:ts.length<=140737488355328:=by omega
   have hB2:exM le<=140737488355328:=by omega
   have hB3:exM re<=140737488355328:=by omega
   have hB4:exM of<=140737488355328:=by omega
   have hB5:body.length<=140737488355328:=by omega
   have hB6:liMs body<=140737488355328:=by omega
   clear hdj hmj hL1 hL2
   have HT1:=Lib.hid ht1;have HL1:=Lib.hid hl1;have HR1:=Lib.hid hr1;have HO1:=Lib.hid ho1;have HB1:=Lib.hid hb1
   have HT2:=Lib.hid ht2;have HL2:=Lib.hid hl2;have HR2:=Lib.hid hr2;have HO2:=Lib.hid ho2;have HB2:=Lib.hid hb2
   clear ht1 hl1 hr1 ho1 hb1 ht2 hl2 hr2 ho2 hb2
   unfold liV at hc1 hc2
   dsimp only at hc1 hc2
   obtain ⟨C1,hC1⟩:∃ C:Array Value,C=#[.int .i64 k,.string rel,.slice ta1 ts.length tc1,.int .i64 op,.int .i64 le.k,.string le.v,.int .i64 le.x.k,.int .i64 le.x.n,.string (Lx.ofS le.x.s),.int .i64 le.op,.slice la1 le.args.length lc1,.int .i64 re.k,.string re.v,.int .i64 re.x.k,.int .i64 re.x.n,.string (Lx.ofS re.x.s),.int .i64 re.op,.slice ra1 re.args.length rc1,.int .i64 fn,.string av,.int .i64 of.k,.string of.v,.int .i64 of.x.k,.int .i64 of.x.n,.string (Lx.ofS of.x.s),.int .i64 of.op,.slice oa1 of.args.length oc1,.slice ba1 body.length bc1,.int .i64 ln,.int .i64 cl]:=⟨_,rfl⟩
   obtain ⟨C2,hC2⟩:∃ C:Array Value,C=#[.int .i64 k,.string rel,.slice ta2 ts.length tc2,.int .i64 op,.int .i64 le.k,.string le.v,.int .i64 le.x.k,.int .i64 le.x.n,.string (Lx.ofS le.x.s),.int .i64 le.op,.slice la2 le.args.length lc2,.int .i64 re.k,.string re.v,.int .i64 re.x.k,.int .i64 re.x.n,.string (Lx.ofS re.x.s),.int .i64 re.op,.slice ra2 re.args.length rc2,.int .i64 fn,.string av,.int .i64 of.k,.string of.v,.int .i64 of.x.k,.int .i64 of.x.n,.string (Lx.ofS of.x.s),.int .i64 of.op,.slice oa2 of.args.length oc2,.slice ba2 body.length bc2,.int .i64 ln,.int .i64 cl]:=⟨_,rfl⟩
   rw [<-hC1] at hc1
   rw [<-hC2] at hc2
   have z1:C1.size=30:=by rw [hC1];rfl
   have z2:C2.size=30:=by rw [hC2];rfl
   have w1:=Hxq (show C1.toList.all (·.oneCell')=true by rw [hC1];rfl)
   have w2:=Hxq (show C2.toList.all (·.oneCell')=true by rw [hC2];rfl)
   have HC1:=Lib.hid hC1;have HC2:=Lib.hid hC2;have K1:=Lib.hid hc1.rng;have K2:=Lib.hid hc2
   clear hC1 hC2 hc1 hc2
   have hsz:∀ C:Array Value,C.size=30->(Tryd.prog.info? 38).map (·.size)=some C.toList.length:=fun C h=>by rw [Array.length_toList,h];exact Tryd.sizeLit
   have HSZ:=Lib.hid hsz
   clear hsz
   go_upto_region 7 with (first | refine wpList_load_mid rfl 38 _ rfl g1 (o1+j * 30) rfl C1.toList _ K1.out Tryd.underlying38 rfl (HSZ.out C1 z1) ?_ | refine wpList_store_new rfl 38 _ _ rfl wr wr.heap.size C1 #[.int .i64 0,.string ⟨#[]⟩,.slice none 0 0,.int .i64 0,.int .i64 0,.string ⟨#[]⟩,.int .i64 0,.int .i64 0,.string ⟨#[]⟩,.int .i64 0,.slice none 0 0,.int .i64 0,.string ⟨#[]⟩,.int .i64 0,.int .i64 0,.string ⟨#[]⟩,.int .i64 0,.slice none 0 0,.int .i64 0,.string ⟨#[]⟩,.int .i64 0,.string ⟨#[]⟩,.int .i64 0,.int .i64 0,.string ⟨#[]⟩,.int .i64 0,.slice none 0 0,.slice none 0 0,.int .i64 0,.int .i64 0] 38 rfl rfl rfl rfl (by rw [z1];exact Tryd.sizeLit) (by rw [z1];rfl) w1.out ?_)
   have n1:=(Mod.refl [] wr).alloc (Obj.cells C1 38)
   have x1:=heap_alloc_new wr (Obj.cells C1 38)
   generalize wr.alloc (Obj.cells C1 38)=wa at *
   have NA:=Lib.hid n1;have XA:=Lib.hid x1;have K3:=Hxq (K2.out.keep n1 (by simp)).rng
   have hza:=lt_of_block x1
   clear n1 x1 K1 K2
   go_upto_region 8 with (first | refine wpList_load_mid rfl 38 _ rfl g2 (o2+j * 30) rfl C2.toList _ K3.out Tryd.underlying38 rfl (HSZ.out C2 z2) ?_ | refine wpList_store_new rfl 38 _ _ rfl wa wa.heap.size C2 #[.int .i64 0,.string ⟨#[]⟩,.slice none 0 0,.int .i64 0,.int .i64 0,.string ⟨#[]⟩,.int .i64 0,.int .i64 0,.string ⟨#[]⟩,.int .i64 0,.slice none 0 0,.int .i64 0,.string ⟨#[]⟩,.int .i64 0,.int .i64 0,.string ⟨#[]⟩,.int .i64 0,.slice none 0 0,.int .i64 0,.string ⟨#[]⟩,.int .i64 0,.string ⟨#[]⟩,.int .i64 0,.int .i64 0,.string ⟨#[]⟩,.int .i64 0,.slice none 0 0,.slice none 0 0,.int .i64 0,.int .i64 0] 38 rfl rfl rfl rfl (by rw [z2];exact Tryd.sizeLit) (by rw [z2];rfl) w2.out ?_)
   have n2:=(Mod.refl [] wa).alloc (Obj.cells C2 38)
   have x2:=heap_alloc_new wa (Obj.cells C2 38)
   generalize wa.alloc (Obj.cells C2 38)=wb at *
   have X1:=Hxq (n2.at XA.out (by simp));have X2:=Lib.hid x2;have N0:=Hxq (NA.out.trans n2 (by simp))
   clear n2 x2 XA NA K3 w1 w2
   rw [HC1.out] at X1
   rw [HC2.out] at X2
   clear HC1 HC2 z1 z2 HSZ
   have x0:_:=cell_at X1.out 0;have y0:_:=cell_at X2.out 0
   have x1:_:=cell_at X1.out 1;have y1:_:=cell_at X2.out 1
   have x2:_:=cell_at X1.out 2;have y2:_:=cell_at X2.out 2
   have x3:_:=cell_at X1.out 3;have y3:_:=cell_at X2.out 3
   have x4:_:=cell_at X1.out 4;have y4:_:=cell_at X2.out 4
   have x5:_:=cell_at X1.out 5;have y5:_:=cell_at X2.out 5
   have x6:_:=cell_at X1.out 6;have y6:_:=cell_at X2.out 6
   have x7:_:=cell_at X1.out 7;have y7:_:=cell_at X2.out 7
   have x8:_:=cell_at X1.out 8;have y8:_:=cell_at X2.out 8
   have x9:_:=cell_at X1.out 9;have y9:_:=cell_at X2.out 9
   have x10:_:=cell_at X1.out 10;have y10:_:=cell_at X2.out 10
   have x11:_:=cell_at X1.out 11;have y11:_:=cell_at X2.out 11
   have x12:_:=cell_at X1.out 12;have y12:_:=cell_at X2.out 12
   have x13:_:=cell_at X1.out 13;have y13:_:=cell_at X2.out 13
   have x14:_:=cell_at X1.out 14;have y14:_:=cell_at X2.out 14
   have x15:_:=cell_at X1.out 15;have y15:_:=cell_at X2.out 15
   have x16:_:=cell_at X1.out 16;have y16:_:=cell_at X2.out 16
   have x17:_:=cell_at X1.out 17;have y17:_:=cell_at X2.out 17
   have x28:_:=cell_at X1.out 28;have y28:_:=cell_at X2.out 28
   have x29:_:=cell_at X1.out 29;have y29:_:=cell_at X2.out 29
   simp only [List.getElem?_toArray,List.getElem?_cons_zero,List.getElem?_cons_succ] at x0 y0 x1 y1 x2 y2 x3 y3 x4 y4 x5 y5 x6 y6 x7 y7 x8 y8 x9 y9 x10 y10 x11 y11 x12 y12 x13 y13 x14 y14 x15 y15 x16 y16 x17 y17 x28 y28 x29 y29
   go_wp2_with fail
   refine (sameAtom_any ⟨rel,ts⟩ hB1 _ _ wb (HT1.out.keep N0.out (by simp)) (HT2.out.keep N0.out (by simp))).mono ?_
   rintro e1 v1 ⟨rfl,m1⟩
   have M1:=Hxq (N0.out.trans m1 (by simp));have XA1:=Hxq (m1.at X1.out (by simp));have XB1:=Hxq (m1.at X2.out (by simp))
   clear m1 X1 X2
   clear x0 y0 x1 y1 x2 y2 x3 y3 x4 y4 x5 y5 x6 y6 x7 y7 x8 y8 x9 y9 x10 y10 x11 y11 x12 y12 x13 y13 x14 y14 x15 y15 x16 y16 x17 y17 x28 y28 x29 y29
   have x0:_:=cell_at XA1.out 0;have y0:_:=cell_at XB1.out 0
   have x1:_:=cell_at XA1.out 1;have y1:_:=cell_at XB1.out 1
   have x2:_:=cell_at XA1.out 2;have y2:_:=cell_at XB1.out 2
   have x3:_:=cell_at XA1.out 3;have y3:_:=cell_at XB1.out 3
   have x4:_:=cell_at XA1.out 4;have y4:_:=cell_at XB1.out 4
   have x5:_:=cell_at XA1.out 5;have y5:_:=cell_at XB1.out 5
   have x6:_:=cell_at XA1.out 6;have y6:_:=cell_at XB1.out 6
   have x7:_:=cell_at XA1.out 7;have y7:_:=cell_at XB1.out 7
   have x8:_:=cell_at XA1.out 8;have y8:_:=cell_at XB1.out 8
   have x9:_:=cell_at XA1.out 9;have y9:_:=cell_at XB1.out 9
   have x10:_:=cell_at XA1.out 10;have y10:_:=cell_at XB1.out 10
   have x11:_:=cell_at XA1.out 11;have y11:_:=cell_at XB1.out 11
   have x12:_:=cell_at XA1.out 12;have y12:_:=cell_at XB1.out 12
   have x13:_:=cell_at XA1.out 13;have y13:_:=cell_at XB1.out 13
   have x14:_:=cell_at XA1.out 14;have y14:_:=cell_at XB1.out 14
   have x15:_:=cell_at XA1.out 15;have y15:_:=cell_at XB1.out 15
   have x16:_:=cell_at XA1.out 16;have y16:_:=cell_at XB1.out 16
   have x17:_:=cell_at XA1.out 17;have y17:_:=cell_at XB1.out 17
   have x28:_:=cell_at XA1.out 28;have y28:_:=cell_at XB1.out 28
   have x29:_:=cell_at XA1.out 29;have y29:_:=cell_at XB1.out 29
   simp only [List.getElem?_toArray,List.getElem?_cons_zero,List.getElem?_cons_succ] at x0 y0 x1 y1 x2 y2 x3 y3 x4 y4 x5 y5 x6 y6 x7 y7 x8 y8 x9 y9 x10 y10 x11 y11 x12 y12 x13 y13 x14 y14 x15 y15 x16 y16 x17 y17 x28 y28 x29 y29
   go_wp2_with fail
   refine (sameExpr_any le hB2 _ _ v1 (HL1.out.keep M1.out (by simp)) (HL2.out.keep M1.out (by simp))).mono ?_
   rintro e2 v2 ⟨rfl,m2⟩
   have M2:=Hxq (M1.out.trans m2 (by simp));have XA2:=Hxq (m2.at XA1.out (by simp));have XB2:=Hxq (m2.at XB1.out (by simp))
   clear m2 XA1 XB1
   clear x0 y0 x1 y1 x2 y2 x3 y3 x4 y4 x5 y5 x6 y6 x7 y7 x8 y8 x9 y9 x10 y10 x11 y11 x12 y12 x13 y13 x14 y14 x15 y15 x16 y16 x17 y17 x28 y28 x29 y29
   have x0:_:=cell_at XA2.out 0;have y0:_:=cell_at XB2.out 0
   have x1:_:=cell_at XA2.out 1;have y1:_:=cell_at XB2.out 1
   have x2:_:=cell_at XA2.out 2;have y2:_:=cell_at XB2.out 2
   have x3:_:=cell_at XA2.out 3;have y3:_:=cell_at XB2.out 3
   have x4:_:=cell_at XA2.out 4;have y4:_:=cell_at XB2.out 4
   have x5:_:=cell_at XA2.out 5;have y5:_:=cell_at XB2.out 5
   have x6:_:=cell_at XA2.out 6;have y6:_:=cell_at XB2.out 6
   have x7:_:=cell_at XA2.out 7;have y7:_:=cell_at XB2.out 7
   have x8:_:=cell_at XA2.out 8;have y8:_:=cell_at XB2.out 8
   have x9:_:=cell_at XA2.out 9;have y9:_:=cell_at XB2.out 9
   have x10:_:=cell_at XA2.out 10;have y10:_:=cell_at XB2.out 10
   have x11:_:=cell_at XA2.out 11;have y11:_:=cell_at XB2.out 11
   have x12:_:=cell_at XA2.out 12;have y12:_:=cell_at XB2.out 12
   have x13:_:=cell_at XA2.out 13;have y13:_:=cell_at XB2.out 13
   have x14:_:=cell_at XA2.out 14;have y14:_:=cell_at XB2.out 14
   have x15:_:=cell_at XA2.out 15;have y15:_:=cell_at XB2.out 15
   have x16:_:=cell_at XA2.out 16;have y16:_:=cell_at XB2.out 16
   have x17:_:=cell_at XA2.out 17;have y17:_:=cell_at XB2.out 17
   have x28:_:=cell_at XA2.out 28;have y28:_:=cell_at XB2.out 28
   have x29:_:=cell_at XA2.out 29;have y29:_:=cell_at XB2.out 29
   simp only [List.getElem?_toArray,List.getElem?_cons_zero,List.getElem?_cons_succ] at x0 y0 x1 y1 x2 y2 x3 y3 x4 y4 x5 y5 x6 y6 x7 y7 x8 y8 x9 y9 x10 y10 x11 y11 x12 y12 x13 y13 x14 y14 x15 y15 x16 y16 x17 y17 x28 y28 x29 y29
   go_wp2_with fail
   refine (sameExpr_any re hB3 _ _ v2 (HR1.out.keep M2.out (by simp)) (HR2.out.keep M2.out (by simp))).mono ?_
   rintro e3 v3 ⟨rfl,m3⟩
   have M3:=Hxq (M2.out.trans m3 (by simp));have XA3:=Hxq (m3.at XA2.out (by simp));have XB3:=Hxq (m3.at XB2.out (by simp))
   clear m3 XA2 XB2
   clear x0 y0 x1 y1 x2 y2 x3 y3 x4 y4 x5 y5 x6 y6 x7 y7 x8 y8 x9 y9 x10 y10 x11 y11 x12 y12 x13 y13 x14 y14 x15 y15 x16 y16 x17 y17 x28 y28 x29 y29
   have x18:_:=cell_at XA3.out 18;have y18:_:=cell_at XB3.out 18
   have x19:_:=cell_at XA3.out 19;have y19:_:=cell_at XB3.out 19
   have x20:_:=cell_at XA3.out 20;have y20:_:=cell_at XB3.out 20
   have x21:_:=cell_at XA3.out 21;have y21:_:=cell_at XB3.out 21
   have x22:_:=cell_at XA3.out 22;have y22:_:=cell_at XB3.out 22
   have x23:_:=cell_at XA3.out 23;have y23:_:=cell_at XB3.out 23
   have x24:_:=cell_at XA3.out 24;have y24:_:=cell_at XB3.out 24
   have x25:_:=cell_at XA3.out 25;have y25:_:=cell_at XB3.out 25
   have x26:_:=cell_at XA3.out 26;have y26:_:=cell_at XB3.out 26
   have x27:_:=cell_at XA3.out 27;have y27:_:=cell_at XB3.out 27
   simp only [List.getElem?_toArray,List.getElem?_cons_zero,List.getElem?_cons_succ] at x18 y18 x19 y19 x20 y20 x21 y21 x22 y22 x23 y23 x24 y24 x25 y25 x26 y26 x27 y27
   go_wp2_with fail
   refine (sameExpr_any of hB4 _ _ v3 (HO1.out.keep M3.out (by simp)) (HO2.out.keep M3.out (by simp))).mono ?_
   rintro e4 v4 ⟨rfl,m4⟩
   have M4:=Hxq (M3.out.trans m4 (by simp));have XA4:=Hxq (m4.at XA3.out (by simp));have XB4:=Hxq (m4.at XB3.out (by simp))
   clear m4 XA3 XB3
   clear x18 y18 x19 y19 x20 y20 x21 y21 x22 y22 x23 y23 x24 y24 x25 y25 x26 y26 x27 y27
   have x18:_:=cell_at XA4.out 18;have y18:_:=cell_at XB4.out 18
   have x19:_:=cell_at XA4.out 19;have y19:_:=cell_at XB4.out 19
   have x20:_:=cell_at XA4.out 20;have y20:_:=cell_at XB4.out 20
   have x21:_:=cell_at XA4.out 21;have y21:_:=cell_at XB4.out 21
   have x22:_:=cell_at XA4.out 22;have y22:_:=cell_at XB4.out 22
   have x23:_:=cell_at XA4.out 23;have y23:_:=cell_at XB4.out 23
   have x24:_:=cell_at XA4.out 24;have y24:_:=cell_at XB4.out 24
   have x25:_:=cell_at XA4.out 25;have y25:_:=cell_at XB4.out 25
   have x26:_:=cell_at XA4.out 26;have y26:_:=cell_at XB4.out 26
   have x27:_:=cell_at XA4.out 27;have y27:_:=cell_at XB4.out 27
   simp only [List.getElem?_toArray,List.getElem?_cons_zero,List.getElem?_cons_succ] at x18 y18 x19 y19 x20 y20 x21 y21 x22 y22 x23 y23 x24 y24 x25 y25 x26 y26 x27 y27
   go_wp2_with fail
   refine (HS.out body hD hB5 hB6 _ _ _ _ v4 (HB1.out.keep M4.out (by simp)) (HB2.out.keep M4.out (by simp))).mono ?_
   rintro e5 v5 ⟨rfl,m5⟩
   have M5:=Hxq (M4.out.trans m5 (by simp));have XA5:=Hxq (m5.at XA4.out (by simp));have XB5:=Hxq (m5.at XB4.out (by simp))
   clear m5 XA4 XB4
   clear x18 y18 x19 y19 x20 y20 x21 y21 x22 y22 x23 y23 x24 y24 x25 y25 x26 y26 x27 y27
   go_wp2_with fail
   go_roundw
   case rel=>exact ⟨j+1,by omega,by go_num,MR.out.trans M5.out (by simp)⟩
   case measure=>simp [intOf];omega
  ·obtain rfl:j=l.length:=by omega
   have hjI:¬ (l.length:Int)<(l.length:Int):=by omega
   go_wp2_with fail
   go_ret
   exact ⟨rfl,MR.out⟩
theorem sli_all:∀ d,SLi d
 | 0=>fun l hd=>absurd hd (by omega)
 | d+1=>sli_of d (sli_all d)
theorem sameLits_any {F G:Nat->Prop} (l:List Pr.Li) (hl:l.length<=140737488355328) (hM:liMs l<=140737488355328) (u u':Value) (w:World) (h:BB F w l u) (h':BB G w l u') :
  Calls Tryd.prog 13 #[u,u'] w (Tru w):=sli_all (liDs l+1) l (Nat.lt_succ_self _) hl hM F G u u' w h h'
open Go.RowKit
set_option linter.unusedVariables false
set_option linter.unusedSimpArgs false
set_option maxRecDepth 100000
/-- what is kept, of things of n cells -/
structure Bears {α:Type} (n:Nat) (cs:α->Array Value) (B:(Nat->Prop)->World->α->Prop):Prop where
 size:∀ x,(cs x).size=n
 keep:∀ {F:Nat->Prop} {S:List Nat} {w w':World} {p:α},B F w p->Mod S w w'->(∀ s∈S,¬ F s)->B F w' p
 mono:∀ {F F':Nat->Prop} {w:World} {p:α},B F w p->(∀ k,F k->k<w.heap.size->F' k)->B F' w p
structure GI {α:Type} (T:TypeId) (n:Nat) (cs:α->Array Value) (B:(Nat->Prop)->World->α->Prop) (S:List Nat) (w0 W:World) (acc:List α) (va:Option Addr) (vc:Nat):Prop where
 row:W.ownsRow 0 T n (.slice va acc.length vc) acc.length (rowCells cs acc)
 new:∀ k∈fp (.slice va acc.length vc),w0.heap.size<=k
 sub:∀ p∈acc,B (fun k=>w0.heap.size<=k/\k∉fp (.slice va acc.length vc)) W p
 low:∀ s∈S,s<w0.heap.size
 mod:Mod S w0 W
section
variable {α:Type} {T:TypeId} {n:Nat} {cs:α->Array Value} {B:(Nat->Prop)->World->α->Prop} {S:List Nat} {w0 W W':World} {acc:List α} {va:Option Addr} {vc:Nat}
theorem GI.nil (hS:∀ s∈S,s<w0.heap.size):GI T n cs B S w0 w0 [] none 0:=⟨World.ownsRow_nil _ _ _ _,by simp [fp],by simp,hS,Mod.refl _ _⟩
theorem GI.keep (hB:Bears n cs B) (h:GI T n cs B S w0 W acc va vc) (hm:Mod S W W'):GI T n cs B S w0 W' acc va vc:=by
 have hl:=h.low
 refine ⟨hm.owns h.row (fun k hk hs=>?_),h.new,fun p hp=>hB.keep (h.sub p hp) hm (fun s hs hh=>?_),h.low,h.mod.trans hm (fun t ht=>.inl ht)⟩
 ·have:=h.new k hk;have:=hl k hs;omega
 ·have:=hl s hs;omega
theorem GI.grow {va':Option Addr} {vc':Nat} {p:α} {m:Nat} (hB:Bears n cs B) (h:GI T n cs B S w0 W acc va vc) (hm:Mod (fp (.slice va acc.length vc)) W W') (hp:B (fun k=>m<=k) W p) (hn:∀ k∈fp (.slice va acc.length vc),k<m) (hn0:w0.heap.size<=m)
  (hown:W'.ownsRow 0 T n (.slice va' (acc.length+1) vc') (acc.length+1) (rowCells cs acc++(cs p).toList)) (hf:∀ k∈fp (.slice va' (acc.length+1) vc'),k∈fp (.slice va acc.length vc)\/W.heap.size<=k) :
  GI T n cs B S w0 W' (acc++[p]) va' vc':=by
 have e1:(acc++[p]).length=acc.length+1:=by simp
 have hnew:=h.new
 have hsz:=h.mod.size
 have hnew':∀ k∈fp (.slice va' (acc.length+1) vc'),w0.heap.size<=k:=fun k hk=>by
  rcases hf k hk with hh | hh
  ·exact hnew k hh
  ·omega
 refine ⟨?_,by rw [e1];exact hnew',?_,h.low,h.mod.trans hm (fun k hk=>.inr (hnew k hk))⟩
 ·rw [e1,rowCells_snoc]
  exact hown
 ·intro q hq
  rw [e1]
  rcases List.mem_append.1 hq with hq | hq
  ·refine hB.mono (hB.keep (hB.mono (F':=fun k=>w0.heap.size<=k/\k∉fp (.slice va acc.length vc)/\k<W.heap.size) (h.sub q hq) (fun k hk hk2=>⟨hk.1,hk.2,hk2⟩)) hm (fun s hs hh=>hh.2.1 hs)) (fun k hk hk2=>⟨hk.1,fun hh=>?_⟩)
   rcases hf k hh with h1 | h1
   ·exact hk.2.1 h1
   ·have:=hk.2.2;omega
  ·rw [Msq] at hq
   subst hq
   refine hB.mono (hB.keep (hB.mono (F':=fun k=>m<=k/\k<W.heap.size) hp (fun k hk hk2=>⟨hk,hk2⟩)) hm (fun s hs hh=>by have:=hn s hs;omega)) (fun k hk hk2=>⟨by omega,fun hh=>?_⟩)
   rcases hf k hh with h1 | h1
   ·have:=hn k h1;omega
   ·have:=hk.2;omega
end
/-- what is in a list's row may be appended whole -/
theorem rows_src {α:Type} {F:Nat->Prop} {w:World} {n:Nat} {cs:α->Array Value} {l:List α} {u:Value} {TS e:TypeId} (hu:Tryd.prog.underlying TS=some (.slice e)) (hn:∀ x,(cs x).size=n) (h0:0<n) (h1:∀ x,∀ v∈(cs x).toList,v.oneCell'=true) (h:RowB F w n cs l u) :
  Src Tryd.prog n TS u l.length (rowCells cs l) w:=by
 have hone:∀ v∈rowCells cs l,v.oneCell'=true:=by
  intro v hv
  obtain ⟨x,-,hx⟩:=List.mem_flatMap.1 hv
  exact h1 x v hx
 cases h with
 | nil =>
  rename_i a c
  cases a with
  | none=>exact Src.ofNil w hu c
  | some ad=>exact Src.ofSlice w hu ad 0 c [] (by simp) (fun j u hu=>by simp at hu) (by simp)
 | row hF hb hc hcap =>
  rename_i b off c
  refine Src.ofSlice w hu _ _ c _ (rowCells_len hn l) (fun j v hv=>?_) hone
  rw [addr_add]
  have hj:=(List.getElem?_eq_some_iff.1 hv).1
  rw [rowCells_len hn] at hj
  have hi:j / n<l.length:=Nat.div_lt_of_lt_mul (by rw [Nat.mul_comm];exact hj)
  have hmd:j % n<n:=Nat.mod_lt _ h0
  have hsz:j % n<(cs l[j / n]).size:=by rw [hn];exact hmd
  have key:=rowCells_get hn l (j / n) hi (j % n) _ (Array.getElem?_eq_getElem hsz)
  have hjj:j / n * n+j % n=j:=by rw [Nat.mul_comm];exact Nat.div_add_mod j n
  rw [hjj,hv] at key
  have:=hc (j / n) hi (j % n) _ (Array.getElem?_eq_getElem hsz)
  rw [Nat.add_assoc,hjj] at this
  rw [this,key]
/-- expressions with their arguments' slices -/
abbrev ExU:=Pr.Ex × Value
def csX (p:ExU):Array Value:=exV p.1 p.2
def BX (F:Nat->Prop) (w:World) (p:ExU):Prop:=EB F w p.1 p.2
theorem bearsX:Bears 7 csX BX:=⟨fun _=>rfl,fun h hm hs=>EB.keep h hm hs,fun h hF=>EB.mono h hF⟩
theorem csX_one {F:Nat->Prop} {w:World} {p:ExU} (h:BX F w p):∀ u∈(csX p).toList,u.oneCell'=true:=by
 obtain ⟨e,u⟩:=p
 obtain ⟨a,c,hu⟩:=EB.lit h
 simp only at hu
 subst hu
 intro x hx
 simp [csX,exV] at hx
 rcases hx with rfl | rfl | rfl | rfl | rfl | rfl | rfl <;> rfl
theorem EB.of_row {F:Nat->Prop} {w:World} {k:Int} {v:ByteArray} {x:Va.Val} {op:Int} {u:Value} (l:List ExU) (h:RowB F w 7 csX l u) (hs:∀ p∈l,BX F w p):EB F w (.mk k v x op (l.map (·.1))) u:=by
 cases h with
 | nil=>exact .nil
 | row hF hb h1 hcap =>
  rename_i g off c
  have:=@EB.row F w k v x op (l.map (·.1)) g off c (fun i=>if h:i<l.length then l[i].2 else .slice none 0 0) hF hb (fun i hi=>by
   rw [List.length_map] at hi
   simp only [dif_pos hi,List.getElem_map]
   exact h1 i hi) (fun i hi=>by
   rw [List.length_map] at hi
   simp only [dif_pos hi,List.getElem_map]
   exact hs _ (List.getElem_mem hi))
  simpa using this
open Go.RowKit
set_option linter.unusedVariables false
set_option linter.unusedSimpArgs false
set_option maxRecDepth 100000
/-- a copy: in new blocks alone -/
def CpA (a:Pr.Atom) (w:World) (e:Ending) (w':World):Prop:=∃ u,e=.returned (.agg #[.string a.rel,u])/\RowB (fun k=>w.heap.size<=k) w' 5 tmV a.terms u/\Mod [] w w'
set_option maxHeartbeats 4000000 in
theorem copyAtom_any {F:Nat->Prop} (a:Pr.Atom) (hl:a.terms.length<=134217728) (u:Value) (w:World) (h:RowB F w 5 tmV a.terms u) :
  Calls Tryd.prog 5 #[.agg #[.string a.rel,u]] w (CpA a w):=by
 obtain ⟨rel,ts⟩:=a
 dsimp only at *
 obtain ⟨i0,hinf,hz0,hz1,hz2⟩:=info_parts Tryd.infoTerm
 obtain ⟨a1,c1,rfl⟩:=h.lit
 have hsrc:=rows_src Tryd.underlying22 tmV_size (by omega) tmV_one h
 have mA:=((Mod.refl [] w).alloc (Obj.cells #[.string rel,.slice a1 ts.length c1] 24)).alloc (Obj.cells #[.string ⟨#[]⟩,.slice none 0 0] 24)
 have eA:=two_a w #[.string rel,.slice a1 ts.length c1] #[.string ⟨#[]⟩,.slice none 0 0] 24 24
 have eB:=two_b w #[.string rel,.slice a1 ts.length c1] #[.string ⟨#[]⟩,.slice none 0 0] 24 24
 have H1:=h.keep mA (by simp)
 have S1:=Hxq (rows_src Tryd.underlying22 tmV_size (by omega) tmV_one H1)
 clear h hsrc H1
 go_enter Tryd.func5,Tryd.ntmps5
 go_upto_region 1 with fail
 generalize (w.alloc (Obj.cells _ 24)).alloc (Obj.cells _ 24)=w0 at *
 have M0:=Lib.hid mA;have E0:=Lib.hid eA;have E1:=Lib.hid eB
 clear mA eA eB
 have x0:=cell_at E0.out 0;have x1:=cell_at E0.out 1
 simp only [List.getElem?_toArray,List.getElem?_cons_zero,List.getElem?_cons_succ] at x0 x1
 go_wp2_with (at_builtin;refine wpList_append_src _ rfl _ _ 22 22 rfl 76 i0 (.agg #[Value.int IntKind.i64 0,Value.string ⟨#[]⟩,Value.int IntKind.i64 0,Value.int IntKind.i64 0,Value.string ⟨#[]⟩]) 5 56 Tryd.underlying22 hinf hz0 hz1 hz2 rfl (.slice none 0 0) 0 [] rfl (World.ownsRow_nil _ _ _ _) _ ts.length (rowCells tmV ts) rfl S1.out (by unfold maxLen;omega) (by omega) ?_)
 intro v2 w2 hown2 hm2 hf2 hn2
 (try rw [Nat.zero_add] at hown2);(try rw [List.nil_append] at hown2)
 obtain ⟨a2,c2,rfl⟩:=owns_slice hown2
 have M2:=Hxq (show Mod [] w0 w2 from hm2)
 have hR:=RowB.of_owns (F:=fun k=>w0.heap.size<=k) tmV_size hown2 (fun k hk=>by
  rcases hf2 k hk with hh | hh
  ·simp [fp] at hh
  ·exact hh)
 have R2:=Lib.hid hR
 clear hown2 hm2 hf2 hn2 x0 x1 S1 hR
 have E2:=Hxq (M2.out.at E0.out (by simp));have E3:=Hxq (M2.out.at E1.out (by simp))
 have x0:=cell_at E2.out 0;have y0:=cell_at E3.out 0;have y1:=cell_at E3.out 1
 simp only [List.getElem?_toArray,List.getElem?_cons_zero,List.getElem?_cons_succ] at x0 y0 y1
 have fA:∀ j,w2.frozen? ⟨w.heap.size+1,j,none⟩=false:=fun j=>free_at E3.out j
 have hz:=M0.out.size
 have hz2:=lt_of_block E1.out
 go_wp2_with fail
 have mR:=setCs_mod (w.heap.size+1) [.string rel,.slice a2 ts.length c2] 0 w2
 refine bodyPost_ret (results_cell_row rfl _ _ _ _ _ _ _ rfl (setCs_row (vs:=[.string rel,.slice a2 ts.length c2]) E3.out rfl) Tryd.underlying24 rfl (by kernel_rfl)) rfl ⟨_,rfl,?_,(M0.out.trans M2.out (by simp)).trans mR (by simp)⟩
 exact (R2.out.keep mR (fun s hs=>by rw [Msq] at hs;omega)).mono (fun k hk _=>by omega)
theorem Tryd.infoEx:(Tryd.prog.info? 34).map (fun i=>(i.zero,i.size,i.bytes))=some (some (.agg #[Value.int IntKind.i64 0,Value.string ⟨#[]⟩,Value.int IntKind.i64 0,Value.int IntKind.i64 0,Value.string ⟨#[]⟩,Value.int IntKind.i64 0,Value.slice none 0 0]),7,88):=by kernel_rfl
/-- a copy: in new blocks alone -/
def CpX (e:Pr.Ex) (w:World) (o:Ending) (w':World):Prop:=∃ u,o=.returned (.agg (exV e u))/\EB (fun k=>w.heap.size<=k) w' e u/\Mod [] w w'
def CXC (d:Nat):Prop:=∀ (e:Pr.Ex),exD e<=d->exM e<=134217728->∀ (F:Nat->Prop) (u:Value) (w:World),EB F w e u ->
 Calls Tryd.prog 7 #[.agg (exV e u)] w (CpX e w)
set_option maxHeartbeats 8000000 in
theorem cxc_of (d:Nat) (hS:CXC d):CXC (d+1):=by
 intro e he hM F u w h
 obtain ⟨i0,hinf,hz0,hz1,hz2⟩:=info_parts Tryd.infoEx
 obtain ⟨k,v,⟨xk,xn,xs⟩,op,args⟩:=e
 obtain ⟨a1,c1,rfl⟩:=h.lit
 have hd:exDs args<=d:=by simp only [exD] at he;omega
 have hM1:args.length<=134217728:=by simp only [exM] at hM;omega
 have hM2:exMs args<=134217728:=by simp only [exM] at hM;omega
 have HS:=Lib.hid hS;have H1:=Lib.hid h
 clear h hS he hM
 simp only [exV,Pr.Ex.k,Pr.Ex.v,Pr.Ex.x,Pr.Ex.op,Pr.Ex.args] at *
 generalize hxB:Lx.ofS xs=xB at *
 have mA:=((Mod.refl [] w).alloc (Obj.cells #[.int .i64 k,.string v,.int .i64 xk,.int .i64 xn,.string xB,.int .i64 op,.slice a1 args.length c1] 34)).alloc (Obj.cells #[Value.int IntKind.i64 0,Value.string ⟨#[]⟩,Value.int IntKind.i64 0,Value.int IntKind.i64 0,Value.string ⟨#[]⟩,Value.int IntKind.i64 0,Value.slice none 0 0] 34)
 have eA:=two_a w #[.int .i64 k,.string v,.int .i64 xk,.int .i64 xn,.string xB,.int .i64 op,.slice a1 args.length c1] #[Value.int IntKind.i64 0,Value.string ⟨#[]⟩,Value.int IntKind.i64 0,Value.int IntKind.i64 0,Value.string ⟨#[]⟩,Value.int IntKind.i64 0,Value.slice none 0 0] 34 34
 have eB:=two_b w #[.int .i64 k,.string v,.int .i64 xk,.int .i64 xn,.string xB,.int .i64 op,.slice a1 args.length c1] #[Value.int IntKind.i64 0,Value.string ⟨#[]⟩,Value.int IntKind.i64 0,Value.int IntKind.i64 0,Value.string ⟨#[]⟩,Value.int IntKind.i64 0,Value.slice none 0 0] 34 34
 go_enter Tryd.func7,Tryd.ntmps7
 go_upto_region 1 with fail
 generalize (w.alloc (Obj.cells _ 34)).alloc (Obj.cells _ 34)=w0 at *
 have M0:=Lib.hid mA;have E0:=Lib.hid eA;have E1:=Lib.hid eB
 clear mA eA eB
 have x0:=cell_at E0.out 0;have x1:=cell_at E0.out 1;have x2:=cell_at E0.out 2;have x3:=cell_at E0.out 3;have x4:=cell_at E0.out 4;have x5:=cell_at E0.out 5;have x6:=cell_at E0.out 6
 simp only [List.getElem?_toArray,List.getElem?_cons_zero,List.getElem?_cons_succ] at x0 x1 x2 x3 x4 x5 x6
 go_upto_region 3 with fail
 generalize hwL:w0.alloc (Obj.cells _ 34)=wL
 have hLA:Hid (Mod [] w0 wL/\wL.heap[w0.heap.size]?=some (.cells #[.int .i64 k,.string v,.int .i64 xk,.int .i64 xn,.string xB,.int .i64 op,.slice none 0 0] 34 (0,0))):=Hxq (by
  subst hwL
  exact ⟨(Mod.refl [] w0).alloc _,heap_alloc_new w0 _⟩)
 clear x0 x1 x2 x3 x4 x5 x6 hwL
 have ML:=Lib.hid hLA.out.1;have EL:=Lib.hid hLA.out.2
 have hpl:=lt_of_block EL.out
 have hp0:=lt_of_block E1.out
 have hm0:=M0.out.size
 generalize hpb:w0.heap.size=pb at *
 have GL:Hid (GI 34 7 csX BX [pb] wL wL [] none 0):=Hxq (GI.nil (fun s hs=>by rw [Msq] at hs;omega))
 clear hLA
 go_wp2_with fail
 have HL1:=Hxq (H1.out.mono (F':=fun k=>k<w.heap.size) (fun k _ h=>h))
 go_loopw [4] (fun iv wr=>∃ (acc:List ExU) (va:Option Addr) (vc:Nat),iv=.int .i64 (acc.length:Nat)/\acc.map (·.1)=args.take acc.length/\acc.length<=args.length/\wr.heap[pb]?=some (.cells #[.int .i64 k,.string v,.int .i64 xk,.int .i64 xn,.string xB,.int .i64 op,.slice va acc.length vc] 34 (0,0))/\GI 34 7 csX BX [pb] wL wr acc va vc) (fun iv _=>args.length - (intOf iv).toNat)
 case atStart=>exact ⟨[],none,0,rfl,by simp,by simp,EL.out,GL.out⟩
 case round =>
  obtain ⟨acc,va,vc,rfl,hmap,hle,hbx,hG⟩:=hrel
  have MW:=Hxq (((M0.out.trans ML.out (by simp)).mono (T:=[pb]) (by simp)).trans hG.mod (by simp))
  have EP:=Hxq (hG.mod.at (ML.out.at E0.out (by simp)) (by simp;omega))
  have EX:=Lib.hid hbx;have G0:=Lib.hid hG;have HM:=Lib.hid hmap
  have z6:=cell_at EP.out 6;have b6:=cell_at EX.out 6
  simp only [List.getElem?_toArray,List.getElem?_cons_zero,List.getElem?_cons_succ] at z6 b6
  clear hG hbx hmap
  by_cases hlt:acc.length<args.length
  ·have hjI:(acc.length:Int)<(args.length:Int):=by omega
   have hj0:(0:Int)<=(acc.length:Int):=by omega
   obtain ⟨b1,o1,u1,rfl,hc1,hE1⟩:=(HL1.out.keep MW.out (by simp;omega)).at acc.length hlt
   have hdj:=exDs_mem args acc.length hlt
   have hmj:=exMs_mem args acc.length hlt
   have HY:Hid (args[acc.length]?=some args[acc.length]):=Hxq (List.getElem?_eq_getElem hlt)
   simp only [Pr.Ex.args] at hc1 hE1
   generalize args[acc.length]=y at *
   obtain ⟨a2,c2,rfl⟩:=hE1.lit
   have r0:=hc1 0 (.int .i64 y.k) rfl
   have r1:=hc1 1 (.string y.v) rfl
   have r2:=hc1 2 (.int .i64 y.x.k) rfl
   have r3:=hc1 3 (.int .i64 y.x.n) rfl
   have r4:=hc1 4 (.string (Lx.ofS y.x.s)) rfl
   have r5:=hc1 5 (.int .i64 y.op) rfl
   have r6:=hc1 6 (.slice a2 y.args.length c2) rfl
   rw [Nat.add_zero] at r0
   clear hc1
   have HE1:=Lib.hid hE1
   clear hE1
   have HC:Hid (∀ w',Mod [] wr w'->Calls Tryd.prog 7 #[.agg (exV y (.slice a2 y.args.length c2))] w' (CpX y w')):=Hxq (fun w' hm=>HS.out y (by omega) (by omega) _ _ _ (HE1.out.keep hm (by simp)))
   have hna:pb∉fp (.slice va acc.length vc):=fun hk=>by have:=G0.out.new pb hk;omega
   have hlR:=Hxq (fun k hk=>fp_lt G0.out.row k hk)
   have hsz:=G0.out.mod.size
   unfold exV at HC
   go_wp2_with fail
   go_region_law (first
    | (go_simp;refine (HC.out wr.drew ((Mod.refl [] wr).drew)).mono ?_;rintro e3 w3 ⟨u3,rfl,hb3,m3⟩;obtain ⟨a3,c3,rfl⟩:=hb3.lit;have m03:=((Mod.refl [] wr).drew).trans m3 (by simp);have X3:=Hxq (m03.at EX.out (by simp));have q3:w3.cell? ⟨pb,6,none⟩=some (.slice va acc.length vc):=cell_at X3.out 6;have mA4:=(Mod.refl [] w3).alloc (Obj.cells #[.int .i64 y.k,.string y.v,.int .i64 y.x.k,.int .i64 y.x.n,.string (Lx.ofS y.x.s),.int .i64 y.op,.slice a3 y.args.length c3] 34);have X4:=Hxq (mA4.at X3.out (by simp));have q4:(w3.alloc (Obj.cells #[.int .i64 y.k,.string y.v,.int .i64 y.x.k,.int .i64 y.x.n,.string (Lx.ofS y.x.s),.int .i64 y.op,.slice a3 y.args.length c3] 34)).cell? ⟨pb,6,none⟩=some (.slice va acc.length vc):=cell_at X4.out 6;have G4:=Hxq ((G0.out.keep bearsX (m03.mono (by simp))).keep bearsX (mA4.mono (by simp)));have S4:Hid (Src Tryd.prog 7 32 (.slice (some ⟨w3.heap.size,0,none⟩) 1 1) 1 (csX (y,.slice a3 y.args.length c3)).toList (w3.alloc (Obj.cells #[.int .i64 y.k,.string y.v,.int .i64 y.x.k,.int .i64 y.x.n,.string (Lx.ofS y.x.s),.int .i64 y.op,.slice a3 y.args.length c3] 34))):=Hxq (src_one (TS:=32) Tryd.underlying32 (heap_alloc_new w3 (Obj.cells (csX (y,.slice a3 y.args.length c3)) 34)) rfl (csX_one (p:=(y,.slice a3 y.args.length c3)) (w:=w3) hb3));have L4:Hid (BX (fun k=>wr.heap.size<=k) (w3.alloc (Obj.cells #[.int .i64 y.k,.string y.v,.int .i64 y.x.k,.int .i64 y.x.n,.string (Lx.ofS y.x.s),.int .i64 y.op,.slice a3 y.args.length c3] 34)) (y,.slice a3 y.args.length c3)):=Hxq (hb3.keep mA4 (by simp));unfold exV;clear hb3 m3 m03 mA4)
    | (refine step_append_src _ rfl _ _ 32 32 rfl 34 i0 (.agg #[Value.int IntKind.i64 0,Value.string ⟨#[]⟩,Value.int IntKind.i64 0,Value.int IntKind.i64 0,Value.string ⟨#[]⟩,Value.int IntKind.i64 0,Value.slice none 0 0]) 7 88 Tryd.underlying32 hinf hz0 hz1 hz2 rfl (.slice va acc.length vc) acc.length (rowCells csX acc) rfl G4.out.row _ 1 (csX (y,.slice a3 y.args.length c3)).toList rfl S4.out (by unfold maxLen;omega) (by omega) ?_;intro v5 w5 hown5 hm5 hf5;obtain ⟨va5,vc5,rfl⟩:=owns_slice hown5;have G5:=Hxq (G4.out.grow bearsX hm5 L4.out hlR.out hsz hown5 hf5);have X5:=Hxq (hm5.at X4.out hna);have q5:w5.cell? ⟨pb,6,none⟩=some (.slice va acc.length vc):=cell_at X5.out 6;have f5:w5.frozen? ⟨pb,6,none⟩=false:=free_at X5.out 6;clear hown5 hm5 hf5))
   all_goals (
    have X6:=Hxq (setCell_at X5.out 6 (.slice va5 (acc.length+1) vc5))
    have G6:=Hxq (G5.out.keep bearsX ((Mod.refl [pb] w5).setCell (p:=⟨pb,6,none⟩) (.inl (by simp)) (.slice va5 (acc.length+1) vc5)))
    clear q3 q4 q5 f5 X3 X4 X5 S4 L4 G4 G5 z6 b6
    go_wp2_with fail
    generalize w5.setCell ⟨pb,6,none⟩ (.slice va5 (acc.length+1) vc5)=w8 at *
    go_roundw
    case rel =>
     refine ⟨acc++[(y,.slice a3 y.args.length c3)],va5,vc5,by rw [List.length_append];go_num,?_,by simp;omega,?_,G6.out⟩
     ·rw [List.map_append,HM.out,show (acc++[(y,Value.slice a3 y.args.length c3)]).length=acc.length+1 by simp,List.take_add_one,HY.out];rfl
     ·rw [X6.out];simp
    case measure=>simp [intOf];omega)
  ·obtain hae:acc.length=args.length:=by omega
   have hjI:¬ (acc.length:Int)<(args.length:Int):=by omega
   have hargs:args=acc.map (·.1):=by rw [HM.out,hae,List.take_length]
   have ER:=Hxq (G0.out.mod.at (ML.out.at E1.out (by simp)) (by simp;omega))
   have b0:=cell_at EX.out 0;have b1:=cell_at EX.out 1;have b2:=cell_at EX.out 2;have b3:=cell_at EX.out 3;have b4:=cell_at EX.out 4;have b5:=cell_at EX.out 5;have y0:=cell_at ER.out 0;have y1:=cell_at ER.out 1;have y2:=cell_at ER.out 2;have y3:=cell_at ER.out 3;have y4:=cell_at ER.out 4;have y5:=cell_at ER.out 5;have y6:=cell_at ER.out 6
   simp only [List.getElem?_toArray,List.getElem?_cons_zero,List.getElem?_cons_succ] at b0 b1 b2 b3 b4 b5 y0 y1 y2 y3 y4 y5 y6
   have fA:∀ j,wr.frozen? ⟨w.heap.size+1,j,none⟩=false:=fun j=>free_at ER.out j
   have hsz:=G0.out.mod.size
   have HAR:=Lib.hid hargs
   clear hae hargs
   go_wp2_with fail
   have mR:=setCs_mod (w.heap.size+1) [.int .i64 k,.string v,.int .i64 xk,.int .i64 xn,.string xB,.int .i64 op,.slice va acc.length vc] 0 wr
   refine bodyPost_ret (results_cell_row rfl _ _ _ _ _ _ _ rfl (setCs_row (vs:=[.int .i64 k,.string v,.int .i64 xk,.int .i64 xn,.string xB,.int .i64 op,.slice va acc.length vc]) ER.out rfl) Tryd.underlying34 rfl (by kernel_rfl)) rfl ⟨.slice va acc.length vc,?_,?_,?_⟩
   ·rw [<-hxB];rfl
   ·rw [HAR.out]
    refine EB.of_row acc ((RowB.of_owns (F:=fun k=>wL.heap.size<=k) bearsX.size G0.out.row G0.out.new).keep mR (fun s hs=>by rw [Msq] at hs;omega) |>.mono (fun k hk _=>by omega)) (fun p hp=>?_)
    exact bearsX.mono (bearsX.keep (G0.out.sub p hp) mR (fun s hs hh=>by rw [Msq] at hs;omega)) (fun k hk _=>by omega)
   ·exact ((M0.out.trans ML.out (by simp)).trans (S:=[]) (T:=[pb]) G0.out.mod (fun t ht=>.inr (by rw [Msq] at ht;omega))).trans mR (fun t ht=>.inr (by rw [Msq] at ht;omega))
theorem cxc_all:∀ d,CXC d
 | 0=>fun e he _=>by cases e;simp [exD] at he
 | d+1=>cxc_of d (cxc_all d)
theorem copyExpr_any {F:Nat->Prop} (e:Pr.Ex) (hM:exM e<=134217728) (u:Value) (w:World) (h:EB F w e u) :
  Calls Tryd.prog 7 #[.agg (exV e u)] w (CpX e w):=cxc_all _ e (Nat.le_refl _) hM F u w h
section
variable {P:Program} {ops:Array Oper} {rest:List Oper} {o:Oper} {a:Act} {w:World} {Q:Exit->Act->World->Prop}
theorem slice_one_fill (cells:Array Value) (s:Nat) (X:Array Value) (h0:0<s) (hs:cells.size=s) (hX:X.size=1 * s) :
  Instr.fill (fun i=>some (i * s,s)) X [(0,.agg cells)]=some cells:=by
 have:=Go.Great.fill_whole h0 [.agg cells] X (fun v hv=>by rw [Msq] at hv;subst hv;exact hs) (by simpa using hX.symm)
 simpa [Value.cells] using this
theorem wpList_slice_one (hgd:o.guard=none) (t e:TypeId) (x:Operand) (ho:o.op=.buildSlice t 1 #[(0,x)]) (cells:Array Value) (ie:TypeInfo) (z:Value) (hx:a.eval x=.agg cells)
  (hu:P.underlying t=some (.slice e)) (hie:P.info? e=some ie) (hz:ie.zero=some z) (hs:cells.size=ie.size) (h0:0<ie.size) (hsm:ie.size<=1000)
  (h:wpList P ops Q rest (a.put o.dst (.slice (some ⟨w.heap.size,0,none⟩) 1 1)) (w.alloc (.cells cells e))):wpList P ops Q (o :: rest) a w :=
 wpList_buildSlice hgd t e 1 #[(0,x)] ho cells ie z hu hie hz (by omega) (by omega) (by
  have:=slice_one_fill cells ie.size ((Array.range (1 * ie.size)).map (z.cells[· % z.cells.size]!)) h0 hs (by simp)
  simpa [hx] using this) h
end
end Go.Proofs.YtohnmnfhmbmoaaaDoor
