/- THE TEXTS MERGED: SySame2. -/
import Derived.Test.YtppigckioalhhaaGreatDoorRKS1
import Derived.Test.YtppigckioalhhaaGreatDoorRKS33
import Derived.Deep.MidRow
namespace Go.Proofs.YtppigckioalhhaaGreatDoorR
open Go.RowKit
set_option linter.unusedVariables false
set_option linter.unusedSimpArgs false
set_option maxRecDepth 100000
mutual
def liD:Pr.Li->Nat
 | .mk _ _ _ _ _ _ _ _ body _ _=>liDs body+1
def liDs:List Pr.Li->Nat
 | []=>0
 | e :: r=>max (liD e) (liDs r)
end
mutual
/-- no list is longer -/
def liM:Pr.Li->Nat
 | .mk _ a _ l r _ _ of body _ _=>max a.terms.length (max (exM l) (max (exM r) (max (exM of) (max body.length (liMs body)))))
def liMs:List Pr.Li->Nat
 | []=>0
 | e :: r=>max (liM e) (liMs r)
end
theorem liDs_mem:∀ (l:List Pr.Li) (i:Nat) (h:i<l.length),liD l[i]<=liDs l
 | e :: r,0,h=>by simp only [List.getElem_cons_zero,liDs];omega
 | e :: r,i+1,h=>by
  simp only [List.getElem_cons_succ,liDs]
  have:=liDs_mem r i (by simpa using h)
  omega
theorem liMs_mem:∀ (l:List Pr.Li) (i:Nat) (h:i<l.length),liM l[i]<=liMs l
 | e :: r,0,h=>by simp only [List.getElem_cons_zero,liMs];omega
 | e :: r,i+1,h=>by
  simp only [List.getElem_cons_succ,liMs]
  have:=liMs_mem r i (by simpa using h)
  omega
theorem CellsAt.rng {w:World} {b o:Nat} {xs:Array Value} (h:CellsAt w b o xs):w.rangeAt b o xs.toList:=fun j v hv=>h j v (by simpa using hv)
def SLi (d:Nat):Prop:=∀ (l:List Pr.Li),liDs l<d->l.length<=140737488355328->liMs l<=140737488355328->∀ (F G:Nat->Prop) (u u':Value) (w:World),BB F w l u->BB G w l u' ->
 Calls Tryz.prog 38 #[u,u'] w (Tru w)
set_option maxHeartbeats 16000000 in
theorem sli_of (d:Nat) (hS:SLi d):SLi (d+1):=by
 intro l hd hl hM F G u u' w h h'
 obtain ⟨a1,c1,rfl⟩:=h.lit
 obtain ⟨a2,c2,rfl⟩:=h'.lit
 have HS:=Lib.hid hS;have H1:=Lib.hid h;have H2:=Lib.hid h'
 clear h h' hS
 go_enter Tryz.func38,Tryz.ntmps38
 go_wp2_with fail
 go_loopw [5] (fun iv wr=>∃ j:Nat,j<=l.length/\iv=.int .i64 (j:Nat)/\Mod [] w wr) (fun iv _=>l.length - (intOf iv).toNat)
 case atStart=>exact ⟨0,Nat.zero_le _,rfl,Mod.refl _ _⟩
 case round =>
  obtain ⟨j,hj,rfl,hm⟩:=hrel
  have MR:=Lib.hid hm
  clear hm
  by_cases hlt:j<l.length
  ·have hjI:(j:Int)<(l.length:Int):=by omega
   have hj0:(0:Int)<=(j:Int):=by omega
   obtain ⟨g1,o1,U1,rfl,hc1,hL1⟩:=(H1.out.keep MR.out (by simp)).at j hlt
   obtain ⟨g2,o2,U2,rfl,hc2,hL2⟩:=(H2.out.keep MR.out (by simp)).at j hlt
   have hdj:=liDs_mem l j hlt
   have hmj:=liMs_mem l j hlt
   generalize l[j]=y at *
   obtain ⟨k,⟨rel,ts⟩,op,le,re,fn,av,of,body,ln,cl⟩:=y
   obtain ⟨ht1,hl1,hr1,ho1,hb1⟩:=hL1.parts
   obtain ⟨ht2,hl2,hr2,ho2,hb2⟩:=hL2.parts
   obtain ⟨t1,l1,r1,q1,b1⟩:=U1
   obtain ⟨t2,l2,r2,q2,b2⟩:=U2
   dsimp only at ht1 hl1 hr1 ho1 hb1 ht2 hl2 hr2 ho2 hb2
   obtain ⟨ta1,tc1,rfl⟩:=ht1.lit;obtain ⟨la1,lc1,rfl⟩:=hl1.lit;obtain ⟨ra1,rc1,rfl⟩:=hr1.lit;obtain ⟨oa1,oc1,rfl⟩:=ho1.lit;obtain ⟨ba1,bc1,rfl⟩:=hb1.lit
   obtain ⟨ta2,tc2,rfl⟩:=ht2.lit;obtain ⟨la2,lc2,rfl⟩:=hl2.lit;obtain ⟨ra2,rc2,rfl⟩:=hr2.lit;obtain ⟨oa2,oc2,rfl⟩:=ho2.lit;obtain ⟨ba2,bc2,rfl⟩:=hb2.lit
   have hD:liDs body<d:=by simp only [liD] at hdj;omega
   simp only [liM] at hmj
   have hB1:ts.length<=140737488355328:=by omega
   have hB2:exM le<=140737488355328:=by omega
   have hB3:exM re<=140737488355328:=by omega
   have hB4:exM of<=140737488355328:=by omega
   have hB5:body.length<=140737488355328:=by omega
   have hB6:liMs body<=140737488355328:=by omega
   clear hdj hmj hL1 hL2
   have HT1:=Lib.hid ht1;have HL1:=Lib.hid hl1;have HR1:=Lib.hid hr1;have HO1:=Lib.hid ho1;have HB1:=Lib.hid hb1
   have HT2:=Lib.hid ht2;have HL2:=Lib.hid hl2;have HR2:=Lib.hid hr2;have HO2:=Lib.hid ho2;have HB2:=Lib.hid hb2
   clear ht1 hl1 hr1 ho1 hb1 ht2 hl2 hr2 ho2 hb2
   unfold liV at hc1 hc2
   dsimp only at hc1 hc2
   obtain ⟨C1,hC1⟩:∃ C:Array Value,C=#[.int .i64 k,.string rel,.slice ta1 ts.length tc1,.int .i64 op,.int .i64 le.k,.string le.v,.int .i64 le.x.k,.int .i64 le.x.n,.string (Lx.ofS le.x.s),.int .i64 le.op,.slice la1 le.args.length lc1,.int .i64 re.k,.string re.v,.int .i64 re.x.k,.int .i64 re.x.n,.string (Lx.ofS re.x.s),.int .i64 re.op,.slice ra1 re.args.length rc1,.int .i64 fn,.string av,.int .i64 of.k,.string of.v,.int .i64 of.x.k,.int .i64 of.x.n,.string (Lx.ofS of.x.s),.int .i64 of.op,.slice oa1 of.args.length oc1,.slice ba1 body.length bc1,.int .i64 ln,.int .i64 cl]:=⟨_,rfl⟩
   obtain ⟨C2,hC2⟩:∃ C:Array Value,C=#[.int .i64 k,.string rel,.slice ta2 ts.length tc2,.int .i64 op,.int .i64 le.k,.string le.v,.int .i64 le.x.k,.int .i64 le.x.n,.string (Lx.ofS le.x.s),.int .i64 le.op,.slice la2 le.args.length lc2,.int .i64 re.k,.string re.v,.int .i64 re.x.k,.int .i64 re.x.n,.string (Lx.ofS re.x.s),.int .i64 re.op,.slice ra2 re.args.length rc2,.int .i64 fn,.string av,.int .i64 of.k,.string of.v,.int .i64 of.x.k,.int .i64 of.x.n,.string (Lx.ofS of.x.s),.int .i64 of.op,.slice oa2 of.args.length oc2,.slice ba2 body.length bc2,.int .i64 ln,.int .i64 cl]:=⟨_,rfl⟩
   rw [<-hC1] at hc1
   rw [<-hC2] at hc2
   have z1:C1.size=30:=by rw [hC1];rfl
   have z2:C2.size=30:=by rw [hC2];rfl
   have w1:=Hxq (show C1.toList.all (·.oneCell')=true by rw [hC1];rfl)
   have w2:=Hxq (show C2.toList.all (·.oneCell')=true by rw [hC2];rfl)
   have HC1:=Lib.hid hC1;have HC2:=Lib.hid hC2;have K1:=Lib.hid hc1.rng;have K2:=Lib.hid hc2
   clear hC1 hC2 hc1 hc2
   have hsz:∀ C:Array Value,C.size=30->(Tryz.prog.info? 50).map (·.size)=some C.toList.length:=fun C h=>by rw [Array.length_toList,h];exact Tryz.sizeLit
   have HSZ:=Lib.hid hsz
   clear hsz
   go_upto_region 7 with (first | refine wpList_load_mid rfl 50 _ rfl g1 (o1+j * 30) rfl C1.toList _ K1.out Tryz.underlying50 rfl (HSZ.out C1 z1) ?_ | refine wpList_store_new rfl 50 _ _ rfl wr wr.heap.size C1 #[.int .i64 0,.string ⟨#[]⟩,.slice none 0 0,.int .i64 0,.int .i64 0,.string ⟨#[]⟩,.int .i64 0,.int .i64 0,.string ⟨#[]⟩,.int .i64 0,.slice none 0 0,.int .i64 0,.string ⟨#[]⟩,.int .i64 0,.int .i64 0,.string ⟨#[]⟩,.int .i64 0,.slice none 0 0,.int .i64 0,.string ⟨#[]⟩,.int .i64 0,.string ⟨#[]⟩,.int .i64 0,.int .i64 0,.string ⟨#[]⟩,.int .i64 0,.slice none 0 0,.slice none 0 0,.int .i64 0,.int .i64 0] 50 rfl rfl rfl rfl (by rw [z1];exact Tryz.sizeLit) (by rw [z1];rfl) w1.out ?_)
   have n1:=(Mod.refl [] wr).alloc (Obj.cells C1 50)
   have x1:=heap_alloc_new wr (Obj.cells C1 50)
   generalize wr.alloc (Obj.cells C1 50)=wa at *
   have NA:=Lib.hid n1;have XA:=Lib.hid x1;have K3:=Hxq (K2.out.keep n1 (by simp)).rng
   have hza:=lt_of_block x1
   clear n1 x1 K1 K2
   go_upto_region 8 with (first | refine wpList_load_mid rfl 50 _ rfl g2 (o2+j * 30) rfl C2.toList _ K3.out Tryz.underlying50 rfl (HSZ.out C2 z2) ?_ | refine wpList_store_new rfl 50 _ _ rfl wa wa.heap.size C2 #[.int .i64 0,.string ⟨#[]⟩,.slice none 0 0,.int .i64 0,.int .i64 0,.string ⟨#[]⟩,.int .i64 0,.int .i64 0,.string ⟨#[]⟩,.int .i64 0,.slice none 0 0,.int .i64 0,.string ⟨#[]⟩,.int .i64 0,.int .i64 0,.string ⟨#[]⟩,.int .i64 0,.slice none 0 0,.int .i64 0,.string ⟨#[]⟩,.int .i64 0,.string ⟨#[]⟩,.int .i64 0,.int .i64 0,.string ⟨#[]⟩,.int .i64 0,.slice none 0 0,.slice none 0 0,.int .i64 0,.int .i64 0] 50 rfl rfl rfl rfl (by rw [z2];exact Tryz.sizeLit) (by rw [z2];rfl) w2.out ?_)
   have n2:=(Mod.refl [] wa).alloc (Obj.cells C2 50)
   have x2:=heap_alloc_new wa (Obj.cells C2 50)
   generalize wa.alloc (Obj.cells C2 50)=wb at *
   have X1:=Hxq (n2.at XA.out (by simp));have X2:=Lib.hid x2;have N0:=Hxq (NA.out.trans n2 (by simp))
   clear n2 x2 XA NA K3 w1 w2
   rw [HC1.out] at X1
   rw [HC2.out] at X2
   clear HC1 HC2 z1 z2 HSZ
   have x0:_:=cell_at X1.out 0;have y0:_:=cell_at X2.out 0
   have x1:_:=cell_at X1.out 1;have y1:_:=cell_at X2.out 1
   have x2:_:=cell_at X1.out 2;have y2:_:=cell_at X2.out 2
   have x3:_:=cell_at X1.out 3;have y3:_:=cell_at X2.out 3
   have x4:_:=cell_at X1.out 4;have y4:_:=cell_at X2.out 4
   have x5:_:=cell_at X1.out 5;have y5:_:=cell_at X2.out 5
   have x6:_:=cell_at X1.out 6;have y6:_:=cell_at X2.out 6
   have x7:_:=cell_at X1.out 7;have y7:_:=cell_at X2.out 7
   have x8:_:=cell_at X1.out 8;have y8:_:=cell_at X2.out 8
   have x9:_:=cell_at X1.out 9;have y9:_:=cell_at X2.out 9
   have x10:_:=cell_at X1.out 10;have y10:_:=cell_at X2.out 10
   have x11:_:=cell_at X1.out 11;have y11:_:=cell_at X2.out 11
   have x12:_:=cell_at X1.out 12;have y12:_:=cell_at X2.out 12
   have x13:_:=cell_at X1.out 13;have y13:_:=cell_at X2.out 13
   have x14:_:=cell_at X1.out 14;have y14:_:=cell_at X2.out 14
   have x15:_:=cell_at X1.out 15;have y15:_:=cell_at X2.out 15
   have x16:_:=cell_at X1.out 16;have y16:_:=cell_at X2.out 16
   have x17:_:=cell_at X1.out 17;have y17:_:=cell_at X2.out 17
   have x28:_:=cell_at X1.out 28;have y28:_:=cell_at X2.out 28
   have x29:_:=cell_at X1.out 29;have y29:_:=cell_at X2.out 29
   simp only [List.getElem?_toArray,List.getElem?_cons_zero,List.getElem?_cons_succ] at x0 y0 x1 y1 x2 y2 x3 y3 x4 y4 x5 y5 x6 y6 x7 y7 x8 y8 x9 y9 x10 y10 x11 y11 x12 y12 x13 y13 x14 y14 x15 y15 x16 y16 x17 y17 x28 y28 x29 y29
   go_wp2_with fail
   refine (sameAtom_any ⟨rel,ts⟩ hB1 _ _ wb (HT1.out.keep N0.out (by simp)) (HT2.out.keep N0.out (by simp))).mono ?_
   rintro e1 v1 ⟨rfl,m1⟩
   have M1:=Hxq (N0.out.trans m1 (by simp));have XA1:=Hxq (m1.at X1.out (by simp));have XB1:=Hxq (m1.at X2.out (by simp))
   clear m1 X1 X2
   clear x0 y0 x1 y1 x2 y2 x3 y3 x4 y4 x5 y5 x6 y6 x7 y7 x8 y8 x9 y9 x10 y10 x11 y11 x12 y12 x13 y13 x14 y14 x15 y15 x16 y16 x17 y17 x28 y28 x29 y29
   have x0:_:=cell_at XA1.out 0;have y0:_:=cell_at XB1.out 0
   have x1:_:=cell_at XA1.out 1;have y1:_:=cell_at XB1.out 1
   have x2:_:=cell_at XA1.out 2;have y2:_:=cell_at XB1.out 2
   have x3:_:=cell_at XA1.out 3;have y3:_:=cell_at XB1.out 3
   have x4:_:=cell_at XA1.out 4;have y4:_:=cell_at XB1.out 4
   have x5:_:=cell_at XA1.out 5;have y5:_:=cell_at XB1.out 5
   have x6:_:=cell_at XA1.out 6;have y6:_:=cell_at XB1.out 6
   have x7:_:=cell_at XA1.out 7;have y7:_:=cell_at XB1.out 7
   have x8:_:=cell_at XA1.out 8;have y8:_:=cell_at XB1.out 8
   have x9:_:=cell_at XA1.out 9;have y9:_:=cell_at XB1.out 9
   have x10:_:=cell_at XA1.out 10;have y10:_:=cell_at XB1.out 10
   have x11:_:=cell_at XA1.out 11;have y11:_:=cell_at XB1.out 11
   have x12:_:=cell_at XA1.out 12;have y12:_:=cell_at XB1.out 12
   have x13:_:=cell_at XA1.out 13;have y13:_:=cell_at XB1.out 13
   have x14:_:=cell_at XA1.out 14;have y14:_:=cell_at XB1.out 14
   have x15:_:=cell_at XA1.out 15;have y15:_:=cell_at XB1.out 15
   have x16:_:=cell_at XA1.out 16;have y16:_:=cell_at XB1.out 16
   have x17:_:=cell_at XA1.out 17;have y17:_:=cell_at XB1.out 17
   have x28:_:=cell_at XA1.out 28;have y28:_:=cell_at XB1.out 28
   have x29:_:=cell_at XA1.out 29;have y29:_:=cell_at XB1.out 29
   simp only [List.getElem?_toArray,List.getElem?_cons_zero,List.getElem?_cons_succ] at x0 y0 x1 y1 x2 y2 x3 y3 x4 y4 x5 y5 x6 y6 x7 y7 x8 y8 x9 y9 x10 y10 x11 y11 x12 y12 x13 y13 x14 y14 x15 y15 x16 y16 x17 y17 x28 y28 x29 y29
   go_wp2_with fail
   refine (sameExpr_any le hB2 _ _ v1 (HL1.out.keep M1.out (by simp)) (HL2.out.keep M1.out (by simp))).mono ?_
   rintro e2 v2 ⟨rfl,m2⟩
   have M2:=Hxq (M1.out.trans m2 (by simp));have XA2:=Hxq (m2.at XA1.out (by simp));have XB2:=Hxq (m2.at XB1.out (by simp))
   clear m2 XA1 XB1
   clear x0 y0 x1 y1 x2 y2 x3 y3 x4 y4 x5 y5 x6 y6 x7 y7 x8 y8 x9 y9 x10 y10 x11 y11 x12 y12 x13 y13 x14 y14 x15 y15 x16 y16 x17 y17 x28 y28 x29 y29
   have x0:_:=cell_at XA2.out 0;have y0:_:=cell_at XB2.out 0
   have x1:_:=cell_at XA2.out 1;have y1:_:=cell_at XB2.out 1
   have x2:_:=cell_at XA2.out 2;have y2:_:=cell_at XB2.out 2
   have x3:_:=cell_at XA2.out 3;have y3:_:=cell_at XB2.out 3
   have x4:_:=cell_at XA2.out 4;have y4:_:=cell_at XB2.out 4
   have x5:_:=cell_at XA2.out 5;have y5:_:=cell_at XB2.out 5
   have x6:_:=cell_at XA2.out 6;have y6:_:=cell_at XB2.out 6
   have x7:_:=cell_at XA2.out 7;have y7:_:=cell_at XB2.out 7
   have x8:_:=cell_at XA2.out 8;have y8:_:=cell_at XB2.out 8
   have x9:_:=cell_at XA2.out 9;have y9:_:=cell_at XB2.out 9
   have x10:_:=cell_at XA2.out 10;have y10:_:=cell_at XB2.out 10
   have x11:_:=cell_at XA2.out 11;have y11:_:=cell_at XB2.out 11
   have x12:_:=cell_at XA2.out 12;have y12:_:=cell_at XB2.out 12
   have x13:_:=cell_at XA2.out 13;have y13:_:=cell_at XB2.out 13
   have x14:_:=cell_at XA2.out 14;have y14:_:=cell_at XB2.out 14
   have x15:_:=cell_at XA2.out 15;have y15:_:=cell_at XB2.out 15
   have x16:_:=cell_at XA2.out 16;have y16:_:=cell_at XB2.out 16
   have x17:_:=cell_at XA2.out 17;have y17:_:=cell_at XB2.out 17
   have x28:_:=cell_at XA2.out 28;have y28:_:=cell_at XB2.out 28
   have x29:_:=cell_at XA2.out 29;have y29:_:=cell_at XB2.out 29
   simp only [List.getElem?_toArray,List.getElem?_cons_zero,List.getElem?_cons_succ] at x0 y0 x1 y1 x2 y2 x3 y3 x4 y4 x5 y5 x6 y6 x7 y7 x8 y8 x9 y9 x10 y10 x11 y11 x12 y12 x13 y13 x14 y14 x15 y15 x16 y16 x17 y17 x28 y28 x29 y29
   go_wp2_with fail
   refine (sameExpr_any re hB3 _ _ v2 (HR1.out.keep M2.out (by simp)) (HR2.out.keep M2.out (by simp))).mono ?_
   rintro e3 v3 ⟨rfl,m3⟩
   have M3:=Hxq (M2.out.trans m3 (by simp));have XA3:=Hxq (m3.at XA2.out (by simp));have XB3:=Hxq (m3.at XB2.out (by simp))
   clear m3 XA2 XB2
   clear x0 y0 x1 y1 x2 y2 x3 y3 x4 y4 x5 y5 x6 y6 x7 y7 x8 y8 x9 y9 x10 y10 x11 y11 x12 y12 x13 y13 x14 y14 x15 y15 x16 y16 x17 y17 x28 y28 x29 y29
   have x18:_:=cell_at XA3.out 18;have y18:_:=cell_at XB3.out 18
   have x19:_:=cell_at XA3.out 19;have y19:_:=cell_at XB3.out 19
   have x20:_:=cell_at XA3.out 20;have y20:_:=cell_at XB3.out 20
   have x21:_:=cell_at XA3.out 21;have y21:_:=cell_at XB3.out 21
   have x22:_:=cell_at XA3.out 22;have y22:_:=cell_at XB3.out 22
   have x23:_:=cell_at XA3.out 23;have y23:_:=cell_at XB3.out 23
   have x24:_:=cell_at XA3.out 24;have y24:_:=cell_at XB3.out 24
   have x25:_:=cell_at XA3.out 25;have y25:_:=cell_at XB3.out 25
   have x26:_:=cell_at XA3.out 26;have y26:_:=cell_at XB3.out 26
   have x27:_:=cell_at XA3.out 27;have y27:_:=cell_at XB3.out 27
   simp only [List.getElem?_toArray,List.getElem?_cons_zero,List.getElem?_cons_succ] at x18 y18 x19 y19 x20 y20 x21 y21 x22 y22 x23 y23 x24 y24 x25 y25 x26 y26 x27 y27
   go_wp2_with fail
   refine (sameExpr_any of hB4 _ _ v3 (HO1.out.keep M3.out (by simp)) (HO2.out.keep M3.out (by simp))).mono ?_
   rintro e4 v4 ⟨rfl,m4⟩
   have M4:=Hxq (M3.out.trans m4 (by simp));have XA4:=Hxq (m4.at XA3.out (by simp));have XB4:=Hxq (m4.at XB3.out (by simp))
   clear m4 XA3 XB3
   clear x18 y18 x19 y19 x20 y20 x21 y21 x22 y22 x23 y23 x24 y24 x25 y25 x26 y26 x27 y27
   have x18:_:=cell_at XA4.out 18;have y18:_:=cell_at XB4.out 18
   have x19:_:=cell_at XA4.out 19;have y19:_:=cell_at XB4.out 19
   have x20:_:=cell_at XA4.out 20;have y20:_:=cell_at XB4.out 20
   have x21:_:=cell_at XA4.out 21;have y21:_:=cell_at XB4.out 21
   have x22:_:=cell_at XA4.out 22;have y22:_:=cell_at XB4.out 22
   have x23:_:=cell_at XA4.out 23;have y23:_:=cell_at XB4.out 23
   have x24:_:=cell_at XA4.out 24;have y24:_:=cell_at XB4.out 24
   have x25:_:=cell_at XA4.out 25;have y25:_:=cell_at XB4.out 25
   have x26:_:=cell_at XA4.out 26;have y26:_:=cell_at XB4.out 26
   have x27:_:=cell_at XA4.out 27;have y27:_:=cell_at XB4.out 27
   simp only [List.getElem?_toArray,List.getElem?_cons_zero,List.getElem?_cons_succ] at x18 y18 x19 y19 x20 y20 x21 y21 x22 y22 x23 y23 x24 y24 x25 y25 x26 y26 x27 y27
   go_wp2_with fail
   refine (HS.out body hD hB5 hB6 _ _ _ _ v4 (HB1.out.keep M4.out (by simp)) (HB2.out.keep M4.out (by simp))).mono ?_
   rintro e5 v5 ⟨rfl,m5⟩
   have M5:=Hxq (M4.out.trans m5 (by simp));have XA5:=Hxq (m5.at XA4.out (by simp));have XB5:=Hxq (m5.at XB4.out (by simp))
   clear m5 XA4 XB4
   clear x18 y18 x19 y19 x20 y20 x21 y21 x22 y22 x23 y23 x24 y24 x25 y25 x26 y26 x27 y27
   go_wp2_with fail
   go_roundw
   case rel=>exact ⟨j+1,by omega,by go_num,MR.out.trans M5.out (by simp)⟩
   case measure=>simp [intOf];omega
  ·obtain rfl:j=l.length:=by omega
   have hjI:¬ (l.length:Int)<(l.length:Int):=by omega
   go_wp2_with fail
   go_ret
   exact ⟨rfl,MR.out⟩
theorem sli_all:∀ d,SLi d
 | 0=>fun l hd=>absurd hd (by omega)
 | d+1=>sli_of d (sli_all d)
theorem sameLits_any {F G:Nat->Prop} (l:List Pr.Li) (hl:l.length<=140737488355328) (hM:liMs l<=140737488355328) (u u':Value) (w:World) (h:BB F w l u) (h':BB G w l u') :
  Calls Tryz.prog 38 #[u,u'] w (Tru w):=sli_all (liDs l+1) l (Nat.lt_succ_self _) hl hM F G u u' w h h'
end Go.Proofs.YtppigckioalhhaaGreatDoorR
