/- THE TEXTS MERGED: SySame3 SyAt SyDeepP SySim. -/
import Derived.Test.YtppigckioalhhaaGreatDoorRKP1
import Derived.Test.YtppigckioalhhaaGreatDoorRKP21
import Derived.Test.YtppigckioalhhaaGreatDoorRKP20
import Derived.Test.YtppigckioalhhaaGreatDoorRKP6
namespace Go.Proofs.YtppigckioalhhaaGreatDoorR
open Go.RowKit
set_option linter.unusedVariables false
set_option linter.unusedSimpArgs false
set_option maxRecDepth 100000
section
variable {F G:Nat->Prop} {w:World} {p:Pr.Prog} {x:Value}
theorem PgB.lit (h:PgB F w p x):∃ a c b d,x=.agg #[.slice a p.rels.length c,.slice b p.rules.length d]:=by
 obtain ⟨rels,rus,u1,u2,rfl,rfl,h1,h2,-,-⟩:=h
 obtain ⟨a,c,rfl⟩:=h1.lit
 obtain ⟨b,d,rfl⟩:=h2.lit
 exact ⟨a,c,b,d,by simp⟩
theorem PgB.keep {S:List Nat} {w':World} (h:PgB F w p x) (hm:Mod S w w') (hS:∀ s∈S,¬ F s):PgB F w' p x:=by
 obtain ⟨rels,rus,u1,u2,rfl,rfl,h1,h2,h3,h4⟩:=h
 exact ⟨rels,rus,u1,u2,rfl,rfl,h1.keep hm hS,h2.keep hm hS,fun q hq=>(h3 q hq).keep hm hS,fun q hq=>(h4 q hq).keep hm hS⟩
theorem PgB.mono (h:PgB F w p x) (hF:∀ k,F k->k<w.heap.size->G k):PgB G w p x:=by
 obtain ⟨rels,rus,u1,u2,rfl,rfl,h1,h2,h3,h4⟩:=h
 exact ⟨rels,rus,u1,u2,rfl,rfl,h1.mono hF,h2.mono hF,fun q hq=>(h3 q hq).mono hF,fun q hq=>(h4 q hq).mono hF⟩
theorem PgB.relAt {a b:Option Addr} {c d:Nat} (h:PgB F w p (.agg #[.slice a p.rels.length c,.slice b p.rules.length d])) (i:Nat) (hi:i<p.rels.length) :
  ∃ g o u,a=some ⟨g,o,none⟩/\CellsAt w g (o+i * 4) (reV p.rels[i] u)/\RowB F w 1 intC p.rels[i].types u:=by
 obtain ⟨rels,rus,u1,u2,hx,rfl,h1,h2,h3,h4⟩:=h
 simp only [Value.agg.injEq,Array.mk.injEq,List.cons.injEq,and_true,List.length_map] at hx hi
 obtain ⟨rfl,rfl⟩:=hx
 obtain ⟨g,o,ha,hc⟩:=h1.at i hi
 refine ⟨g,o,rels[i].2,ha,?_,?_⟩
 ·simpa [csR] using hc
 ·simpa [RelB] using h3 _ (List.getElem_mem hi)
theorem PgB.rulAt {a b:Option Addr} {c d:Nat} (h:PgB F w p (.agg #[.slice a p.rels.length c,.slice b p.rules.length d])) (i:Nat) (hi:i<p.rules.length) :
  ∃ g o u u',b=some ⟨g,o,none⟩/\CellsAt w g (o+i * 5) (ruV p.rules[i] u u')/\RowB F w 5 tmV p.rules[i].head.terms u/\BB F w p.rules[i].body u':=by
 obtain ⟨rels,rus,u1,u2,hx,rfl,h1,h2,h3,h4⟩:=h
 simp only [Value.agg.injEq,Array.mk.injEq,List.cons.injEq,and_true,List.length_map] at hx hi
 obtain ⟨rfl,rfl⟩:=hx
 obtain ⟨g,o,ha,hc⟩:=h2.at i hi
 have h5:=h4 _ (List.getElem_mem hi)
 refine ⟨g,o,rus[i].2.1,rus[i].2.2,ha,?_,?_,?_⟩
 ·simpa [csU] using hc
 ·simpa using h5.1
 ·simpa using h5.2
end
/-- no list is longer -/
structure PgM (p:Pr.Prog):Prop where
 rels:p.rels.length<=1048576
 rules:p.rules.length<=1048576
 types:∀ r∈p.rels,r.types.length<=1048576
 terms:∀ r∈p.rules,r.head.terms.length<=1048576
 body:∀ r∈p.rules,r.body.length<=1048576
 deep:∀ r∈p.rules,liMs r.body<=1048576
set_option maxHeartbeats 16000000 in
theorem sameProg_any {F G:Nat->Prop} (p:Pr.Prog) (hM:PgM p) (u u':Value) (w:World) (h:PgB F w p u) (h':PgB G w p u') :
  Calls Tryz.prog 12 #[u,u'] w (Tru w):=by
 obtain ⟨a1,c1,b1,d1,rfl⟩:=h.lit
 obtain ⟨a2,c2,b2,d2,rfl⟩:=h'.lit
 obtain ⟨rels,rules⟩:=p
 have HMM:=Lib.hid hM
 have hl1:=hM.rels
 have hl2:=hM.rules
 dsimp only at *
 have H1:=Lib.hid h;have H2:=Lib.hid h'
 clear h h' hM
 have mA:=((Mod.refl [] w).alloc (Obj.cells #[.slice a1 rels.length c1,.slice b1 rules.length d1] 26)).alloc (Obj.cells #[.slice a2 rels.length c2,.slice b2 rules.length d2] 26)
 have eA:=two_a w #[.slice a1 rels.length c1,.slice b1 rules.length d1] #[.slice a2 rels.length c2,.slice b2 rules.length d2] 26 26
 have eB:=two_b w #[.slice a1 rels.length c1,.slice b1 rules.length d1] #[.slice a2 rels.length c2,.slice b2 rules.length d2] 26 26
 go_enter Tryz.func12,Tryz.ntmps12
 go_upto_region 1 with fail
 generalize (w.alloc (Obj.cells _ 26)).alloc (Obj.cells _ 26)=w0 at *
 have M0:=Lib.hid mA;have E0:=Lib.hid eA;have E1:=Lib.hid eB
 clear mA eA eB
 have x0:=cell_at E0.out 0;have y0:=cell_at E1.out 0
 have x1:=cell_at E0.out 1;have y1:=cell_at E1.out 1
 simp only [List.getElem?_toArray,List.getElem?_cons_zero,List.getElem?_cons_succ] at x0 y0 x1 y1
 go_wp2_with fail
 clear x0 x1 y0 y1
 go_loopw [5] (fun iv wr=>∃ j:Nat,j<=rels.length/\iv=.int .i64 (j:Nat)/\Mod [] w0 wr) (fun iv _=>rels.length - (intOf iv).toNat)
 case atStart=>exact ⟨0,Nat.zero_le _,rfl,Mod.refl _ _⟩
 case round =>
  obtain ⟨j,hj,rfl,hm⟩:=hrel
  have x0:=cell_at (hm.at E0.out (by simp)) 0;have y0:=cell_at (hm.at E1.out (by simp)) 0
  have x1:=cell_at (hm.at E0.out (by simp)) 1;have y1:=cell_at (hm.at E1.out (by simp)) 1
  simp only [List.getElem?_toArray,List.getElem?_cons_zero,List.getElem?_cons_succ] at x0 y0 x1 y1
  have MR:=Hxq (M0.out.trans hm (by simp));have HM:=Lib.hid hm
  clear hm
  by_cases hlt:j<rels.length
  ·have hjI:(j:Int)<(rels.length:Int):=by omega
   have hj0:(0:Int)<=(j:Int):=by omega
   obtain ⟨g1,o1,t1,rfl,hc1,ht1⟩:=(H1.out.keep MR.out (by simp)).relAt j hlt
   obtain ⟨g2,o2,t2,rfl,hc2,ht2⟩:=(H2.out.keep MR.out (by simp)).relAt j hlt
   have hty:=HMM.out.types _ (List.getElem_mem hlt)
   dsimp only at hc1 hc2 ht1 ht2
   generalize rels[j]=y at *
   obtain ⟨nm,tys,ln,cl⟩:=y
   obtain ⟨ya1,yc1,rfl⟩:=ht1.lit
   obtain ⟨ya2,yc2,rfl⟩:=ht2.lit
   have HT1:=Lib.hid ht1;have HT2:=Lib.hid ht2
   dsimp only at hty
   clear ht1 ht2
   have p0:=hc1 0 (.string nm) rfl;have p1:=hc1 1 (.slice ya1 tys.length yc1) rfl;have p2:=hc1 2 (.int .i64 ln) rfl;have p3:=hc1 3 (.int .i64 cl) rfl
   have q0:=hc2 0 (.string nm) rfl;have q1:=hc2 1 (.slice ya2 tys.length yc2) rfl;have q2:=hc2 2 (.int .i64 ln) rfl;have q3:=hc2 3 (.int .i64 cl) rfl
   rw [Nat.add_zero] at p0 q0
   have q0:=((Mod.refl [] wr).alloc (Obj.cells #[.string nm,.slice ya1 tys.length yc1,.int .i64 ln,.int .i64 cl] 81)).cell q0 (by simp);have q1:=((Mod.refl [] wr).alloc (Obj.cells #[.string nm,.slice ya1 tys.length yc1,.int .i64 ln,.int .i64 cl] 81)).cell q1 (by simp);have q2:=((Mod.refl [] wr).alloc (Obj.cells #[.string nm,.slice ya1 tys.length yc1,.int .i64 ln,.int .i64 cl] 81)).cell q2 (by simp);have q3:=((Mod.refl [] wr).alloc (Obj.cells #[.string nm,.slice ya1 tys.length yc1,.int .i64 ln,.int .i64 cl] 81)).cell q3 (by simp)
   clear hc1 hc2
   have eR1:=two_a wr #[.string nm,.slice ya1 tys.length yc1,.int .i64 ln,.int .i64 cl] #[.string nm,.slice ya2 tys.length yc2,.int .i64 ln,.int .i64 cl] 81 81
   have eR2:=two_b wr #[.string nm,.slice ya1 tys.length yc1,.int .i64 ln,.int .i64 cl] #[.string nm,.slice ya2 tys.length yc2,.int .i64 ln,.int .i64 cl] 81 81
   have mR:=((Mod.refl [] wr).alloc (Obj.cells #[.string nm,.slice ya1 tys.length yc1,.int .i64 ln,.int .i64 cl] 81)).alloc (Obj.cells #[.string nm,.slice ya2 tys.length yc2,.int .i64 ln,.int .i64 cl] 81)
   have y0':=((Mod.refl [] wr).alloc (Obj.cells #[.string nm,.slice ya1 tys.length yc1,.int .i64 ln,.int .i64 cl] 81)).cell y0 (by simp)
   go_upto_region 8 with fail
   generalize (wr.alloc (Obj.cells _ 81)).alloc (Obj.cells _ 81)=wb at *
   have E2:=Lib.hid eR1;have E3:=Lib.hid eR2;have MB:=Lib.hid mR
   have hTA:=Hxq (HT1.out.keep mR (by simp));have hTB:=Hxq (HT2.out.keep mR (by simp))
   clear eR1 eR2 mR p0 p1 p2 p3 q0 q1 q2 q3 x0 y0 y0' HT1 HT2
   have x0:=cell_at E2.out 0;have y0:=cell_at E3.out 0
   have x1:=cell_at E2.out 1;have y1:=cell_at E3.out 1
   have x2:=cell_at E2.out 2;have y2:=cell_at E3.out 2
   have x3:=cell_at E2.out 3;have y3:=cell_at E3.out 3
   simp only [List.getElem?_toArray,List.getElem?_cons_zero,List.getElem?_cons_succ] at x0 y0 x1 y1 x2 y2 x3 y3
   go_wp2_with fail
   clear x0 x1 x2 x3 y0 y1 y2 y3
   go_loopw [8] (fun iv wi=>∃ k:Nat,k<=tys.length/\iv=.int .i64 (k:Nat)/\Mod [] wb wi) (fun iv _=>tys.length - (intOf iv).toNat)
   case atStart=>exact ⟨0,Nat.zero_le _,rfl,Mod.refl _ _⟩
   case round =>
    obtain ⟨k,hk,rfl,hmi⟩:=hrel
    have x1:=cell_at (hmi.at E2.out (by simp)) 1;have y1:=cell_at (hmi.at E3.out (by simp)) 1
    simp only [List.getElem?_toArray,List.getElem?_cons_zero,List.getElem?_cons_succ] at x1 y1
    have MI:=Lib.hid hmi
    by_cases hlk:k<tys.length
    ·have hkI:(k:Int)<(tys.length:Int):=by omega
     have hk0:(0:Int)<=(k:Int):=by omega
     obtain ⟨g3,o3,rfl,hc3⟩:=(hTA.out.keep hmi (by simp)).at k hlk
     obtain ⟨g4,o4,rfl,hc4⟩:=(hTB.out.keep hmi (by simp)).at k hlk
     have r0:=hc3 0 (.int .i64 tys[k]) rfl
     have s0:=hc4 0 (.int .i64 tys[k]) rfl
     rw [Nat.add_zero,Nat.mul_one] at r0 s0
     clear hc3 hc4 hmi
     generalize tys[k]=ty at *
     go_wp2_with fail
     go_quiet (fail)
     go_wp2_with fail
     go_roundw
     case rel=>exact ⟨k+1,by omega,by go_num,by first | exact MI.out.drewN _ | exact MI.out.drew | exact MI.out⟩
     case measure=>simp [intOf];omega
    ·obtain rfl:k=tys.length:=by omega
     have hkI:¬ (tys.length:Int)<(tys.length:Int):=by omega
     clear hmi
     go_wp2_with fail
     go_roundw
     case rel=>exact ⟨j+1,by omega,by go_num,HM.out.trans (MB.out.trans MI.out (by simp)) (by simp)⟩
     case measure=>simp [intOf];omega
  ·obtain rfl:j=rels.length:=by omega
   have hjI:¬ (rels.length:Int)<(rels.length:Int):=by omega
   go_wp2_with fail
   clear x0 y0
   obtain ⟨wo,rfl⟩:∃ wo:World,wo=wr:=⟨_,rfl⟩
   go_loopw [9] (fun iv wr=>∃ j:Nat,j<=rules.length/\iv=.int .i64 (j:Nat)/\Mod [] w0 wr) (fun iv _=>rules.length - (intOf iv).toNat)
   case atStart=>exact ⟨0,Nat.zero_le _,rfl,HM.out⟩
   case round =>
    obtain ⟨j,hj,rfl,hm⟩:=hrel
    have x1:=cell_at (hm.at E0.out (by simp)) 1;have y1:=cell_at (hm.at E1.out (by simp)) 1
    simp only [List.getElem?_toArray,List.getElem?_cons_zero,List.getElem?_cons_succ] at x1 y1
    have MQ:=Hxq (M0.out.trans hm (by simp));have HQ:=Lib.hid hm
    clear hm
    by_cases hlt:j<rules.length
    ·have hjI:(j:Int)<(rules.length:Int):=by omega
     have hj0:(0:Int)<=(j:Int):=by omega
     obtain ⟨g1,o1,t1,s1,rfl,hc1,ht1,hb1⟩:=(H1.out.keep MQ.out (by simp)).rulAt j hlt
     obtain ⟨g2,o2,t2,s2,rfl,hc2,ht2,hb2⟩:=(H2.out.keep MQ.out (by simp)).rulAt j hlt
     have hq1:=HMM.out.terms _ (List.getElem_mem hlt)
     have hq2:=HMM.out.body _ (List.getElem_mem hlt)
     have hq3:=HMM.out.deep _ (List.getElem_mem hlt)
     dsimp only at hc1 hc2 ht1 ht2 hb1 hb2
     generalize rules[j]=y at *
     obtain ⟨⟨rel,ts⟩,body,ln,cl⟩:=y
     obtain ⟨ta1,tc1,rfl⟩:=ht1.lit
     obtain ⟨ta2,tc2,rfl⟩:=ht2.lit
     obtain ⟨ba1,bc1,rfl⟩:=hb1.lit
     obtain ⟨ba2,bc2,rfl⟩:=hb2.lit
     have HT1:=Lib.hid ht1;have HT2:=Lib.hid ht2;have HB1:=Lib.hid hb1;have HB2:=Lib.hid hb2
     dsimp only at hq1 hq2 hq3
     have hq1:ts.length<=140737488355328:=by omega
     have hq2:body.length<=140737488355328:=by omega
     have hq3:liMs body<=140737488355328:=by omega
     clear ht1 ht2 hb1 hb2
     have p0:=hc1 0 (.string rel) rfl;have q0:=hc2 0 (.string rel) rfl
     have p1:=hc1 1 (.slice ta1 ts.length tc1) rfl;have q1:=hc2 1 (.slice ta2 ts.length tc2) rfl
     have p2:=hc1 2 (.slice ba1 body.length bc1) rfl;have q2:=hc2 2 (.slice ba2 body.length bc2) rfl
     have p3:=hc1 3 (.int .i64 ln) rfl;have q3:=hc2 3 (.int .i64 ln) rfl
     have p4:=hc1 4 (.int .i64 cl) rfl;have q4:=hc2 4 (.int .i64 cl) rfl
     rw [Nat.add_zero] at p0 q0
     have q0:=((Mod.refl [] wr).alloc (Obj.cells #[.string rel,.slice ta1 ts.length tc1,.slice ba1 body.length bc1,.int .i64 ln,.int .i64 cl] 55)).cell q0 (by simp);have q1:=((Mod.refl [] wr).alloc (Obj.cells #[.string rel,.slice ta1 ts.length tc1,.slice ba1 body.length bc1,.int .i64 ln,.int .i64 cl] 55)).cell q1 (by simp);have q2:=((Mod.refl [] wr).alloc (Obj.cells #[.string rel,.slice ta1 ts.length tc1,.slice ba1 body.length bc1,.int .i64 ln,.int .i64 cl] 55)).cell q2 (by simp);have q3:=((Mod.refl [] wr).alloc (Obj.cells #[.string rel,.slice ta1 ts.length tc1,.slice ba1 body.length bc1,.int .i64 ln,.int .i64 cl] 55)).cell q3 (by simp);have q4:=((Mod.refl [] wr).alloc (Obj.cells #[.string rel,.slice ta1 ts.length tc1,.slice ba1 body.length bc1,.int .i64 ln,.int .i64 cl] 55)).cell q4 (by simp)
     clear hc1 hc2
     have eR1:=two_a wr #[.string rel,.slice ta1 ts.length tc1,.slice ba1 body.length bc1,.int .i64 ln,.int .i64 cl] #[.string rel,.slice ta2 ts.length tc2,.slice ba2 body.length bc2,.int .i64 ln,.int .i64 cl] 55 55
     have eR2:=two_b wr #[.string rel,.slice ta1 ts.length tc1,.slice ba1 body.length bc1,.int .i64 ln,.int .i64 cl] #[.string rel,.slice ta2 ts.length tc2,.slice ba2 body.length bc2,.int .i64 ln,.int .i64 cl] 55 55
     have mR:=((Mod.refl [] wr).alloc (Obj.cells #[.string rel,.slice ta1 ts.length tc1,.slice ba1 body.length bc1,.int .i64 ln,.int .i64 cl] 55)).alloc (Obj.cells #[.string rel,.slice ta2 ts.length tc2,.slice ba2 body.length bc2,.int .i64 ln,.int .i64 cl] 55)
     have y1':=((Mod.refl [] wr).alloc (Obj.cells #[.string rel,.slice ta1 ts.length tc1,.slice ba1 body.length bc1,.int .i64 ln,.int .i64 cl] 55)).cell y1 (by simp)
     go_upto_region 20 with fail
     generalize (wr.alloc (Obj.cells _ 55)).alloc (Obj.cells _ 55)=wb at *
     have E2:=Lib.hid eR1;have E3:=Lib.hid eR2;have MB:=Lib.hid mR
     have hTA:=Hxq (HT1.out.keep mR (by simp));have hTB:=Hxq (HT2.out.keep mR (by simp));have hBA:=Hxq (HB1.out.keep mR (by simp));have hBB:=Hxq (HB2.out.keep mR (by simp))
     clear eR1 eR2 mR p0 p1 p2 p3 p4 q0 q1 q2 q3 q4 x1 y1 y1' HT1 HT2 HB1 HB2
     have x0:=cell_at E2.out 0;have y0:=cell_at E3.out 0
     have x1:=cell_at E2.out 1;have y1:=cell_at E3.out 1
     have x2:=cell_at E2.out 2;have y2:=cell_at E3.out 2
     have x3:=cell_at E2.out 3;have y3:=cell_at E3.out 3
     have x4:=cell_at E2.out 4;have y4:=cell_at E3.out 4
     simp only [List.getElem?_toArray,List.getElem?_cons_zero,List.getElem?_cons_succ] at x0 y0 x1 y1 x2 y2 x3 y3 x4 y4
     go_wp2_with fail
     refine (sameAtom_any ⟨rel,ts⟩ hq1 _ _ wb hTA.out hTB.out).mono ?_
     rintro e1 v1 ⟨rfl,m1⟩
     have M1:=Lib.hid m1
     clear x0 x1 x2 x3 x4 y0 y1 y2 y3 y4
     have x2:=cell_at (m1.at E2.out (by simp)) 2;have y2:=cell_at (m1.at E3.out (by simp)) 2
     simp only [List.getElem?_toArray,List.getElem?_cons_zero,List.getElem?_cons_succ] at x2 y2
     clear m1
     go_wp2_with fail
     refine (sameLits_any body hq2 hq3 _ _ v1 (hBA.out.keep M1.out (by simp)) (hBB.out.keep M1.out (by simp))).mono ?_
     rintro e2 v2 ⟨rfl,m2⟩
     have M2:=Lib.hid m2
     clear m2 x2 y2
     go_wp2_with fail
     go_roundw
     case rel=>exact ⟨j+1,by omega,by go_num,((HQ.out.trans MB.out (by simp)).trans M1.out (by simp)).trans M2.out (by simp)⟩
     case measure=>simp [intOf];omega
    ·obtain rfl:j=rules.length:=by omega
     have hjI:¬ (rules.length:Int)<(rules.length:Int):=by omega
     go_wp2_with fail
     go_ret
     exact ⟨rfl,MQ.out⟩
open Go.RowKit
set_option linter.unusedVariables false
set_option linter.unusedSimpArgs false
set_option maxRecDepth 100000
theorem tokC_size (t:Lx.Tok):(tokC t).size=7:=rfl
theorem TokRow.rowB {w:World} {base:Nat} {v:Value} {l:List Lx.Tok} (h:TokRow w base v l):RowB (fun k=>base<=k) w 7 tokC l v :=
 RowB.of_owns tokC_size h.row h.new
set_option maxHeartbeats 4000000 in
theorem at_any {F:Nat->Prop} (l:List Lx.Tok) (hl:l.length<=140737488355328) (u:Value) (ln cl:Int) (j:Nat) (hj:j<l.length) (h1:((l[j].line:Nat):Int)=ln) (h2:((l[j].col:Nat):Int)=cl)
  (hne:∀ i,(hi:i<j)->¬ (l[i].line=l[j].line/\l[i].col=l[j].col)) (w:World) (h:RowB F w 7 tokC l u) :
  Calls Tryz.prog 55 #[u,.agg #[.int .i64 ln,.int .i64 cl]] w fun e w'=>e=.returned (.int .i64 (j:Nat))/\Mod [] w w':=by
 subst h1;subst h2
 obtain ⟨a1,c1,rfl⟩:=h.lit
 have mA:=(Mod.refl [] w).alloc (Obj.cells #[.int .i64 ((l[j].line:Nat):Int),.int .i64 ((l[j].col:Nat):Int)] 29)
 have eA:=heap_alloc_new w (Obj.cells #[.int .i64 ((l[j].line:Nat):Int),.int .i64 ((l[j].col:Nat):Int)] 29)
 have H1:=Hxq (h.keep mA (by simp));have EA:=Lib.hid eA;have MA:=Lib.hid mA
 have HNE:=Lib.hid hne
 clear h mA eA hne
 go_enter Tryz.func55,Tryz.ntmps55
 go_upto_region 1 with fail
 generalize w.alloc (Obj.cells _ 29)=wA at *
 go_wp2_with fail
 go_loopw [5] (fun iv wr=>∃ k:Nat,k<=j/\iv=.int .i64 (k:Nat)/\Mod [] wA wr) (fun iv _=>l.length - (intOf iv).toNat)
 case atStart=>exact ⟨0,Nat.zero_le _,rfl,Mod.refl _ _⟩
 case round =>
  obtain ⟨k,hk,rfl,hm⟩:=hrel
  have MR:=Lib.hid hm
  have E2:=Hxq (hm.at EA.out (by simp))
  clear hm
  have hlt:k<l.length:=by omega
  have hkI:(k:Int)<(l.length:Int):=by omega
  have hk0:(0:Int)<=(k:Int):=by omega
  obtain ⟨b1,o1,rfl,hc1⟩:=(H1.out.keep MR.out (by simp)).at k hlt
  have y0:=cell_at E2.out 0;have y1:=cell_at E2.out 1
  simp only [List.getElem?_toArray,List.getElem?_cons_zero,List.getElem?_cons_succ] at y0 y1
  have p5:=hc1 5 (.int .i64 (l[k].line:Nat)) rfl;have p6:=hc1 6 (.int .i64 (l[k].col:Nat)) rfl
  try dsimp only at p5 p6
  clear hc1
  by_cases hkj:k=j
  ·subst hkj
   generalize l[k].line=x1 at *
   generalize l[k].col=x2 at *
   have q1:((x1:Int) == (x1:Int))=true:=by simp
   have q2:((x2:Int) == (x2:Int))=true:=by simp
   clear HNE
   go_wp2_with fail
   go_quiet (fail)
   go_wp2_with fail
   go_ret
   exact ⟨rfl,MA.out.trans (by first | exact MR.out.drewN _ | exact MR.out.drew | exact MR.out) (by simp)⟩
  ·have hn:¬ (l[k].line=l[j].line/\l[k].col=l[j].col):=HNE.out k (by omega)
   have hkj2:k+1<=j:=by omega
   clear HNE hkj
   generalize l[k].line=x1 at *
   generalize l[k].col=x2 at *
   generalize l[j].line=x3 at *
   generalize l[j].col=x4 at *
   by_cases hq:x1=x3
   ·have q1:((x1:Int) == (x3:Int))=true:=by rw [beq_iff_eq];omega
    have q2:((x2:Int) == (x4:Int))=false:=by rw [beq_eq_false_iff_ne];exact fun hh=>hn ⟨hq,by omega⟩
    clear hq hn
    go_wp2_with fail
    go_quiet (fail)
    go_wp2_with fail
    go_roundw
    case rel=>exact ⟨k+1,by omega,by go_num,by first | exact MR.out.drewN _ | exact MR.out.drew | exact MR.out⟩
    case measure=>simp [intOf];omega
   ·have q1:((x1:Int) == (x3:Int))=false:=by rw [beq_eq_false_iff_ne];omega
    clear hq hn
    go_wp2_with fail
    go_quiet (fail)
    go_wp2_with fail
    go_roundw
    case rel=>exact ⟨k+1,by omega,by go_num,by first | exact MR.out.drewN _ | exact MR.out.drew | exact MR.out⟩
    case measure=>simp [intOf];omega
end Go.Proofs.YtppigckioalhhaaGreatDoorR
namespace Go.Proofs.YtppigckioalhhaaGreatDoorR.Sy
open Lx (Tok St word skipN goes)
open Pr (Ex)
set_option linter.unusedVariables false
set_option linter.unusedSimpArgs false
/-- a word but for its place -/
structure Sh where
 kind:Nat
 text:List Nat
 vk:Nat
 num:Nat
 sym:List Nat
deriving DecidableEq
def sh (t:Lx.Tok):Sh:=⟨t.kind,t.text,t.vk,t.num,t.sym⟩
open Lx (Tok)
open Pr (Term Atom Ex Li Rul Rel Prog)
/-- without places -/
def bareL:Li->Li
 | .mk k a op l r fn av of body ln cl=>.mk k a op l r fn av of (bareLs body) 0 0
where bareLs:List Li->List Li
 | []=>[]
 | x :: r=>bareL x :: bareLs r
theorem bareLs_map (l:List Li):bareL.bareLs l=l.map bareL:=by
 induction l with
 | nil=>rfl
 | cons a r ih=>rw [bareL.bareLs,ih];rfl
theorem bareL_eq (k:Int) (a:Atom) (op:Int) (l r:Ex) (fn:Int) (av:ByteArray) (of:Ex) (body:List Li) (ln cl:Int):bareL (.mk k a op l r fn av of body ln cl)=.mk k a op l r fn av of (body.map bareL) 0 0:=by
 rw [bareL,bareLs_map]
def bareU (x:Rul):Rul:=⟨x.head,x.body.map bareL,0,0⟩
def bareR (x:Rel):Rel:=⟨x.name,x.types,0,0⟩
def bareP (p:Prog):Prog:=⟨p.rels.map bareR,p.rules.map bareU⟩
/-- one by one -/
inductive All2 {α:Type} (R:α->α->Prop):List α->List α->Prop
 | nil:All2 R [] []
 | cons {a b:α} {l l':List α} (h:R a b) (t:All2 R l l'):All2 R (a :: l) (b :: l')
section
variable {α β:Type} {v v':Env}
theorem sign_sh {t t':Lx.Tok} (h:sh t'=sh t) (s:List Nat):sign t' s=sign t s:=by
 unfold sh at h
 simp only [Sh.mk.injEq] at h
 unfold sign
 rw [h.1,h.2.1]
theorem kind_sh' {t t':Lx.Tok} (h:sh t'=sh t):t'.kind=t.kind:=congrArg Sh.kind h
theorem text_sh {t t':Lx.Tok} (h:sh t'=sh t):t'.text=t.text:=congrArg Sh.text h
theorem plain_sh {t t':Lx.Tok} (h:sh t'=sh t):plain t'=plain t:=by
 unfold plain
 rw [kind_sh' h,text_sh h]
theorem placeF_sh' {t t':Lx.Tok} (h:sh t'=sh t):∀ (l:List (List Nat)) (k:Nat),placeF t' l k=placeF t l k
 | [],k=>rfl
 | s :: r,k=>by rw [placeF,placeF,sign_sh h,placeF_sh' h r (k+1)]
theorem fnOf_sh {t t':Lx.Tok} (h:sh t'=sh t):fnOf t'=fnOf t:=placeF_sh' h _ _
theorem cmpOf_sh {t t':Lx.Tok} (h:sh t'=sh t):cmpOf t'=cmpOf t:=placeF_sh' h _ _
theorem level_sh {t t':Lx.Tok} (h:sh t'=sh t):level t'=level t:=by
 unfold level
 simp only [sign_sh h]
theorem operand_sh {t t':Lx.Tok} (h:sh t'=sh t):operand t'=operand t:=by
 unfold operand
 rw [kind_sh' h,plain_sh h,sign_sh h,sign_sh h]
theorem const_sh2 {v v':Env} {i i':Nat} (h0:sh (v'.tk i')=sh (v.tk i)) (h1:sh (v'.tk (i'+1))=sh (v.tk (i+1))):constant v' i'=constant v i:=by
 have e0:=h0
 have e1:=h1
 unfold sh at e0 e1
 simp only [Sh.mk.injEq] at e0 e1
 unfold constant
 rw [plain_sh h0,sign_sh h0,e0.1,e0.2.1,e0.2.2.1,e0.2.2.2.1,e0.2.2.2.2,e1.1,e1.2.2.2.1]
theorem forall2_eq {l l':List α} (h:All2 Eq l l'):l=l':=by
 induction h with
 | nil=>rfl
 | cons a b ih=>rw [a,ih]
def RL (l l':Li):Prop:=bareL l=bareL l'
theorem forall2_map {γ:Type} {f:α->γ} {l l':List α} (h:All2 (fun a b=>f a=f b) l l'):l.map f=l'.map f:=by
 induction h with
 | nil=>rfl
 | cons a b ih=>rw [List.map_cons,List.map_cons,a,ih]
theorem snoc2 {R:α->α->Prop} {l l':List α} {a a':α} (hl:All2 R l l') (hr:R a a'):All2 R (l++[a]) (l'++[a']):=by
 induction hl with
 | nil=>exact .cons hr .nil
 | cons x y ih=>exact .cons x ih
def RA (g g':Ag):Prop:=g'.fn=g.fn/\g'.av=g.av/\g'.of=g.of/\g.body.map bareL=g'.body.map bareL
end
end Go.Proofs.YtppigckioalhhaaGreatDoorR.Sy
