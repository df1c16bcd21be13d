/- THE TEXTS MERGED: SyShown SySame3 SyGrow SyCopy2 SySlice SyCopy3 SyCopy4 SyDeepP SySim TyMem. -/
import Derived.Test.YtohnmnfhmbmoaaaGreatDoorKG4
import Derived.Recover
import Derived.Defers
import Derived.Laws.Pointers
import Derived.Laws.EntriesVeiled
import Derived.Great.BuildSlice
namespace Go.Proofs.YtohnmnfhmbmoaaaGreatDoor
open Go.RowKit
set_option linter.unusedVariables false
set_option linter.unusedSimpArgs false
set_option maxRecDepth 100000
section
variable (w:World) (Z F C D:Array Value) (T U:TypeId)
theorem two_a:((w.alloc (.cells Z T)).alloc (.cells F U)).heap[w.heap.size]?=some (.cells Z T (0,0)):=((Mod.refl [] (w.alloc (.cells Z T))).alloc (.cells F U)).at (heap_alloc_new w _) (by simp)
theorem two_b:((w.alloc (.cells Z T)).alloc (.cells F U)).heap[w.heap.size+1]?=some (.cells F U (0,0)):=by
 have:=heap_alloc_new (w.alloc (.cells Z T)) (.cells F U)
 rw [show (w.alloc (.cells Z T)).heap.size=w.heap.size+1 by simp] at this
 exact this
end
namespace Sy
def sP:Pr.Prog:=⟨[⟨txt [101],[1,2],1,10⟩],[⟨⟨txt [101],[⟨2,txt [],⟨1,1,[]⟩⟩,⟨2,txt [],⟨2,0,[97]⟩⟩]⟩,[],1,23⟩]⟩
end Sy
open Go.RowKit
set_option linter.unusedVariables false
set_option linter.unusedSimpArgs false
set_option maxRecDepth 100000
section
variable {F G:Nat->Prop} {w:World} {p:Pr.Prog} {x:Value}
theorem PgB.lit (h:PgB F w p x):∃ a c b d,x=.agg #[.slice a p.rels.length c,.slice b p.rules.length d]:=by
 obtain ⟨rels,rus,u1,u2,rfl,rfl,h1,h2,-,-⟩:=h
 obtain ⟨a,c,rfl⟩:=h1.lit
 obtain ⟨b,d,rfl⟩:=h2.lit
 exact ⟨a,c,b,d,by simp⟩
theorem PgB.keep {S:List Nat} {w':World} (h:PgB F w p x) (hm:Mod S w w') (hS:∀ s∈S,¬ F s):PgB F w' p x:=by
 obtain ⟨rels,rus,u1,u2,rfl,rfl,h1,h2,h3,h4⟩:=h
 exact ⟨rels,rus,u1,u2,rfl,rfl,h1.keep hm hS,h2.keep hm hS,fun q hq=>(h3 q hq).keep hm hS,fun q hq=>(h4 q hq).keep hm hS⟩
theorem PgB.mono (h:PgB F w p x) (hF:∀ k,F k->k<w.heap.size->G k):PgB G w p x:=by
 obtain ⟨rels,rus,u1,u2,rfl,rfl,h1,h2,h3,h4⟩:=h
 exact ⟨rels,rus,u1,u2,rfl,rfl,h1.mono hF,h2.mono hF,fun q hq=>(h3 q hq).mono hF,fun q hq=>(h4 q hq).mono hF⟩
theorem PgB.relAt {a b:Option Addr} {c d:Nat} (h:PgB F w p (.agg #[.slice a p.rels.length c,.slice b p.rules.length d])) (i:Nat) (hi:i<p.rels.length) :
  ∃ g o u,a=some ⟨g,o,none⟩/\CellsAt w g (o+i * 4) (reV p.rels[i] u)/\RowB F w 1 intC p.rels[i].types u:=by
 obtain ⟨rels,rus,u1,u2,hx,rfl,h1,h2,h3,h4⟩:=h
 simp only [Value.agg.injEq,Array.mk.injEq,List.cons.injEq,and_true,List.length_map] at hx hi
 obtain ⟨rfl,rfl⟩:=hx
 obtain ⟨g,o,ha,hc⟩:=h1.at i hi
 refine ⟨g,o,rels[i].2,ha,?_,?_⟩
 ·simpa [csR] using hc
 ·simpa [RelB] using h3 _ (List.getElem_mem hi)
theorem PgB.rulAt {a b:Option Addr} {c d:Nat} (h:PgB F w p (.agg #[.slice a p.rels.length c,.slice b p.rules.length d])) (i:Nat) (hi:i<p.rules.length) :
  ∃ g o u u',b=some ⟨g,o,none⟩/\CellsAt w g (o+i * 5) (ruV p.rules[i] u u')/\RowB F w 5 tmV p.rules[i].head.terms u/\BB F w p.rules[i].body u':=by
 obtain ⟨rels,rus,u1,u2,hx,rfl,h1,h2,h3,h4⟩:=h
 simp only [Value.agg.injEq,Array.mk.injEq,List.cons.injEq,and_true,List.length_map] at hx hi
 obtain ⟨rfl,rfl⟩:=hx
 obtain ⟨g,o,ha,hc⟩:=h2.at i hi
 have h5:=h4 _ (List.getElem_mem hi)
 refine ⟨g,o,rus[i].2.1,rus[i].2.2,ha,?_,?_,?_⟩
 ·simpa [csU] using hc
 ·simpa using h5.1
 ·simpa using h5.2
end
/-- no list is longer -/
structure PgM (p:Pr.Prog):Prop where
 rels:p.rels.length<=134217728
 rules:p.rules.length<=134217728
 types:∀ r∈p.rels,r.types.length<=134217728
 terms:∀ r∈p.rules,r.head.terms.length<=134217728
 body:∀ r∈p.rules,r.body.length<=134217728
 deep:∀ r∈p.rules,liMs r.body<=134217728
set_option maxHeartbeats 16000000 in
theorem sameProg_any {F G:Nat->Prop} (p:Pr.Prog) (hM:PgM p) (u u':Value) (w:World) (h:PgB F w p u) (h':PgB G w p u') :
  Calls Tryz.prog 11 #[u,u'] w (Tru w):=by
 obtain ⟨a1,c1,b1,d1,rfl⟩:=h.lit
 obtain ⟨a2,c2,b2,d2,rfl⟩:=h'.lit
 obtain ⟨rels,rules⟩:=p
 have HMM:=Lib.hid hM
 have hl1:=hM.rels
 have hl2:=hM.rules
 dsimp only at *
 have H1:=Lib.hid h;have H2:=Lib.hid h'
 clear h h' hM
 have mA:=((Mod.refl [] w).alloc (Obj.cells #[.slice a1 rels.length c1,.slice b1 rules.length d1] 25)).alloc (Obj.cells #[.slice a2 rels.length c2,.slice b2 rules.length d2] 25)
 have eA:=two_a w #[.slice a1 rels.length c1,.slice b1 rules.length d1] #[.slice a2 rels.length c2,.slice b2 rules.length d2] 25 25
 have eB:=two_b w #[.slice a1 rels.length c1,.slice b1 rules.length d1] #[.slice a2 rels.length c2,.slice b2 rules.length d2] 25 25
 go_enter Tryz.func11,Tryz.ntmps11
 go_upto_region 1 with fail
 generalize (w.alloc (Obj.cells _ 25)).alloc (Obj.cells _ 25)=w0 at *
 have M0:=Lib.hid mA;have E0:=Lib.hid eA;have E1:=Lib.hid eB
 clear mA eA eB
 have x0:=cell_at E0.out 0;have y0:=cell_at E1.out 0
 have x1:=cell_at E0.out 1;have y1:=cell_at E1.out 1
 simp only [List.getElem?_toArray,List.getElem?_cons_zero,List.getElem?_cons_succ] at x0 y0 x1 y1
 go_wp2_with fail
 clear x0 x1 y0 y1
 go_loopw [5] (fun iv wr=>∃ j:Nat,j<=rels.length/\iv=.int .i64 (j:Nat)/\Mod [] w0 wr) (fun iv _=>rels.length - (intOf iv).toNat)
 case atStart=>exact ⟨0,Nat.zero_le _,rfl,Mod.refl _ _⟩
 case round =>
  obtain ⟨j,hj,rfl,hm⟩:=hrel
  have x0:=cell_at (hm.at E0.out (by simp)) 0;have y0:=cell_at (hm.at E1.out (by simp)) 0
  have x1:=cell_at (hm.at E0.out (by simp)) 1;have y1:=cell_at (hm.at E1.out (by simp)) 1
  simp only [List.getElem?_toArray,List.getElem?_cons_zero,List.getElem?_cons_succ] at x0 y0 x1 y1
  have MR:=Hxq (M0.out.trans hm (by simp));have HM:=Lib.hid hm
  clear hm
  by_cases hlt:j<rels.length
  ·have hjI:(j:Int)<(rels.length:Int):=by omega
   have hj0:(0:Int)<=(j:Int):=by omega
   obtain ⟨g1,o1,t1,rfl,hc1,ht1⟩:=(H1.out.keep MR.out (by simp)).relAt j hlt
   obtain ⟨g2,o2,t2,rfl,hc2,ht2⟩:=(H2.out.keep MR.out (by simp)).relAt j hlt
   have hty:=HMM.out.types _ (List.getElem_mem hlt)
   dsimp only at hc1 hc2 ht1 ht2
   generalize rels[j]=y at *
   obtain ⟨nm,tys,ln,cl⟩:=y
   obtain ⟨ya1,yc1,rfl⟩:=ht1.lit
   obtain ⟨ya2,yc2,rfl⟩:=ht2.lit
   have HT1:=Lib.hid ht1;have HT2:=Lib.hid ht2
   dsimp only at hty
   clear ht1 ht2
   have p0:=hc1 0 (.string nm) rfl;have p1:=hc1 1 (.slice ya1 tys.length yc1) rfl;have p2:=hc1 2 (.int .i64 ln) rfl;have p3:=hc1 3 (.int .i64 cl) rfl
   have q0:=hc2 0 (.string nm) rfl;have q1:=hc2 1 (.slice ya2 tys.length yc2) rfl;have q2:=hc2 2 (.int .i64 ln) rfl;have q3:=hc2 3 (.int .i64 cl) rfl
   rw [Nat.add_zero] at p0 q0
   have q0:=((Mod.refl [] wr).alloc (Obj.cells #[.string nm,.slice ya1 tys.length yc1,.int .i64 ln,.int .i64 cl] 70)).cell q0 (by simp);have q1:=((Mod.refl [] wr).alloc (Obj.cells #[.string nm,.slice ya1 tys.length yc1,.int .i64 ln,.int .i64 cl] 70)).cell q1 (by simp);have q2:=((Mod.refl [] wr).alloc (Obj.cells #[.string nm,.slice ya1 tys.length yc1,.int .i64 ln,.int .i64 cl] 70)).cell q2 (by simp);have q3:=((Mod.refl [] wr).alloc (Obj.cells #[.string nm,.slice ya1 tys.length yc1,.int .i64 ln,.int .i64 cl] 70)).cell q3 (by simp)
   clear hc1 hc2
   have eR1:=two_a wr #[.string nm,.slice ya1 tys.length yc1,.int .i64 ln,.int .i64 cl] #[.string nm,.slice ya2 tys.length yc2,.int .i64 ln,.int .i64 cl] 70 70
   have eR2:=two_b wr #[.string nm,.slice ya1 tys.length yc1,.int .i64 ln,.int .i64 cl] #[.string nm,.slice ya2 tys.length yc2,.int .i64 ln,.int .i64 cl] 70 70
   have mR:=((Mod.refl [] wr).alloc (Obj.cells #[.string nm,.slice ya1 tys.length yc1,.int .i64 ln,.int .i64 cl] 70)).alloc (Obj.cells #[.string nm,.slice ya2 tys.length yc2,.int .i64 ln,.int .i64 cl] 70)
   have y0':=((Mod.refl [] wr).alloc (Obj.cells #[.string nm,.slice ya1 tys.length yc1,.int .i64 ln,.int .i64 cl] 70)).cell y0 (by simp)
   go_upto_region 8 with fail
   generalize (wr.alloc (Obj.cells _ 70)).alloc (Obj.cells _ 70)=wb at *
   have E2:=Lib.hid eR1;have E3:=Lib.hid eR2;have MB:=Lib.hid mR
   have hTA:=Hxq (HT1.out.keep mR (by simp));have hTB:=Hxq (HT2.out.keep mR (by simp))
   clear eR1 eR2 mR p0 p1 p2 p3 q0 q1 q2 q3 x0 y0 y0' HT1 HT2
   have x0:=cell_at E2.out 0;have y0:=cell_at E3.out 0
   have x1:=cell_at E2.out 1;have y1:=cell_at E3.out 1
   have x2:=cell_at E2.out 2;have y2:=cell_at E3.out 2
   have x3:=cell_at E2.out 3;have y3:=cell_at E3.out 3
   simp only [List.getElem?_toArray,List.getElem?_cons_zero,List.getElem?_cons_succ] at x0 y0 x1 y1 x2 y2 x3 y3
   go_wp2_with fail
   clear x0 x1 x2 x3 y0 y1 y2 y3
   go_loopw [8] (fun iv wi=>∃ k:Nat,k<=tys.length/\iv=.int .i64 (k:Nat)/\Mod [] wb wi) (fun iv _=>tys.length - (intOf iv).toNat)
   case atStart=>exact ⟨0,Nat.zero_le _,rfl,Mod.refl _ _⟩
   case round =>
    obtain ⟨k,hk,rfl,hmi⟩:=hrel
    have x1:=cell_at (hmi.at E2.out (by simp)) 1;have y1:=cell_at (hmi.at E3.out (by simp)) 1
    simp only [List.getElem?_toArray,List.getElem?_cons_zero,List.getElem?_cons_succ] at x1 y1
    have MI:=Lib.hid hmi
    by_cases hlk:k<tys.length
    ·have hkI:(k:Int)<(tys.length:Int):=by omega
     have hk0:(0:Int)<=(k:Int):=by omega
     obtain ⟨g3,o3,rfl,hc3⟩:=(hTA.out.keep hmi (by simp)).at k hlk
     obtain ⟨g4,o4,rfl,hc4⟩:=(hTB.out.keep hmi (by simp)).at k hlk
     have r0:=hc3 0 (.int .i64 tys[k]) rfl
     have s0:=hc4 0 (.int .i64 tys[k]) rfl
     rw [Nat.add_zero,Nat.mul_one] at r0 s0
     clear hc3 hc4 hmi
     generalize tys[k]=ty at *
     go_wp2_with fail
     go_quiet (fail)
     go_wp2_with fail
     go_roundw
     case rel=>exact ⟨k+1,by omega,by go_num,by first | exact MI.out.drewN _ | exact MI.out.drew | exact MI.out⟩
     case measure=>simp [intOf];omega
    ·obtain rfl:k=tys.length:=by omega
     have hkI:¬ (tys.length:Int)<(tys.length:Int):=by omega
     clear hmi
     go_wp2_with fail
     go_roundw
     case rel=>exact ⟨j+1,by omega,by go_num,HM.out.trans (MB.out.trans MI.out (by simp)) (by simp)⟩
     case measure=>simp [intOf];omega
  ·obtain rfl:j=rels.length:=by omega
   have hjI:¬ (rels.length:Int)<(rels.length:Int):=by omega
   go_wp2_with fail
   clear x0 y0
   obtain ⟨wo,rfl⟩:∃ wo:World,wo=wr:=⟨_,rfl⟩
   go_loopw [9] (fun iv wr=>∃ j:Nat,j<=rules.length/\iv=.int .i64 (j:Nat)/\Mod [] w0 wr) (fun iv _=>rules.length - (intOf iv).toNat)
   case atStart=>exact ⟨0,Nat.zero_le _,rfl,HM.out⟩
   case round =>
    obtain ⟨j,hj,rfl,hm⟩:=hrel
    have x1:=cell_at (hm.at E0.out (by simp)) 1;have y1:=cell_at (hm.at E1.out (by simp)) 1
    simp only [List.getElem?_toArray,List.getElem?_cons_zero,List.getElem?_cons_succ] at x1 y1
    have MQ:=Hxq (M0.out.trans hm (by simp));have HQ:=Lib.hid hm
    clear hm
    by_cases hlt:j<rules.length
    ·have hjI:(j:Int)<(rules.length:Int):=by omega
     have hj0:(0:Int)<=(j:Int):=by omega
     obtain ⟨g1,o1,t1,s1,rfl,hc1,ht1,hb1⟩:=(H1.out.keep MQ.out (by simp)).rulAt j hlt
     obtain ⟨g2,o2,t2,s2,rfl,hc2,ht2,hb2⟩:=(H2.out.keep MQ.out (by simp)).rulAt j hlt
     have hq1:=HMM.out.terms _ (List.getElem_mem hlt)
     have hq2:=HMM.out.body _ (List.getElem_mem hlt)
     have hq3:=HMM.out.deep _ (List.getElem_mem hlt)
     dsimp only at hc1 hc2 ht1 ht2 hb1 hb2
     generalize rules[j]=y at *
     obtain ⟨⟨rel,ts⟩,body,ln,cl⟩:=y
     obtain ⟨ta1,tc1,rfl⟩:=ht1.lit
     obtain ⟨ta2,tc2,rfl⟩:=ht2.lit
     obtain ⟨ba1,bc1,rfl⟩:=hb1.lit
     obtain ⟨ba2,bc2,rfl⟩:=hb2.lit
     have HT1:=Lib.hid ht1;have HT2:=Lib.hid ht2;have HB1:=Lib.hid hb1;have HB2:=Lib.hid hb2
     dsimp only at hq1 hq2 hq3
     have hq1:ts.length<=140737488355328:=by omega
     have hq2:body.length<=140737488355328:=by omega
     have hq3:liMs body<=140737488355328:=by omega
     clear ht1 ht2 hb1 hb2
     have p0:=hc1 0 (.string rel) rfl;have q0:=hc2 0 (.string rel) rfl
     have p1:=hc1 1 (.slice ta1 ts.length tc1) rfl;have q1:=hc2 1 (.slice ta2 ts.length tc2) rfl
     have p2:=hc1 2 (.slice ba1 body.length bc1) rfl;have q2:=hc2 2 (.slice ba2 body.length bc2) rfl
     have p3:=hc1 3 (.int .i64 ln) rfl;have q3:=hc2 3 (.int .i64 ln) rfl
     have p4:=hc1 4 (.int .i64 cl) rfl;have q4:=hc2 4 (.int .i64 cl) rfl
     rw [Nat.add_zero] at p0 q0
     have q0:=((Mod.refl [] wr).alloc (Obj.cells #[.string rel,.slice ta1 ts.length tc1,.slice ba1 body.length bc1,.int .i64 ln,.int .i64 cl] 63)).cell q0 (by simp);have q1:=((Mod.refl [] wr).alloc (Obj.cells #[.string rel,.slice ta1 ts.length tc1,.slice ba1 body.length bc1,.int .i64 ln,.int .i64 cl] 63)).cell q1 (by simp);have q2:=((Mod.refl [] wr).alloc (Obj.cells #[.string rel,.slice ta1 ts.length tc1,.slice ba1 body.length bc1,.int .i64 ln,.int .i64 cl] 63)).cell q2 (by simp);have q3:=((Mod.refl [] wr).alloc (Obj.cells #[.string rel,.slice ta1 ts.length tc1,.slice ba1 body.length bc1,.int .i64 ln,.int .i64 cl] 63)).cell q3 (by simp);have q4:=((Mod.refl [] wr).alloc (Obj.cells #[.string rel,.slice ta1 ts.length tc1,.slice ba1 body.length bc1,.int .i64 ln,.int .i64 cl] 63)).cell q4 (by simp)
     clear hc1 hc2
     have eR1:=two_a wr #[.string rel,.slice ta1 ts.length tc1,.slice ba1 body.length bc1,.int .i64 ln,.int .i64 cl] #[.string rel,.slice ta2 ts.length tc2,.slice ba2 body.length bc2,.int .i64 ln,.int .i64 cl] 63 63
     have eR2:=two_b wr #[.string rel,.slice ta1 ts.length tc1,.slice ba1 body.length bc1,.int .i64 ln,.int .i64 cl] #[.string rel,.slice ta2 ts.length tc2,.slice ba2 body.length bc2,.int .i64 ln,.int .i64 cl] 63 63
     have mR:=((Mod.refl [] wr).alloc (Obj.cells #[.string rel,.slice ta1 ts.length tc1,.slice ba1 body.length bc1,.int .i64 ln,.int .i64 cl] 63)).alloc (Obj.cells #[.string rel,.slice ta2 ts.length tc2,.slice ba2 body.length bc2,.int .i64 ln,.int .i64 cl] 63)
     have y1':=((Mod.refl [] wr).alloc (Obj.cells #[.string rel,.slice ta1 ts.length tc1,.slice ba1 body.length bc1,.int .i64 ln,.int .i64 cl] 63)).cell y1 (by simp)
     go_upto_region 20 with fail
     generalize (wr.alloc (Obj.cells _ 63)).alloc (Obj.cells _ 63)=wb at *
     have E2:=Lib.hid eR1;have E3:=Lib.hid eR2;have MB:=Lib.hid mR
     have hTA:=Hxq (HT1.out.keep mR (by simp));have hTB:=Hxq (HT2.out.keep mR (by simp));have hBA:=Hxq (HB1.out.keep mR (by simp));have hBB:=Hxq (HB2.out.keep mR (by simp))
     clear eR1 eR2 mR p0 p1 p2 p3 p4 q0 q1 q2 q3 q4 x1 y1 y1' HT1 HT2 HB1 HB2
     have x0:=cell_at E2.out 0;have y0:=cell_at E3.out 0
     have x1:=cell_at E2.out 1;have y1:=cell_at E3.out 1
     have x2:=cell_at E2.out 2;have y2:=cell_at E3.out 2
     have x3:=cell_at E2.out 3;have y3:=cell_at E3.out 3
     have x4:=cell_at E2.out 4;have y4:=cell_at E3.out 4
     simp only [List.getElem?_toArray,List.getElem?_cons_zero,List.getElem?_cons_succ] at x0 y0 x1 y1 x2 y2 x3 y3 x4 y4
     go_wp2_with fail
     refine (sameAtom_any ⟨rel,ts⟩ hq1 _ _ wb hTA.out hTB.out).mono ?_
     rintro e1 v1 ⟨rfl,m1⟩
     have M1:=Lib.hid m1
     clear x0 x1 x2 x3 x4 y0 y1 y2 y3 y4
     have x2:=cell_at (m1.at E2.out (by simp)) 2;have y2:=cell_at (m1.at E3.out (by simp)) 2
     simp only [List.getElem?_toArray,List.getElem?_cons_zero,List.getElem?_cons_succ] at x2 y2
     clear m1
     go_wp2_with fail
     refine (sameLits_any body hq2 hq3 _ _ v1 (hBA.out.keep M1.out (by simp)) (hBB.out.keep M1.out (by simp))).mono ?_
     rintro e2 v2 ⟨rfl,m2⟩
     have M2:=Lib.hid m2
     clear m2 x2 y2
     go_wp2_with fail
     go_roundw
     case rel=>exact ⟨j+1,by omega,by go_num,((HQ.out.trans MB.out (by simp)).trans M1.out (by simp)).trans M2.out (by simp)⟩
     case measure=>simp [intOf];omega
    ·obtain rfl:j=rules.length:=by omega
     have hjI:¬ (rules.length:Int)<(rules.length:Int):=by omega
     go_wp2_with fail
     go_ret
     exact ⟨rfl,MQ.out⟩
open Go.RowKit
set_option linter.unusedVariables false
set_option linter.unusedSimpArgs false
set_option maxRecDepth 100000
/-- what is kept, of things of n cells -/
structure Bears {α:Type} (n:Nat) (cs:α->Array Value) (B:(Nat->Prop)->World->α->Prop):Prop where
 size:∀ x,(cs x).size=n
 keep:∀ {F:Nat->Prop} {S:List Nat} {w w':World} {p:α},B F w p->Mod S w w'->(∀ s∈S,¬ F s)->B F w' p
 mono:∀ {F F':Nat->Prop} {w:World} {p:α},B F w p->(∀ k,F k->k<w.heap.size->F' k)->B F' w p
structure GI {α:Type} (T:TypeId) (n:Nat) (cs:α->Array Value) (B:(Nat->Prop)->World->α->Prop) (S:List Nat) (w0 W:World) (acc:List α) (va:Option Addr) (vc:Nat):Prop where
 row:W.ownsRow 0 T n (.slice va acc.length vc) acc.length (rowCells cs acc)
 new:∀ k∈fp (.slice va acc.length vc),w0.heap.size<=k
 sub:∀ p∈acc,B (fun k=>w0.heap.size<=k/\k∉fp (.slice va acc.length vc)) W p
 low:∀ s∈S,s<w0.heap.size
 mod:Mod S w0 W
section
variable {α:Type} {T:TypeId} {n:Nat} {cs:α->Array Value} {B:(Nat->Prop)->World->α->Prop} {S:List Nat} {w0 W W':World} {acc:List α} {va:Option Addr} {vc:Nat}
theorem GI.nil (hS:∀ s∈S,s<w0.heap.size):GI T n cs B S w0 w0 [] none 0:=⟨World.ownsRow_nil _ _ _ _,by simp [fp],by simp,hS,Mod.refl _ _⟩
theorem GI.keep (hB:Bears n cs B) (h:GI T n cs B S w0 W acc va vc) (hm:Mod S W W'):GI T n cs B S w0 W' acc va vc:=by
 have hl:=h.low
 refine ⟨hm.owns h.row (fun k hk hs=>?_),h.new,fun p hp=>hB.keep (h.sub p hp) hm (fun s hs hh=>?_),h.low,h.mod.trans hm (fun t ht=>.inl ht)⟩
 ·have:=h.new k hk;have:=hl k hs;omega
 ·have:=hl s hs;omega
theorem GI.grow {va':Option Addr} {vc':Nat} {p:α} {m:Nat} (hB:Bears n cs B) (h:GI T n cs B S w0 W acc va vc) (hm:Mod (fp (.slice va acc.length vc)) W W') (hp:B (fun k=>m<=k) W p) (hn:∀ k∈fp (.slice va acc.length vc),k<m) (hn0:w0.heap.size<=m)
  (hown:W'.ownsRow 0 T n (.slice va' (acc.length+1) vc') (acc.length+1) (rowCells cs acc++(cs p).toList)) (hf:∀ k∈fp (.slice va' (acc.length+1) vc'),k∈fp (.slice va acc.length vc)\/W.heap.size<=k) :
  GI T n cs B S w0 W' (acc++[p]) va' vc':=by
 have e1:(acc++[p]).length=acc.length+1:=by simp
 have hnew:=h.new
 have hsz:=h.mod.size
 have hnew':∀ k∈fp (.slice va' (acc.length+1) vc'),w0.heap.size<=k:=fun k hk=>by
  rcases hf k hk with hh | hh
  ·exact hnew k hh
  ·omega
 refine ⟨?_,by rw [e1];exact hnew',?_,h.low,h.mod.trans hm (fun k hk=>.inr (hnew k hk))⟩
 ·rw [e1,rowCells_snoc]
  exact hown
 ·intro q hq
  rw [e1]
  rcases List.mem_append.1 hq with hq | hq
  ·refine hB.mono (hB.keep (hB.mono (F':=fun k=>w0.heap.size<=k/\k∉fp (.slice va acc.length vc)/\k<W.heap.size) (h.sub q hq) (fun k hk hk2=>⟨hk.1,hk.2,hk2⟩)) hm (fun s hs hh=>hh.2.1 hs)) (fun k hk hk2=>⟨hk.1,fun hh=>?_⟩)
   rcases hf k hh with h1 | h1
   ·exact hk.2.1 h1
   ·have:=hk.2.2;omega
  ·rw [Msq] at hq
   subst hq
   refine hB.mono (hB.keep (hB.mono (F':=fun k=>m<=k/\k<W.heap.size) hp (fun k hk hk2=>⟨hk,hk2⟩)) hm (fun s hs hh=>by have:=hn s hs;omega)) (fun k hk hk2=>⟨by omega,fun hh=>?_⟩)
   rcases hf k hh with h1 | h1
   ·have:=hn k h1;omega
   ·have:=hk.2;omega
end
/-- what is in a list's row may be appended whole -/
theorem rows_src {α:Type} {F:Nat->Prop} {w:World} {n:Nat} {cs:α->Array Value} {l:List α} {u:Value} {TS e:TypeId} (hu:Tryz.prog.underlying TS=some (.slice e)) (hn:∀ x,(cs x).size=n) (h0:0<n) (h1:∀ x,∀ v∈(cs x).toList,v.oneCell'=true) (h:RowB F w n cs l u) :
  Src Tryz.prog n TS u l.length (rowCells cs l) w:=by
 have hone:∀ v∈rowCells cs l,v.oneCell'=true:=by
  intro v hv
  obtain ⟨x,-,hx⟩:=List.mem_flatMap.1 hv
  exact h1 x v hx
 cases h with
 | nil =>
  rename_i a c
  cases a with
  | none=>exact Src.ofNil w hu c
  | some ad=>exact Src.ofSlice w hu ad 0 c [] (by simp) (fun j u hu=>by simp at hu) (by simp)
 | row hF hb hc hcap =>
  rename_i b off c
  refine Src.ofSlice w hu _ _ c _ (rowCells_len hn l) (fun j v hv=>?_) hone
  rw [addr_add]
  have hj:=(List.getElem?_eq_some_iff.1 hv).1
  rw [rowCells_len hn] at hj
  have hi:j / n<l.length:=Nat.div_lt_of_lt_mul (by rw [Nat.mul_comm];exact hj)
  have hmd:j % n<n:=Nat.mod_lt _ h0
  have hsz:j % n<(cs l[j / n]).size:=by rw [hn];exact hmd
  have key:=rowCells_get hn l (j / n) hi (j % n) _ (Array.getElem?_eq_getElem hsz)
  have hjj:j / n * n+j % n=j:=by rw [Nat.mul_comm];exact Nat.div_add_mod j n
  rw [hjj,hv] at key
  have:=hc (j / n) hi (j % n) _ (Array.getElem?_eq_getElem hsz)
  rw [Nat.add_assoc,hjj] at this
  rw [this,key]
/-- expressions with their arguments' slices -/
abbrev ExU:=Pr.Ex × Value
def csX (p:ExU):Array Value:=exV p.1 p.2
def BX (F:Nat->Prop) (w:World) (p:ExU):Prop:=EB F w p.1 p.2
theorem bearsX:Bears 7 csX BX:=⟨fun _=>rfl,fun h hm hs=>EB.keep h hm hs,fun h hF=>EB.mono h hF⟩
theorem csX_one {F:Nat->Prop} {w:World} {p:ExU} (h:BX F w p):∀ u∈(csX p).toList,u.oneCell'=true:=by
 obtain ⟨e,u⟩:=p
 obtain ⟨a,c,hu⟩:=EB.lit h
 simp only at hu
 subst hu
 intro x hx
 simp [csX,exV] at hx
 rcases hx with rfl | rfl | rfl | rfl | rfl | rfl | rfl <;> rfl
theorem EB.of_row {F:Nat->Prop} {w:World} {k:Int} {v:ByteArray} {x:Va.Val} {op:Int} {u:Value} (l:List ExU) (h:RowB F w 7 csX l u) (hs:∀ p∈l,BX F w p):EB F w (.mk k v x op (l.map (·.1))) u:=by
 cases h with
 | nil=>exact .nil
 | row hF hb h1 hcap =>
  rename_i g off c
  have:=@EB.row F w k v x op (l.map (·.1)) g off c (fun i=>if h:i<l.length then l[i].2 else .slice none 0 0) hF hb (fun i hi=>by
   rw [List.length_map] at hi
   simp only [dif_pos hi,List.getElem_map]
   exact h1 i hi) (fun i hi=>by
   rw [List.length_map] at hi
   simp only [dif_pos hi,List.getElem_map]
   exact hs _ (List.getElem_mem hi))
  simpa using this
open Go.RowKit
set_option linter.unusedVariables false
set_option linter.unusedSimpArgs false
set_option maxRecDepth 100000
theorem Tryz.infoEx:(Tryz.prog.info? 38).map (fun i=>(i.zero,i.size,i.bytes))=some (some (.agg #[Value.int IntKind.i64 0,Value.string ⟨#[]⟩,Value.int IntKind.i64 0,Value.int IntKind.i64 0,Value.string ⟨#[]⟩,Value.int IntKind.i64 0,Value.slice none 0 0]),7,88):=by kernel_rfl
section
variable {P:Program} {ops:Array Oper} {rest:List Oper} {o:Oper} {a:Act} {w:World} {Q:Exit->Act->World->Prop}
theorem slice_one_fill (cells:Array Value) (s:Nat) (X:Array Value) (h0:0<s) (hs:cells.size=s) (hX:X.size=1 * s) :
  Instr.fill (fun i=>some (i * s,s)) X [(0,.agg cells)]=some cells:=by
 have:=Go.Great.fill_whole h0 [.agg cells] X (fun v hv=>by rw [Msq] at hv;subst hv;exact hs) (by simpa using hX.symm)
 simpa [Value.cells] using this
theorem wpList_slice_one (hgd:o.guard=none) (t e:TypeId) (x:Operand) (ho:o.op=.buildSlice t 1 #[(0,x)]) (cells:Array Value) (ie:TypeInfo) (z:Value) (hx:a.eval x=.agg cells)
  (hu:P.underlying t=some (.slice e)) (hie:P.info? e=some ie) (hz:ie.zero=some z) (hs:cells.size=ie.size) (h0:0<ie.size) (hsm:ie.size<=1000)
  (h:wpList P ops Q rest (a.put o.dst (.slice (some ⟨w.heap.size,0,none⟩) 1 1)) (w.alloc (.cells cells e))):wpList P ops Q (o :: rest) a w :=
 wpList_buildSlice hgd t e 1 #[(0,x)] ho cells ie z hu hie hz (by omega) (by omega) (by
  have:=slice_one_fill cells ie.size ((Array.range (1 * ie.size)).map (z.cells[· % z.cells.size]!)) h0 hs (by simp)
  simpa [hx] using this) h
end
open Go.RowKit
set_option linter.unusedVariables false
set_option linter.unusedSimpArgs false
set_option maxRecDepth 100000
def csL (p:Pr.Li × LU):Array Value:=liV p.1 p.2
def BL (F:Nat->Prop) (w:World) (p:Pr.Li × LU):Prop:=LB F w p.1 p.2
theorem BB.of_gi {S:List Nat} {w w':World} {acc:List (Pr.Li × LU)} {va:Option Addr} {vc:Nat} (h:GI 49 30 csL BL S w w' acc va vc):BB (fun k=>w.heap.size<=k) w' (acc.map (·.1)) (.slice va acc.length vc) :=
 BB.of_row acc (RowB.of_owns liV_size h.row h.new) (fun p hp=>(h.sub p hp).mono (fun k hk _=>hk.1))
/-- where a copy's things lie: not in its two rows -/
def QF (w0:World) (sr su:Value) (k:Nat):Prop:=w0.heap.size<=k/\k∉fp sr/\k∉fp su
end Go.Proofs.YtohnmnfhmbmoaaaGreatDoor
namespace Go.Proofs.YtohnmnfhmbmoaaaGreatDoor.Sy
open Lx (Tok St word skipN goes)
open Pr (Ex)
set_option linter.unusedVariables false
set_option linter.unusedSimpArgs false
/-- a word but for its place -/
structure Sh where
 kind:Nat
 text:List Nat
 vk:Nat
 num:Nat
 sym:List Nat
deriving DecidableEq
def sh (t:Lx.Tok):Sh:=⟨t.kind,t.text,t.vk,t.num,t.sym⟩
open Lx (Tok)
open Pr (Term Atom Ex Li Rul Rel Prog)
/-- without places -/
def bareL:Li->Li
 | .mk k a op l r fn av of body ln cl=>.mk k a op l r fn av of (bareLs body) 0 0
where bareLs:List Li->List Li
 | []=>[]
 | x :: r=>bareL x :: bareLs r
theorem bareLs_map (l:List Li):bareL.bareLs l=l.map bareL:=by
 induction l with
 | nil=>rfl
 | cons a r ih=>rw [bareL.bareLs,ih];rfl
theorem bareL_eq (k:Int) (a:Atom) (op:Int) (l r:Ex) (fn:Int) (av:ByteArray) (of:Ex) (body:List Li) (ln cl:Int):bareL (.mk k a op l r fn av of body ln cl)=.mk k a op l r fn av of (body.map bareL) 0 0:=by
 rw [bareL,bareLs_map]
def bareU (x:Rul):Rul:=⟨x.head,x.body.map bareL,0,0⟩
def bareR (x:Rel):Rel:=⟨x.name,x.types,0,0⟩
def bareP (p:Prog):Prog:=⟨p.rels.map bareR,p.rules.map bareU⟩
section
variable {α β:Type} {v v':Env}
def RA (g g':Ag):Prop:=g'.fn=g.fn/\g'.av=g.av/\g'.of=g.of/\g.body.map bareL=g'.body.map bareL
end
end Go.Proofs.YtohnmnfhmbmoaaaGreatDoor.Sy
namespace Go.Proofs.YtohnmnfhmbmoaaaGreatDoor
open Go.RowKit
set_option linter.unusedVariables false
set_option linter.unusedSimpArgs false
set_option maxRecDepth 100000
/-- block b holds things of type T -/
def TyAt (w:World) (b:Nat) (T:TypeId):Prop:=∃ C,w.heap[b]?=some (.cells C T (0,0))
theorem TyAt.lt {w:World} {b:Nat} {T:TypeId} (h:TyAt w b T):b<w.heap.size:=by obtain ⟨C,h⟩:=h;exact lt_of_block h
theorem TyAt.keep {S:List Nat} {w w':World} {b:Nat} {T:TypeId} (h:TyAt w b T) (hm:Mod S w w') (hS:b∉S):TyAt w' b T:=by
 obtain ⟨C,h⟩:=h
 exact ⟨C,hm.at h hS⟩
theorem TyAt.owns {w:World} {T:TypeId} {n m:Nat} {a:Option Addr} {c:Nat} {xs:List Value} (h:w.ownsRow 0 T n (.slice a m c) m xs) {b off:Nat} (ha:a=some ⟨b,off,none⟩):off=0/\TyAt w b T:=by
 rcases h.2 with ⟨h1,-⟩ | ⟨g,cap,cur,h1,hb,hg,-⟩
 ·simp only [Value.slice.injEq] at h1;rw [h1.1] at ha;cases ha
 ·simp only [Value.slice.injEq] at h1
  rw [h1.1] at ha
  simp only [Option.some.injEq,Addr.mk.injEq,and_true] at ha
  obtain ⟨rfl,rfl⟩:=ha
  exact ⟨rfl,cur,hg⟩
inductive ET (F:Nat->Prop) (w:World):Pr.Ex->Value->Prop
 | nil {k:Int} {v:ByteArray} {x:Va.Val} {op:Int} {a:Option Addr} {c:Nat}:ET F w (.mk k v x op []) (.slice a 0 c)
 | row {k:Int} {v:ByteArray} {x:Va.Val} {op:Int} {args:List Pr.Ex} {b c:Nat} {us:Nat->Value} (hF:F b) (hT:TyAt w b 38)
   (h1:∀ i (h:i<args.length),CellsAt w b (i * 7) (exV args[i] (us i))) (h2:∀ i (h:i<args.length),ET F w args[i] (us i)) :
   ET F w (.mk k v x op args) (.slice (some ⟨b,0,none⟩) args.length c)
theorem ET.keep {F:Nat->Prop} {S:List Nat} {w w':World} {e:Pr.Ex} {u:Value} (h:ET F w e u) (hm:Mod S w w') (hS:∀ s∈S,¬ F s):ET F w' e u:=by
 induction h with
 | nil=>exact .nil
 | row hF hT h1 h2 ih=>exact .row hF (hT.keep hm (fun hs=>hS _ hs hF)) (fun i h=>(h1 i h).keep hm (fun hs=>hS _ hs hF)) ih
theorem ET.mono {F F':Nat->Prop} {w:World} {e:Pr.Ex} {u:Value} (h:ET F w e u) (hF:∀ k,F k->k<w.heap.size->F' k):ET F' w e u:=by
 induction h with
 | nil=>exact .nil
 | row hf hT h1 h2 ih=>exact .row (hF _ hf hT.lt) hT h1 ih
theorem ET.eb {F:Nat->Prop} {w:World} {e:Pr.Ex} {u:Value} (h:ET F w e u):EB F w e u:=by
 induction h with
 | nil=>exact .nil
 | row hf hT h1 h2 ih=>exact .row hf hT.lt (fun i h=>by rw [Nat.zero_add];exact h1 i h) ih
theorem ET.lit {F:Nat->Prop} {w:World} {e:Pr.Ex} {u:Value} (h:ET F w e u):∃ a c,u=.slice a e.args.length c:=h.eb.lit
def BXT (F:Nat->Prop) (w:World) (p:ExU):Prop:=ET F w p.1 p.2
theorem bearsXT:Bears 7 csX BXT:=⟨fun _=>rfl,fun h hm hs=>ET.keep h hm hs,fun h hF=>ET.mono h hF⟩
theorem ET.of_row {F:Nat->Prop} {w:World} {k:Int} {v:ByteArray} {x:Va.Val} {op:Int} {a:Option Addr} {c:Nat} (l:List ExU) (h:w.ownsRow 0 38 7 (.slice a l.length c) l.length (rowCells csX l)) (hF:∀ k∈fp (.slice a l.length c),F k) (hs:∀ p∈l,BXT F w p) :
  ET F w (.mk k v x op (l.map (·.1))) (.slice a l.length c):=by
 have hr:=RowB.of_owns bearsX.size h hF
 have ht:=fun b off=>TyAt.owns (b:=b) (off:=off) h
 generalize hu:Value.slice a l.length c=u at hr
 cases hr with
 | nil=>exact .nil
 | row hf hb h1 hcap =>
  rename_i g off c'
  simp only [Value.slice.injEq] at hu
  obtain ⟨rfl,hT⟩:=ht g off hu.1
  have:=@ET.row F w k v x op (l.map (·.1)) g c' (fun i=>if h:i<l.length then l[i].2 else .slice none 0 0) hf hT (fun i hi=>by
   rw [List.length_map] at hi
   simp only [dif_pos hi,List.getElem_map]
   have:=h1 i hi
   rw [Nat.zero_add] at this
   exact this) (fun i hi=>by
   rw [List.length_map] at hi
   simp only [dif_pos hi,List.getElem_map]
   exact hs _ (List.getElem_mem hi))
  simpa using this
/-- a list of things of n cells in a block of type T -/
inductive RowT {α:Type} (F:Nat->Prop) (w:World) (T:TypeId) (n:Nat) (cs:α->Array Value):List α->Value->Prop
 | nil {a:Option Addr} {c:Nat}:RowT F w T n cs [] (.slice a 0 c)
 | row {l:List α} {b c:Nat} (hF:F b) (hT:TyAt w b T) (h1:∀ i (h:i<l.length),CellsAt w b (i * n) (cs l[i])) (hcap:l.length<=c):RowT F w T n cs l (.slice (some ⟨b,0,none⟩) l.length c)
section
variable {α:Type} {F F':Nat->Prop} {S:List Nat} {w w':World} {T:TypeId} {n:Nat} {cs:α->Array Value} {l:List α} {u:Value}
theorem RowT.keep (h:RowT F w T n cs l u) (hm:Mod S w w') (hS:∀ s∈S,¬ F s):RowT F w' T n cs l u:=by
 cases h with
 | nil=>exact .nil
 | row hF hT h1 hc=>exact .row hF (hT.keep hm (fun hs=>hS _ hs hF)) (fun i h=>(h1 i h).keep hm (fun hs=>hS _ hs hF)) hc
theorem RowT.mono (h:RowT F w T n cs l u) (hF:∀ k,F k->k<w.heap.size->F' k):RowT F' w T n cs l u:=by
 cases h with
 | nil=>exact .nil
 | row hf hT h1 hc=>exact .row (hF _ hf hT.lt) hT h1 hc
theorem RowT.rb (h:RowT F w T n cs l u):RowB F w n cs l u:=by
 cases h with
 | nil=>exact .nil
 | row hf hT h1 hc=>exact .row hf hT.lt (fun i h=>by rw [Nat.zero_add];exact h1 i h) hc
theorem RowT.lit (h:RowT F w T n cs l u):∃ a c,u=.slice a l.length c:=h.rb.lit
theorem RowT.of_owns {base:Nat} (hn:∀ x,(cs x).size=n) (h:w.ownsRow 0 T n u l.length (rowCells cs l)) (hF:∀ k∈fp u,F k):RowT F w T n cs l u:=by
 obtain ⟨a,c,rfl⟩:=owns_slice h
 have hr:=RowB.of_owns hn h hF
 have ht:=fun b off=>TyAt.owns (b:=b) (off:=off) h
 generalize hu:Value.slice a l.length c=u at hr ⊢
 cases hr with
 | nil=>exact .nil
 | row hf hb h1 hcap =>
  rename_i g off c'
  simp only [Value.slice.injEq] at hu
  obtain ⟨rfl,hT⟩:=ht g off hu.1
  exact .row hf hT (fun i hi=>by have:=h1 i hi;rwa [Nat.zero_add] at this) hcap
end
inductive LT (F:Nat->Prop) (w:World):Pr.Li->LU->Prop
 | mk {k:Int} {a:Pr.Atom} {op:Int} {l r:Pr.Ex} {fn:Int} {av:ByteArray} {of:Pr.Ex} {body:List Pr.Li} {ln cl:Int} {U:LU} {ub:Option Addr} {cb:Nat} {us:Nat->LU}
   (ht:RowT F w 88 5 tmV a.terms U.t) (hl:ET F w l U.l) (hr:ET F w r U.r) (ho:ET F w of U.o) (hb:U.b=.slice ub body.length cb)
   (h1:∀ i (h:i<body.length),∃ g,ub=some ⟨g,0,none⟩/\F g/\TyAt w g 49/\CellsAt w g (i * 30) (liV body[i] (us i)))
   (h2:∀ i (h:i<body.length),LT F w body[i] (us i)) (hcap:body.length<=cb):LT F w (.mk k a op l r fn av of body ln cl) U
/-- a body -/
def BT (F:Nat->Prop) (w:World) (body:List Pr.Li) (u:Value):Prop:=∃ (ub:Option Addr) (cb:Nat) (us:Nat->LU),u=.slice ub body.length cb /\
 (∀ i (h:i<body.length),∃ g,ub=some ⟨g,0,none⟩/\F g/\TyAt w g 49/\CellsAt w g (i * 30) (liV body[i] (us i)))/\(∀ i (h:i<body.length),LT F w body[i] (us i))/\body.length<=cb
theorem LT.of {F:Nat->Prop} {w:World} {k:Int} {a:Pr.Atom} {op:Int} {l r:Pr.Ex} {fn:Int} {av:ByteArray} {of:Pr.Ex} {body:List Pr.Li} {ln cl:Int} {U:LU} (ht:RowT F w 88 5 tmV a.terms U.t) (hl:ET F w l U.l) (hr:ET F w r U.r) (ho:ET F w of U.o) (hb:BT F w body U.b) :
  LT F w (.mk k a op l r fn av of body ln cl) U:=by
 obtain ⟨ub,cb,us,hu,h1,h2,hcap⟩:=hb
 exact .mk ht hl hr ho hu h1 h2 hcap
theorem LT.parts {F:Nat->Prop} {w:World} {k:Int} {a:Pr.Atom} {op:Int} {l r:Pr.Ex} {fn:Int} {av:ByteArray} {of:Pr.Ex} {body:List Pr.Li} {ln cl:Int} {U:LU} (h:LT F w (.mk k a op l r fn av of body ln cl) U) :
  RowT F w 88 5 tmV a.terms U.t/\ET F w l U.l/\ET F w r U.r/\ET F w of U.o/\BT F w body U.b:=by
 cases h with
 | mk ht hl hr ho hb h1 h2 hcap=>exact ⟨ht,hl,hr,ho,_,_,_,hb,h1,h2,hcap⟩
theorem LT.keep {F:Nat->Prop} {S:List Nat} {w w':World} {e:Pr.Li} {U:LU} (h:LT F w e U) (hm:Mod S w w') (hS:∀ s∈S,¬ F s):LT F w' e U:=by
 induction h with
 | mk ht hl hr ho hb h1 h2 hcap ih =>
  refine .mk (ht.keep hm hS) (hl.keep hm hS) (hr.keep hm hS) (ho.keep hm hS) hb (fun i h=>?_) ih hcap
  obtain ⟨g,hu,hF,hT,hc⟩:=h1 i h
  exact ⟨g,hu,hF,hT.keep hm (fun hs=>hS _ hs hF),hc.keep hm (fun hs=>hS _ hs hF)⟩
theorem LT.mono {F F':Nat->Prop} {w:World} {e:Pr.Li} {U:LU} (h:LT F w e U) (hF:∀ k,F k->k<w.heap.size->F' k):LT F' w e U:=by
 induction h with
 | mk ht hl hr ho hb h1 h2 hcap ih =>
  refine .mk (ht.mono hF) (hl.mono hF) (hr.mono hF) (ho.mono hF) hb (fun i h=>?_) ih hcap
  obtain ⟨g,hu,hf,hT,hc⟩:=h1 i h
  exact ⟨g,hu,hF _ hf hT.lt,hT,hc⟩
theorem LT.lb {F:Nat->Prop} {w:World} {e:Pr.Li} {U:LU} (h:LT F w e U):LB F w e U:=by
 induction h with
 | mk ht hl hr ho hb h1 h2 hcap ih =>
  refine .mk ht.rb hl.eb hr.eb ho.eb hb (fun i h=>?_) ih hcap
  obtain ⟨g,hu,hf,hT,hc⟩:=h1 i h
  exact ⟨g,0,hu,hf,hT.lt,by rw [Nat.zero_add];exact hc⟩
theorem BT.bb {F:Nat->Prop} {w:World} {l:List Pr.Li} {u:Value} (h:BT F w l u):BB F w l u:=by
 obtain ⟨ub,cb,us,hu,h1,h2,hcap⟩:=h
 refine ⟨ub,cb,us,hu,fun i h=>?_,fun i h=>(h2 i h).lb,hcap⟩
 obtain ⟨g,hu,hf,hT,hc⟩:=h1 i h
 exact ⟨g,0,hu,hf,hT.lt,by rw [Nat.zero_add];exact hc⟩
theorem BT.keep {F:Nat->Prop} {S:List Nat} {w w':World} {l:List Pr.Li} {u:Value} (h:BT F w l u) (hm:Mod S w w') (hS:∀ s∈S,¬ F s):BT F w' l u:=by
 obtain ⟨ub,cb,us,hu,h1,h2,hcap⟩:=h
 refine ⟨ub,cb,us,hu,fun i h=>?_,fun i h=>(h2 i h).keep hm hS,hcap⟩
 obtain ⟨g,hu,hF,hT,hc⟩:=h1 i h
 exact ⟨g,hu,hF,hT.keep hm (fun hs=>hS _ hs hF),hc.keep hm (fun hs=>hS _ hs hF)⟩
theorem BT.mono {F F':Nat->Prop} {w:World} {l:List Pr.Li} {u:Value} (h:BT F w l u) (hF:∀ k,F k->k<w.heap.size->F' k):BT F' w l u:=by
 obtain ⟨ub,cb,us,hu,h1,h2,hcap⟩:=h
 refine ⟨ub,cb,us,hu,fun i h=>?_,fun i h=>(h2 i h).mono hF,hcap⟩
 obtain ⟨g,hu,hf,hT,hc⟩:=h1 i h
 exact ⟨g,hu,hF _ hf hT.lt,hT,hc⟩
theorem BT.lit {F:Nat->Prop} {w:World} {l:List Pr.Li} {u:Value} (h:BT F w l u):∃ a c,u=.slice a l.length c:=h.bb.lit
def BLT (F:Nat->Prop) (w:World) (p:Pr.Li × LU):Prop:=LT F w p.1 p.2
theorem bearsLT:Bears 30 csL BLT:=⟨liV_size,fun h hm hs=>LT.keep h hm hs,fun h hF=>LT.mono h hF⟩
theorem BT.of_row {F:Nat->Prop} {w:World} {a:Option Addr} {c:Nat} (l:List (Pr.Li × LU)) (h:w.ownsRow 0 49 30 (.slice a l.length c) l.length (rowCells csL l)) (hF:∀ k∈fp (.slice a l.length c),F k) (hs:∀ p∈l,BLT F w p):BT F w (l.map (·.1)) (.slice a l.length c):=by
 have hr:=RowT.of_owns (base:=0) liV_size h hF
 generalize hu:Value.slice a l.length c=u at hr ⊢
 cases hr with
 | nil=>exact ⟨_,_,fun _=>⟨.slice none 0 0,.slice none 0 0,.slice none 0 0,.slice none 0 0,.slice none 0 0⟩,rfl,fun i h=>absurd h (by simp),fun i h=>absurd h (by simp),Nat.zero_le _⟩
 | row hf hT h1 hcap =>
  rename_i g c'
  refine ⟨some ⟨g,0,none⟩,c',fun i=>if h:i<l.length then l[i].2 else ⟨.slice none 0 0,.slice none 0 0,.slice none 0 0,.slice none 0 0,.slice none 0 0⟩,by simp,fun i hi=>?_,fun i hi=>?_,by simpa using hcap⟩
  ·rw [List.length_map] at hi
   refine ⟨_,rfl,hf,hT,?_⟩
   simp only [dif_pos hi,List.getElem_map]
   exact h1 i hi
  ·rw [List.length_map] at hi
   simp only [dif_pos hi,List.getElem_map]
   exact hs _ (List.getElem_mem hi)
theorem BT.of_gi {S:List Nat} {w w':World} {acc:List (Pr.Li × LU)} {va:Option Addr} {vc:Nat} (h:GI 49 30 csL BLT S w w' acc va vc):BT (fun k=>w.heap.size<=k) w' (acc.map (·.1)) (.slice va acc.length vc) :=
 BT.of_row acc h.row h.new (fun p hp=>(h.sub p hp).mono (fun k hk _=>hk.1))
end Go.Proofs.YtohnmnfhmbmoaaaGreatDoor
