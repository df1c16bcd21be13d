/- THE TEXTS MERGED: SySame PrWt PrBase PrFn. -/
import Derived.Test.YtbfaclljbbfknaaGreatDoorKP7
import Derived.Deep.RegionLaw
import Derived.Laws.Tables
import Derived.Deep.WholeRow
namespace Go.Proofs.YtbfaclljbbfknaaGreatDoor
open Go.RowKit
set_option linter.unusedVariables false
set_option linter.unusedSimpArgs false
set_option maxRecDepth 100000
mutual
def exD:Pr.Ex->Nat
 | .mk _ _ _ _ args=>exDs args+1
def exDs:List Pr.Ex->Nat
 | []=>0
 | e :: r=>max (exD e) (exDs r)
end
theorem exDs_mem:∀ (l:List Pr.Ex) (i:Nat) (h:i<l.length),exD l[i]<=exDs l
 | e :: r,0,h=>by simp only [List.getElem_cons_zero,exDs];omega
 | e :: r,i+1,h=>by
  simp only [List.getElem_cons_succ,exDs]
  have:=exDs_mem r i (by simpa using h)
  omega
mutual
/-- no list of arguments is longer -/
def exM:Pr.Ex->Nat
 | .mk _ _ _ _ args=>max args.length (exMs args)
def exMs:List Pr.Ex->Nat
 | []=>0
 | e :: r=>max (exM e) (exMs r)
end
theorem exMs_mem:∀ (l:List Pr.Ex) (i:Nat) (h:i<l.length),exM l[i]<=exMs l
 | e :: r,0,h=>by simp only [List.getElem_cons_zero,exMs];omega
 | e :: r,i+1,h=>by
  simp only [List.getElem_cons_succ,exMs]
  have:=exMs_mem r i (by simpa using h)
  omega
/-- what is told: the same, nothing turned -/
def Tru (w:World) (e:Ending) (w':World):Prop:=e=.returned (.bool true)/\Mod [] w w'
def SEx (k:Nat):Prop:=∀ (e:Pr.Ex),exD e<=k->exM e<=140737488355328->∀ (F G:Nat->Prop) (u u':Value) (w:World),EB F w e u->EB G w e u' ->
 Calls Tryz.prog 7 #[.agg (exV e u),.agg (exV e u')] w (Tru w)
set_option maxHeartbeats 8000000 in
theorem sex_of (d:Nat) (hS:SEx d):SEx (d+1):=by
 intro e he hM F G u u' w h h'
 obtain ⟨k,v,⟨xk,xn,xs⟩,op,args⟩:=e
 obtain ⟨a1,c1,rfl⟩:=h.lit
 obtain ⟨a2,c2,rfl⟩:=h'.lit
 have hd:exDs args<=d:=by simp only [exD] at he;omega
 have hM1:args.length<=140737488355328:=by simp only [exM] at hM;omega
 have hM2:exMs args<=140737488355328:=by simp only [exM] at hM;omega
 have HS:=Lib.hid hS;have H1:=Lib.hid h;have H2:=Lib.hid h'
 clear h h' hS he hM
 simp only [exV,Pr.Ex.k,Pr.Ex.v,Pr.Ex.x,Pr.Ex.op,Pr.Ex.args] at *
 have mA:=((Mod.refl [] w).alloc (Obj.cells #[.int .i64 k,.string v,.int .i64 xk,.int .i64 xn,.string (Lx.ofS xs),.int .i64 op,.slice a1 args.length c1] 26)).alloc (Obj.cells #[.int .i64 k,.string v,.int .i64 xk,.int .i64 xn,.string (Lx.ofS xs),.int .i64 op,.slice a2 args.length c2] 26)
 have eA:=heap_alloc_new w (Obj.cells #[.int .i64 k,.string v,.int .i64 xk,.int .i64 xn,.string (Lx.ofS xs),.int .i64 op,.slice a1 args.length c1] 26)
 have fA:=((Mod.refl [] (w.alloc (Obj.cells #[.int .i64 k,.string v,.int .i64 xk,.int .i64 xn,.string (Lx.ofS xs),.int .i64 op,.slice a1 args.length c1] 26))).alloc (Obj.cells #[.int .i64 k,.string v,.int .i64 xk,.int .i64 xn,.string (Lx.ofS xs),.int .i64 op,.slice a2 args.length c2] 26)).at eA (by simp)
 have eB:=heap_alloc_new (w.alloc (Obj.cells #[.int .i64 k,.string v,.int .i64 xk,.int .i64 xn,.string (Lx.ofS xs),.int .i64 op,.slice a1 args.length c1] 26)) (Obj.cells #[.int .i64 k,.string v,.int .i64 xk,.int .i64 xn,.string (Lx.ofS xs),.int .i64 op,.slice a2 args.length c2] 26)
 have hs1:(w.alloc (Obj.cells #[.int .i64 k,.string v,.int .i64 xk,.int .i64 xn,.string (Lx.ofS xs),.int .i64 op,.slice a1 args.length c1] 26)).heap.size=w.heap.size+1:=by simp
 rw [hs1] at eB
 clear eA hs1
 generalize hxB:Lx.ofS xs=xB at *
 go_enter Tryz.func7,Tryz.ntmps7
 go_upto_region 1 with fail
 generalize (w.alloc (Obj.cells _ 26)).alloc (Obj.cells _ 26)=w0 at *
 have M0:=Lib.hid mA;have E0:=Lib.hid fA;have E1:=Lib.hid eB
 clear mA fA eB
 have x0:=cell_at E0.out 0;have y0:=cell_at E1.out 0
 have x1:=cell_at E0.out 1;have y1:=cell_at E1.out 1
 have x2:=cell_at E0.out 2;have y2:=cell_at E1.out 2
 have x3:=cell_at E0.out 3;have y3:=cell_at E1.out 3
 have x4:=cell_at E0.out 4;have y4:=cell_at E1.out 4
 have x5:=cell_at E0.out 5;have y5:=cell_at E1.out 5
 have x6:=cell_at E0.out 6;have y6:=cell_at E1.out 6
 simp only [List.getElem?_toArray,List.getElem?_cons_zero,List.getElem?_cons_succ] at x0 x1 x2 x3 x4 x5 x6 y0 y1 y2 y3 y4 y5 y6
 go_wp2_with fail
 clear x0 x1 x2 x3 x4 x5 x6 y0 y1 y2 y3 y4 y5 y6
 go_loopw [5] (fun iv wr=>∃ j:Nat,j<=args.length/\iv=.int .i64 (j:Nat)/\Mod [] w0 wr) (fun iv _=>args.length - (intOf iv).toNat)
 case atStart=>exact ⟨0,Nat.zero_le _,rfl,Mod.refl _ _⟩
 case round =>
  obtain ⟨j,hj,rfl,hm⟩:=hrel
  have x6:=cell_at (hm.at E0.out (by simp)) 6;have y6:=cell_at (hm.at E1.out (by simp)) 6
  simp only [List.getElem?_toArray,List.getElem?_cons_zero,List.getElem?_cons_succ] at x6 y6
  have MR:=Hxq (M0.out.trans hm (by simp));have HM:=Lib.hid hm
  clear hm
  by_cases hlt:j<args.length
  ·have hjI:(j:Int)<(args.length:Int):=by omega
   have hj0:(0:Int)<=(j:Int):=by omega
   obtain ⟨b1,o1,u1,rfl,hc1,hE1⟩:=(H1.out.keep MR.out (by simp)).at j hlt
   obtain ⟨b2,o2,u2,rfl,hc2,hE2⟩:=(H2.out.keep MR.out (by simp)).at j hlt
   have hdj:=exDs_mem args j hlt
   have hmj:=exMs_mem args j hlt
   simp only [Pr.Ex.args] at hc1 hc2 hE1 hE2
   generalize args[j]=y at *
   obtain ⟨a3,c3,rfl⟩:=hE1.lit
   obtain ⟨a4,c4,rfl⟩:=hE2.lit
   have Z1:=Lib.hid x6;have Z2:=Lib.hid y6
   have r0:=hc1 0 (.int .i64 y.k) rfl;have t0:=hc2 0 (.int .i64 y.k) rfl
   have r1:=hc1 1 (.string y.v) rfl;have t1:=hc2 1 (.string y.v) rfl
   have r2:=hc1 2 (.int .i64 y.x.k) rfl;have t2:=hc2 2 (.int .i64 y.x.k) rfl
   have r3:=hc1 3 (.int .i64 y.x.n) rfl;have t3:=hc2 3 (.int .i64 y.x.n) rfl
   have r4:=hc1 4 (.string (Lx.ofS y.x.s)) rfl;have t4:=hc2 4 (.string (Lx.ofS y.x.s)) rfl
   have r5:=hc1 5 (.int .i64 y.op) rfl;have t5:=hc2 5 (.int .i64 y.op) rfl
   have r6:=hc1 6 (.slice a3 y.args.length c3) rfl;have t6:=hc2 6 (.slice a4 y.args.length c4) rfl
   rw [Nat.add_zero] at r0 t0
   have P0:=Lib.hid r0;have Q0:=Lib.hid t0
   have P1:=Lib.hid r1;have Q1:=Lib.hid t1
   have P2:=Lib.hid r2;have Q2:=Lib.hid t2
   have P3:=Lib.hid r3;have Q3:=Lib.hid t3
   have P4:=Lib.hid r4;have Q4:=Lib.hid t4
   have P5:=Lib.hid r5;have Q5:=Lib.hid t5
   have P6:=Lib.hid r6;have Q6:=Lib.hid t6
   clear r0 r1 r2 r3 r4 r5 r6 t0 t1 t2 t3 t4 t5 t6
   have HE1:=Hxq (hE1.keep ((Mod.refl [] wr).drew) (by simp));have HE2:=Hxq (hE2.keep ((Mod.refl [] wr).drew) (by simp))
   clear hc1 hc2 hE1 hE2
   go_wp2_with fail
   refine wp_region_held_drew (S:=(fun w':World=>Mod [] wr w')) (by kernel_rfl) (by (try dsimp only);exact (Mod.refl [] wr).drew) (fun hHeld=>?_)
   refine Tkq 0 (v:=?_) (by assumption) ?_ ?_ ?_
   rotate_left 1
   ·refine .inl ⟨by rfl,?_⟩;intro w hSw;have s1:=hSw.cell Z1.out (by simp);have s2:=hSw.cell Z2.out (by simp);have p0:=hSw.cell P0.out (by simp);have q0:=hSw.cell Q0.out (by simp);have p1:=hSw.cell P1.out (by simp);have q1:=hSw.cell Q1.out (by simp);have p2:=hSw.cell P2.out (by simp);have q2:=hSw.cell Q2.out (by simp);have p3:=hSw.cell P3.out (by simp);have q3:=hSw.cell Q3.out (by simp);have p4:=hSw.cell P4.out (by simp);have q4:=hSw.cell Q4.out (by simp);have p5:=hSw.cell P5.out (by simp);have q5:=hSw.cell Q5.out (by simp);have p6:=hSw.cell P6.out (by simp);have q6:=hSw.cell Q6.out (by simp);clear hSw;go_simp
    all_goals with_reducible rfl
   ·exact fun _ _ _ h=>h
   try simp only [Act.put,Lq1,Lq2,Lq3]
   refine Tkq 1 (v:=?_) (by assumption) ?_ ?_ ?_
   rotate_left 1
   ·refine .inl ⟨by rfl,?_⟩;intro w hSw;have s1:=hSw.cell Z1.out (by simp);have s2:=hSw.cell Z2.out (by simp);have p0:=hSw.cell P0.out (by simp);have q0:=hSw.cell Q0.out (by simp);have p1:=hSw.cell P1.out (by simp);have q1:=hSw.cell Q1.out (by simp);have p2:=hSw.cell P2.out (by simp);have q2:=hSw.cell Q2.out (by simp);have p3:=hSw.cell P3.out (by simp);have q3:=hSw.cell Q3.out (by simp);have p4:=hSw.cell P4.out (by simp);have q4:=hSw.cell Q4.out (by simp);have p5:=hSw.cell P5.out (by simp);have q5:=hSw.cell Q5.out (by simp);have p6:=hSw.cell P6.out (by simp);have q6:=hSw.cell Q6.out (by simp);clear hSw;go_simp
    all_goals with_reducible rfl
   ·exact fun _ _ _ h=>h
   try simp only [Act.put,Lq1,Lq2,Lq3]
   refine Tkq 2 (v:=?_) (by assumption) ?_ ?_ ?_
   rotate_left 1
   ·refine .inl ⟨by rfl,?_⟩;intro w hSw;have s1:=hSw.cell Z1.out (by simp);have s2:=hSw.cell Z2.out (by simp);have p0:=hSw.cell P0.out (by simp);have q0:=hSw.cell Q0.out (by simp);have p1:=hSw.cell P1.out (by simp);have q1:=hSw.cell Q1.out (by simp);have p2:=hSw.cell P2.out (by simp);have q2:=hSw.cell Q2.out (by simp);have p3:=hSw.cell P3.out (by simp);have q3:=hSw.cell Q3.out (by simp);have p4:=hSw.cell P4.out (by simp);have q4:=hSw.cell Q4.out (by simp);have p5:=hSw.cell P5.out (by simp);have q5:=hSw.cell Q5.out (by simp);have p6:=hSw.cell P6.out (by simp);have q6:=hSw.cell Q6.out (by simp);clear hSw;go_simp
    all_goals with_reducible rfl
   ·exact fun _ _ _ h=>h
   try simp only [Act.put,Lq1,Lq2,Lq3]
   refine Tkq 3 (v:=?_) (by assumption) ?_ ?_ ?_
   rotate_left 1
   ·refine .inl ⟨by rfl,?_⟩;intro w hSw;have s1:=hSw.cell Z1.out (by simp);have s2:=hSw.cell Z2.out (by simp);have p0:=hSw.cell P0.out (by simp);have q0:=hSw.cell Q0.out (by simp);have p1:=hSw.cell P1.out (by simp);have q1:=hSw.cell Q1.out (by simp);have p2:=hSw.cell P2.out (by simp);have q2:=hSw.cell Q2.out (by simp);have p3:=hSw.cell P3.out (by simp);have q3:=hSw.cell Q3.out (by simp);have p4:=hSw.cell P4.out (by simp);have q4:=hSw.cell Q4.out (by simp);have p5:=hSw.cell P5.out (by simp);have q5:=hSw.cell Q5.out (by simp);have p6:=hSw.cell P6.out (by simp);have q6:=hSw.cell Q6.out (by simp);clear hSw;go_simp
    all_goals with_reducible rfl
   ·exact fun _ _ _ h=>h
   try simp only [Act.put,Lq1,Lq2,Lq3]
   refine Tkq 4 (v:=?_) (by assumption) ?_ ?_ ?_
   rotate_left 1
   ·refine .inl ⟨by rfl,?_⟩;intro w hSw;have s1:=hSw.cell Z1.out (by simp);have s2:=hSw.cell Z2.out (by simp);have p0:=hSw.cell P0.out (by simp);have q0:=hSw.cell Q0.out (by simp);have p1:=hSw.cell P1.out (by simp);have q1:=hSw.cell Q1.out (by simp);have p2:=hSw.cell P2.out (by simp);have q2:=hSw.cell Q2.out (by simp);have p3:=hSw.cell P3.out (by simp);have q3:=hSw.cell Q3.out (by simp);have p4:=hSw.cell P4.out (by simp);have q4:=hSw.cell Q4.out (by simp);have p5:=hSw.cell P5.out (by simp);have q5:=hSw.cell Q5.out (by simp);have p6:=hSw.cell P6.out (by simp);have q6:=hSw.cell Q6.out (by simp);clear hSw;go_simp
    all_goals with_reducible rfl
   ·exact fun _ _ _ h=>h
   try simp only [Act.put,Lq1,Lq2,Lq3]
   refine Tkq 5 (v:=?_) (by assumption) ?_ ?_ ?_
   rotate_left 1
   ·refine .inl ⟨by rfl,?_⟩;intro w hSw;have s1:=hSw.cell Z1.out (by simp);have s2:=hSw.cell Z2.out (by simp);have p0:=hSw.cell P0.out (by simp);have q0:=hSw.cell Q0.out (by simp);have p1:=hSw.cell P1.out (by simp);have q1:=hSw.cell Q1.out (by simp);have p2:=hSw.cell P2.out (by simp);have q2:=hSw.cell Q2.out (by simp);have p3:=hSw.cell P3.out (by simp);have q3:=hSw.cell Q3.out (by simp);have p4:=hSw.cell P4.out (by simp);have q4:=hSw.cell Q4.out (by simp);have p5:=hSw.cell P5.out (by simp);have q5:=hSw.cell Q5.out (by simp);have p6:=hSw.cell P6.out (by simp);have q6:=hSw.cell Q6.out (by simp);clear hSw;go_simp
    all_goals with_reducible rfl
   ·exact fun _ _ _ h=>h
   try simp only [Act.put,Lq1,Lq2,Lq3]
   refine Tkq 6 (v:=?_) (by assumption) ?_ ?_ ?_
   rotate_left 1
   ·refine .inl ⟨by rfl,?_⟩;intro w hSw;have s1:=hSw.cell Z1.out (by simp);have s2:=hSw.cell Z2.out (by simp);have p0:=hSw.cell P0.out (by simp);have q0:=hSw.cell Q0.out (by simp);have p1:=hSw.cell P1.out (by simp);have q1:=hSw.cell Q1.out (by simp);have p2:=hSw.cell P2.out (by simp);have q2:=hSw.cell Q2.out (by simp);have p3:=hSw.cell P3.out (by simp);have q3:=hSw.cell Q3.out (by simp);have p4:=hSw.cell P4.out (by simp);have q4:=hSw.cell Q4.out (by simp);have p5:=hSw.cell P5.out (by simp);have q5:=hSw.cell Q5.out (by simp);have p6:=hSw.cell P6.out (by simp);have q6:=hSw.cell Q6.out (by simp);clear hSw;go_simp
    all_goals with_reducible rfl
   ·exact fun _ _ _ h=>h
   try simp only [Act.put,Lq1,Lq2,Lq3]
   refine Tkq 7 (v:=?_) (by assumption) ?_ ?_ ?_
   rotate_left 1
   ·refine .inl ⟨by rfl,?_⟩;intro w hSw;have s1:=hSw.cell Z1.out (by simp);have s2:=hSw.cell Z2.out (by simp);have p0:=hSw.cell P0.out (by simp);have q0:=hSw.cell Q0.out (by simp);have p1:=hSw.cell P1.out (by simp);have q1:=hSw.cell Q1.out (by simp);have p2:=hSw.cell P2.out (by simp);have q2:=hSw.cell Q2.out (by simp);have p3:=hSw.cell P3.out (by simp);have q3:=hSw.cell Q3.out (by simp);have p4:=hSw.cell P4.out (by simp);have q4:=hSw.cell Q4.out (by simp);have p5:=hSw.cell P5.out (by simp);have q5:=hSw.cell Q5.out (by simp);have p6:=hSw.cell P6.out (by simp);have q6:=hSw.cell Q6.out (by simp);clear hSw;go_simp
    all_goals with_reducible rfl
   ·exact fun _ _ _ h=>h
   try simp only [Act.put,Lq1,Lq2,Lq3]
   refine Tkq 8 (v:=?_) (by assumption) ?_ ?_ ?_
   rotate_left 1
   ·refine .inl ⟨by rfl,?_⟩;intro w hSw;have s1:=hSw.cell Z1.out (by simp);have s2:=hSw.cell Z2.out (by simp);have p0:=hSw.cell P0.out (by simp);have q0:=hSw.cell Q0.out (by simp);have p1:=hSw.cell P1.out (by simp);have q1:=hSw.cell Q1.out (by simp);have p2:=hSw.cell P2.out (by simp);have q2:=hSw.cell Q2.out (by simp);have p3:=hSw.cell P3.out (by simp);have q3:=hSw.cell Q3.out (by simp);have p4:=hSw.cell P4.out (by simp);have q4:=hSw.cell Q4.out (by simp);have p5:=hSw.cell P5.out (by simp);have q5:=hSw.cell Q5.out (by simp);have p6:=hSw.cell P6.out (by simp);have q6:=hSw.cell Q6.out (by simp);clear hSw;go_simp
    all_goals with_reducible rfl
   ·exact fun _ _ _ h=>h
   try simp only [Act.put,Lq1,Lq2,Lq3]
   refine Tkq 9 (v:=?_) (by assumption) ?_ ?_ ?_
   rotate_left 1
   ·refine .inl ⟨by rfl,?_⟩;intro w hSw;have s1:=hSw.cell Z1.out (by simp);have s2:=hSw.cell Z2.out (by simp);have p0:=hSw.cell P0.out (by simp);have q0:=hSw.cell Q0.out (by simp);have p1:=hSw.cell P1.out (by simp);have q1:=hSw.cell Q1.out (by simp);have p2:=hSw.cell P2.out (by simp);have q2:=hSw.cell Q2.out (by simp);have p3:=hSw.cell P3.out (by simp);have q3:=hSw.cell Q3.out (by simp);have p4:=hSw.cell P4.out (by simp);have q4:=hSw.cell Q4.out (by simp);have p5:=hSw.cell P5.out (by simp);have q5:=hSw.cell Q5.out (by simp);have p6:=hSw.cell P6.out (by simp);have q6:=hSw.cell Q6.out (by simp);clear hSw;go_simp
    all_goals with_reducible rfl
   ·exact fun _ _ _ h=>h
   try simp only [Act.put,Lq1,Lq2,Lq3]
   refine wpAnyH_ready (rs:=[10]) (by kernel_rfl) (by simp) ?_
   refine AllReadyH.cons (o:=?_) ?_ ?_ AllReadyH.nil
   rotate_left 1
   ·(simp only [Gq1,Gq2,Gq3])<;>rfl
   intro K hK
   go_simp
   refine (HS.out _ (by omega) (by omega) _ _ _ _ _ HE1.out HE2.out).mono ?_
   rintro e7 w7 ⟨rfl,m7⟩
   have M7:=Hxq (((Mod.refl [] wr).drew).trans m7 (by simp))
   clear m7
   refine hK.out _ _ (by (try dsimp only);exact M7.out) (fun hHeld=>?_)
   clear hK K
   try simp only [Act.put,Lq1,Lq2,Lq3]
   refine Tkq 11 (v:=?_) (by assumption) ?_ ?_ ?_
   rotate_left 1
   ·refine .inl ⟨by rfl,?_⟩;intro w hSw;clear hSw;go_simp
    all_goals with_reducible rfl
   ·exact fun _ _ _ h=>h
   try simp only [Act.put,Lq1,Lq2,Lq3]
   refine wpAnyH_done (by kernel_rfl) ?_ _
   go_wp2_with fail
   go_roundw
   case rel=>exact ⟨j+1,by omega,by go_num,HM.out.trans M7.out (by simp)⟩
   case measure=>simp [intOf];omega
  ·obtain rfl:j=args.length:=by omega
   have hjI:¬ (args.length:Int)<(args.length:Int):=by omega
   go_wp2_with fail
   go_ret
   exact ⟨rfl,MR.out⟩
theorem sex_all:∀ d,SEx d
 | 0=>fun e he _=>by cases e;simp [exD] at he
 | d+1=>sex_of d (sex_all d)
theorem sameExpr_any {F G:Nat->Prop} (e:Pr.Ex) (hM:exM e<=140737488355328) (u u':Value) (w:World) (h:EB F w e u) (h':EB G w e u') :
  Calls Tryz.prog 7 #[.agg (exV e u),.agg (exV e u')] w (Tru w):=sex_all _ e (Nat.le_refl _) hM F G u u' w h h'
set_option linter.unusedVariables false
mutual
def exWt:Pr.Ex->Nat
 | .mk _ v _ _ args=>v.size+300+exWts args
def exWts:List Pr.Ex->Nat
 | []=>0
 | e :: r=>exWt e+exWts r
end
def tsWt (ts:List Pr.Term):Nat:=(ts.map fun t=>t.v.size+300).sum
def aWt (a:Pr.Atom):Nat:=a.rel.size+300+tsWt a.terms
mutual
def lWt:Pr.Li->Nat
 | .mk k a op l r fn av of body ln cl=>aWt a+exWt l+exWt r+exWt of+av.size+1000+lsWt body
def lsWt:List Pr.Li->Nat
 | []=>0
 | e :: r=>lWt e+lsWt r
end
def rWt (r:Pr.Rul):Nat:=aWt r.head+lsWt r.body+10
def dWt (x:Pr.Rel):Nat:=x.name.size+30+10 * x.types.length
def dsWt (l:List Pr.Rel):Nat:=(l.map fun x=>dWt x+2).sum
def rsWt (l:List Pr.Rul):Nat:=(l.map fun x=>rWt x+2).sum
open Go.RowKit
set_option linter.unusedVariables false
set_option linter.unusedSimpArgs false
set_option maxRecDepth 100000
theorem byteCells_str (s:ByteArray):byteCells s=toCells (Cod.str s):=by
 simp [byteCells,toCells,Cod.str,List.map_map,Function.comp_def]
def nrest (c:Int):Bool:=!restI c
theorem word1_any (c:Int) (w:World) :
  Calls Tryz.prog 69 #[.int .i32 c] w fun e w'=>e=.returned (.bool (nrest c))/\w=w':=by
 unfold nrest restI smallI capitalI digitI
 rcases Int.lt_or_le c 97 with h1 | h1
 ·rcases Int.lt_or_le c 65 with h2 | h2
  ·rcases Int.lt_or_le c 48 with h3 | h3
   ·go_enter Tryz.func69,Tryz.ntmps69
    go_wp2
    all_goals go_ret
    all_goals exact ⟨ret_bool (by rw [Bool.eq_iff_iff];simp <;> omega),rfl⟩
   ·go_enter Tryz.func69,Tryz.ntmps69
    go_wp2
    all_goals go_ret
    all_goals exact ⟨ret_bool (by rw [Bool.eq_iff_iff];simp <;> omega),rfl⟩
  ·rcases Int.lt_or_le 90 c with h3 | h3
   ·go_enter Tryz.func69,Tryz.ntmps69
    go_wp2
    all_goals go_ret
    all_goals exact ⟨ret_bool (by rw [Bool.eq_iff_iff];simp <;> omega),rfl⟩
   ·go_enter Tryz.func69,Tryz.ntmps69
    go_wp2
    all_goals go_ret
    all_goals exact ⟨ret_bool (by rw [Bool.eq_iff_iff];simp <;> omega),rfl⟩
 ·rcases Int.lt_or_le 122 c with h3 | h3
  ·go_enter Tryz.func69,Tryz.ntmps69
   go_wp2
   all_goals go_ret
   all_goals exact ⟨ret_bool (by rw [Bool.eq_iff_iff];simp <;> omega),rfl⟩
  ·go_enter Tryz.func69,Tryz.ntmps69
   go_wp2
   all_goals go_ret
   all_goals exact ⟨ret_bool (by rw [Bool.eq_iff_iff];simp <;> omega),rfl⟩
/-- where a text leaves a kind first -/
def idx (l:List Nat):Int:=if Lx.run Lx.goes l=l.length then -1 else (Lx.run Lx.goes l:Nat)
set_option maxHeartbeats 1000000 in
theorem indexFunc_any (s:ByteArray) (hs:s.size<=9223372036854775807) (w:World) :
  Calls Tryz.prog 100 #[.string s,.func (.func 69) #[] #[],.bool true] w fun e w'=>e=.returned (.int .i64 (idx (Cod.str s)))/\Mod [] w w':=by
 have he:=enter_of Tryz.func69 (by kernel_rfl) rfl
 have hrl:=Lx.run_le Lx.goes (Cod.str s)
 have hlen:=Cod.str_len s
 rw [hlen] at hrl
 go_enter Tryz.func100,Tryz.ntmps100
 go_wp2_with fail
 go_loopw [] (fun w'=>∃ pos:Nat,pos<=Lx.run Lx.goes (Cod.str s)/\w'=w.iter s pos) (fun w'=>s.size - w'.iterPos w.heap.size)
 case atStart=>exact ⟨0,Nat.zero_le _,rfl⟩
 case round =>
  obtain ⟨pos,hr,rfl⟩:=hrel
  by_cases hp:pos<s.size
  ·have hnx:∀ ty,(Instr.next (.pointer (some ⟨w.heap.size,0,none⟩)) true ty).run Tryz.prog (w.iter s pos)=_:=fun ty=>run_next_any w s pos ty hp
   cases hd:restI ((Utf8.decode s pos).1:Int)
   ·have hst:=alike_rest.stop s pos hp hr hd
    have hix:idx (Cod.str s)=(pos:Nat):=by unfold idx;rw [hst,if_neg (by rw [hlen];omega)]
    have hnr:nrest ((Utf8.decode s pos).1:Int)=true:=by unfold nrest;rw [hd];rfl
    have HX:=Lib.hid hix;have HN:=Lib.hid hnr
    clear hd hst hix hnr
    go_wp2_with fail
    refine (word1_any _ _).mono ?_
    rintro e w2 ⟨rfl,rfl⟩
    rw [HN.out]
    go_wp2_with fail
    go_ret
    exact ⟨by rw [HX.out];rfl,mod_iter _ _ _⟩
   ·have hst:=alike_rest.step s pos hp hr hd
    have hnr:nrest ((Utf8.decode s pos).1:Int)=false:=by unfold nrest;rw [hd];rfl
    have HN:=Lib.hid hnr
    clear hd hnr
    go_wp2_with fail
    refine (word1_any _ _).mono ?_
    rintro e w2 ⟨rfl,rfl⟩
    rw [HN.out]
    go_wp2_with fail
    go_roundw
    case rel=>exact ⟨_,hst.1,rfl⟩
    case measure =>
     simp
     omega
  ·have hnx:∀ ty,(Instr.next (.pointer (some ⟨w.heap.size,0,none⟩)) true ty).run Tryz.prog (w.iter s pos)=_:=fun ty=>run_next_end w s pos ty hp
   have hix:idx (Cod.str s)=-1:=by unfold idx;rw [if_pos (by rw [hlen];omega)]
   have HX:=Lib.hid hix
   clear hix
   go_wp2_with fail
   go_ret
   exact ⟨by rw [HX.out];rfl,mod_iter _ _ _⟩
theorem contains_any (s:ByteArray) (hs:s.size<=9223372036854775807) (w:World) :
  Calls Tryz.prog 68 #[.string s,.func (.func 69) #[] #[]] w fun e w'=>e=.returned (.bool (!decide (Lx.run Lx.goes (Cod.str s)=(Cod.str s).length)))/\Mod [] w w':=by
 have h1:=fun w=>indexFunc_any s hs w
 have hix:(idx (Cod.str s)=-1/\Lx.run Lx.goes (Cod.str s)=(Cod.str s).length)\/(0<=idx (Cod.str s)/\Lx.run Lx.goes (Cod.str s)≠(Cod.str s).length):=by
  unfold idx
  by_cases h:Lx.run Lx.goes (Cod.str s)=(Cod.str s).length
  ·exact .inl ⟨if_pos h,h⟩
  ·rw [if_neg h];exact .inr ⟨by omega,h⟩
 generalize idx (Cod.str s)=k at *
 rcases hix with ⟨rfl,hr⟩ | ⟨hk,hr⟩
 ·rw [decide_eq_true hr]
  have H1:=Lib.hid h1
  clear h1 hr
  go_enter Tryz.func68,Tryz.ntmps68
  go_wp2_with (go_at_call 85;go_enter Tryz.func85,Tryz.ntmps85;go_wp2_with fail;refine (H1.out _).mono ?_;rintro e w' ⟨rfl,hm⟩;go_wp2_with fail;go_ret)
  all_goals (go_ret;exact ⟨rfl,hm⟩)
 ·rw [decide_eq_false hr]
  have H1:=Lib.hid h1
  clear h1 hr
  go_enter Tryz.func68,Tryz.ntmps68
  go_wp2_with (go_at_call 85;go_enter Tryz.func85,Tryz.ntmps85;go_wp2_with fail;refine (H1.out _).mono ?_;rintro e w' ⟨rfl,hm⟩;go_wp2_with fail;go_ret)
  all_goals (go_ret;exact ⟨rfl,hm⟩)
/-- a word whose first byte lies between two -/
theorem word_anyP (s:ByteArray) (hs:s.size<=9223372036854775807) (lo hi:Nat) (p:Nat->Bool) (hp:∀ c,p c=(decide (lo<=c) && decide (c<=hi))) (w:World) :
  Calls Tryz.prog 45 #[.string s,.int .u8 (lo:Nat),.int .u8 (hi:Nat)] w fun e w'=>e=.returned (.bool (Va.wordB p (Cod.str s)))/\Mod [] w w':=by
 have h1:=fun w=>contains_any s hs w
 have hlen:=Cod.str_len s
 have hem:s.toList.isEmpty=decide (s.size=0):=toList_isEmpty s
 by_cases h0:s.size=0
 ·have e:Va.wordB p (Cod.str s)=false:=by
   unfold Va.wordB
   have:Cod.str s=[]:=List.eq_nil_of_length_eq_zero (by omega)
   rw [this];rfl
  have hem2:s.toList.isEmpty=true:=by rw [hem,decide_eq_true h0]
  have E:=Lib.hid e
  clear e h1 hlen hem h0
  go_enter Tryz.func45,Tryz.ntmps45
  go_wp2_with fail
  go_ret
  exact ⟨by rw [E.out];rfl,Mod.refl _ _⟩
 ·have hem2:s.toList.isEmpty=false:=by rw [hem,decide_eq_false h0]
  have hne:Cod.str s≠[]:=fun h=>by rw [h] at hlen;simp at hlen;omega
  by_cases h32:s.size<=32
  ·have h32I:¬ (32:Int)<(s.size:Int):=by omega
   have hhd:s[0].toNat=(Cod.str s).headD 0:=by
    have:=Lx.get_str s 0 (by omega)
    rw [<-this]
    cases Cod.str s <;> rfl
   have hh0:(0:Int)<(s.size:Int):=by omega
   have hpc:=hp ((Cod.str s).headD 0)
   have e:Va.wordB p (Cod.str s)=(p ((Cod.str s).headD 0) && decide (Lx.run Lx.goes (Cod.str s)=(Cod.str s).length)):=by
    unfold Va.wordB
    rw [decide_eq_true hne,decide_eq_true (by omega)]
    simp
   rw [e]
   clear e
   generalize hrun:decide (Lx.run Lx.goes (Cod.str s)=(Cod.str s).length)=rb at *
   generalize (Cod.str s).headD 0=c at *
   have H1:=Lib.hid h1
   clear h1 hem hne hrun
   by_cases hl:lo<=c
   ·have n1:¬ ((s[0].toNat:Int)<(lo:Int)):=by omega
    by_cases hh:c<=hi
    ·have n2:¬ ((hi:Int)<(s[0].toNat:Int)):=by omega
     have hpt:p c=true:=by rw [hpc,decide_eq_true hl,decide_eq_true hh];rfl
     rw [hpt]
     clear hpc hpt hl hh hhd
     go_enter Tryz.func45,Tryz.ntmps45
     go_wp2_with fail
     refine (H1.out _).mono ?_
     rintro e w1 ⟨rfl,hm⟩
     go_wp2_with fail
     go_ret
     exact ⟨by simp,hm⟩
    ·have n2:((hi:Int)<(s[0].toNat:Int)):=by omega
     have hpt:p c=false:=by rw [hpc,decide_eq_false hh];simp
     rw [hpt]
     clear hpc hpt hl hh hhd
     go_enter Tryz.func45,Tryz.ntmps45
     go_wp2_with fail
     go_ret
     exact ⟨rfl,Mod.refl _ _⟩
   ·have n1:((s[0].toNat:Int)<(lo:Int)):=by omega
    have hpt:p c=false:=by rw [hpc,decide_eq_false hl];simp
    rw [hpt]
    clear hpc hpt hl hhd
    go_enter Tryz.func45,Tryz.ntmps45
    go_wp2_with fail
    go_ret
    exact ⟨rfl,Mod.refl _ _⟩
  ·have h32I:(32:Int)<(s.size:Int):=by omega
   have e:Va.wordB p (Cod.str s)=false:=by
    unfold Va.wordB
    rw [decide_eq_false (p:=(Cod.str s).length<=32) (by omega)]
    simp
   have E:=Lib.hid e
   clear e h1 hlen hem h0 hne h32
   go_enter Tryz.func45,Tryz.ntmps45
   go_wp2_with fail
   go_ret
   exact ⟨by rw [E.out];rfl,Mod.refl _ _⟩
def resW8:List (List UInt8):=[[114,101,108,97,116,105,111,110],[110,111,116],[110,117,109],[115,121,109],[109,111,100],[99,111,117,110,116],[115,117,109],[109,105,110],[109,97,120]]
theorem res_str (s:ByteArray):Va.resW.contains (Cod.str s)=resW8.contains s.toList:=by
 have h1:Va.resW=resW8.map (fun l=>l.map UInt8.toNat):=rfl
 have h2:Cod.str s=s.toList.map UInt8.toNat:=by rw [ByteArray.toList_eq];rfl
 rw [h1,h2,Bool.eq_iff_iff,List.contains_iff_mem,List.contains_iff_mem,List.mem_map]
 constructor
 ·rintro ⟨a,ha,he⟩
  have:a=s.toList:=by
   have:=congrArg (fun l=>l.map UInt8.ofNat) he
   simp only [Va.map_back] at this
   exact this
  exact this ▸ ha
 ·exact fun h=>⟨_,h,rfl⟩
set_option maxHeartbeats 1000000 in
theorem Name_any (s:ByteArray) (hs:s.size<=9223372036854775807) (w:World) :
  Calls Tryz.prog 42 #[.string s] w fun e w'=>e=.returned (.bool (Va.name (Cod.str s)))/\Mod [] w w':=by
 have h1:=fun w=>word_anyP s hs 97 122 Lx.small (fun c=>rfl) w
 have hn:Va.name (Cod.str s)=(!resW8.contains s.toList && Va.wordB Lx.small (Cod.str s)):=by unfold Va.name;rw [res_str]
 rw [hn]
 generalize Va.wordB Lx.small (Cod.str s)=b at *
 have H1:=Lib.hid h1
 clear h1 hn
 go_enter Tryz.func42,Tryz.ntmps42
 go_wp2_with (go_at_call 45;refine (H1.out _).mono ?_;rintro e w' ⟨rfl,hm⟩)
 all_goals (first | (exfalso;simp_all;done) | (go_ret;exact ⟨by congr 1;simp_all [resW8],by first | assumption | exact Mod.refl _ _⟩))
theorem Variable_any (s:ByteArray) (hs:s.size<=9223372036854775807) (w:World) :
  Calls Tryz.prog 24 #[.string s] w fun e w'=>e=.returned (.bool (Va.variable_ (Cod.str s)))/\Mod [] w w':=by
 have h1:=fun w=>word_anyP s hs 65 90 Lx.capital (fun c=>rfl) w
 have H1:=Lib.hid h1
 clear h1
 go_enter Tryz.func24,Tryz.ntmps24
 go_wp2_with fail
 refine (H1.out _).mono ?_
 rintro e w' ⟨rfl,hm⟩
 go_wp2_with fail
 go_ret
 exact ⟨rfl,hm⟩
def chk (v:Va.Val):Int:=if Va.may v then 0 else 20
theorem check_any (v:Va.Val) (w:World) :
  Calls Tryz.prog 70 #[.agg (valV v)] w fun e w'=>e=.returned (.int .i64 (chk v))/\Mod [] w w':=by
 obtain ⟨k,n,s⟩:=v
 unfold valV
 have hsz:=ofS_size s
 have hem:(Lx.ofS s).toList.isEmpty=decide (s=[]):=by
  rw [toList_isEmpty,hsz]
  cases s <;> simp
 by_cases k1:k=1
 ·subst k1
  by_cases hs:s=[]
  ·have e1:(Lx.ofS s).toList.isEmpty=true:=by rw [hem,decide_eq_true hs]
   by_cases h1:-2147483647<=n
   ·by_cases h2:n<=2147483647
    ·have e:chk ⟨1,n,s⟩=0:=by unfold chk Va.may;rw [if_pos];simp [hs,h1,h2]
     have E:=Lib.hid e
     clear hem hs hsz e
     go_enter Tryz.func70,Tryz.ntmps70
     go_wp2_with fail
     go_ret
     exact ⟨by rw [E.out];rfl,(Mod.refl [] w).alloc _⟩
    ·have e:chk ⟨1,n,s⟩=20:=by unfold chk Va.may;rw [if_neg];simp [hs,h1,h2]
     have E:=Lib.hid e
     clear hem hs hsz e
     go_enter Tryz.func70,Tryz.ntmps70
     go_wp2_with fail
     go_ret
     exact ⟨by rw [E.out];rfl,(Mod.refl [] w).alloc _⟩
   ·have e:chk ⟨1,n,s⟩=20:=by unfold chk Va.may;rw [if_neg];simp [hs,h1]
    have E:=Lib.hid e
    clear hem hs hsz e
    go_enter Tryz.func70,Tryz.ntmps70
    go_wp2_with fail
    go_ret
    exact ⟨by rw [E.out];rfl,(Mod.refl [] w).alloc _⟩
  ·have e1:(Lx.ofS s).toList.isEmpty=false:=by rw [hem,decide_eq_false hs]
   have e:chk ⟨1,n,s⟩=20:=by unfold chk Va.may;rw [if_neg];simp [hs]
   have E:=Lib.hid e
   clear hem hs hsz e
   go_enter Tryz.func70,Tryz.ntmps70
   go_wp2_with fail
   go_ret
   exact ⟨by rw [E.out];rfl,(Mod.refl [] w).alloc _⟩
 ·have k1B:(k == 1)=false:=by rw [beq_eq_false_iff_ne];exact k1
  by_cases k2:k=2
  ·subst k2
   by_cases hn:n=0
   ·subst hn
    by_cases hl:s.length<=64
    ·have e:chk ⟨2,0,s⟩=0:=by unfold chk Va.may;rw [if_pos];simp [hl]
     have e2:((Lx.ofS s).size:Int)<=64:=by omega
     have E:=Lib.hid e
     clear hem hsz e hl
     go_enter Tryz.func70,Tryz.ntmps70
     go_wp2_with fail
     go_ret
     exact ⟨by rw [E.out];rfl,(Mod.refl [] w).alloc _⟩
    ·have e:chk ⟨2,0,s⟩=20:=by unfold chk Va.may;rw [if_neg];simp;omega
     have e2:¬ ((Lx.ofS s).size:Int)<=64:=by omega
     have E:=Lib.hid e
     clear hem hsz e hl
     go_enter Tryz.func70,Tryz.ntmps70
     go_wp2_with fail
     go_ret
     exact ⟨by rw [E.out];rfl,(Mod.refl [] w).alloc _⟩
   ·have nB:(n == 0)=false:=by rw [beq_eq_false_iff_ne];exact hn
    have e:chk ⟨2,n,s⟩=20:=by unfold chk Va.may;rw [if_neg];simp [hn]
    have E:=Lib.hid e
    clear hem hsz e
    go_enter Tryz.func70,Tryz.ntmps70
    go_wp2_with fail
    go_ret
    exact ⟨by rw [E.out];rfl,(Mod.refl [] w).alloc _⟩
  ·have k2B:(k == 2)=false:=by rw [beq_eq_false_iff_ne];exact k2
   have e:chk ⟨k,n,s⟩=20:=by unfold chk Va.may;rw [if_neg];simp [k1,k2]
   have E:=Lib.hid e
   clear hem hsz e
   go_enter Tryz.func70,Tryz.ntmps70
   go_wp2_with fail
   go_ret
   exact ⟨by rw [E.out];rfl,(Mod.refl [] w).alloc _⟩
end Go.Proofs.YtbfaclljbbfknaaGreatDoor
