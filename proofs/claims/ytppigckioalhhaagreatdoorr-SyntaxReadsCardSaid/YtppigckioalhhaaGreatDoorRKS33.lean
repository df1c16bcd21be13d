/- THE TEXTS MERGED: SySame. -/
import Derived.Test.YtppigckioalhhaaGreatDoorRKS1
import Derived.Test.YtppigckioalhhaaGreatDoorRKS18
import Derived.Laws.StructEq
namespace Go.Proofs.YtppigckioalhhaaGreatDoorR
open Go.RowKit
set_option linter.unusedVariables false
set_option linter.unusedSimpArgs false
set_option maxRecDepth 100000
mutual
def exD:Pr.Ex->Nat
 | .mk _ _ _ _ args=>exDs args+1
def exDs:List Pr.Ex->Nat
 | []=>0
 | e :: r=>max (exD e) (exDs r)
end
theorem exDs_mem:∀ (l:List Pr.Ex) (i:Nat) (h:i<l.length),exD l[i]<=exDs l
 | e :: r,0,h=>by simp only [List.getElem_cons_zero,exDs];omega
 | e :: r,i+1,h=>by
  simp only [List.getElem_cons_succ,exDs]
  have:=exDs_mem r i (by simpa using h)
  omega
mutual
/-- no list of arguments is longer -/
def exM:Pr.Ex->Nat
 | .mk _ _ _ _ args=>max args.length (exMs args)
def exMs:List Pr.Ex->Nat
 | []=>0
 | e :: r=>max (exM e) (exMs r)
end
theorem exMs_mem:∀ (l:List Pr.Ex) (i:Nat) (h:i<l.length),exM l[i]<=exMs l
 | e :: r,0,h=>by simp only [List.getElem_cons_zero,exMs];omega
 | e :: r,i+1,h=>by
  simp only [List.getElem_cons_succ,exMs]
  have:=exMs_mem r i (by simpa using h)
  omega
/-- what is told: the same, nothing turned -/
def Tru (w:World) (e:Ending) (w':World):Prop:=e=.returned (.bool true)/\Mod [] w w'
set_option maxHeartbeats 4000000 in
theorem sameAtom_any {F G:Nat->Prop} (a:Pr.Atom) (hl:a.terms.length<=140737488355328) (u u':Value) (w:World) (h:RowB F w 5 tmV a.terms u) (h':RowB G w 5 tmV a.terms u') :
  Calls Tryz.prog 24 #[.agg #[.string a.rel,u],.agg #[.string a.rel,u']] w (Tru w):=by
 obtain ⟨rel,ts⟩:=a
 dsimp only at *
 obtain ⟨a1,c1,rfl⟩:=h.lit
 obtain ⟨a2,c2,rfl⟩:=h'.lit
 have H1:=Lib.hid h;have H2:=Lib.hid h'
 clear h h'
 have mA:=((Mod.refl [] w).alloc (Obj.cells #[.string rel,.slice a1 ts.length c1] 40)).alloc (Obj.cells #[.string rel,.slice a2 ts.length c2] 40)
 have eA:=heap_alloc_new w (Obj.cells #[.string rel,.slice a1 ts.length c1] 40)
 have fA:=((Mod.refl [] (w.alloc (Obj.cells #[.string rel,.slice a1 ts.length c1] 40))).alloc (Obj.cells #[.string rel,.slice a2 ts.length c2] 40)).at eA (by simp)
 have eB:=heap_alloc_new (w.alloc (Obj.cells #[.string rel,.slice a1 ts.length c1] 40)) (Obj.cells #[.string rel,.slice a2 ts.length c2] 40)
 have hs1:(w.alloc (Obj.cells #[.string rel,.slice a1 ts.length c1] 40)).heap.size=w.heap.size+1:=by simp
 rw [hs1] at eB
 clear eA hs1
 go_enter Tryz.func24,Tryz.ntmps24
 go_upto_region 1 with fail
 generalize (w.alloc (Obj.cells _ 40)).alloc (Obj.cells _ 40)=w0 at *
 have M0:=Lib.hid mA;have E0:=Lib.hid fA;have E1:=Lib.hid eB
 clear mA fA eB
 have x0:=cell_at E0.out 0;have x1:=cell_at E0.out 1;have y0:=cell_at E1.out 0;have y1:=cell_at E1.out 1
 simp only [List.getElem?_toArray,List.getElem?_cons_zero,List.getElem?_cons_succ] at x0 x1 y0 y1
 go_wp2_with fail
 clear x0 x1 y0 y1
 go_loopw [5] (fun iv wr=>∃ k:Nat,k<=ts.length/\iv=.int .i64 (k:Nat)/\Mod [] w0 wr) (fun iv _=>ts.length - (intOf iv).toNat)
 case atStart=>exact ⟨0,Nat.zero_le _,rfl,Mod.refl _ _⟩
 case round =>
  obtain ⟨k,hk,rfl,hm⟩:=hrel
  have x1:=cell_at (hm.at E0.out (by simp)) 1;have y1:=cell_at (hm.at E1.out (by simp)) 1
  simp only [List.getElem?_toArray,List.getElem?_cons_zero,List.getElem?_cons_succ] at x1 y1
  have MR:=Hxq (M0.out.trans hm (by simp));have HM:=Lib.hid hm
  clear hm
  by_cases hlt:k<ts.length
  ·have hkI:(k:Int)<(ts.length:Int):=by omega
   have hk0:(0:Int)<=(k:Int):=by omega
   obtain ⟨b1,o1,rfl,hc1⟩:=(H1.out.keep MR.out (by simp)).at k hlt
   obtain ⟨b2,o2,rfl,hc2⟩:=(H2.out.keep MR.out (by simp)).at k hlt
   generalize ts[k]=t at *
   obtain ⟨tk,tv,⟨xk,xn,xs⟩⟩:=t
   have p0:=hc1 0 (.int .i64 tk) rfl;have p1:=hc1 1 (.string tv) rfl;have p2:=hc1 2 (.int .i64 xk) rfl;have p3:=hc1 3 (.int .i64 xn) rfl;have p4:=hc1 4 (.string (Lx.ofS xs)) rfl
   have q0:=hc2 0 (.int .i64 tk) rfl;have q1:=hc2 1 (.string tv) rfl;have q2:=hc2 2 (.int .i64 xk) rfl;have q3:=hc2 3 (.int .i64 xn) rfl;have q4:=hc2 4 (.string (Lx.ofS xs)) rfl
   rw [Nat.add_zero] at p0 q0
   try dsimp only at p0 p1 p2 p3 p4 q0 q1 q2 q3 q4
   clear hc1 hc2
   go_wp2_with fail
   go_quiet (fail)
   go_wp2_with fail
   go_roundw
   case rel=>exact ⟨k+1,by omega,by go_num,by first | exact HM.out.drewN _ | exact HM.out.drew | exact HM.out⟩
   case measure=>simp [intOf];omega
  ·obtain rfl:k=ts.length:=by omega
   have hkI:¬ (ts.length:Int)<(ts.length:Int):=by omega
   go_wp2_with fail
   go_ret
   exact ⟨rfl,MR.out⟩
def SEx (k:Nat):Prop:=∀ (e:Pr.Ex),exD e<=k->exM e<=140737488355328->∀ (F G:Nat->Prop) (u u':Value) (w:World),EB F w e u->EB G w e u' ->
 Calls Tryz.prog 68 #[.agg (exV e u),.agg (exV e u')] w (Tru w)
set_option maxHeartbeats 8000000 in
theorem sex_of (d:Nat) (hS:SEx d):SEx (d+1):=by
 intro e he hM F G u u' w h h'
 obtain ⟨k,v,⟨xk,xn,xs⟩,op,args⟩:=e
 obtain ⟨a1,c1,rfl⟩:=h.lit
 obtain ⟨a2,c2,rfl⟩:=h'.lit
 have hd:exDs args<=d:=by simp only [exD] at he;omega
 have hM1:args.length<=140737488355328:=by simp only [exM] at hM;omega
 have hM2:exMs args<=140737488355328:=by simp only [exM] at hM;omega
 have HS:=Lib.hid hS;have H1:=Lib.hid h;have H2:=Lib.hid h'
 clear h h' hS he hM
 simp only [exV,Pr.Ex.k,Pr.Ex.v,Pr.Ex.x,Pr.Ex.op,Pr.Ex.args] at *
 have mA:=((Mod.refl [] w).alloc (Obj.cells #[.int .i64 k,.string v,.int .i64 xk,.int .i64 xn,.string (Lx.ofS xs),.int .i64 op,.slice a1 args.length c1] 45)).alloc (Obj.cells #[.int .i64 k,.string v,.int .i64 xk,.int .i64 xn,.string (Lx.ofS xs),.int .i64 op,.slice a2 args.length c2] 45)
 have eA:=heap_alloc_new w (Obj.cells #[.int .i64 k,.string v,.int .i64 xk,.int .i64 xn,.string (Lx.ofS xs),.int .i64 op,.slice a1 args.length c1] 45)
 have fA:=((Mod.refl [] (w.alloc (Obj.cells #[.int .i64 k,.string v,.int .i64 xk,.int .i64 xn,.string (Lx.ofS xs),.int .i64 op,.slice a1 args.length c1] 45))).alloc (Obj.cells #[.int .i64 k,.string v,.int .i64 xk,.int .i64 xn,.string (Lx.ofS xs),.int .i64 op,.slice a2 args.length c2] 45)).at eA (by simp)
 have eB:=heap_alloc_new (w.alloc (Obj.cells #[.int .i64 k,.string v,.int .i64 xk,.int .i64 xn,.string (Lx.ofS xs),.int .i64 op,.slice a1 args.length c1] 45)) (Obj.cells #[.int .i64 k,.string v,.int .i64 xk,.int .i64 xn,.string (Lx.ofS xs),.int .i64 op,.slice a2 args.length c2] 45)
 have hs1:(w.alloc (Obj.cells #[.int .i64 k,.string v,.int .i64 xk,.int .i64 xn,.string (Lx.ofS xs),.int .i64 op,.slice a1 args.length c1] 45)).heap.size=w.heap.size+1:=by simp
 rw [hs1] at eB
 clear eA hs1
 generalize hxB:Lx.ofS xs=xB at *
 go_enter Tryz.func68,Tryz.ntmps68
 go_upto_region 1 with fail
 generalize (w.alloc (Obj.cells _ 45)).alloc (Obj.cells _ 45)=w0 at *
 have M0:=Lib.hid mA;have E0:=Lib.hid fA;have E1:=Lib.hid eB
 clear mA fA eB
 have x0:=cell_at E0.out 0;have y0:=cell_at E1.out 0
 have x1:=cell_at E0.out 1;have y1:=cell_at E1.out 1
 have x2:=cell_at E0.out 2;have y2:=cell_at E1.out 2
 have x3:=cell_at E0.out 3;have y3:=cell_at E1.out 3
 have x4:=cell_at E0.out 4;have y4:=cell_at E1.out 4
 have x5:=cell_at E0.out 5;have y5:=cell_at E1.out 5
 have x6:=cell_at E0.out 6;have y6:=cell_at E1.out 6
 simp only [List.getElem?_toArray,List.getElem?_cons_zero,List.getElem?_cons_succ] at x0 x1 x2 x3 x4 x5 x6 y0 y1 y2 y3 y4 y5 y6
 go_wp2_with fail
 clear x0 x1 x2 x3 x4 x5 x6 y0 y1 y2 y3 y4 y5 y6
 go_loopw [5] (fun iv wr=>∃ j:Nat,j<=args.length/\iv=.int .i64 (j:Nat)/\Mod [] w0 wr) (fun iv _=>args.length - (intOf iv).toNat)
 case atStart=>exact ⟨0,Nat.zero_le _,rfl,Mod.refl _ _⟩
 case round =>
  obtain ⟨j,hj,rfl,hm⟩:=hrel
  have x6:=cell_at (hm.at E0.out (by simp)) 6;have y6:=cell_at (hm.at E1.out (by simp)) 6
  simp only [List.getElem?_toArray,List.getElem?_cons_zero,List.getElem?_cons_succ] at x6 y6
  have MR:=Hxq (M0.out.trans hm (by simp));have HM:=Lib.hid hm
  clear hm
  by_cases hlt:j<args.length
  ·have hjI:(j:Int)<(args.length:Int):=by omega
   have hj0:(0:Int)<=(j:Int):=by omega
   obtain ⟨b1,o1,u1,rfl,hc1,hE1⟩:=(H1.out.keep MR.out (by simp)).at j hlt
   obtain ⟨b2,o2,u2,rfl,hc2,hE2⟩:=(H2.out.keep MR.out (by simp)).at j hlt
   have hdj:=exDs_mem args j hlt
   have hmj:=exMs_mem args j hlt
   simp only [Pr.Ex.args] at hc1 hc2 hE1 hE2
   generalize args[j]=y at *
   obtain ⟨a3,c3,rfl⟩:=hE1.lit
   obtain ⟨a4,c4,rfl⟩:=hE2.lit
   have Z1:=Lib.hid x6;have Z2:=Lib.hid y6
   have r0:=hc1 0 (.int .i64 y.k) rfl;have t0:=hc2 0 (.int .i64 y.k) rfl
   have r1:=hc1 1 (.string y.v) rfl;have t1:=hc2 1 (.string y.v) rfl
   have r2:=hc1 2 (.int .i64 y.x.k) rfl;have t2:=hc2 2 (.int .i64 y.x.k) rfl
   have r3:=hc1 3 (.int .i64 y.x.n) rfl;have t3:=hc2 3 (.int .i64 y.x.n) rfl
   have r4:=hc1 4 (.string (Lx.ofS y.x.s)) rfl;have t4:=hc2 4 (.string (Lx.ofS y.x.s)) rfl
   have r5:=hc1 5 (.int .i64 y.op) rfl;have t5:=hc2 5 (.int .i64 y.op) rfl
   have r6:=hc1 6 (.slice a3 y.args.length c3) rfl;have t6:=hc2 6 (.slice a4 y.args.length c4) rfl
   rw [Nat.add_zero] at r0 t0
   have P0:=Lib.hid r0;have Q0:=Lib.hid t0
   have P1:=Lib.hid r1;have Q1:=Lib.hid t1
   have P2:=Lib.hid r2;have Q2:=Lib.hid t2
   have P3:=Lib.hid r3;have Q3:=Lib.hid t3
   have P4:=Lib.hid r4;have Q4:=Lib.hid t4
   have P5:=Lib.hid r5;have Q5:=Lib.hid t5
   have P6:=Lib.hid r6;have Q6:=Lib.hid t6
   clear r0 r1 r2 r3 r4 r5 r6 t0 t1 t2 t3 t4 t5 t6
   have HE1:=Hxq (hE1.keep ((Mod.refl [] wr).drew) (by simp));have HE2:=Hxq (hE2.keep ((Mod.refl [] wr).drew) (by simp))
   clear hc1 hc2 hE1 hE2
   go_wp2_with fail
   refine wp_region_held_drew (S:=(fun w':World=>Mod [] wr w')) (by kernel_rfl) (by (try dsimp only);exact (Mod.refl [] wr).drew) (fun hHeld=>?_)
   refine Tkq 0 (v:=?_) (by assumption) ?_ ?_ ?_
   rotate_left 1
   ·refine .inl ⟨by rfl,?_⟩;intro w hSw;have s1:=hSw.cell Z1.out (by simp);have s2:=hSw.cell Z2.out (by simp);have p0:=hSw.cell P0.out (by simp);have q0:=hSw.cell Q0.out (by simp);have p1:=hSw.cell P1.out (by simp);have q1:=hSw.cell Q1.out (by simp);have p2:=hSw.cell P2.out (by simp);have q2:=hSw.cell Q2.out (by simp);have p3:=hSw.cell P3.out (by simp);have q3:=hSw.cell Q3.out (by simp);have p4:=hSw.cell P4.out (by simp);have q4:=hSw.cell Q4.out (by simp);have p5:=hSw.cell P5.out (by simp);have q5:=hSw.cell Q5.out (by simp);have p6:=hSw.cell P6.out (by simp);have q6:=hSw.cell Q6.out (by simp);clear hSw;go_simp
    all_goals with_reducible rfl
   ·exact fun _ _ _ h=>h
   try simp only [Act.put,Lq1,Lq2,Lq3]
   refine Tkq 1 (v:=?_) (by assumption) ?_ ?_ ?_
   rotate_left 1
   ·refine .inl ⟨by rfl,?_⟩;intro w hSw;have s1:=hSw.cell Z1.out (by simp);have s2:=hSw.cell Z2.out (by simp);have p0:=hSw.cell P0.out (by simp);have q0:=hSw.cell Q0.out (by simp);have p1:=hSw.cell P1.out (by simp);have q1:=hSw.cell Q1.out (by simp);have p2:=hSw.cell P2.out (by simp);have q2:=hSw.cell Q2.out (by simp);have p3:=hSw.cell P3.out (by simp);have q3:=hSw.cell Q3.out (by simp);have p4:=hSw.cell P4.out (by simp);have q4:=hSw.cell Q4.out (by simp);have p5:=hSw.cell P5.out (by simp);have q5:=hSw.cell Q5.out (by simp);have p6:=hSw.cell P6.out (by simp);have q6:=hSw.cell Q6.out (by simp);clear hSw;go_simp
    all_goals with_reducible rfl
   ·exact fun _ _ _ h=>h
   try simp only [Act.put,Lq1,Lq2,Lq3]
   refine Tkq 2 (v:=?_) (by assumption) ?_ ?_ ?_
   rotate_left 1
   ·refine .inl ⟨by rfl,?_⟩;intro w hSw;have s1:=hSw.cell Z1.out (by simp);have s2:=hSw.cell Z2.out (by simp);have p0:=hSw.cell P0.out (by simp);have q0:=hSw.cell Q0.out (by simp);have p1:=hSw.cell P1.out (by simp);have q1:=hSw.cell Q1.out (by simp);have p2:=hSw.cell P2.out (by simp);have q2:=hSw.cell Q2.out (by simp);have p3:=hSw.cell P3.out (by simp);have q3:=hSw.cell Q3.out (by simp);have p4:=hSw.cell P4.out (by simp);have q4:=hSw.cell Q4.out (by simp);have p5:=hSw.cell P5.out (by simp);have q5:=hSw.cell Q5.out (by simp);have p6:=hSw.cell P6.out (by simp);have q6:=hSw.cell Q6.out (by simp);clear hSw;go_simp
    all_goals with_reducible rfl
   ·exact fun _ _ _ h=>h
   try simp only [Act.put,Lq1,Lq2,Lq3]
   refine Tkq 3 (v:=?_) (by assumption) ?_ ?_ ?_
   rotate_left 1
   ·refine .inl ⟨by rfl,?_⟩;intro w hSw;have s1:=hSw.cell Z1.out (by simp);have s2:=hSw.cell Z2.out (by simp);have p0:=hSw.cell P0.out (by simp);have q0:=hSw.cell Q0.out (by simp);have p1:=hSw.cell P1.out (by simp);have q1:=hSw.cell Q1.out (by simp);have p2:=hSw.cell P2.out (by simp);have q2:=hSw.cell Q2.out (by simp);have p3:=hSw.cell P3.out (by simp);have q3:=hSw.cell Q3.out (by simp);have p4:=hSw.cell P4.out (by simp);have q4:=hSw.cell Q4.out (by simp);have p5:=hSw.cell P5.out (by simp);have q5:=hSw.cell Q5.out (by simp);have p6:=hSw.cell P6.out (by simp);have q6:=hSw.cell Q6.out (by simp);clear hSw;go_simp
    all_goals with_reducible rfl
   ·exact fun _ _ _ h=>h
   try simp only [Act.put,Lq1,Lq2,Lq3]
   refine Tkq 4 (v:=?_) (by assumption) ?_ ?_ ?_
   rotate_left 1
   ·refine .inl ⟨by rfl,?_⟩;intro w hSw;have s1:=hSw.cell Z1.out (by simp);have s2:=hSw.cell Z2.out (by simp);have p0:=hSw.cell P0.out (by simp);have q0:=hSw.cell Q0.out (by simp);have p1:=hSw.cell P1.out (by simp);have q1:=hSw.cell Q1.out (by simp);have p2:=hSw.cell P2.out (by simp);have q2:=hSw.cell Q2.out (by simp);have p3:=hSw.cell P3.out (by simp);have q3:=hSw.cell Q3.out (by simp);have p4:=hSw.cell P4.out (by simp);have q4:=hSw.cell Q4.out (by simp);have p5:=hSw.cell P5.out (by simp);have q5:=hSw.cell Q5.out (by simp);have p6:=hSw.cell P6.out (by simp);have q6:=hSw.cell Q6.out (by simp);clear hSw;go_simp
    all_goals with_reducible rfl
   ·exact fun _ _ _ h=>h
   try simp only [Act.put,Lq1,Lq2,Lq3]
   refine Tkq 5 (v:=?_) (by assumption) ?_ ?_ ?_
   rotate_left 1
   ·refine .inl ⟨by rfl,?_⟩;intro w hSw;have s1:=hSw.cell Z1.out (by simp);have s2:=hSw.cell Z2.out (by simp);have p0:=hSw.cell P0.out (by simp);have q0:=hSw.cell Q0.out (by simp);have p1:=hSw.cell P1.out (by simp);have q1:=hSw.cell Q1.out (by simp);have p2:=hSw.cell P2.out (by simp);have q2:=hSw.cell Q2.out (by simp);have p3:=hSw.cell P3.out (by simp);have q3:=hSw.cell Q3.out (by simp);have p4:=hSw.cell P4.out (by simp);have q4:=hSw.cell Q4.out (by simp);have p5:=hSw.cell P5.out (by simp);have q5:=hSw.cell Q5.out (by simp);have p6:=hSw.cell P6.out (by simp);have q6:=hSw.cell Q6.out (by simp);clear hSw;go_simp
    all_goals with_reducible rfl
   ·exact fun _ _ _ h=>h
   try simp only [Act.put,Lq1,Lq2,Lq3]
   refine Tkq 6 (v:=?_) (by assumption) ?_ ?_ ?_
   rotate_left 1
   ·refine .inl ⟨by rfl,?_⟩;intro w hSw;have s1:=hSw.cell Z1.out (by simp);have s2:=hSw.cell Z2.out (by simp);have p0:=hSw.cell P0.out (by simp);have q0:=hSw.cell Q0.out (by simp);have p1:=hSw.cell P1.out (by simp);have q1:=hSw.cell Q1.out (by simp);have p2:=hSw.cell P2.out (by simp);have q2:=hSw.cell Q2.out (by simp);have p3:=hSw.cell P3.out (by simp);have q3:=hSw.cell Q3.out (by simp);have p4:=hSw.cell P4.out (by simp);have q4:=hSw.cell Q4.out (by simp);have p5:=hSw.cell P5.out (by simp);have q5:=hSw.cell Q5.out (by simp);have p6:=hSw.cell P6.out (by simp);have q6:=hSw.cell Q6.out (by simp);clear hSw;go_simp
    all_goals with_reducible rfl
   ·exact fun _ _ _ h=>h
   try simp only [Act.put,Lq1,Lq2,Lq3]
   refine Tkq 7 (v:=?_) (by assumption) ?_ ?_ ?_
   rotate_left 1
   ·refine .inl ⟨by rfl,?_⟩;intro w hSw;have s1:=hSw.cell Z1.out (by simp);have s2:=hSw.cell Z2.out (by simp);have p0:=hSw.cell P0.out (by simp);have q0:=hSw.cell Q0.out (by simp);have p1:=hSw.cell P1.out (by simp);have q1:=hSw.cell Q1.out (by simp);have p2:=hSw.cell P2.out (by simp);have q2:=hSw.cell Q2.out (by simp);have p3:=hSw.cell P3.out (by simp);have q3:=hSw.cell Q3.out (by simp);have p4:=hSw.cell P4.out (by simp);have q4:=hSw.cell Q4.out (by simp);have p5:=hSw.cell P5.out (by simp);have q5:=hSw.cell Q5.out (by simp);have p6:=hSw.cell P6.out (by simp);have q6:=hSw.cell Q6.out (by simp);clear hSw;go_simp
    all_goals with_reducible rfl
   ·exact fun _ _ _ h=>h
   try simp only [Act.put,Lq1,Lq2,Lq3]
   refine Tkq 8 (v:=?_) (by assumption) ?_ ?_ ?_
   rotate_left 1
   ·refine .inl ⟨by rfl,?_⟩;intro w hSw;have s1:=hSw.cell Z1.out (by simp);have s2:=hSw.cell Z2.out (by simp);have p0:=hSw.cell P0.out (by simp);have q0:=hSw.cell Q0.out (by simp);have p1:=hSw.cell P1.out (by simp);have q1:=hSw.cell Q1.out (by simp);have p2:=hSw.cell P2.out (by simp);have q2:=hSw.cell Q2.out (by simp);have p3:=hSw.cell P3.out (by simp);have q3:=hSw.cell Q3.out (by simp);have p4:=hSw.cell P4.out (by simp);have q4:=hSw.cell Q4.out (by simp);have p5:=hSw.cell P5.out (by simp);have q5:=hSw.cell Q5.out (by simp);have p6:=hSw.cell P6.out (by simp);have q6:=hSw.cell Q6.out (by simp);clear hSw;go_simp
    all_goals with_reducible rfl
   ·exact fun _ _ _ h=>h
   try simp only [Act.put,Lq1,Lq2,Lq3]
   refine Tkq 9 (v:=?_) (by assumption) ?_ ?_ ?_
   rotate_left 1
   ·refine .inl ⟨by rfl,?_⟩;intro w hSw;have s1:=hSw.cell Z1.out (by simp);have s2:=hSw.cell Z2.out (by simp);have p0:=hSw.cell P0.out (by simp);have q0:=hSw.cell Q0.out (by simp);have p1:=hSw.cell P1.out (by simp);have q1:=hSw.cell Q1.out (by simp);have p2:=hSw.cell P2.out (by simp);have q2:=hSw.cell Q2.out (by simp);have p3:=hSw.cell P3.out (by simp);have q3:=hSw.cell Q3.out (by simp);have p4:=hSw.cell P4.out (by simp);have q4:=hSw.cell Q4.out (by simp);have p5:=hSw.cell P5.out (by simp);have q5:=hSw.cell Q5.out (by simp);have p6:=hSw.cell P6.out (by simp);have q6:=hSw.cell Q6.out (by simp);clear hSw;go_simp
    all_goals with_reducible rfl
   ·exact fun _ _ _ h=>h
   try simp only [Act.put,Lq1,Lq2,Lq3]
   refine wpAnyH_ready (rs:=[10]) (by kernel_rfl) (by simp) ?_
   refine AllReadyH.cons (o:=?_) ?_ ?_ AllReadyH.nil
   rotate_left 1
   ·(simp only [Gq1,Gq2,Gq3])<;>rfl
   intro K hK
   go_simp
   refine (HS.out _ (by omega) (by omega) _ _ _ _ _ HE1.out HE2.out).mono ?_
   rintro e7 w7 ⟨rfl,m7⟩
   have M7:=Hxq (((Mod.refl [] wr).drew).trans m7 (by simp))
   clear m7
   refine hK.out _ _ (by (try dsimp only);exact M7.out) (fun hHeld=>?_)
   clear hK K
   try simp only [Act.put,Lq1,Lq2,Lq3]
   refine Tkq 11 (v:=?_) (by assumption) ?_ ?_ ?_
   rotate_left 1
   ·refine .inl ⟨by rfl,?_⟩;intro w hSw;clear hSw;go_simp
    all_goals with_reducible rfl
   ·exact fun _ _ _ h=>h
   try simp only [Act.put,Lq1,Lq2,Lq3]
   refine wpAnyH_done (by kernel_rfl) ?_ _
   go_wp2_with fail
   go_roundw
   case rel=>exact ⟨j+1,by omega,by go_num,HM.out.trans M7.out (by simp)⟩
   case measure=>simp [intOf];omega
  ·obtain rfl:j=args.length:=by omega
   have hjI:¬ (args.length:Int)<(args.length:Int):=by omega
   go_wp2_with fail
   go_ret
   exact ⟨rfl,MR.out⟩
theorem sex_all:∀ d,SEx d
 | 0=>fun e he _=>by cases e;simp [exD] at he
 | d+1=>sex_of d (sex_all d)
theorem sameExpr_any {F G:Nat->Prop} (e:Pr.Ex) (hM:exM e<=140737488355328) (u u':Value) (w:World) (h:EB F w e u) (h':EB G w e u') :
  Calls Tryz.prog 68 #[.agg (exV e u),.agg (exV e u')] w (Tru w):=sex_all _ e (Nat.le_refl _) hM F G u u' w h h'
end Go.Proofs.YtppigckioalhhaaGreatDoorR
