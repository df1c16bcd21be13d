/- THE TEXTS MERGED: SySame SySame2 SyRule SyRel SyProg SyProg2. -/
import Derived.Test.YtohnmnfhmbmoaaaGreatDoorKG3
import Derived.Deep.MidRow
namespace Go.Proofs.YtohnmnfhmbmoaaaGreatDoor
open Go.RowKit
set_option linter.unusedVariables false
set_option linter.unusedSimpArgs false
set_option maxRecDepth 100000
mutual
def exD:Pr.Ex->Nat
 | .mk _ _ _ _ args=>exDs args+1
def exDs:List Pr.Ex->Nat
 | []=>0
 | e :: r=>max (exD e) (exDs r)
end
theorem exDs_mem:∀ (l:List Pr.Ex) (i:Nat) (h:i<l.length),exD l[i]<=exDs l
 | e :: r,0,h=>by simp only [List.getElem_cons_zero,exDs];omega
 | e :: r,i+1,h=>by
  simp only [List.getElem_cons_succ,exDs]
  have:=exDs_mem r i (by simpa using h)
  omega
mutual
/-- no list of arguments is longer -/
def exM:Pr.Ex->Nat
 | .mk _ _ _ _ args=>max args.length (exMs args)
def exMs:List Pr.Ex->Nat
 | []=>0
 | e :: r=>max (exM e) (exMs r)
end
theorem exMs_mem:∀ (l:List Pr.Ex) (i:Nat) (h:i<l.length),exM l[i]<=exMs l
 | e :: r,0,h=>by simp only [List.getElem_cons_zero,exMs];omega
 | e :: r,i+1,h=>by
  simp only [List.getElem_cons_succ,exMs]
  have:=exMs_mem r i (by simpa using h)
  omega
/-- what is told: the same, nothing turned -/
def Tru (w:World) (e:Ending) (w':World):Prop:=e=.returned (.bool true)/\Mod [] w w'
set_option maxHeartbeats 4000000 in
theorem sameAtom_any {F G:Nat->Prop} (a:Pr.Atom) (hl:a.terms.length<=140737488355328) (u u':Value) (w:World) (h:RowB F w 5 tmV a.terms u) (h':RowB G w 5 tmV a.terms u') :
  Calls Tryz.prog 35 #[.agg #[.string a.rel,u],.agg #[.string a.rel,u']] w (Tru w):=by
 obtain ⟨rel,ts⟩:=a
 dsimp only at *
 obtain ⟨a1,c1,rfl⟩:=h.lit
 obtain ⟨a2,c2,rfl⟩:=h'.lit
 have H1:=Lib.hid h;have H2:=Lib.hid h'
 clear h h'
 have mA:=((Mod.refl [] w).alloc (Obj.cells #[.string rel,.slice a1 ts.length c1] 42)).alloc (Obj.cells #[.string rel,.slice a2 ts.length c2] 42)
 have eA:=heap_alloc_new w (Obj.cells #[.string rel,.slice a1 ts.length c1] 42)
 have fA:=((Mod.refl [] (w.alloc (Obj.cells #[.string rel,.slice a1 ts.length c1] 42))).alloc (Obj.cells #[.string rel,.slice a2 ts.length c2] 42)).at eA (by simp)
 have eB:=heap_alloc_new (w.alloc (Obj.cells #[.string rel,.slice a1 ts.length c1] 42)) (Obj.cells #[.string rel,.slice a2 ts.length c2] 42)
 have hs1:(w.alloc (Obj.cells #[.string rel,.slice a1 ts.length c1] 42)).heap.size=w.heap.size+1:=by simp
 rw [hs1] at eB
 clear eA hs1
 go_enter Tryz.func35,Tryz.ntmps35
 go_upto_region 1 with fail
 generalize (w.alloc (Obj.cells _ 42)).alloc (Obj.cells _ 42)=w0 at *
 have M0:=Lib.hid mA;have E0:=Lib.hid fA;have E1:=Lib.hid eB
 clear mA fA eB
 have x0:=cell_at E0.out 0;have x1:=cell_at E0.out 1;have y0:=cell_at E1.out 0;have y1:=cell_at E1.out 1
 simp only [List.getElem?_toArray,List.getElem?_cons_zero,List.getElem?_cons_succ] at x0 x1 y0 y1
 go_wp2_with fail
 clear x0 x1 y0 y1
 go_loopw [5] (fun iv wr=>∃ k:Nat,k<=ts.length/\iv=.int .i64 (k:Nat)/\Mod [] w0 wr) (fun iv _=>ts.length - (intOf iv).toNat)
 case atStart=>exact ⟨0,Nat.zero_le _,rfl,Mod.refl _ _⟩
 case round =>
  obtain ⟨k,hk,rfl,hm⟩:=hrel
  have x1:=cell_at (hm.at E0.out (by simp)) 1;have y1:=cell_at (hm.at E1.out (by simp)) 1
  simp only [List.getElem?_toArray,List.getElem?_cons_zero,List.getElem?_cons_succ] at x1 y1
  have MR:=Hxq (M0.out.trans hm (by simp));have HM:=Lib.hid hm
  clear hm
  by_cases hlt:k<ts.length
  ·have hkI:(k:Int)<(ts.length:Int):=by omega
   have hk0:(0:Int)<=(k:Int):=by omega
   obtain ⟨b1,o1,rfl,hc1⟩:=(H1.out.keep MR.out (by simp)).at k hlt
   obtain ⟨b2,o2,rfl,hc2⟩:=(H2.out.keep MR.out (by simp)).at k hlt
   generalize ts[k]=t at *
   obtain ⟨tk,tv,⟨xk,xn,xs⟩⟩:=t
   have p0:=hc1 0 (.int .i64 tk) rfl;have p1:=hc1 1 (.string tv) rfl;have p2:=hc1 2 (.int .i64 xk) rfl;have p3:=hc1 3 (.int .i64 xn) rfl;have p4:=hc1 4 (.string (Lx.ofS xs)) rfl
   have q0:=hc2 0 (.int .i64 tk) rfl;have q1:=hc2 1 (.string tv) rfl;have q2:=hc2 2 (.int .i64 xk) rfl;have q3:=hc2 3 (.int .i64 xn) rfl;have q4:=hc2 4 (.string (Lx.ofS xs)) rfl
   rw [Nat.add_zero] at p0 q0
   try dsimp only at p0 p1 p2 p3 p4 q0 q1 q2 q3 q4
   clear hc1 hc2
   go_wp2_with fail
   go_quiet (fail)
   go_wp2_with fail
   go_roundw
   case rel=>exact ⟨k+1,by omega,by go_num,by first | exact HM.out.drewN _ | exact HM.out.drew | exact HM.out⟩
   case measure=>simp [intOf];omega
  ·obtain rfl:k=ts.length:=by omega
   have hkI:¬ (ts.length:Int)<(ts.length:Int):=by omega
   go_wp2_with fail
   go_ret
   exact ⟨rfl,MR.out⟩
def SEx (k:Nat):Prop:=∀ (e:Pr.Ex),exD e<=k->exM e<=140737488355328->∀ (F G:Nat->Prop) (u u':Value) (w:World),EB F w e u->EB G w e u' ->
 Calls Tryz.prog 17 #[.agg (exV e u),.agg (exV e u')] w (Tru w)
set_option maxHeartbeats 8000000 in
theorem sex_of (d:Nat) (hS:SEx d):SEx (d+1):=by
 intro e he hM F G u u' w h h'
 obtain ⟨k,v,⟨xk,xn,xs⟩,op,args⟩:=e
 obtain ⟨a1,c1,rfl⟩:=h.lit
 obtain ⟨a2,c2,rfl⟩:=h'.lit
 have hd:exDs args<=d:=by simp only [exD] at he;omega
 have hM1:args.length<=140737488355328:=by simp only [exM] at hM;omega
 have hM2:exMs args<=140737488355328:=by simp only [exM] at hM;omega
 have HS:=Lib.hid hS;have H1:=Lib.hid h;have H2:=Lib.hid h'
 clear h h' hS he hM
 simp only [exV,Pr.Ex.k,Pr.Ex.v,Pr.Ex.x,Pr.Ex.op,Pr.Ex.args] at *
 have mA:=((Mod.refl [] w).alloc (Obj.cells #[.int .i64 k,.string v,.int .i64 xk,.int .i64 xn,.string (Lx.ofS xs),.int .i64 op,.slice a1 args.length c1] 38)).alloc (Obj.cells #[.int .i64 k,.string v,.int .i64 xk,.int .i64 xn,.string (Lx.ofS xs),.int .i64 op,.slice a2 args.length c2] 38)
 have eA:=heap_alloc_new w (Obj.cells #[.int .i64 k,.string v,.int .i64 xk,.int .i64 xn,.string (Lx.ofS xs),.int .i64 op,.slice a1 args.length c1] 38)
 have fA:=((Mod.refl [] (w.alloc (Obj.cells #[.int .i64 k,.string v,.int .i64 xk,.int .i64 xn,.string (Lx.ofS xs),.int .i64 op,.slice a1 args.length c1] 38))).alloc (Obj.cells #[.int .i64 k,.string v,.int .i64 xk,.int .i64 xn,.string (Lx.ofS xs),.int .i64 op,.slice a2 args.length c2] 38)).at eA (by simp)
 have eB:=heap_alloc_new (w.alloc (Obj.cells #[.int .i64 k,.string v,.int .i64 xk,.int .i64 xn,.string (Lx.ofS xs),.int .i64 op,.slice a1 args.length c1] 38)) (Obj.cells #[.int .i64 k,.string v,.int .i64 xk,.int .i64 xn,.string (Lx.ofS xs),.int .i64 op,.slice a2 args.length c2] 38)
 have hs1:(w.alloc (Obj.cells #[.int .i64 k,.string v,.int .i64 xk,.int .i64 xn,.string (Lx.ofS xs),.int .i64 op,.slice a1 args.length c1] 38)).heap.size=w.heap.size+1:=by simp
 rw [hs1] at eB
 clear eA hs1
 generalize hxB:Lx.ofS xs=xB at *
 go_enter Tryz.func17,Tryz.ntmps17
 go_upto_region 1 with fail
 generalize (w.alloc (Obj.cells _ 38)).alloc (Obj.cells _ 38)=w0 at *
 have M0:=Lib.hid mA;have E0:=Lib.hid fA;have E1:=Lib.hid eB
 clear mA fA eB
 have x0:=cell_at E0.out 0;have y0:=cell_at E1.out 0
 have x1:=cell_at E0.out 1;have y1:=cell_at E1.out 1
 have x2:=cell_at E0.out 2;have y2:=cell_at E1.out 2
 have x3:=cell_at E0.out 3;have y3:=cell_at E1.out 3
 have x4:=cell_at E0.out 4;have y4:=cell_at E1.out 4
 have x5:=cell_at E0.out 5;have y5:=cell_at E1.out 5
 have x6:=cell_at E0.out 6;have y6:=cell_at E1.out 6
 simp only [List.getElem?_toArray,List.getElem?_cons_zero,List.getElem?_cons_succ] at x0 x1 x2 x3 x4 x5 x6 y0 y1 y2 y3 y4 y5 y6
 go_wp2_with fail
 clear x0 x1 x2 x3 x4 x5 x6 y0 y1 y2 y3 y4 y5 y6
 go_loopw [5] (fun iv wr=>∃ j:Nat,j<=args.length/\iv=.int .i64 (j:Nat)/\Mod [] w0 wr) (fun iv _=>args.length - (intOf iv).toNat)
 case atStart=>exact ⟨0,Nat.zero_le _,rfl,Mod.refl _ _⟩
 case round =>
  obtain ⟨j,hj,rfl,hm⟩:=hrel
  have x6:=cell_at (hm.at E0.out (by simp)) 6;have y6:=cell_at (hm.at E1.out (by simp)) 6
  simp only [List.getElem?_toArray,List.getElem?_cons_zero,List.getElem?_cons_succ] at x6 y6
  have MR:=Hxq (M0.out.trans hm (by simp));have HM:=Lib.hid hm
  clear hm
  by_cases hlt:j<args.length
  ·have hjI:(j:Int)<(args.length:Int):=by omega
   have hj0:(0:Int)<=(j:Int):=by omega
   obtain ⟨b1,o1,u1,rfl,hc1,hE1⟩:=(H1.out.keep MR.out (by simp)).at j hlt
   obtain ⟨b2,o2,u2,rfl,hc2,hE2⟩:=(H2.out.keep MR.out (by simp)).at j hlt
   have hdj:=exDs_mem args j hlt
   have hmj:=exMs_mem args j hlt
   simp only [Pr.Ex.args] at hc1 hc2 hE1 hE2
   generalize args[j]=y at *
   obtain ⟨a3,c3,rfl⟩:=hE1.lit
   obtain ⟨a4,c4,rfl⟩:=hE2.lit
   have Z1:=Lib.hid x6;have Z2:=Lib.hid y6
   have r0:=hc1 0 (.int .i64 y.k) rfl;have t0:=hc2 0 (.int .i64 y.k) rfl
   have r1:=hc1 1 (.string y.v) rfl;have t1:=hc2 1 (.string y.v) rfl
   have r2:=hc1 2 (.int .i64 y.x.k) rfl;have t2:=hc2 2 (.int .i64 y.x.k) rfl
   have r3:=hc1 3 (.int .i64 y.x.n) rfl;have t3:=hc2 3 (.int .i64 y.x.n) rfl
   have r4:=hc1 4 (.string (Lx.ofS y.x.s)) rfl;have t4:=hc2 4 (.string (Lx.ofS y.x.s)) rfl
   have r5:=hc1 5 (.int .i64 y.op) rfl;have t5:=hc2 5 (.int .i64 y.op) rfl
   have r6:=hc1 6 (.slice a3 y.args.length c3) rfl;have t6:=hc2 6 (.slice a4 y.args.length c4) rfl
   rw [Nat.add_zero] at r0 t0
   have P0:=Lib.hid r0;have Q0:=Lib.hid t0
   have P1:=Lib.hid r1;have Q1:=Lib.hid t1
   have P2:=Lib.hid r2;have Q2:=Lib.hid t2
   have P3:=Lib.hid r3;have Q3:=Lib.hid t3
   have P4:=Lib.hid r4;have Q4:=Lib.hid t4
   have P5:=Lib.hid r5;have Q5:=Lib.hid t5
   have P6:=Lib.hid r6;have Q6:=Lib.hid t6
   clear r0 r1 r2 r3 r4 r5 r6 t0 t1 t2 t3 t4 t5 t6
   have HE1:=Hxq (hE1.keep ((Mod.refl [] wr).drew) (by simp));have HE2:=Hxq (hE2.keep ((Mod.refl [] wr).drew) (by simp))
   clear hc1 hc2 hE1 hE2
   go_wp2_with fail
   refine wp_region_held_drew (S:=(fun w':World=>Mod [] wr w')) (by kernel_rfl) (by (try dsimp only);exact (Mod.refl [] wr).drew) (fun hHeld=>?_)
   refine Tkq 0 (v:=?_) (by assumption) ?_ ?_ ?_
   rotate_left 1
   ·refine .inl ⟨by rfl,?_⟩;intro w hSw;have s1:=hSw.cell Z1.out (by simp);have s2:=hSw.cell Z2.out (by simp);have p0:=hSw.cell P0.out (by simp);have q0:=hSw.cell Q0.out (by simp);have p1:=hSw.cell P1.out (by simp);have q1:=hSw.cell Q1.out (by simp);have p2:=hSw.cell P2.out (by simp);have q2:=hSw.cell Q2.out (by simp);have p3:=hSw.cell P3.out (by simp);have q3:=hSw.cell Q3.out (by simp);have p4:=hSw.cell P4.out (by simp);have q4:=hSw.cell Q4.out (by simp);have p5:=hSw.cell P5.out (by simp);have q5:=hSw.cell Q5.out (by simp);have p6:=hSw.cell P6.out (by simp);have q6:=hSw.cell Q6.out (by simp);clear hSw;go_simp
    all_goals with_reducible rfl
   ·exact fun _ _ _ h=>h
   try simp only [Act.put,Lq1,Lq2,Lq3]
   refine Tkq 1 (v:=?_) (by assumption) ?_ ?_ ?_
   rotate_left 1
   ·refine .inl ⟨by rfl,?_⟩;intro w hSw;have s1:=hSw.cell Z1.out (by simp);have s2:=hSw.cell Z2.out (by simp);have p0:=hSw.cell P0.out (by simp);have q0:=hSw.cell Q0.out (by simp);have p1:=hSw.cell P1.out (by simp);have q1:=hSw.cell Q1.out (by simp);have p2:=hSw.cell P2.out (by simp);have q2:=hSw.cell Q2.out (by simp);have p3:=hSw.cell P3.out (by simp);have q3:=hSw.cell Q3.out (by simp);have p4:=hSw.cell P4.out (by simp);have q4:=hSw.cell Q4.out (by simp);have p5:=hSw.cell P5.out (by simp);have q5:=hSw.cell Q5.out (by simp);have p6:=hSw.cell P6.out (by simp);have q6:=hSw.cell Q6.out (by simp);clear hSw;go_simp
    all_goals with_reducible rfl
   ·exact fun _ _ _ h=>h
   try simp only [Act.put,Lq1,Lq2,Lq3]
   refine Tkq 2 (v:=?_) (by assumption) ?_ ?_ ?_
   rotate_left 1
   ·refine .inl ⟨by rfl,?_⟩;intro w hSw;have s1:=hSw.cell Z1.out (by simp);have s2:=hSw.cell Z2.out (by simp);have p0:=hSw.cell P0.out (by simp);have q0:=hSw.cell Q0.out (by simp);have p1:=hSw.cell P1.out (by simp);have q1:=hSw.cell Q1.out (by simp);have p2:=hSw.cell P2.out (by simp);have q2:=hSw.cell Q2.out (by simp);have p3:=hSw.cell P3.out (by simp);have q3:=hSw.cell Q3.out (by simp);have p4:=hSw.cell P4.out (by simp);have q4:=hSw.cell Q4.out (by simp);have p5:=hSw.cell P5.out (by simp);have q5:=hSw.cell Q5.out (by simp);have p6:=hSw.cell P6.out (by simp);have q6:=hSw.cell Q6.out (by simp);clear hSw;go_simp
    all_goals with_reducible rfl
   ·exact fun _ _ _ h=>h
   try simp only [Act.put,Lq1,Lq2,Lq3]
   refine Tkq 3 (v:=?_) (by assumption) ?_ ?_ ?_
   rotate_left 1
   ·refine .inl ⟨by rfl,?_⟩;intro w hSw;have s1:=hSw.cell Z1.out (by simp);have s2:=hSw.cell Z2.out (by simp);have p0:=hSw.cell P0.out (by simp);have q0:=hSw.cell Q0.out (by simp);have p1:=hSw.cell P1.out (by simp);have q1:=hSw.cell Q1.out (by simp);have p2:=hSw.cell P2.out (by simp);have q2:=hSw.cell Q2.out (by simp);have p3:=hSw.cell P3.out (by simp);have q3:=hSw.cell Q3.out (by simp);have p4:=hSw.cell P4.out (by simp);have q4:=hSw.cell Q4.out (by simp);have p5:=hSw.cell P5.out (by simp);have q5:=hSw.cell Q5.out (by simp);have p6:=hSw.cell P6.out (by simp);have q6:=hSw.cell Q6.out (by simp);clear hSw;go_simp
    all_goals with_reducible rfl
   ·exact fun _ _ _ h=>h
   try simp only [Act.put,Lq1,Lq2,Lq3]
   refine Tkq 4 (v:=?_) (by assumption) ?_ ?_ ?_
   rotate_left 1
   ·refine .inl ⟨by rfl,?_⟩;intro w hSw;have s1:=hSw.cell Z1.out (by simp);have s2:=hSw.cell Z2.out (by simp);have p0:=hSw.cell P0.out (by simp);have q0:=hSw.cell Q0.out (by simp);have p1:=hSw.cell P1.out (by simp);have q1:=hSw.cell Q1.out (by simp);have p2:=hSw.cell P2.out (by simp);have q2:=hSw.cell Q2.out (by simp);have p3:=hSw.cell P3.out (by simp);have q3:=hSw.cell Q3.out (by simp);have p4:=hSw.cell P4.out (by simp);have q4:=hSw.cell Q4.out (by simp);have p5:=hSw.cell P5.out (by simp);have q5:=hSw.cell Q5.out (by simp);have p6:=hSw.cell P6.out (by simp);have q6:=hSw.cell Q6.out (by simp);clear hSw;go_simp
    all_goals with_reducible rfl
   ·exact fun _ _ _ h=>h
   try simp only [Act.put,Lq1,Lq2,Lq3]
   refine Tkq 5 (v:=?_) (by assumption) ?_ ?_ ?_
   rotate_left 1
   ·refine .inl ⟨by rfl,?_⟩;intro w hSw;have s1:=hSw.cell Z1.out (by simp);have s2:=hSw.cell Z2.out (by simp);have p0:=hSw.cell P0.out (by simp);have q0:=hSw.cell Q0.out (by simp);have p1:=hSw.cell P1.out (by simp);have q1:=hSw.cell Q1.out (by simp);have p2:=hSw.cell P2.out (by simp);have q2:=hSw.cell Q2.out (by simp);have p3:=hSw.cell P3.out (by simp);have q3:=hSw.cell Q3.out (by simp);have p4:=hSw.cell P4.out (by simp);have q4:=hSw.cell Q4.out (by simp);have p5:=hSw.cell P5.out (by simp);have q5:=hSw.cell Q5.out (by simp);have p6:=hSw.cell P6.out (by simp);have q6:=hSw.cell Q6.out (by simp);clear hSw;go_simp
    all_goals with_reducible rfl
   ·exact fun _ _ _ h=>h
   try simp only [Act.put,Lq1,Lq2,Lq3]
   refine Tkq 6 (v:=?_) (by assumption) ?_ ?_ ?_
   rotate_left 1
   ·refine .inl ⟨by rfl,?_⟩;intro w hSw;have s1:=hSw.cell Z1.out (by simp);have s2:=hSw.cell Z2.out (by simp);have p0:=hSw.cell P0.out (by simp);have q0:=hSw.cell Q0.out (by simp);have p1:=hSw.cell P1.out (by simp);have q1:=hSw.cell Q1.out (by simp);have p2:=hSw.cell P2.out (by simp);have q2:=hSw.cell Q2.out (by simp);have p3:=hSw.cell P3.out (by simp);have q3:=hSw.cell Q3.out (by simp);have p4:=hSw.cell P4.out (by simp);have q4:=hSw.cell Q4.out (by simp);have p5:=hSw.cell P5.out (by simp);have q5:=hSw.cell Q5.out (by simp);have p6:=hSw.cell P6.out (by simp);have q6:=hSw.cell Q6.out (by simp);clear hSw;go_simp
    all_goals with_reducible rfl
   ·exact fun _ _ _ h=>h
   try simp only [Act.put,Lq1,Lq2,Lq3]
   refine Tkq 7 (v:=?_) (by assumption) ?_ ?_ ?_
   rotate_left 1
   ·refine .inl ⟨by rfl,?_⟩;intro w hSw;have s1:=hSw.cell Z1.out (by simp);have s2:=hSw.cell Z2.out (by simp);have p0:=hSw.cell P0.out (by simp);have q0:=hSw.cell Q0.out (by simp);have p1:=hSw.cell P1.out (by simp);have q1:=hSw.cell Q1.out (by simp);have p2:=hSw.cell P2.out (by simp);have q2:=hSw.cell Q2.out (by simp);have p3:=hSw.cell P3.out (by simp);have q3:=hSw.cell Q3.out (by simp);have p4:=hSw.cell P4.out (by simp);have q4:=hSw.cell Q4.out (by simp);have p5:=hSw.cell P5.out (by simp);have q5:=hSw.cell Q5.out (by simp);have p6:=hSw.cell P6.out (by simp);have q6:=hSw.cell Q6.out (by simp);clear hSw;go_simp
    all_goals with_reducible rfl
   ·exact fun _ _ _ h=>h
   try simp only [Act.put,Lq1,Lq2,Lq3]
   refine Tkq 8 (v:=?_) (by assumption) ?_ ?_ ?_
   rotate_left 1
   ·refine .inl ⟨by rfl,?_⟩;intro w hSw;have s1:=hSw.cell Z1.out (by simp);have s2:=hSw.cell Z2.out (by simp);have p0:=hSw.cell P0.out (by simp);have q0:=hSw.cell Q0.out (by simp);have p1:=hSw.cell P1.out (by simp);have q1:=hSw.cell Q1.out (by simp);have p2:=hSw.cell P2.out (by simp);have q2:=hSw.cell Q2.out (by simp);have p3:=hSw.cell P3.out (by simp);have q3:=hSw.cell Q3.out (by simp);have p4:=hSw.cell P4.out (by simp);have q4:=hSw.cell Q4.out (by simp);have p5:=hSw.cell P5.out (by simp);have q5:=hSw.cell Q5.out (by simp);have p6:=hSw.cell P6.out (by simp);have q6:=hSw.cell Q6.out (by simp);clear hSw;go_simp
    all_goals with_reducible rfl
   ·exact fun _ _ _ h=>h
   try simp only [Act.put,Lq1,Lq2,Lq3]
   refine Tkq 9 (v:=?_) (by assumption) ?_ ?_ ?_
   rotate_left 1
   ·refine .inl ⟨by rfl,?_⟩;intro w hSw;have s1:=hSw.cell Z1.out (by simp);have s2:=hSw.cell Z2.out (by simp);have p0:=hSw.cell P0.out (by simp);have q0:=hSw.cell Q0.out (by simp);have p1:=hSw.cell P1.out (by simp);have q1:=hSw.cell Q1.out (by simp);have p2:=hSw.cell P2.out (by simp);have q2:=hSw.cell Q2.out (by simp);have p3:=hSw.cell P3.out (by simp);have q3:=hSw.cell Q3.out (by simp);have p4:=hSw.cell P4.out (by simp);have q4:=hSw.cell Q4.out (by simp);have p5:=hSw.cell P5.out (by simp);have q5:=hSw.cell Q5.out (by simp);have p6:=hSw.cell P6.out (by simp);have q6:=hSw.cell Q6.out (by simp);clear hSw;go_simp
    all_goals with_reducible rfl
   ·exact fun _ _ _ h=>h
   try simp only [Act.put,Lq1,Lq2,Lq3]
   refine wpAnyH_ready (rs:=[10]) (by kernel_rfl) (by simp) ?_
   refine AllReadyH.cons (o:=?_) ?_ ?_ AllReadyH.nil
   rotate_left 1
   ·(simp only [Gq1,Gq2,Gq3])<;>rfl
   intro K hK
   go_simp
   refine (HS.out _ (by omega) (by omega) _ _ _ _ _ HE1.out HE2.out).mono ?_
   rintro e7 w7 ⟨rfl,m7⟩
   have M7:=Hxq (((Mod.refl [] wr).drew).trans m7 (by simp))
   clear m7
   refine hK.out _ _ (by (try dsimp only);exact M7.out) (fun hHeld=>?_)
   clear hK K
   try simp only [Act.put,Lq1,Lq2,Lq3]
   refine Tkq 11 (v:=?_) (by assumption) ?_ ?_ ?_
   rotate_left 1
   ·refine .inl ⟨by rfl,?_⟩;intro w hSw;clear hSw;go_simp
    all_goals with_reducible rfl
   ·exact fun _ _ _ h=>h
   try simp only [Act.put,Lq1,Lq2,Lq3]
   refine wpAnyH_done (by kernel_rfl) ?_ _
   go_wp2_with fail
   go_roundw
   case rel=>exact ⟨j+1,by omega,by go_num,HM.out.trans M7.out (by simp)⟩
   case measure=>simp [intOf];omega
  ·obtain rfl:j=args.length:=by omega
   have hjI:¬ (args.length:Int)<(args.length:Int):=by omega
   go_wp2_with fail
   go_ret
   exact ⟨rfl,MR.out⟩
theorem sex_all:∀ d,SEx d
 | 0=>fun e he _=>by cases e;simp [exD] at he
 | d+1=>sex_of d (sex_all d)
theorem sameExpr_any {F G:Nat->Prop} (e:Pr.Ex) (hM:exM e<=140737488355328) (u u':Value) (w:World) (h:EB F w e u) (h':EB G w e u') :
  Calls Tryz.prog 17 #[.agg (exV e u),.agg (exV e u')] w (Tru w):=sex_all _ e (Nat.le_refl _) hM F G u u' w h h'
open Go.RowKit
set_option linter.unusedVariables false
set_option linter.unusedSimpArgs false
set_option maxRecDepth 100000
mutual
def liD:Pr.Li->Nat
 | .mk _ _ _ _ _ _ _ _ body _ _=>liDs body+1
def liDs:List Pr.Li->Nat
 | []=>0
 | e :: r=>max (liD e) (liDs r)
end
mutual
/-- no list is longer -/
def liM:Pr.Li->Nat
 | .mk _ a _ l r _ _ of body _ _=>max a.terms.length (max (exM l) (max (exM r) (max (exM of) (max body.length (liMs body)))))
def liMs:List Pr.Li->Nat
 | []=>0
 | e :: r=>max (liM e) (liMs r)
end
theorem liDs_mem:∀ (l:List Pr.Li) (i:Nat) (h:i<l.length),liD l[i]<=liDs l
 | e :: r,0,h=>by simp only [List.getElem_cons_zero,liDs];omega
 | e :: r,i+1,h=>by
  simp only [List.getElem_cons_succ,liDs]
  have:=liDs_mem r i (by simpa using h)
  omega
theorem liMs_mem:∀ (l:List Pr.Li) (i:Nat) (h:i<l.length),liM l[i]<=liMs l
 | e :: r,0,h=>by simp only [List.getElem_cons_zero,liMs];omega
 | e :: r,i+1,h=>by
  simp only [List.getElem_cons_succ,liMs]
  have:=liMs_mem r i (by simpa using h)
  omega
theorem CellsAt.rng {w:World} {b o:Nat} {xs:Array Value} (h:CellsAt w b o xs):w.rangeAt b o xs.toList:=fun j v hv=>h j v (by simpa using hv)
def SLi (d:Nat):Prop:=∀ (l:List Pr.Li),liDs l<d->l.length<=140737488355328->liMs l<=140737488355328->∀ (F G:Nat->Prop) (u u':Value) (w:World),BB F w l u->BB G w l u' ->
 Calls Tryz.prog 36 #[u,u'] w (Tru w)
set_option maxHeartbeats 16000000 in
theorem sli_of (d:Nat) (hS:SLi d):SLi (d+1):=by
 intro l hd hl hM F G u u' w h h'
 obtain ⟨a1,c1,rfl⟩:=h.lit
 obtain ⟨a2,c2,rfl⟩:=h'.lit
 have HS:=Lib.hid hS;have H1:=Lib.hid h;have H2:=Lib.hid h'
 clear h h' hS
 go_enter Tryz.func36,Tryz.ntmps36
 go_wp2_with fail
 go_loopw [5] (fun iv wr=>∃ j:Nat,j<=l.length/\iv=.int .i64 (j:Nat)/\Mod [] w wr) (fun iv _=>l.length - (intOf iv).toNat)
 case atStart=>exact ⟨0,Nat.zero_le _,rfl,Mod.refl _ _⟩
 case round =>
  obtain ⟨j,hj,rfl,hm⟩:=hrel
  have MR:=Lib.hid hm
  clear hm
  by_cases hlt:j<l.length
  ·have hjI:(j:Int)<(l.length:Int):=by omega
   have hj0:(0:Int)<=(j:Int):=by omega
   obtain ⟨g1,o1,U1,rfl,hc1,hL1⟩:=(H1.out.keep MR.out (by simp)).at j hlt
   obtain ⟨g2,o2,U2,rfl,hc2,hL2⟩:=(H2.out.keep MR.out (by simp)).at j hlt
   have hdj:=liDs_mem l j hlt
   have hmj:=liMs_mem l j hlt
   generalize l[j]=y at *
   obtain ⟨k,⟨rel,ts⟩,op,le,re,fn,av,of,body,ln,cl⟩:=y
   obtain ⟨ht1,hl1,hr1,ho1,hb1⟩:=hL1.parts
   obtain ⟨ht2,hl2,hr2,ho2,hb2⟩:=hL2.parts
   obtain ⟨t1,l1,r1,q1,b1⟩:=U1
   obtain ⟨t2,l2,r2,q2,b2⟩:=U2
   dsimp only at ht1 hl1 hr1 ho1 hb1 ht2 hl2 hr2 ho2 hb2
   obtain ⟨ta1,tc1,rfl⟩:=ht1.lit;obtain ⟨la1,lc1,rfl⟩:=hl1.lit;obtain ⟨ra1,rc1,rfl⟩:=hr1.lit;obtain ⟨oa1,oc1,rfl⟩:=ho1.lit;obtain ⟨ba1,bc1,rfl⟩:=hb1.lit
   obtain ⟨ta2,tc2,rfl⟩:=ht2.lit;obtain ⟨la2,lc2,rfl⟩:=hl2.lit;obtain ⟨ra2,rc2,rfl⟩:=hr2.lit;obtain ⟨oa2,oc2,rfl⟩:=ho2.lit;obtain ⟨ba2,bc2,rfl⟩:=hb2.lit
   have hD:liDs body<d:=by simp only [liD] at hdj;omega
   simp only [liM] at hmj
   have hB1:ts.length<=140737488355328:=by omega
   have hB2:exM le<=140737488355328:=by omega
   have hB3:exM re<=140737488355328:=by omega
   have hB4:exM of<=140737488355328:=by omega
   have hB5:body.length<=140737488355328:=by omega
   have hB6:liMs body<=140737488355328:=by omega
   clear hdj hmj hL1 hL2
   have HT1:=Lib.hid ht1;have HL1:=Lib.hid hl1;have HR1:=Lib.hid hr1;have HO1:=Lib.hid ho1;have HB1:=Lib.hid hb1
   have HT2:=Lib.hid ht2;have HL2:=Lib.hid hl2;have HR2:=Lib.hid hr2;have HO2:=Lib.hid ho2;have HB2:=Lib.hid hb2
   clear ht1 hl1 hr1 ho1 hb1 ht2 hl2 hr2 ho2 hb2
   unfold liV at hc1 hc2
   dsimp only at hc1 hc2
   obtain ⟨C1,hC1⟩:∃ C:Array Value,C=#[.int .i64 k,.string rel,.slice ta1 ts.length tc1,.int .i64 op,.int .i64 le.k,.string le.v,.int .i64 le.x.k,.int .i64 le.x.n,.string (Lx.ofS le.x.s),.int .i64 le.op,.slice la1 le.args.length lc1,.int .i64 re.k,.string re.v,.int .i64 re.x.k,.int .i64 re.x.n,.string (Lx.ofS re.x.s),.int .i64 re.op,.slice ra1 re.args.length rc1,.int .i64 fn,.string av,.int .i64 of.k,.string of.v,.int .i64 of.x.k,.int .i64 of.x.n,.string (Lx.ofS of.x.s),.int .i64 of.op,.slice oa1 of.args.length oc1,.slice ba1 body.length bc1,.int .i64 ln,.int .i64 cl]:=⟨_,rfl⟩
   obtain ⟨C2,hC2⟩:∃ C:Array Value,C=#[.int .i64 k,.string rel,.slice ta2 ts.length tc2,.int .i64 op,.int .i64 le.k,.string le.v,.int .i64 le.x.k,.int .i64 le.x.n,.string (Lx.ofS le.x.s),.int .i64 le.op,.slice la2 le.args.length lc2,.int .i64 re.k,.string re.v,.int .i64 re.x.k,.int .i64 re.x.n,.string (Lx.ofS re.x.s),.int .i64 re.op,.slice ra2 re.args.length rc2,.int .i64 fn,.string av,.int .i64 of.k,.string of.v,.int .i64 of.x.k,.int .i64 of.x.n,.string (Lx.ofS of.x.s),.int .i64 of.op,.slice oa2 of.args.length oc2,.slice ba2 body.length bc2,.int .i64 ln,.int .i64 cl]:=⟨_,rfl⟩
   rw [<-hC1] at hc1
   rw [<-hC2] at hc2
   have z1:C1.size=30:=by rw [hC1];rfl
   have z2:C2.size=30:=by rw [hC2];rfl
   have w1:=Hxq (show C1.toList.all (·.oneCell')=true by rw [hC1];rfl)
   have w2:=Hxq (show C2.toList.all (·.oneCell')=true by rw [hC2];rfl)
   have HC1:=Lib.hid hC1;have HC2:=Lib.hid hC2;have K1:=Lib.hid hc1.rng;have K2:=Lib.hid hc2
   clear hC1 hC2 hc1 hc2
   have hsz:∀ C:Array Value,C.size=30->(Tryz.prog.info? 49).map (·.size)=some C.toList.length:=fun C h=>by rw [Array.length_toList,h];exact Tryz.sizeLit
   have HSZ:=Lib.hid hsz
   clear hsz
   go_upto_region 7 with (first | refine wpList_load_mid rfl 49 _ rfl g1 (o1+j * 30) rfl C1.toList _ K1.out Tryz.underlying49 rfl (HSZ.out C1 z1) ?_ | refine wpList_store_new rfl 49 _ _ rfl wr wr.heap.size C1 #[.int .i64 0,.string ⟨#[]⟩,.slice none 0 0,.int .i64 0,.int .i64 0,.string ⟨#[]⟩,.int .i64 0,.int .i64 0,.string ⟨#[]⟩,.int .i64 0,.slice none 0 0,.int .i64 0,.string ⟨#[]⟩,.int .i64 0,.int .i64 0,.string ⟨#[]⟩,.int .i64 0,.slice none 0 0,.int .i64 0,.string ⟨#[]⟩,.int .i64 0,.string ⟨#[]⟩,.int .i64 0,.int .i64 0,.string ⟨#[]⟩,.int .i64 0,.slice none 0 0,.slice none 0 0,.int .i64 0,.int .i64 0] 49 rfl rfl rfl rfl (by rw [z1];exact Tryz.sizeLit) (by rw [z1];rfl) w1.out ?_)
   have n1:=(Mod.refl [] wr).alloc (Obj.cells C1 49)
   have x1:=heap_alloc_new wr (Obj.cells C1 49)
   generalize wr.alloc (Obj.cells C1 49)=wa at *
   have NA:=Lib.hid n1;have XA:=Lib.hid x1;have K3:=Hxq (K2.out.keep n1 (by simp)).rng
   have hza:=lt_of_block x1
   clear n1 x1 K1 K2
   go_upto_region 8 with (first | refine wpList_load_mid rfl 49 _ rfl g2 (o2+j * 30) rfl C2.toList _ K3.out Tryz.underlying49 rfl (HSZ.out C2 z2) ?_ | refine wpList_store_new rfl 49 _ _ rfl wa wa.heap.size C2 #[.int .i64 0,.string ⟨#[]⟩,.slice none 0 0,.int .i64 0,.int .i64 0,.string ⟨#[]⟩,.int .i64 0,.int .i64 0,.string ⟨#[]⟩,.int .i64 0,.slice none 0 0,.int .i64 0,.string ⟨#[]⟩,.int .i64 0,.int .i64 0,.string ⟨#[]⟩,.int .i64 0,.slice none 0 0,.int .i64 0,.string ⟨#[]⟩,.int .i64 0,.string ⟨#[]⟩,.int .i64 0,.int .i64 0,.string ⟨#[]⟩,.int .i64 0,.slice none 0 0,.slice none 0 0,.int .i64 0,.int .i64 0] 49 rfl rfl rfl rfl (by rw [z2];exact Tryz.sizeLit) (by rw [z2];rfl) w2.out ?_)
   have n2:=(Mod.refl [] wa).alloc (Obj.cells C2 49)
   have x2:=heap_alloc_new wa (Obj.cells C2 49)
   generalize wa.alloc (Obj.cells C2 49)=wb at *
   have X1:=Hxq (n2.at XA.out (by simp));have X2:=Lib.hid x2;have N0:=Hxq (NA.out.trans n2 (by simp))
   clear n2 x2 XA NA K3 w1 w2
   rw [HC1.out] at X1
   rw [HC2.out] at X2
   clear HC1 HC2 z1 z2 HSZ
   have x0:_:=cell_at X1.out 0;have y0:_:=cell_at X2.out 0
   have x1:_:=cell_at X1.out 1;have y1:_:=cell_at X2.out 1
   have x2:_:=cell_at X1.out 2;have y2:_:=cell_at X2.out 2
   have x3:_:=cell_at X1.out 3;have y3:_:=cell_at X2.out 3
   have x4:_:=cell_at X1.out 4;have y4:_:=cell_at X2.out 4
   have x5:_:=cell_at X1.out 5;have y5:_:=cell_at X2.out 5
   have x6:_:=cell_at X1.out 6;have y6:_:=cell_at X2.out 6
   have x7:_:=cell_at X1.out 7;have y7:_:=cell_at X2.out 7
   have x8:_:=cell_at X1.out 8;have y8:_:=cell_at X2.out 8
   have x9:_:=cell_at X1.out 9;have y9:_:=cell_at X2.out 9
   have x10:_:=cell_at X1.out 10;have y10:_:=cell_at X2.out 10
   have x11:_:=cell_at X1.out 11;have y11:_:=cell_at X2.out 11
   have x12:_:=cell_at X1.out 12;have y12:_:=cell_at X2.out 12
   have x13:_:=cell_at X1.out 13;have y13:_:=cell_at X2.out 13
   have x14:_:=cell_at X1.out 14;have y14:_:=cell_at X2.out 14
   have x15:_:=cell_at X1.out 15;have y15:_:=cell_at X2.out 15
   have x16:_:=cell_at X1.out 16;have y16:_:=cell_at X2.out 16
   have x17:_:=cell_at X1.out 17;have y17:_:=cell_at X2.out 17
   have x28:_:=cell_at X1.out 28;have y28:_:=cell_at X2.out 28
   have x29:_:=cell_at X1.out 29;have y29:_:=cell_at X2.out 29
   simp only [List.getElem?_toArray,List.getElem?_cons_zero,List.getElem?_cons_succ] at x0 y0 x1 y1 x2 y2 x3 y3 x4 y4 x5 y5 x6 y6 x7 y7 x8 y8 x9 y9 x10 y10 x11 y11 x12 y12 x13 y13 x14 y14 x15 y15 x16 y16 x17 y17 x28 y28 x29 y29
   go_wp2_with fail
   refine (sameAtom_any ⟨rel,ts⟩ hB1 _ _ wb (HT1.out.keep N0.out (by simp)) (HT2.out.keep N0.out (by simp))).mono ?_
   rintro e1 v1 ⟨rfl,m1⟩
   have M1:=Hxq (N0.out.trans m1 (by simp));have XA1:=Hxq (m1.at X1.out (by simp));have XB1:=Hxq (m1.at X2.out (by simp))
   clear m1 X1 X2
   clear x0 y0 x1 y1 x2 y2 x3 y3 x4 y4 x5 y5 x6 y6 x7 y7 x8 y8 x9 y9 x10 y10 x11 y11 x12 y12 x13 y13 x14 y14 x15 y15 x16 y16 x17 y17 x28 y28 x29 y29
   have x0:_:=cell_at XA1.out 0;have y0:_:=cell_at XB1.out 0
   have x1:_:=cell_at XA1.out 1;have y1:_:=cell_at XB1.out 1
   have x2:_:=cell_at XA1.out 2;have y2:_:=cell_at XB1.out 2
   have x3:_:=cell_at XA1.out 3;have y3:_:=cell_at XB1.out 3
   have x4:_:=cell_at XA1.out 4;have y4:_:=cell_at XB1.out 4
   have x5:_:=cell_at XA1.out 5;have y5:_:=cell_at XB1.out 5
   have x6:_:=cell_at XA1.out 6;have y6:_:=cell_at XB1.out 6
   have x7:_:=cell_at XA1.out 7;have y7:_:=cell_at XB1.out 7
   have x8:_:=cell_at XA1.out 8;have y8:_:=cell_at XB1.out 8
   have x9:_:=cell_at XA1.out 9;have y9:_:=cell_at XB1.out 9
   have x10:_:=cell_at XA1.out 10;have y10:_:=cell_at XB1.out 10
   have x11:_:=cell_at XA1.out 11;have y11:_:=cell_at XB1.out 11
   have x12:_:=cell_at XA1.out 12;have y12:_:=cell_at XB1.out 12
   have x13:_:=cell_at XA1.out 13;have y13:_:=cell_at XB1.out 13
   have x14:_:=cell_at XA1.out 14;have y14:_:=cell_at XB1.out 14
   have x15:_:=cell_at XA1.out 15;have y15:_:=cell_at XB1.out 15
   have x16:_:=cell_at XA1.out 16;have y16:_:=cell_at XB1.out 16
   have x17:_:=cell_at XA1.out 17;have y17:_:=cell_at XB1.out 17
   have x28:_:=cell_at XA1.out 28;have y28:_:=cell_at XB1.out 28
   have x29:_:=cell_at XA1.out 29;have y29:_:=cell_at XB1.out 29
   simp only [List.getElem?_toArray,List.getElem?_cons_zero,List.getElem?_cons_succ] at x0 y0 x1 y1 x2 y2 x3 y3 x4 y4 x5 y5 x6 y6 x7 y7 x8 y8 x9 y9 x10 y10 x11 y11 x12 y12 x13 y13 x14 y14 x15 y15 x16 y16 x17 y17 x28 y28 x29 y29
   go_wp2_with fail
   refine (sameExpr_any le hB2 _ _ v1 (HL1.out.keep M1.out (by simp)) (HL2.out.keep M1.out (by simp))).mono ?_
   rintro e2 v2 ⟨rfl,m2⟩
   have M2:=Hxq (M1.out.trans m2 (by simp));have XA2:=Hxq (m2.at XA1.out (by simp));have XB2:=Hxq (m2.at XB1.out (by simp))
   clear m2 XA1 XB1
   clear x0 y0 x1 y1 x2 y2 x3 y3 x4 y4 x5 y5 x6 y6 x7 y7 x8 y8 x9 y9 x10 y10 x11 y11 x12 y12 x13 y13 x14 y14 x15 y15 x16 y16 x17 y17 x28 y28 x29 y29
   have x0:_:=cell_at XA2.out 0;have y0:_:=cell_at XB2.out 0
   have x1:_:=cell_at XA2.out 1;have y1:_:=cell_at XB2.out 1
   have x2:_:=cell_at XA2.out 2;have y2:_:=cell_at XB2.out 2
   have x3:_:=cell_at XA2.out 3;have y3:_:=cell_at XB2.out 3
   have x4:_:=cell_at XA2.out 4;have y4:_:=cell_at XB2.out 4
   have x5:_:=cell_at XA2.out 5;have y5:_:=cell_at XB2.out 5
   have x6:_:=cell_at XA2.out 6;have y6:_:=cell_at XB2.out 6
   have x7:_:=cell_at XA2.out 7;have y7:_:=cell_at XB2.out 7
   have x8:_:=cell_at XA2.out 8;have y8:_:=cell_at XB2.out 8
   have x9:_:=cell_at XA2.out 9;have y9:_:=cell_at XB2.out 9
   have x10:_:=cell_at XA2.out 10;have y10:_:=cell_at XB2.out 10
   have x11:_:=cell_at XA2.out 11;have y11:_:=cell_at XB2.out 11
   have x12:_:=cell_at XA2.out 12;have y12:_:=cell_at XB2.out 12
   have x13:_:=cell_at XA2.out 13;have y13:_:=cell_at XB2.out 13
   have x14:_:=cell_at XA2.out 14;have y14:_:=cell_at XB2.out 14
   have x15:_:=cell_at XA2.out 15;have y15:_:=cell_at XB2.out 15
   have x16:_:=cell_at XA2.out 16;have y16:_:=cell_at XB2.out 16
   have x17:_:=cell_at XA2.out 17;have y17:_:=cell_at XB2.out 17
   have x28:_:=cell_at XA2.out 28;have y28:_:=cell_at XB2.out 28
   have x29:_:=cell_at XA2.out 29;have y29:_:=cell_at XB2.out 29
   simp only [List.getElem?_toArray,List.getElem?_cons_zero,List.getElem?_cons_succ] at x0 y0 x1 y1 x2 y2 x3 y3 x4 y4 x5 y5 x6 y6 x7 y7 x8 y8 x9 y9 x10 y10 x11 y11 x12 y12 x13 y13 x14 y14 x15 y15 x16 y16 x17 y17 x28 y28 x29 y29
   go_wp2_with fail
   refine (sameExpr_any re hB3 _ _ v2 (HR1.out.keep M2.out (by simp)) (HR2.out.keep M2.out (by simp))).mono ?_
   rintro e3 v3 ⟨rfl,m3⟩
   have M3:=Hxq (M2.out.trans m3 (by simp));have XA3:=Hxq (m3.at XA2.out (by simp));have XB3:=Hxq (m3.at XB2.out (by simp))
   clear m3 XA2 XB2
   clear x0 y0 x1 y1 x2 y2 x3 y3 x4 y4 x5 y5 x6 y6 x7 y7 x8 y8 x9 y9 x10 y10 x11 y11 x12 y12 x13 y13 x14 y14 x15 y15 x16 y16 x17 y17 x28 y28 x29 y29
   have x18:_:=cell_at XA3.out 18;have y18:_:=cell_at XB3.out 18
   have x19:_:=cell_at XA3.out 19;have y19:_:=cell_at XB3.out 19
   have x20:_:=cell_at XA3.out 20;have y20:_:=cell_at XB3.out 20
   have x21:_:=cell_at XA3.out 21;have y21:_:=cell_at XB3.out 21
   have x22:_:=cell_at XA3.out 22;have y22:_:=cell_at XB3.out 22
   have x23:_:=cell_at XA3.out 23;have y23:_:=cell_at XB3.out 23
   have x24:_:=cell_at XA3.out 24;have y24:_:=cell_at XB3.out 24
   have x25:_:=cell_at XA3.out 25;have y25:_:=cell_at XB3.out 25
   have x26:_:=cell_at XA3.out 26;have y26:_:=cell_at XB3.out 26
   have x27:_:=cell_at XA3.out 27;have y27:_:=cell_at XB3.out 27
   simp only [List.getElem?_toArray,List.getElem?_cons_zero,List.getElem?_cons_succ] at x18 y18 x19 y19 x20 y20 x21 y21 x22 y22 x23 y23 x24 y24 x25 y25 x26 y26 x27 y27
   go_wp2_with fail
   refine (sameExpr_any of hB4 _ _ v3 (HO1.out.keep M3.out (by simp)) (HO2.out.keep M3.out (by simp))).mono ?_
   rintro e4 v4 ⟨rfl,m4⟩
   have M4:=Hxq (M3.out.trans m4 (by simp));have XA4:=Hxq (m4.at XA3.out (by simp));have XB4:=Hxq (m4.at XB3.out (by simp))
   clear m4 XA3 XB3
   clear x18 y18 x19 y19 x20 y20 x21 y21 x22 y22 x23 y23 x24 y24 x25 y25 x26 y26 x27 y27
   have x18:_:=cell_at XA4.out 18;have y18:_:=cell_at XB4.out 18
   have x19:_:=cell_at XA4.out 19;have y19:_:=cell_at XB4.out 19
   have x20:_:=cell_at XA4.out 20;have y20:_:=cell_at XB4.out 20
   have x21:_:=cell_at XA4.out 21;have y21:_:=cell_at XB4.out 21
   have x22:_:=cell_at XA4.out 22;have y22:_:=cell_at XB4.out 22
   have x23:_:=cell_at XA4.out 23;have y23:_:=cell_at XB4.out 23
   have x24:_:=cell_at XA4.out 24;have y24:_:=cell_at XB4.out 24
   have x25:_:=cell_at XA4.out 25;have y25:_:=cell_at XB4.out 25
   have x26:_:=cell_at XA4.out 26;have y26:_:=cell_at XB4.out 26
   have x27:_:=cell_at XA4.out 27;have y27:_:=cell_at XB4.out 27
   simp only [List.getElem?_toArray,List.getElem?_cons_zero,List.getElem?_cons_succ] at x18 y18 x19 y19 x20 y20 x21 y21 x22 y22 x23 y23 x24 y24 x25 y25 x26 y26 x27 y27
   go_wp2_with fail
   refine (HS.out body hD hB5 hB6 _ _ _ _ v4 (HB1.out.keep M4.out (by simp)) (HB2.out.keep M4.out (by simp))).mono ?_
   rintro e5 v5 ⟨rfl,m5⟩
   have M5:=Hxq (M4.out.trans m5 (by simp));have XA5:=Hxq (m5.at XA4.out (by simp));have XB5:=Hxq (m5.at XB4.out (by simp))
   clear m5 XA4 XB4
   clear x18 y18 x19 y19 x20 y20 x21 y21 x22 y22 x23 y23 x24 y24 x25 y25 x26 y26 x27 y27
   go_wp2_with fail
   go_roundw
   case rel=>exact ⟨j+1,by omega,by go_num,MR.out.trans M5.out (by simp)⟩
   case measure=>simp [intOf];omega
  ·obtain rfl:j=l.length:=by omega
   have hjI:¬ (l.length:Int)<(l.length:Int):=by omega
   go_wp2_with fail
   go_ret
   exact ⟨rfl,MR.out⟩
theorem sli_all:∀ d,SLi d
 | 0=>fun l hd=>absurd hd (by omega)
 | d+1=>sli_of d (sli_all d)
theorem sameLits_any {F G:Nat->Prop} (l:List Pr.Li) (hl:l.length<=140737488355328) (hM:liMs l<=140737488355328) (u u':Value) (w:World) (h:BB F w l u) (h':BB G w l u') :
  Calls Tryz.prog 36 #[u,u'] w (Tru w):=sli_all (liDs l+1) l (Nat.lt_succ_self _) hl hM F G u u' w h h'
open Go.RowKit
set_option linter.unusedVariables false
set_option linter.unusedSimpArgs false
set_option maxRecDepth 100000
def ruV (r:Pr.Rul) (tu ub:Value):Array Value:=#[.string r.head.rel,tu,ub,.int .i64 r.line,.int .i64 r.col]
def intC (x:Int):Array Value:=#[.int .i64 x]
theorem intC_size (x:Int):(intC x).size=1:=rfl
theorem intC_one (x:Int):∀ u∈(intC x).toList,u.oneCell'=true:=by
 intro u hu
 simp [intC] at hu
 subst hu;rfl
theorem Tryz.infoInt:(Tryz.prog.info? 3).map (fun i=>(i.zero,i.size,i.bytes))=some (some (.int .i64 0),1,8):=by kernel_rfl
def reV (r:Pr.Rel) (u:Value):Array Value:=#[.string r.name,u,.int .i64 r.line,.int .i64 r.col]
abbrev RelU:=Pr.Rel × Value
abbrev RulU:=Pr.Rul × Value × Value
def csR (p:RelU):Array Value:=reV p.1 p.2
def csU (p:RulU):Array Value:=ruV p.1 p.2.1 p.2.2
theorem csR_size (p:RelU):(csR p).size=4:=rfl
theorem csU_size (p:RulU):(csU p).size=5:=rfl
def RelB (F:Nat->Prop) (w:World) (p:RelU):Prop:=RowB F w 1 intC p.1.types p.2
def RulB (F:Nat->Prop) (w:World) (p:RulU):Prop:=RowB F w 5 tmV p.1.head.terms p.2.1/\BB F w p.1.body p.2.2
theorem RelB.keep {F:Nat->Prop} {S:List Nat} {w w':World} {p:RelU} (h:RelB F w p) (hm:Mod S w w') (hS:∀ s∈S,¬ F s):RelB F w' p:=RowB.keep h hm hS
theorem RelB.mono {F F':Nat->Prop} {w:World} {p:RelU} (h:RelB F w p) (hF:∀ k,F k->k<w.heap.size->F' k):RelB F' w p:=RowB.mono h hF
theorem RulB.keep {F:Nat->Prop} {S:List Nat} {w w':World} {p:RulU} (h:RulB F w p) (hm:Mod S w w') (hS:∀ s∈S,¬ F s):RulB F w' p:=⟨h.1.keep hm hS,h.2.keep hm hS⟩
theorem RulB.mono {F F':Nat->Prop} {w:World} {p:RulU} (h:RulB F w p) (hF:∀ k,F k->k<w.heap.size->F' k):RulB F' w p:=⟨h.1.mono hF,h.2.mono hF⟩
theorem csR_one {F:Nat->Prop} {w:World} {p:RelU} (h:RelB F w p):∀ u∈(csR p).toList,u.oneCell'=true:=by
 obtain ⟨r,u⟩:=p
 obtain ⟨a,c,hu⟩:=RowB.lit h
 simp only at hu
 subst hu
 intro x hx
 simp [csR,reV] at hx
 rcases hx with rfl | rfl | rfl | rfl <;> rfl
theorem csU_one {F:Nat->Prop} {w:World} {p:RulU} (h:RulB F w p):∀ u∈(csU p).toList,u.oneCell'=true:=by
 obtain ⟨r,u1,u2⟩:=p
 obtain ⟨a,c,hu⟩:=RowB.lit h.1
 obtain ⟨a2,c2,hu2⟩:=BB.lit h.2
 simp only at hu hu2
 subst hu;subst hu2
 intro x hx
 simp [csU,ruV] at hx
 rcases hx with rfl | rfl | rfl | rfl | rfl <;> rfl
/-- what of blocks the elements' own rows lie in -/
def PF (w0:World) (pb:Nat) (sr su:Value) (k:Nat):Prop:=w0.heap.size<=k/\k≠pb/\k∉fp sr/\k∉fp su
section
variable {w0:World} {b pb:Nat} {rels:List RelU} {rus:List RulU} {W W':World} {va:Option Addr} {vc:Nat} {ua:Option Addr} {uc:Nat}
end
open Go.RowKit
set_option linter.unusedVariables false
set_option linter.unusedSimpArgs false
set_option maxRecDepth 100000
/-- a program in memory -/
def PgB (F:Nat->Prop) (w:World) (p:Pr.Prog) (x:Value):Prop:=∃ (rels:List RelU) (rus:List RulU) (u1 u2:Value),x=.agg #[u1,u2]/\p=⟨rels.map (·.1),rus.map (·.1)⟩/\RowB F w 4 csR rels u1/\RowB F w 5 csU rus u2/\(∀ p∈rels,RelB F w p)/\∀ p∈rus,RulB F w p
theorem Tryz.infoRel:(Tryz.prog.info? 70).map (fun i=>(i.zero,i.size,i.bytes))=some (some (.agg #[.string ⟨#[]⟩,.slice none 0 0,.int .i64 0,.int .i64 0]),4,56):=by kernel_rfl
theorem Tryz.infoRul:(Tryz.prog.info? 63).map (fun i=>(i.zero,i.size,i.bytes))=some (some (.agg #[.string ⟨#[]⟩,.slice none 0 0,.slice none 0 0,.int .i64 0,.int .i64 0]),5,80):=by kernel_rfl
end Go.Proofs.YtohnmnfhmbmoaaaGreatDoor
