/- COPIES: CopyLiterals. Printed by wip/gen_sycopy3.py. -/
import Derived.Test.YtppigckioalhhaaGreatDoorRKB5
import Derived.Laws.StructEq
import Derived.Deep.MidRow
import Derived.Test.YtppigckioalhhaaGreatDoorRKB10
import Derived.Deep.RegionLaw
import Derived.Great.BuildSlice
/- SameAtom, SameExpr: of two trees that are the same: true. Printed by wip/gen_sysame.py. -/
namespace Go.Proofs.YtppigckioalhhaaGreatDoorR
open Go.RowKit
set_option linter.unusedVariables false
set_option linter.unusedSimpArgs false
set_option maxRecDepth 100000

mutual
def exD : Pr.Ex → Nat
  | .mk _ _ _ _ args => exDs args + 1
def exDs : List Pr.Ex → Nat
  | [] => 0
  | e :: r => max (exD e) (exDs r)
end
theorem exDs_mem : ∀ (l : List Pr.Ex) (i : Nat) (h : i < l.length), exD l[i] ≤ exDs l
  | e :: r, 0, h => by simp only [List.getElem_cons_zero, exDs]; omega
  | e :: r, i + 1, h => by
    simp only [List.getElem_cons_succ, exDs]
    have := exDs_mem r i (by simpa using h)
    omega
mutual
/-- no list of arguments is longer -/
def exM : Pr.Ex → Nat
  | .mk _ _ _ _ args => max args.length (exMs args)
def exMs : List Pr.Ex → Nat
  | [] => 0
  | e :: r => max (exM e) (exMs r)
end
theorem exMs_mem : ∀ (l : List Pr.Ex) (i : Nat) (h : i < l.length), exM l[i] ≤ exMs l
  | e :: r, 0, h => by simp only [List.getElem_cons_zero, exMs]; omega
  | e :: r, i + 1, h => by
    simp only [List.getElem_cons_succ, exMs]
    have := exMs_mem r i (by simpa using h)
    omega
/-- what is told: the same, nothing turned -/
def Tru (w : World) (e : Ending) (w' : World) : Prop := e = .returned (.bool true) ∧ Mod [] w w'

set_option maxHeartbeats 4000000 in
theorem sameAtom_any {F G : Nat → Prop} (a : Pr.Atom) (hl : a.terms.length ≤ 140737488355328) (u u' : Value) (w : World) (h : RowB F w 5 tmV a.terms u) (h' : RowB G w 5 tmV a.terms u') :
    Calls Tryz.prog 24 #[.agg #[.string a.rel, u], .agg #[.string a.rel, u']] w (Tru w) := by
  obtain ⟨rel, ts⟩ := a
  dsimp only at *
  obtain ⟨a1, c1, rfl⟩ := h.lit
  obtain ⟨a2, c2, rfl⟩ := h'.lit
  have H1 := Lib.hid h; have H2 := Lib.hid h'
  clear h h'
  have mA := ((Mod.refl [] w).alloc (Obj.cells #[.string rel, .slice a1 ts.length c1] 40)).alloc (Obj.cells #[.string rel, .slice a2 ts.length c2] 40)
  have eA := heap_alloc_new w (Obj.cells #[.string rel, .slice a1 ts.length c1] 40)
  have fA := ((Mod.refl [] (w.alloc (Obj.cells #[.string rel, .slice a1 ts.length c1] 40))).alloc (Obj.cells #[.string rel, .slice a2 ts.length c2] 40)).at eA (by simp)
  have eB := heap_alloc_new (w.alloc (Obj.cells #[.string rel, .slice a1 ts.length c1] 40)) (Obj.cells #[.string rel, .slice a2 ts.length c2] 40)
  have hs1 : (w.alloc (Obj.cells #[.string rel, .slice a1 ts.length c1] 40)).heap.size = w.heap.size + 1 := by simp
  rw [hs1] at eB
  clear eA hs1
  go_enter Tryz.func24, Tryz.ntmps24
  go_upto_region 1 with fail
  generalize (w.alloc (Obj.cells _ 40)).alloc (Obj.cells _ 40) = w0 at *
  have M0 := Lib.hid mA; have E0 := Lib.hid fA; have E1 := Lib.hid eB
  clear mA fA eB
  have x0 := cell_at E0.out 0; have x1 := cell_at E0.out 1; have y0 := cell_at E1.out 0; have y1 := cell_at E1.out 1
  simp only [List.getElem?_toArray, List.getElem?_cons_zero, List.getElem?_cons_succ] at x0 x1 y0 y1
  go_wp2_with fail
  clear x0 x1 y0 y1
  go_loopw [5] (fun iv wr => ∃ k : Nat, k ≤ ts.length ∧ iv = .int .i64 (k : Nat) ∧ Mod [] w0 wr) (fun iv _ => ts.length - (intOf iv).toNat)
  case atStart => exact ⟨0, Nat.zero_le _, rfl, Mod.refl _ _⟩
  case round =>
    obtain ⟨k, hk, rfl, hm⟩ := hrel
    have x1 := cell_at (hm.at E0.out (by simp)) 1; have y1 := cell_at (hm.at E1.out (by simp)) 1
    simp only [List.getElem?_toArray, List.getElem?_cons_zero, List.getElem?_cons_succ] at x1 y1
    have MR := Lib.hid (M0.out.trans hm (by simp)); have HM := Lib.hid hm
    clear hm
    by_cases hlt : k < ts.length
    · have hkI : (k : Int) < (ts.length : Int) := by omega
      have hk0 : (0 : Int) ≤ (k : Int) := by omega
      obtain ⟨b1, o1, rfl, hc1⟩ := (H1.out.keep MR.out (by simp)).at k hlt
      obtain ⟨b2, o2, rfl, hc2⟩ := (H2.out.keep MR.out (by simp)).at k hlt
      generalize ts[k] = t at *
      obtain ⟨tk, tv, ⟨xk, xn, xs⟩⟩ := t
      have p0 := hc1 0 (.int .i64 tk) rfl; have p1 := hc1 1 (.string tv) rfl; have p2 := hc1 2 (.int .i64 xk) rfl; have p3 := hc1 3 (.int .i64 xn) rfl; have p4 := hc1 4 (.string (Lx.ofS xs)) rfl
      have q0 := hc2 0 (.int .i64 tk) rfl; have q1 := hc2 1 (.string tv) rfl; have q2 := hc2 2 (.int .i64 xk) rfl; have q3 := hc2 3 (.int .i64 xn) rfl; have q4 := hc2 4 (.string (Lx.ofS xs)) rfl
      rw [Nat.add_zero] at p0 q0
      try dsimp only at p0 p1 p2 p3 p4 q0 q1 q2 q3 q4
      clear hc1 hc2
      go_wp2_with fail
      go_quiet (fail)
      go_wp2_with fail
      go_roundw
      case rel => exact ⟨k + 1, by omega, by go_num, by first | exact HM.out.drewN _ | exact HM.out.drew | exact HM.out⟩
      case measure => simp [intOf]; omega
    · obtain rfl : k = ts.length := by omega
      have hkI : ¬ (ts.length : Int) < (ts.length : Int) := by omega
      go_wp2_with fail
      go_ret
      exact ⟨rfl, MR.out⟩

def SEx (k : Nat) : Prop := ∀ (e : Pr.Ex), exD e ≤ k → exM e ≤ 140737488355328 → ∀ (F G : Nat → Prop) (u u' : Value) (w : World), EB F w e u → EB G w e u' →
  Calls Tryz.prog 68 #[.agg (exV e u), .agg (exV e u')] w (Tru w)

set_option maxHeartbeats 8000000 in
theorem sex_of (d : Nat) (hS : SEx d) : SEx (d + 1) := by
  intro e he hM F G u u' w h h'
  obtain ⟨k, v, ⟨xk, xn, xs⟩, op, args⟩ := e
  obtain ⟨a1, c1, rfl⟩ := h.lit
  obtain ⟨a2, c2, rfl⟩ := h'.lit
  have hd : exDs args ≤ d := by simp only [exD] at he; omega
  have hM1 : args.length ≤ 140737488355328 := by simp only [exM] at hM; omega
  have hM2 : exMs args ≤ 140737488355328 := by simp only [exM] at hM; omega
  have HS := Lib.hid hS; have H1 := Lib.hid h; have H2 := Lib.hid h'
  clear h h' hS he hM
  simp only [exV, Pr.Ex.k, Pr.Ex.v, Pr.Ex.x, Pr.Ex.op, Pr.Ex.args] at *
  have mA := ((Mod.refl [] w).alloc (Obj.cells #[.int .i64 k, .string v, .int .i64 xk, .int .i64 xn, .string (Lx.ofS xs), .int .i64 op, .slice a1 args.length c1] 45)).alloc (Obj.cells #[.int .i64 k, .string v, .int .i64 xk, .int .i64 xn, .string (Lx.ofS xs), .int .i64 op, .slice a2 args.length c2] 45)
  have eA := heap_alloc_new w (Obj.cells #[.int .i64 k, .string v, .int .i64 xk, .int .i64 xn, .string (Lx.ofS xs), .int .i64 op, .slice a1 args.length c1] 45)
  have fA := ((Mod.refl [] (w.alloc (Obj.cells #[.int .i64 k, .string v, .int .i64 xk, .int .i64 xn, .string (Lx.ofS xs), .int .i64 op, .slice a1 args.length c1] 45))).alloc (Obj.cells #[.int .i64 k, .string v, .int .i64 xk, .int .i64 xn, .string (Lx.ofS xs), .int .i64 op, .slice a2 args.length c2] 45)).at eA (by simp)
  have eB := heap_alloc_new (w.alloc (Obj.cells #[.int .i64 k, .string v, .int .i64 xk, .int .i64 xn, .string (Lx.ofS xs), .int .i64 op, .slice a1 args.length c1] 45)) (Obj.cells #[.int .i64 k, .string v, .int .i64 xk, .int .i64 xn, .string (Lx.ofS xs), .int .i64 op, .slice a2 args.length c2] 45)
  have hs1 : (w.alloc (Obj.cells #[.int .i64 k, .string v, .int .i64 xk, .int .i64 xn, .string (Lx.ofS xs), .int .i64 op, .slice a1 args.length c1] 45)).heap.size = w.heap.size + 1 := by simp
  rw [hs1] at eB
  clear eA hs1
  generalize hxB : Lx.ofS xs = xB at *
  go_enter Tryz.func68, Tryz.ntmps68
  go_upto_region 1 with fail
  generalize (w.alloc (Obj.cells _ 45)).alloc (Obj.cells _ 45) = w0 at *
  have M0 := Lib.hid mA; have E0 := Lib.hid fA; have E1 := Lib.hid eB
  clear mA fA eB
  have x0 := cell_at E0.out 0; have y0 := cell_at E1.out 0
  have x1 := cell_at E0.out 1; have y1 := cell_at E1.out 1
  have x2 := cell_at E0.out 2; have y2 := cell_at E1.out 2
  have x3 := cell_at E0.out 3; have y3 := cell_at E1.out 3
  have x4 := cell_at E0.out 4; have y4 := cell_at E1.out 4
  have x5 := cell_at E0.out 5; have y5 := cell_at E1.out 5
  have x6 := cell_at E0.out 6; have y6 := cell_at E1.out 6
  simp only [List.getElem?_toArray, List.getElem?_cons_zero, List.getElem?_cons_succ] at x0 x1 x2 x3 x4 x5 x6 y0 y1 y2 y3 y4 y5 y6
  go_wp2_with fail
  clear x0 x1 x2 x3 x4 x5 x6 y0 y1 y2 y3 y4 y5 y6
  go_loopw [5] (fun iv wr => ∃ j : Nat, j ≤ args.length ∧ iv = .int .i64 (j : Nat) ∧ Mod [] w0 wr) (fun iv _ => args.length - (intOf iv).toNat)
  case atStart => exact ⟨0, Nat.zero_le _, rfl, Mod.refl _ _⟩
  case round =>
    obtain ⟨j, hj, rfl, hm⟩ := hrel
    have x6 := cell_at (hm.at E0.out (by simp)) 6; have y6 := cell_at (hm.at E1.out (by simp)) 6
    simp only [List.getElem?_toArray, List.getElem?_cons_zero, List.getElem?_cons_succ] at x6 y6
    have MR := Lib.hid (M0.out.trans hm (by simp)); have HM := Lib.hid hm
    clear hm
    by_cases hlt : j < args.length
    · have hjI : (j : Int) < (args.length : Int) := by omega
      have hj0 : (0 : Int) ≤ (j : Int) := by omega
      obtain ⟨b1, o1, u1, rfl, hc1, hE1⟩ := (H1.out.keep MR.out (by simp)).at j hlt
      obtain ⟨b2, o2, u2, rfl, hc2, hE2⟩ := (H2.out.keep MR.out (by simp)).at j hlt
      have hdj := exDs_mem args j hlt
      have hmj := exMs_mem args j hlt
      simp only [Pr.Ex.args] at hc1 hc2 hE1 hE2
      generalize args[j] = y at *
      obtain ⟨a3, c3, rfl⟩ := hE1.lit
      obtain ⟨a4, c4, rfl⟩ := hE2.lit
      have Z1 := Lib.hid x6; have Z2 := Lib.hid y6
      have r0 := hc1 0 (.int .i64 y.k) rfl; have t0 := hc2 0 (.int .i64 y.k) rfl
      have r1 := hc1 1 (.string y.v) rfl; have t1 := hc2 1 (.string y.v) rfl
      have r2 := hc1 2 (.int .i64 y.x.k) rfl; have t2 := hc2 2 (.int .i64 y.x.k) rfl
      have r3 := hc1 3 (.int .i64 y.x.n) rfl; have t3 := hc2 3 (.int .i64 y.x.n) rfl
      have r4 := hc1 4 (.string (Lx.ofS y.x.s)) rfl; have t4 := hc2 4 (.string (Lx.ofS y.x.s)) rfl
      have r5 := hc1 5 (.int .i64 y.op) rfl; have t5 := hc2 5 (.int .i64 y.op) rfl
      have r6 := hc1 6 (.slice a3 y.args.length c3) rfl; have t6 := hc2 6 (.slice a4 y.args.length c4) rfl
      rw [Nat.add_zero] at r0 t0
      have P0 := Lib.hid r0; have Q0 := Lib.hid t0
      have P1 := Lib.hid r1; have Q1 := Lib.hid t1
      have P2 := Lib.hid r2; have Q2 := Lib.hid t2
      have P3 := Lib.hid r3; have Q3 := Lib.hid t3
      have P4 := Lib.hid r4; have Q4 := Lib.hid t4
      have P5 := Lib.hid r5; have Q5 := Lib.hid t5
      have P6 := Lib.hid r6; have Q6 := Lib.hid t6
      clear r0 r1 r2 r3 r4 r5 r6 t0 t1 t2 t3 t4 t5 t6
      have HE1 := Lib.hid (hE1.keep ((Mod.refl [] wr).drew) (by simp)); have HE2 := Lib.hid (hE2.keep ((Mod.refl [] wr).drew) (by simp))
      clear hc1 hc2 hE1 hE2
      go_wp2_with fail
      refine wp_region_held_drew (S := (fun w' : World => Mod [] wr w')) (by kernel_rfl) (by (try dsimp only); exact (Mod.refl [] wr).drew) (fun hHeld => ?_)
      refine wpAnyH_take (i := 0) (oi := ?_) (v := ?_) ?_ ?_ ?_ ?_ ?_ ?_ (by assumption) ?_
      rotate_left 2
      · (simp only [List.getElem?_toArray, List.getElem?_cons_succ, List.getElem?_cons_zero]) <;> rfl
      · kernel_rfl
      · kernel_rfl
      · kernel_rfl
      rotate_left 1
      · refine Or.inl ⟨by rfl, ?_⟩
        intro w hSw
        have s1 := hSw.cell Z1.out (by simp); have s2 := hSw.cell Z2.out (by simp); have p0 := hSw.cell P0.out (by simp); have q0 := hSw.cell Q0.out (by simp); have p1 := hSw.cell P1.out (by simp); have q1 := hSw.cell Q1.out (by simp); have p2 := hSw.cell P2.out (by simp); have q2 := hSw.cell Q2.out (by simp); have p3 := hSw.cell P3.out (by simp); have q3 := hSw.cell Q3.out (by simp); have p4 := hSw.cell P4.out (by simp); have q4 := hSw.cell Q4.out (by simp); have p5 := hSw.cell P5.out (by simp); have q5 := hSw.cell Q5.out (by simp); have p6 := hSw.cell P6.out (by simp); have q6 := hSw.cell Q6.out (by simp); clear hSw
        go_simp
        all_goals with_reducible rfl
      rotate_left 1
      · exact fun _ _ _ h => h
      try simp only [Act.put, List.setIfInBounds_toArray, List.set_cons_zero, List.set_cons_succ]
      refine wpAnyH_take (i := 1) (oi := ?_) (v := ?_) ?_ ?_ ?_ ?_ ?_ ?_ (by assumption) ?_
      rotate_left 2
      · (simp only [List.getElem?_toArray, List.getElem?_cons_succ, List.getElem?_cons_zero]) <;> rfl
      · kernel_rfl
      · kernel_rfl
      · kernel_rfl
      rotate_left 1
      · refine Or.inl ⟨by rfl, ?_⟩
        intro w hSw
        have s1 := hSw.cell Z1.out (by simp); have s2 := hSw.cell Z2.out (by simp); have p0 := hSw.cell P0.out (by simp); have q0 := hSw.cell Q0.out (by simp); have p1 := hSw.cell P1.out (by simp); have q1 := hSw.cell Q1.out (by simp); have p2 := hSw.cell P2.out (by simp); have q2 := hSw.cell Q2.out (by simp); have p3 := hSw.cell P3.out (by simp); have q3 := hSw.cell Q3.out (by simp); have p4 := hSw.cell P4.out (by simp); have q4 := hSw.cell Q4.out (by simp); have p5 := hSw.cell P5.out (by simp); have q5 := hSw.cell Q5.out (by simp); have p6 := hSw.cell P6.out (by simp); have q6 := hSw.cell Q6.out (by simp); clear hSw
        go_simp
        all_goals with_reducible rfl
      rotate_left 1
      · exact fun _ _ _ h => h
      try simp only [Act.put, List.setIfInBounds_toArray, List.set_cons_zero, List.set_cons_succ]
      refine wpAnyH_take (i := 2) (oi := ?_) (v := ?_) ?_ ?_ ?_ ?_ ?_ ?_ (by assumption) ?_
      rotate_left 2
      · (simp only [List.getElem?_toArray, List.getElem?_cons_succ, List.getElem?_cons_zero]) <;> rfl
      · kernel_rfl
      · kernel_rfl
      · kernel_rfl
      rotate_left 1
      · refine Or.inl ⟨by rfl, ?_⟩
        intro w hSw
        have s1 := hSw.cell Z1.out (by simp); have s2 := hSw.cell Z2.out (by simp); have p0 := hSw.cell P0.out (by simp); have q0 := hSw.cell Q0.out (by simp); have p1 := hSw.cell P1.out (by simp); have q1 := hSw.cell Q1.out (by simp); have p2 := hSw.cell P2.out (by simp); have q2 := hSw.cell Q2.out (by simp); have p3 := hSw.cell P3.out (by simp); have q3 := hSw.cell Q3.out (by simp); have p4 := hSw.cell P4.out (by simp); have q4 := hSw.cell Q4.out (by simp); have p5 := hSw.cell P5.out (by simp); have q5 := hSw.cell Q5.out (by simp); have p6 := hSw.cell P6.out (by simp); have q6 := hSw.cell Q6.out (by simp); clear hSw
        go_simp
        all_goals with_reducible rfl
      rotate_left 1
      · exact fun _ _ _ h => h
      try simp only [Act.put, List.setIfInBounds_toArray, List.set_cons_zero, List.set_cons_succ]
      refine wpAnyH_take (i := 3) (oi := ?_) (v := ?_) ?_ ?_ ?_ ?_ ?_ ?_ (by assumption) ?_
      rotate_left 2
      · (simp only [List.getElem?_toArray, List.getElem?_cons_succ, List.getElem?_cons_zero]) <;> rfl
      · kernel_rfl
      · kernel_rfl
      · kernel_rfl
      rotate_left 1
      · refine Or.inl ⟨by rfl, ?_⟩
        intro w hSw
        have s1 := hSw.cell Z1.out (by simp); have s2 := hSw.cell Z2.out (by simp); have p0 := hSw.cell P0.out (by simp); have q0 := hSw.cell Q0.out (by simp); have p1 := hSw.cell P1.out (by simp); have q1 := hSw.cell Q1.out (by simp); have p2 := hSw.cell P2.out (by simp); have q2 := hSw.cell Q2.out (by simp); have p3 := hSw.cell P3.out (by simp); have q3 := hSw.cell Q3.out (by simp); have p4 := hSw.cell P4.out (by simp); have q4 := hSw.cell Q4.out (by simp); have p5 := hSw.cell P5.out (by simp); have q5 := hSw.cell Q5.out (by simp); have p6 := hSw.cell P6.out (by simp); have q6 := hSw.cell Q6.out (by simp); clear hSw
        go_simp
        all_goals with_reducible rfl
      rotate_left 1
      · exact fun _ _ _ h => h
      try simp only [Act.put, List.setIfInBounds_toArray, List.set_cons_zero, List.set_cons_succ]
      refine wpAnyH_take (i := 4) (oi := ?_) (v := ?_) ?_ ?_ ?_ ?_ ?_ ?_ (by assumption) ?_
      rotate_left 2
      · (simp only [List.getElem?_toArray, List.getElem?_cons_succ, List.getElem?_cons_zero]) <;> rfl
      · kernel_rfl
      · kernel_rfl
      · kernel_rfl
      rotate_left 1
      · refine Or.inl ⟨by rfl, ?_⟩
        intro w hSw
        have s1 := hSw.cell Z1.out (by simp); have s2 := hSw.cell Z2.out (by simp); have p0 := hSw.cell P0.out (by simp); have q0 := hSw.cell Q0.out (by simp); have p1 := hSw.cell P1.out (by simp); have q1 := hSw.cell Q1.out (by simp); have p2 := hSw.cell P2.out (by simp); have q2 := hSw.cell Q2.out (by simp); have p3 := hSw.cell P3.out (by simp); have q3 := hSw.cell Q3.out (by simp); have p4 := hSw.cell P4.out (by simp); have q4 := hSw.cell Q4.out (by simp); have p5 := hSw.cell P5.out (by simp); have q5 := hSw.cell Q5.out (by simp); have p6 := hSw.cell P6.out (by simp); have q6 := hSw.cell Q6.out (by simp); clear hSw
        go_simp
        all_goals with_reducible rfl
      rotate_left 1
      · exact fun _ _ _ h => h
      try simp only [Act.put, List.setIfInBounds_toArray, List.set_cons_zero, List.set_cons_succ]
      refine wpAnyH_take (i := 5) (oi := ?_) (v := ?_) ?_ ?_ ?_ ?_ ?_ ?_ (by assumption) ?_
      rotate_left 2
      · (simp only [List.getElem?_toArray, List.getElem?_cons_succ, List.getElem?_cons_zero]) <;> rfl
      · kernel_rfl
      · kernel_rfl
      · kernel_rfl
      rotate_left 1
      · refine Or.inl ⟨by rfl, ?_⟩
        intro w hSw
        have s1 := hSw.cell Z1.out (by simp); have s2 := hSw.cell Z2.out (by simp); have p0 := hSw.cell P0.out (by simp); have q0 := hSw.cell Q0.out (by simp); have p1 := hSw.cell P1.out (by simp); have q1 := hSw.cell Q1.out (by simp); have p2 := hSw.cell P2.out (by simp); have q2 := hSw.cell Q2.out (by simp); have p3 := hSw.cell P3.out (by simp); have q3 := hSw.cell Q3.out (by simp); have p4 := hSw.cell P4.out (by simp); have q4 := hSw.cell Q4.out (by simp); have p5 := hSw.cell P5.out (by simp); have q5 := hSw.cell Q5.out (by simp); have p6 := hSw.cell P6.out (by simp); have q6 := hSw.cell Q6.out (by simp); clear hSw
        go_simp
        all_goals with_reducible rfl
      rotate_left 1
      · exact fun _ _ _ h => h
      try simp only [Act.put, List.setIfInBounds_toArray, List.set_cons_zero, List.set_cons_succ]
      refine wpAnyH_take (i := 6) (oi := ?_) (v := ?_) ?_ ?_ ?_ ?_ ?_ ?_ (by assumption) ?_
      rotate_left 2
      · (simp only [List.getElem?_toArray, List.getElem?_cons_succ, List.getElem?_cons_zero]) <;> rfl
      · kernel_rfl
      · kernel_rfl
      · kernel_rfl
      rotate_left 1
      · refine Or.inl ⟨by rfl, ?_⟩
        intro w hSw
        have s1 := hSw.cell Z1.out (by simp); have s2 := hSw.cell Z2.out (by simp); have p0 := hSw.cell P0.out (by simp); have q0 := hSw.cell Q0.out (by simp); have p1 := hSw.cell P1.out (by simp); have q1 := hSw.cell Q1.out (by simp); have p2 := hSw.cell P2.out (by simp); have q2 := hSw.cell Q2.out (by simp); have p3 := hSw.cell P3.out (by simp); have q3 := hSw.cell Q3.out (by simp); have p4 := hSw.cell P4.out (by simp); have q4 := hSw.cell Q4.out (by simp); have p5 := hSw.cell P5.out (by simp); have q5 := hSw.cell Q5.out (by simp); have p6 := hSw.cell P6.out (by simp); have q6 := hSw.cell Q6.out (by simp); clear hSw
        go_simp
        all_goals with_reducible rfl
      rotate_left 1
      · exact fun _ _ _ h => h
      try simp only [Act.put, List.setIfInBounds_toArray, List.set_cons_zero, List.set_cons_succ]
      refine wpAnyH_take (i := 7) (oi := ?_) (v := ?_) ?_ ?_ ?_ ?_ ?_ ?_ (by assumption) ?_
      rotate_left 2
      · (simp only [List.getElem?_toArray, List.getElem?_cons_succ, List.getElem?_cons_zero]) <;> rfl
      · kernel_rfl
      · kernel_rfl
      · kernel_rfl
      rotate_left 1
      · refine Or.inl ⟨by rfl, ?_⟩
        intro w hSw
        have s1 := hSw.cell Z1.out (by simp); have s2 := hSw.cell Z2.out (by simp); have p0 := hSw.cell P0.out (by simp); have q0 := hSw.cell Q0.out (by simp); have p1 := hSw.cell P1.out (by simp); have q1 := hSw.cell Q1.out (by simp); have p2 := hSw.cell P2.out (by simp); have q2 := hSw.cell Q2.out (by simp); have p3 := hSw.cell P3.out (by simp); have q3 := hSw.cell Q3.out (by simp); have p4 := hSw.cell P4.out (by simp); have q4 := hSw.cell Q4.out (by simp); have p5 := hSw.cell P5.out (by simp); have q5 := hSw.cell Q5.out (by simp); have p6 := hSw.cell P6.out (by simp); have q6 := hSw.cell Q6.out (by simp); clear hSw
        go_simp
        all_goals with_reducible rfl
      rotate_left 1
      · exact fun _ _ _ h => h
      try simp only [Act.put, List.setIfInBounds_toArray, List.set_cons_zero, List.set_cons_succ]
      refine wpAnyH_take (i := 8) (oi := ?_) (v := ?_) ?_ ?_ ?_ ?_ ?_ ?_ (by assumption) ?_
      rotate_left 2
      · (simp only [List.getElem?_toArray, List.getElem?_cons_succ, List.getElem?_cons_zero]) <;> rfl
      · kernel_rfl
      · kernel_rfl
      · kernel_rfl
      rotate_left 1
      · refine Or.inl ⟨by rfl, ?_⟩
        intro w hSw
        have s1 := hSw.cell Z1.out (by simp); have s2 := hSw.cell Z2.out (by simp); have p0 := hSw.cell P0.out (by simp); have q0 := hSw.cell Q0.out (by simp); have p1 := hSw.cell P1.out (by simp); have q1 := hSw.cell Q1.out (by simp); have p2 := hSw.cell P2.out (by simp); have q2 := hSw.cell Q2.out (by simp); have p3 := hSw.cell P3.out (by simp); have q3 := hSw.cell Q3.out (by simp); have p4 := hSw.cell P4.out (by simp); have q4 := hSw.cell Q4.out (by simp); have p5 := hSw.cell P5.out (by simp); have q5 := hSw.cell Q5.out (by simp); have p6 := hSw.cell P6.out (by simp); have q6 := hSw.cell Q6.out (by simp); clear hSw
        go_simp
        all_goals with_reducible rfl
      rotate_left 1
      · exact fun _ _ _ h => h
      try simp only [Act.put, List.setIfInBounds_toArray, List.set_cons_zero, List.set_cons_succ]
      refine wpAnyH_take (i := 9) (oi := ?_) (v := ?_) ?_ ?_ ?_ ?_ ?_ ?_ (by assumption) ?_
      rotate_left 2
      · (simp only [List.getElem?_toArray, List.getElem?_cons_succ, List.getElem?_cons_zero]) <;> rfl
      · kernel_rfl
      · kernel_rfl
      · kernel_rfl
      rotate_left 1
      · refine Or.inl ⟨by rfl, ?_⟩
        intro w hSw
        have s1 := hSw.cell Z1.out (by simp); have s2 := hSw.cell Z2.out (by simp); have p0 := hSw.cell P0.out (by simp); have q0 := hSw.cell Q0.out (by simp); have p1 := hSw.cell P1.out (by simp); have q1 := hSw.cell Q1.out (by simp); have p2 := hSw.cell P2.out (by simp); have q2 := hSw.cell Q2.out (by simp); have p3 := hSw.cell P3.out (by simp); have q3 := hSw.cell Q3.out (by simp); have p4 := hSw.cell P4.out (by simp); have q4 := hSw.cell Q4.out (by simp); have p5 := hSw.cell P5.out (by simp); have q5 := hSw.cell Q5.out (by simp); have p6 := hSw.cell P6.out (by simp); have q6 := hSw.cell Q6.out (by simp); clear hSw
        go_simp
        all_goals with_reducible rfl
      rotate_left 1
      · exact fun _ _ _ h => h
      try simp only [Act.put, List.setIfInBounds_toArray, List.set_cons_zero, List.set_cons_succ]
      refine wpAnyH_ready (rs := [10]) (by kernel_rfl) (by simp) ?_
      refine AllReadyH.cons (o := ?_) ?_ ?_ AllReadyH.nil
      rotate_left 1
      · (simp only [List.getElem?_toArray, List.getElem?_cons_succ, List.getElem?_cons_zero]) <;> rfl
      intro K hK
      go_simp
      refine (HS.out _ (by omega) (by omega) _ _ _ _ _ HE1.out HE2.out).mono ?_
      rintro e7 w7 ⟨rfl, m7⟩
      have M7 := Lib.hid (((Mod.refl [] wr).drew).trans m7 (by simp))
      clear m7
      refine hK.out _ _ (by (try dsimp only); exact M7.out) (fun hHeld => ?_)
      clear hK K
      try simp only [Act.put, List.setIfInBounds_toArray, List.set_cons_zero, List.set_cons_succ]
      refine wpAnyH_take (i := 11) (oi := ?_) (v := ?_) ?_ ?_ ?_ ?_ ?_ ?_ (by assumption) ?_
      rotate_left 2
      · (simp only [List.getElem?_toArray, List.getElem?_cons_succ, List.getElem?_cons_zero]) <;> rfl
      · kernel_rfl
      · kernel_rfl
      · kernel_rfl
      rotate_left 1
      · refine Or.inl ⟨by rfl, ?_⟩
        intro w hSw
        clear hSw
        go_simp
        all_goals with_reducible rfl
      rotate_left 1
      · exact fun _ _ _ h => h
      try simp only [Act.put, List.setIfInBounds_toArray, List.set_cons_zero, List.set_cons_succ]
      refine wpAnyH_done (by kernel_rfl) ?_ _

      go_wp2_with fail
      go_roundw
      case rel => exact ⟨j + 1, by omega, by go_num, HM.out.trans M7.out (by simp)⟩
      case measure => simp [intOf]; omega
    · obtain rfl : j = args.length := by omega
      have hjI : ¬ (args.length : Int) < (args.length : Int) := by omega
      go_wp2_with fail
      go_ret
      exact ⟨rfl, MR.out⟩
theorem sex_all : ∀ d, SEx d
  | 0 => fun e he _ => by cases e; simp [exD] at he
  | d + 1 => sex_of d (sex_all d)
theorem sameExpr_any {F G : Nat → Prop} (e : Pr.Ex) (hM : exM e ≤ 140737488355328) (u u' : Value) (w : World) (h : EB F w e u) (h' : EB G w e u') :
    Calls Tryz.prog 68 #[.agg (exV e u), .agg (exV e u')] w (Tru w) := sex_all _ e (Nat.le_refl _) hM F G u u' w h h'
end Go.Proofs.YtppigckioalhhaaGreatDoorR
/- SameLiterals: of two bodies that are the same: true. Printed by wip/gen_sysame2.py. -/
namespace Go.Proofs.YtppigckioalhhaaGreatDoorR
open Go.RowKit
set_option linter.unusedVariables false
set_option linter.unusedSimpArgs false
set_option maxRecDepth 100000

mutual
def liD : Pr.Li → Nat
  | .mk _ _ _ _ _ _ _ _ body _ _ => liDs body + 1
def liDs : List Pr.Li → Nat
  | [] => 0
  | e :: r => max (liD e) (liDs r)
end
mutual
/-- no list is longer -/
def liM : Pr.Li → Nat
  | .mk _ a _ l r _ _ of body _ _ => max a.terms.length (max (exM l) (max (exM r) (max (exM of) (max body.length (liMs body)))))
def liMs : List Pr.Li → Nat
  | [] => 0
  | e :: r => max (liM e) (liMs r)
end
theorem liDs_mem : ∀ (l : List Pr.Li) (i : Nat) (h : i < l.length), liD l[i] ≤ liDs l
  | e :: r, 0, h => by simp only [List.getElem_cons_zero, liDs]; omega
  | e :: r, i + 1, h => by
    simp only [List.getElem_cons_succ, liDs]
    have := liDs_mem r i (by simpa using h)
    omega
theorem liMs_mem : ∀ (l : List Pr.Li) (i : Nat) (h : i < l.length), liM l[i] ≤ liMs l
  | e :: r, 0, h => by simp only [List.getElem_cons_zero, liMs]; omega
  | e :: r, i + 1, h => by
    simp only [List.getElem_cons_succ, liMs]
    have := liMs_mem r i (by simpa using h)
    omega
theorem CellsAt.rng {w : World} {b o : Nat} {xs : Array Value} (h : CellsAt w b o xs) : w.rangeAt b o xs.toList := fun j v hv => h j v (by simpa using hv)
def SLi (d : Nat) : Prop := ∀ (l : List Pr.Li), liDs l < d → l.length ≤ 140737488355328 → liMs l ≤ 140737488355328 → ∀ (F G : Nat → Prop) (u u' : Value) (w : World), BB F w l u → BB G w l u' →
  Calls Tryz.prog 38 #[u, u'] w (Tru w)

set_option maxHeartbeats 16000000 in
theorem sli_of (d : Nat) (hS : SLi d) : SLi (d + 1) := by
  intro l hd hl hM F G u u' w h h'
  obtain ⟨a1, c1, rfl⟩ := h.lit
  obtain ⟨a2, c2, rfl⟩ := h'.lit
  have HS := Lib.hid hS; have H1 := Lib.hid h; have H2 := Lib.hid h'
  clear h h' hS
  go_enter Tryz.func38, Tryz.ntmps38
  go_wp2_with fail
  go_loopw [5] (fun iv wr => ∃ j : Nat, j ≤ l.length ∧ iv = .int .i64 (j : Nat) ∧ Mod [] w wr) (fun iv _ => l.length - (intOf iv).toNat)
  case atStart => exact ⟨0, Nat.zero_le _, rfl, Mod.refl _ _⟩
  case round =>
    obtain ⟨j, hj, rfl, hm⟩ := hrel
    have MR := Lib.hid hm
    clear hm
    by_cases hlt : j < l.length
    · have hjI : (j : Int) < (l.length : Int) := by omega
      have hj0 : (0 : Int) ≤ (j : Int) := by omega
      obtain ⟨g1, o1, U1, rfl, hc1, hL1⟩ := (H1.out.keep MR.out (by simp)).at j hlt
      obtain ⟨g2, o2, U2, rfl, hc2, hL2⟩ := (H2.out.keep MR.out (by simp)).at j hlt
      have hdj := liDs_mem l j hlt
      have hmj := liMs_mem l j hlt
      generalize l[j] = y at *
      obtain ⟨k, ⟨rel, ts⟩, op, le, re, fn, av, of, body, ln, cl⟩ := y
      obtain ⟨ht1, hl1, hr1, ho1, hb1⟩ := hL1.parts
      obtain ⟨ht2, hl2, hr2, ho2, hb2⟩ := hL2.parts
      obtain ⟨t1, l1, r1, q1, b1⟩ := U1
      obtain ⟨t2, l2, r2, q2, b2⟩ := U2
      dsimp only at ht1 hl1 hr1 ho1 hb1 ht2 hl2 hr2 ho2 hb2
      obtain ⟨ta1, tc1, rfl⟩ := ht1.lit; obtain ⟨la1, lc1, rfl⟩ := hl1.lit; obtain ⟨ra1, rc1, rfl⟩ := hr1.lit; obtain ⟨oa1, oc1, rfl⟩ := ho1.lit; obtain ⟨ba1, bc1, rfl⟩ := hb1.lit
      obtain ⟨ta2, tc2, rfl⟩ := ht2.lit; obtain ⟨la2, lc2, rfl⟩ := hl2.lit; obtain ⟨ra2, rc2, rfl⟩ := hr2.lit; obtain ⟨oa2, oc2, rfl⟩ := ho2.lit; obtain ⟨ba2, bc2, rfl⟩ := hb2.lit
      have hD : liDs body < d := by simp only [liD] at hdj; omega
      simp only [liM] at hmj
      have hB1 : ts.length ≤ 140737488355328 := by omega
      have hB2 : exM le ≤ 140737488355328 := by omega
      have hB3 : exM re ≤ 140737488355328 := by omega
      have hB4 : exM of ≤ 140737488355328 := by omega
      have hB5 : body.length ≤ 140737488355328 := by omega
      have hB6 : liMs body ≤ 140737488355328 := by omega
      clear hdj hmj hL1 hL2
      have HT1 := Lib.hid ht1; have HL1 := Lib.hid hl1; have HR1 := Lib.hid hr1; have HO1 := Lib.hid ho1; have HB1 := Lib.hid hb1
      have HT2 := Lib.hid ht2; have HL2 := Lib.hid hl2; have HR2 := Lib.hid hr2; have HO2 := Lib.hid ho2; have HB2 := Lib.hid hb2
      clear ht1 hl1 hr1 ho1 hb1 ht2 hl2 hr2 ho2 hb2
      unfold liV at hc1 hc2
      dsimp only at hc1 hc2
      obtain ⟨C1, hC1⟩ : ∃ C : Array Value, C = #[.int .i64 k, .string rel, .slice ta1 ts.length tc1, .int .i64 op, .int .i64 le.k, .string le.v, .int .i64 le.x.k, .int .i64 le.x.n, .string (Lx.ofS le.x.s), .int .i64 le.op, .slice la1 le.args.length lc1, .int .i64 re.k, .string re.v, .int .i64 re.x.k, .int .i64 re.x.n, .string (Lx.ofS re.x.s), .int .i64 re.op, .slice ra1 re.args.length rc1, .int .i64 fn, .string av, .int .i64 of.k, .string of.v, .int .i64 of.x.k, .int .i64 of.x.n, .string (Lx.ofS of.x.s), .int .i64 of.op, .slice oa1 of.args.length oc1, .slice ba1 body.length bc1, .int .i64 ln, .int .i64 cl] := ⟨_, rfl⟩
      obtain ⟨C2, hC2⟩ : ∃ C : Array Value, C = #[.int .i64 k, .string rel, .slice ta2 ts.length tc2, .int .i64 op, .int .i64 le.k, .string le.v, .int .i64 le.x.k, .int .i64 le.x.n, .string (Lx.ofS le.x.s), .int .i64 le.op, .slice la2 le.args.length lc2, .int .i64 re.k, .string re.v, .int .i64 re.x.k, .int .i64 re.x.n, .string (Lx.ofS re.x.s), .int .i64 re.op, .slice ra2 re.args.length rc2, .int .i64 fn, .string av, .int .i64 of.k, .string of.v, .int .i64 of.x.k, .int .i64 of.x.n, .string (Lx.ofS of.x.s), .int .i64 of.op, .slice oa2 of.args.length oc2, .slice ba2 body.length bc2, .int .i64 ln, .int .i64 cl] := ⟨_, rfl⟩
      rw [← hC1] at hc1
      rw [← hC2] at hc2
      have z1 : C1.size = 30 := by rw [hC1]; rfl
      have z2 : C2.size = 30 := by rw [hC2]; rfl
      have w1 := Lib.hid (show C1.toList.all (·.oneCell') = true by rw [hC1]; rfl)
      have w2 := Lib.hid (show C2.toList.all (·.oneCell') = true by rw [hC2]; rfl)
      have HC1 := Lib.hid hC1; have HC2 := Lib.hid hC2; have K1 := Lib.hid hc1.rng; have K2 := Lib.hid hc2
      clear hC1 hC2 hc1 hc2
      have hsz : ∀ C : Array Value, C.size = 30 → (Tryz.prog.info? 50).map (·.size) = some C.toList.length := fun C h => by rw [Array.length_toList, h]; exact Tryz.sizeLit
      have HSZ := Lib.hid hsz
      clear hsz
      go_upto_region 7 with (first | refine wpList_load_mid rfl 50 _ rfl g1 (o1 + j * 30) rfl C1.toList _ K1.out Tryz.underlying50 rfl (HSZ.out C1 z1) ?_ | refine wpList_store_new rfl 50 _ _ rfl wr wr.heap.size C1 #[.int .i64 0, .string { data := #[] }, .slice none 0 0, .int .i64 0, .int .i64 0, .string { data := #[] }, .int .i64 0, .int .i64 0, .string { data := #[] }, .int .i64 0, .slice none 0 0, .int .i64 0, .string { data := #[] }, .int .i64 0, .int .i64 0, .string { data := #[] }, .int .i64 0, .slice none 0 0, .int .i64 0, .string { data := #[] }, .int .i64 0, .string { data := #[] }, .int .i64 0, .int .i64 0, .string { data := #[] }, .int .i64 0, .slice none 0 0, .slice none 0 0, .int .i64 0, .int .i64 0] 50 rfl rfl rfl rfl (by rw [z1]; exact Tryz.sizeLit) (by rw [z1]; rfl) w1.out ?_)
      have n1 := (Mod.refl [] wr).alloc (Obj.cells C1 50)
      have x1 := heap_alloc_new wr (Obj.cells C1 50)
      generalize wr.alloc (Obj.cells C1 50) = wa at *
      have NA := Lib.hid n1; have XA := Lib.hid x1; have K3 := Lib.hid (K2.out.keep n1 (by simp)).rng
      have hza := lt_of_block x1
      clear n1 x1 K1 K2
      go_upto_region 8 with (first | refine wpList_load_mid rfl 50 _ rfl g2 (o2 + j * 30) rfl C2.toList _ K3.out Tryz.underlying50 rfl (HSZ.out C2 z2) ?_ | refine wpList_store_new rfl 50 _ _ rfl wa wa.heap.size C2 #[.int .i64 0, .string { data := #[] }, .slice none 0 0, .int .i64 0, .int .i64 0, .string { data := #[] }, .int .i64 0, .int .i64 0, .string { data := #[] }, .int .i64 0, .slice none 0 0, .int .i64 0, .string { data := #[] }, .int .i64 0, .int .i64 0, .string { data := #[] }, .int .i64 0, .slice none 0 0, .int .i64 0, .string { data := #[] }, .int .i64 0, .string { data := #[] }, .int .i64 0, .int .i64 0, .string { data := #[] }, .int .i64 0, .slice none 0 0, .slice none 0 0, .int .i64 0, .int .i64 0] 50 rfl rfl rfl rfl (by rw [z2]; exact Tryz.sizeLit) (by rw [z2]; rfl) w2.out ?_)
      have n2 := (Mod.refl [] wa).alloc (Obj.cells C2 50)
      have x2 := heap_alloc_new wa (Obj.cells C2 50)
      generalize wa.alloc (Obj.cells C2 50) = wb at *
      have X1 := Lib.hid (n2.at XA.out (by simp)); have X2 := Lib.hid x2; have N0 := Lib.hid (NA.out.trans n2 (by simp))
      clear n2 x2 XA NA K3 w1 w2
      rw [HC1.out] at X1
      rw [HC2.out] at X2
      clear HC1 HC2 z1 z2 HSZ
      have x0 : _ := cell_at X1.out 0; have y0 : _ := cell_at X2.out 0
      have x1 : _ := cell_at X1.out 1; have y1 : _ := cell_at X2.out 1
      have x2 : _ := cell_at X1.out 2; have y2 : _ := cell_at X2.out 2
      have x3 : _ := cell_at X1.out 3; have y3 : _ := cell_at X2.out 3
      have x4 : _ := cell_at X1.out 4; have y4 : _ := cell_at X2.out 4
      have x5 : _ := cell_at X1.out 5; have y5 : _ := cell_at X2.out 5
      have x6 : _ := cell_at X1.out 6; have y6 : _ := cell_at X2.out 6
      have x7 : _ := cell_at X1.out 7; have y7 : _ := cell_at X2.out 7
      have x8 : _ := cell_at X1.out 8; have y8 : _ := cell_at X2.out 8
      have x9 : _ := cell_at X1.out 9; have y9 : _ := cell_at X2.out 9
      have x10 : _ := cell_at X1.out 10; have y10 : _ := cell_at X2.out 10
      have x11 : _ := cell_at X1.out 11; have y11 : _ := cell_at X2.out 11
      have x12 : _ := cell_at X1.out 12; have y12 : _ := cell_at X2.out 12
      have x13 : _ := cell_at X1.out 13; have y13 : _ := cell_at X2.out 13
      have x14 : _ := cell_at X1.out 14; have y14 : _ := cell_at X2.out 14
      have x15 : _ := cell_at X1.out 15; have y15 : _ := cell_at X2.out 15
      have x16 : _ := cell_at X1.out 16; have y16 : _ := cell_at X2.out 16
      have x17 : _ := cell_at X1.out 17; have y17 : _ := cell_at X2.out 17
      have x28 : _ := cell_at X1.out 28; have y28 : _ := cell_at X2.out 28
      have x29 : _ := cell_at X1.out 29; have y29 : _ := cell_at X2.out 29
      simp only [List.getElem?_toArray, List.getElem?_cons_zero, List.getElem?_cons_succ] at x0 y0 x1 y1 x2 y2 x3 y3 x4 y4 x5 y5 x6 y6 x7 y7 x8 y8 x9 y9 x10 y10 x11 y11 x12 y12 x13 y13 x14 y14 x15 y15 x16 y16 x17 y17 x28 y28 x29 y29
      go_wp2_with fail
      refine (sameAtom_any ⟨rel, ts⟩ hB1 _ _ wb (HT1.out.keep N0.out (by simp)) (HT2.out.keep N0.out (by simp))).mono ?_
      rintro e1 v1 ⟨rfl, m1⟩
      have M1 := Lib.hid (N0.out.trans m1 (by simp)); have XA1 := Lib.hid (m1.at X1.out (by simp)); have XB1 := Lib.hid (m1.at X2.out (by simp))
      clear m1 X1 X2
      clear x0 y0 x1 y1 x2 y2 x3 y3 x4 y4 x5 y5 x6 y6 x7 y7 x8 y8 x9 y9 x10 y10 x11 y11 x12 y12 x13 y13 x14 y14 x15 y15 x16 y16 x17 y17 x28 y28 x29 y29
      have x0 : _ := cell_at XA1.out 0; have y0 : _ := cell_at XB1.out 0
      have x1 : _ := cell_at XA1.out 1; have y1 : _ := cell_at XB1.out 1
      have x2 : _ := cell_at XA1.out 2; have y2 : _ := cell_at XB1.out 2
      have x3 : _ := cell_at XA1.out 3; have y3 : _ := cell_at XB1.out 3
      have x4 : _ := cell_at XA1.out 4; have y4 : _ := cell_at XB1.out 4
      have x5 : _ := cell_at XA1.out 5; have y5 : _ := cell_at XB1.out 5
      have x6 : _ := cell_at XA1.out 6; have y6 : _ := cell_at XB1.out 6
      have x7 : _ := cell_at XA1.out 7; have y7 : _ := cell_at XB1.out 7
      have x8 : _ := cell_at XA1.out 8; have y8 : _ := cell_at XB1.out 8
      have x9 : _ := cell_at XA1.out 9; have y9 : _ := cell_at XB1.out 9
      have x10 : _ := cell_at XA1.out 10; have y10 : _ := cell_at XB1.out 10
      have x11 : _ := cell_at XA1.out 11; have y11 : _ := cell_at XB1.out 11
      have x12 : _ := cell_at XA1.out 12; have y12 : _ := cell_at XB1.out 12
      have x13 : _ := cell_at XA1.out 13; have y13 : _ := cell_at XB1.out 13
      have x14 : _ := cell_at XA1.out 14; have y14 : _ := cell_at XB1.out 14
      have x15 : _ := cell_at XA1.out 15; have y15 : _ := cell_at XB1.out 15
      have x16 : _ := cell_at XA1.out 16; have y16 : _ := cell_at XB1.out 16
      have x17 : _ := cell_at XA1.out 17; have y17 : _ := cell_at XB1.out 17
      have x28 : _ := cell_at XA1.out 28; have y28 : _ := cell_at XB1.out 28
      have x29 : _ := cell_at XA1.out 29; have y29 : _ := cell_at XB1.out 29
      simp only [List.getElem?_toArray, List.getElem?_cons_zero, List.getElem?_cons_succ] at x0 y0 x1 y1 x2 y2 x3 y3 x4 y4 x5 y5 x6 y6 x7 y7 x8 y8 x9 y9 x10 y10 x11 y11 x12 y12 x13 y13 x14 y14 x15 y15 x16 y16 x17 y17 x28 y28 x29 y29
      go_wp2_with fail
      refine (sameExpr_any le hB2 _ _ v1 (HL1.out.keep M1.out (by simp)) (HL2.out.keep M1.out (by simp))).mono ?_
      rintro e2 v2 ⟨rfl, m2⟩
      have M2 := Lib.hid (M1.out.trans m2 (by simp)); have XA2 := Lib.hid (m2.at XA1.out (by simp)); have XB2 := Lib.hid (m2.at XB1.out (by simp))
      clear m2 XA1 XB1
      clear x0 y0 x1 y1 x2 y2 x3 y3 x4 y4 x5 y5 x6 y6 x7 y7 x8 y8 x9 y9 x10 y10 x11 y11 x12 y12 x13 y13 x14 y14 x15 y15 x16 y16 x17 y17 x28 y28 x29 y29
      have x0 : _ := cell_at XA2.out 0; have y0 : _ := cell_at XB2.out 0
      have x1 : _ := cell_at XA2.out 1; have y1 : _ := cell_at XB2.out 1
      have x2 : _ := cell_at XA2.out 2; have y2 : _ := cell_at XB2.out 2
      have x3 : _ := cell_at XA2.out 3; have y3 : _ := cell_at XB2.out 3
      have x4 : _ := cell_at XA2.out 4; have y4 : _ := cell_at XB2.out 4
      have x5 : _ := cell_at XA2.out 5; have y5 : _ := cell_at XB2.out 5
      have x6 : _ := cell_at XA2.out 6; have y6 : _ := cell_at XB2.out 6
      have x7 : _ := cell_at XA2.out 7; have y7 : _ := cell_at XB2.out 7
      have x8 : _ := cell_at XA2.out 8; have y8 : _ := cell_at XB2.out 8
      have x9 : _ := cell_at XA2.out 9; have y9 : _ := cell_at XB2.out 9
      have x10 : _ := cell_at XA2.out 10; have y10 : _ := cell_at XB2.out 10
      have x11 : _ := cell_at XA2.out 11; have y11 : _ := cell_at XB2.out 11
      have x12 : _ := cell_at XA2.out 12; have y12 : _ := cell_at XB2.out 12
      have x13 : _ := cell_at XA2.out 13; have y13 : _ := cell_at XB2.out 13
      have x14 : _ := cell_at XA2.out 14; have y14 : _ := cell_at XB2.out 14
      have x15 : _ := cell_at XA2.out 15; have y15 : _ := cell_at XB2.out 15
      have x16 : _ := cell_at XA2.out 16; have y16 : _ := cell_at XB2.out 16
      have x17 : _ := cell_at XA2.out 17; have y17 : _ := cell_at XB2.out 17
      have x28 : _ := cell_at XA2.out 28; have y28 : _ := cell_at XB2.out 28
      have x29 : _ := cell_at XA2.out 29; have y29 : _ := cell_at XB2.out 29
      simp only [List.getElem?_toArray, List.getElem?_cons_zero, List.getElem?_cons_succ] at x0 y0 x1 y1 x2 y2 x3 y3 x4 y4 x5 y5 x6 y6 x7 y7 x8 y8 x9 y9 x10 y10 x11 y11 x12 y12 x13 y13 x14 y14 x15 y15 x16 y16 x17 y17 x28 y28 x29 y29
      go_wp2_with fail
      refine (sameExpr_any re hB3 _ _ v2 (HR1.out.keep M2.out (by simp)) (HR2.out.keep M2.out (by simp))).mono ?_
      rintro e3 v3 ⟨rfl, m3⟩
      have M3 := Lib.hid (M2.out.trans m3 (by simp)); have XA3 := Lib.hid (m3.at XA2.out (by simp)); have XB3 := Lib.hid (m3.at XB2.out (by simp))
      clear m3 XA2 XB2
      clear x0 y0 x1 y1 x2 y2 x3 y3 x4 y4 x5 y5 x6 y6 x7 y7 x8 y8 x9 y9 x10 y10 x11 y11 x12 y12 x13 y13 x14 y14 x15 y15 x16 y16 x17 y17 x28 y28 x29 y29
      have x18 : _ := cell_at XA3.out 18; have y18 : _ := cell_at XB3.out 18
      have x19 : _ := cell_at XA3.out 19; have y19 : _ := cell_at XB3.out 19
      have x20 : _ := cell_at XA3.out 20; have y20 : _ := cell_at XB3.out 20
      have x21 : _ := cell_at XA3.out 21; have y21 : _ := cell_at XB3.out 21
      have x22 : _ := cell_at XA3.out 22; have y22 : _ := cell_at XB3.out 22
      have x23 : _ := cell_at XA3.out 23; have y23 : _ := cell_at XB3.out 23
      have x24 : _ := cell_at XA3.out 24; have y24 : _ := cell_at XB3.out 24
      have x25 : _ := cell_at XA3.out 25; have y25 : _ := cell_at XB3.out 25
      have x26 : _ := cell_at XA3.out 26; have y26 : _ := cell_at XB3.out 26
      have x27 : _ := cell_at XA3.out 27; have y27 : _ := cell_at XB3.out 27
      simp only [List.getElem?_toArray, List.getElem?_cons_zero, List.getElem?_cons_succ] at x18 y18 x19 y19 x20 y20 x21 y21 x22 y22 x23 y23 x24 y24 x25 y25 x26 y26 x27 y27
      go_wp2_with fail
      refine (sameExpr_any of hB4 _ _ v3 (HO1.out.keep M3.out (by simp)) (HO2.out.keep M3.out (by simp))).mono ?_
      rintro e4 v4 ⟨rfl, m4⟩
      have M4 := Lib.hid (M3.out.trans m4 (by simp)); have XA4 := Lib.hid (m4.at XA3.out (by simp)); have XB4 := Lib.hid (m4.at XB3.out (by simp))
      clear m4 XA3 XB3
      clear x18 y18 x19 y19 x20 y20 x21 y21 x22 y22 x23 y23 x24 y24 x25 y25 x26 y26 x27 y27
      have x18 : _ := cell_at XA4.out 18; have y18 : _ := cell_at XB4.out 18
      have x19 : _ := cell_at XA4.out 19; have y19 : _ := cell_at XB4.out 19
      have x20 : _ := cell_at XA4.out 20; have y20 : _ := cell_at XB4.out 20
      have x21 : _ := cell_at XA4.out 21; have y21 : _ := cell_at XB4.out 21
      have x22 : _ := cell_at XA4.out 22; have y22 : _ := cell_at XB4.out 22
      have x23 : _ := cell_at XA4.out 23; have y23 : _ := cell_at XB4.out 23
      have x24 : _ := cell_at XA4.out 24; have y24 : _ := cell_at XB4.out 24
      have x25 : _ := cell_at XA4.out 25; have y25 : _ := cell_at XB4.out 25
      have x26 : _ := cell_at XA4.out 26; have y26 : _ := cell_at XB4.out 26
      have x27 : _ := cell_at XA4.out 27; have y27 : _ := cell_at XB4.out 27
      simp only [List.getElem?_toArray, List.getElem?_cons_zero, List.getElem?_cons_succ] at x18 y18 x19 y19 x20 y20 x21 y21 x22 y22 x23 y23 x24 y24 x25 y25 x26 y26 x27 y27
      go_wp2_with fail
      refine (HS.out body hD hB5 hB6 _ _ _ _ v4 (HB1.out.keep M4.out (by simp)) (HB2.out.keep M4.out (by simp))).mono ?_
      rintro e5 v5 ⟨rfl, m5⟩
      have M5 := Lib.hid (M4.out.trans m5 (by simp)); have XA5 := Lib.hid (m5.at XA4.out (by simp)); have XB5 := Lib.hid (m5.at XB4.out (by simp))
      clear m5 XA4 XB4
      clear x18 y18 x19 y19 x20 y20 x21 y21 x22 y22 x23 y23 x24 y24 x25 y25 x26 y26 x27 y27
      go_wp2_with fail
      go_roundw
      case rel => exact ⟨j + 1, by omega, by go_num, MR.out.trans M5.out (by simp)⟩
      case measure => simp [intOf]; omega

    · obtain rfl : j = l.length := by omega
      have hjI : ¬ (l.length : Int) < (l.length : Int) := by omega
      go_wp2_with fail
      go_ret
      exact ⟨rfl, MR.out⟩
theorem sli_all : ∀ d, SLi d
  | 0 => fun l hd => absurd hd (by omega)
  | d + 1 => sli_of d (sli_all d)
theorem sameLits_any {F G : Nat → Prop} (l : List Pr.Li) (hl : l.length ≤ 140737488355328) (hM : liMs l ≤ 140737488355328) (u u' : Value) (w : World) (h : BB F w l u) (h' : BB G w l u') :
    Calls Tryz.prog 38 #[u, u'] w (Tru w) := sli_all (liDs l + 1) l (Nat.lt_succ_self _) hl hM F G u u' w h h'
end Go.Proofs.YtppigckioalhhaaGreatDoorR
/- SameProgram: of two programs that are the same: true. Printed by wip/gen_sysame3.py. -/
namespace Go.Proofs.YtppigckioalhhaaGreatDoorR
open Go.RowKit
set_option linter.unusedVariables false
set_option linter.unusedSimpArgs false
set_option maxRecDepth 100000

section
variable {F G : Nat → Prop} {w : World} {p : Pr.Prog} {x : Value}
theorem PgB.lit (h : PgB F w p x) : ∃ a c b d, x = .agg #[.slice a p.rels.length c, .slice b p.rules.length d] := by
  obtain ⟨rels, rus, u1, u2, rfl, rfl, h1, h2, -, -⟩ := h
  obtain ⟨a, c, rfl⟩ := h1.lit
  obtain ⟨b, d, rfl⟩ := h2.lit
  exact ⟨a, c, b, d, by simp⟩
theorem PgB.keep {S : List Nat} {w' : World} (h : PgB F w p x) (hm : Mod S w w') (hS : ∀ s ∈ S, ¬ F s) : PgB F w' p x := by
  obtain ⟨rels, rus, u1, u2, rfl, rfl, h1, h2, h3, h4⟩ := h
  exact ⟨rels, rus, u1, u2, rfl, rfl, h1.keep hm hS, h2.keep hm hS, fun q hq => (h3 q hq).keep hm hS, fun q hq => (h4 q hq).keep hm hS⟩
theorem PgB.mono (h : PgB F w p x) (hF : ∀ k, F k → k < w.heap.size → G k) : PgB G w p x := by
  obtain ⟨rels, rus, u1, u2, rfl, rfl, h1, h2, h3, h4⟩ := h
  exact ⟨rels, rus, u1, u2, rfl, rfl, h1.mono hF, h2.mono hF, fun q hq => (h3 q hq).mono hF, fun q hq => (h4 q hq).mono hF⟩
theorem PgB.relAt {a b : Option Addr} {c d : Nat} (h : PgB F w p (.agg #[.slice a p.rels.length c, .slice b p.rules.length d])) (i : Nat) (hi : i < p.rels.length) :
    ∃ g o u, a = some ⟨g, o, none⟩ ∧ CellsAt w g (o + i * 4) (reV p.rels[i] u) ∧ RowB F w 1 intC p.rels[i].types u := by
  obtain ⟨rels, rus, u1, u2, hx, rfl, h1, h2, h3, h4⟩ := h
  simp only [Value.agg.injEq, Array.mk.injEq, List.cons.injEq, and_true, List.length_map] at hx hi
  obtain ⟨rfl, rfl⟩ := hx
  obtain ⟨g, o, ha, hc⟩ := h1.at i hi
  refine ⟨g, o, rels[i].2, ha, ?_, ?_⟩
  · simpa [csR] using hc
  · simpa [RelB] using h3 _ (List.getElem_mem hi)
theorem PgB.rulAt {a b : Option Addr} {c d : Nat} (h : PgB F w p (.agg #[.slice a p.rels.length c, .slice b p.rules.length d])) (i : Nat) (hi : i < p.rules.length) :
    ∃ g o u u', b = some ⟨g, o, none⟩ ∧ CellsAt w g (o + i * 5) (ruV p.rules[i] u u') ∧ RowB F w 5 tmV p.rules[i].head.terms u ∧ BB F w p.rules[i].body u' := by
  obtain ⟨rels, rus, u1, u2, hx, rfl, h1, h2, h3, h4⟩ := h
  simp only [Value.agg.injEq, Array.mk.injEq, List.cons.injEq, and_true, List.length_map] at hx hi
  obtain ⟨rfl, rfl⟩ := hx
  obtain ⟨g, o, ha, hc⟩ := h2.at i hi
  have h5 := h4 _ (List.getElem_mem hi)
  refine ⟨g, o, rus[i].2.1, rus[i].2.2, ha, ?_, ?_, ?_⟩
  · simpa [csU] using hc
  · simpa using h5.1
  · simpa using h5.2
end
/-- no list is longer -/
structure PgM (p : Pr.Prog) : Prop where
  rels : p.rels.length ≤ 1048576
  rules : p.rules.length ≤ 1048576
  types : ∀ r ∈ p.rels, r.types.length ≤ 1048576
  terms : ∀ r ∈ p.rules, r.head.terms.length ≤ 1048576
  body : ∀ r ∈ p.rules, r.body.length ≤ 1048576
  deep : ∀ r ∈ p.rules, liMs r.body ≤ 1048576

set_option maxHeartbeats 16000000 in
theorem sameProg_any {F G : Nat → Prop} (p : Pr.Prog) (hM : PgM p) (u u' : Value) (w : World) (h : PgB F w p u) (h' : PgB G w p u') :
    Calls Tryz.prog 12 #[u, u'] w (Tru w) := by
  obtain ⟨a1, c1, b1, d1, rfl⟩ := h.lit
  obtain ⟨a2, c2, b2, d2, rfl⟩ := h'.lit
  obtain ⟨rels, rules⟩ := p
  have HMM := Lib.hid hM
  have hl1 := hM.rels
  have hl2 := hM.rules
  dsimp only at *
  have H1 := Lib.hid h; have H2 := Lib.hid h'
  clear h h' hM
  have mA := ((Mod.refl [] w).alloc (Obj.cells #[.slice a1 rels.length c1, .slice b1 rules.length d1] 26)).alloc (Obj.cells #[.slice a2 rels.length c2, .slice b2 rules.length d2] 26)
  have eA := two_a w #[.slice a1 rels.length c1, .slice b1 rules.length d1] #[.slice a2 rels.length c2, .slice b2 rules.length d2] 26 26
  have eB := two_b w #[.slice a1 rels.length c1, .slice b1 rules.length d1] #[.slice a2 rels.length c2, .slice b2 rules.length d2] 26 26
  go_enter Tryz.func12, Tryz.ntmps12
  go_upto_region 1 with fail
  generalize (w.alloc (Obj.cells _ 26)).alloc (Obj.cells _ 26) = w0 at *
  have M0 := Lib.hid mA; have E0 := Lib.hid eA; have E1 := Lib.hid eB
  clear mA eA eB
  have x0 := cell_at E0.out 0; have y0 := cell_at E1.out 0
  have x1 := cell_at E0.out 1; have y1 := cell_at E1.out 1
  simp only [List.getElem?_toArray, List.getElem?_cons_zero, List.getElem?_cons_succ] at x0 y0 x1 y1
  go_wp2_with fail
  clear x0 x1 y0 y1
  go_loopw [5] (fun iv wr => ∃ j : Nat, j ≤ rels.length ∧ iv = .int .i64 (j : Nat) ∧ Mod [] w0 wr) (fun iv _ => rels.length - (intOf iv).toNat)
  case atStart => exact ⟨0, Nat.zero_le _, rfl, Mod.refl _ _⟩
  case round =>
    obtain ⟨j, hj, rfl, hm⟩ := hrel
    have x0 := cell_at (hm.at E0.out (by simp)) 0; have y0 := cell_at (hm.at E1.out (by simp)) 0
    have x1 := cell_at (hm.at E0.out (by simp)) 1; have y1 := cell_at (hm.at E1.out (by simp)) 1
    simp only [List.getElem?_toArray, List.getElem?_cons_zero, List.getElem?_cons_succ] at x0 y0 x1 y1
    have MR := Lib.hid (M0.out.trans hm (by simp)); have HM := Lib.hid hm
    clear hm
    by_cases hlt : j < rels.length
    · have hjI : (j : Int) < (rels.length : Int) := by omega
      have hj0 : (0 : Int) ≤ (j : Int) := by omega
      obtain ⟨g1, o1, t1, rfl, hc1, ht1⟩ := (H1.out.keep MR.out (by simp)).relAt j hlt
      obtain ⟨g2, o2, t2, rfl, hc2, ht2⟩ := (H2.out.keep MR.out (by simp)).relAt j hlt
      have hty := HMM.out.types _ (List.getElem_mem hlt)
      dsimp only at hc1 hc2 ht1 ht2
      generalize rels[j] = y at *
      obtain ⟨nm, tys, ln, cl⟩ := y
      obtain ⟨ya1, yc1, rfl⟩ := ht1.lit
      obtain ⟨ya2, yc2, rfl⟩ := ht2.lit
      have HT1 := Lib.hid ht1; have HT2 := Lib.hid ht2
      dsimp only at hty
      clear ht1 ht2
      have p0 := hc1 0 (.string nm) rfl; have p1 := hc1 1 (.slice ya1 tys.length yc1) rfl; have p2 := hc1 2 (.int .i64 ln) rfl; have p3 := hc1 3 (.int .i64 cl) rfl
      have q0 := hc2 0 (.string nm) rfl; have q1 := hc2 1 (.slice ya2 tys.length yc2) rfl; have q2 := hc2 2 (.int .i64 ln) rfl; have q3 := hc2 3 (.int .i64 cl) rfl
      rw [Nat.add_zero] at p0 q0
      have q0 := ((Mod.refl [] wr).alloc (Obj.cells #[.string nm, .slice ya1 tys.length yc1, .int .i64 ln, .int .i64 cl] 81)).cell q0 (by simp); have q1 := ((Mod.refl [] wr).alloc (Obj.cells #[.string nm, .slice ya1 tys.length yc1, .int .i64 ln, .int .i64 cl] 81)).cell q1 (by simp); have q2 := ((Mod.refl [] wr).alloc (Obj.cells #[.string nm, .slice ya1 tys.length yc1, .int .i64 ln, .int .i64 cl] 81)).cell q2 (by simp); have q3 := ((Mod.refl [] wr).alloc (Obj.cells #[.string nm, .slice ya1 tys.length yc1, .int .i64 ln, .int .i64 cl] 81)).cell q3 (by simp)
      clear hc1 hc2
      have eR1 := two_a wr #[.string nm, .slice ya1 tys.length yc1, .int .i64 ln, .int .i64 cl] #[.string nm, .slice ya2 tys.length yc2, .int .i64 ln, .int .i64 cl] 81 81
      have eR2 := two_b wr #[.string nm, .slice ya1 tys.length yc1, .int .i64 ln, .int .i64 cl] #[.string nm, .slice ya2 tys.length yc2, .int .i64 ln, .int .i64 cl] 81 81
      have mR := ((Mod.refl [] wr).alloc (Obj.cells #[.string nm, .slice ya1 tys.length yc1, .int .i64 ln, .int .i64 cl] 81)).alloc (Obj.cells #[.string nm, .slice ya2 tys.length yc2, .int .i64 ln, .int .i64 cl] 81)
      have y0' := ((Mod.refl [] wr).alloc (Obj.cells #[.string nm, .slice ya1 tys.length yc1, .int .i64 ln, .int .i64 cl] 81)).cell y0 (by simp)
      go_upto_region 8 with fail
      generalize (wr.alloc (Obj.cells _ 81)).alloc (Obj.cells _ 81) = wb at *
      have E2 := Lib.hid eR1; have E3 := Lib.hid eR2; have MB := Lib.hid mR
      have hTA := Lib.hid (HT1.out.keep mR (by simp)); have hTB := Lib.hid (HT2.out.keep mR (by simp))
      clear eR1 eR2 mR p0 p1 p2 p3 q0 q1 q2 q3 x0 y0 y0' HT1 HT2
      have x0 := cell_at E2.out 0; have y0 := cell_at E3.out 0
      have x1 := cell_at E2.out 1; have y1 := cell_at E3.out 1
      have x2 := cell_at E2.out 2; have y2 := cell_at E3.out 2
      have x3 := cell_at E2.out 3; have y3 := cell_at E3.out 3
      simp only [List.getElem?_toArray, List.getElem?_cons_zero, List.getElem?_cons_succ] at x0 y0 x1 y1 x2 y2 x3 y3
      go_wp2_with fail
      clear x0 x1 x2 x3 y0 y1 y2 y3
      go_loopw [8] (fun iv wi => ∃ k : Nat, k ≤ tys.length ∧ iv = .int .i64 (k : Nat) ∧ Mod [] wb wi) (fun iv _ => tys.length - (intOf iv).toNat)
      case atStart => exact ⟨0, Nat.zero_le _, rfl, Mod.refl _ _⟩
      case round =>
        obtain ⟨k, hk, rfl, hmi⟩ := hrel
        have x1 := cell_at (hmi.at E2.out (by simp)) 1; have y1 := cell_at (hmi.at E3.out (by simp)) 1
        simp only [List.getElem?_toArray, List.getElem?_cons_zero, List.getElem?_cons_succ] at x1 y1
        have MI := Lib.hid hmi
        by_cases hlk : k < tys.length
        · have hkI : (k : Int) < (tys.length : Int) := by omega
          have hk0 : (0 : Int) ≤ (k : Int) := by omega
          obtain ⟨g3, o3, rfl, hc3⟩ := (hTA.out.keep hmi (by simp)).at k hlk
          obtain ⟨g4, o4, rfl, hc4⟩ := (hTB.out.keep hmi (by simp)).at k hlk
          have r0 := hc3 0 (.int .i64 tys[k]) rfl
          have s0 := hc4 0 (.int .i64 tys[k]) rfl
          rw [Nat.add_zero, Nat.mul_one] at r0 s0
          clear hc3 hc4 hmi
          generalize tys[k] = ty at *
          go_wp2_with fail
          go_quiet (fail)
          go_wp2_with fail
          go_roundw
          case rel => exact ⟨k + 1, by omega, by go_num, by first | exact MI.out.drewN _ | exact MI.out.drew | exact MI.out⟩
          case measure => simp [intOf]; omega
        · obtain rfl : k = tys.length := by omega
          have hkI : ¬ (tys.length : Int) < (tys.length : Int) := by omega
          clear hmi
          go_wp2_with fail
          go_roundw
          case rel => exact ⟨j + 1, by omega, by go_num, HM.out.trans (MB.out.trans MI.out (by simp)) (by simp)⟩
          case measure => simp [intOf]; omega
    · obtain rfl : j = rels.length := by omega
      have hjI : ¬ (rels.length : Int) < (rels.length : Int) := by omega
      go_wp2_with fail
      clear x0 y0
      obtain ⟨wo, rfl⟩ : ∃ wo : World, wo = wr := ⟨_, rfl⟩
      go_loopw [9] (fun iv wr => ∃ j : Nat, j ≤ rules.length ∧ iv = .int .i64 (j : Nat) ∧ Mod [] w0 wr) (fun iv _ => rules.length - (intOf iv).toNat)
      case atStart => exact ⟨0, Nat.zero_le _, rfl, HM.out⟩
      case round =>
        obtain ⟨j, hj, rfl, hm⟩ := hrel
        have x1 := cell_at (hm.at E0.out (by simp)) 1; have y1 := cell_at (hm.at E1.out (by simp)) 1
        simp only [List.getElem?_toArray, List.getElem?_cons_zero, List.getElem?_cons_succ] at x1 y1
        have MQ := Lib.hid (M0.out.trans hm (by simp)); have HQ := Lib.hid hm
        clear hm
        by_cases hlt : j < rules.length
        · have hjI : (j : Int) < (rules.length : Int) := by omega
          have hj0 : (0 : Int) ≤ (j : Int) := by omega
          obtain ⟨g1, o1, t1, s1, rfl, hc1, ht1, hb1⟩ := (H1.out.keep MQ.out (by simp)).rulAt j hlt
          obtain ⟨g2, o2, t2, s2, rfl, hc2, ht2, hb2⟩ := (H2.out.keep MQ.out (by simp)).rulAt j hlt
          have hq1 := HMM.out.terms _ (List.getElem_mem hlt)
          have hq2 := HMM.out.body _ (List.getElem_mem hlt)
          have hq3 := HMM.out.deep _ (List.getElem_mem hlt)
          dsimp only at hc1 hc2 ht1 ht2 hb1 hb2
          generalize rules[j] = y at *
          obtain ⟨⟨rel, ts⟩, body, ln, cl⟩ := y
          obtain ⟨ta1, tc1, rfl⟩ := ht1.lit
          obtain ⟨ta2, tc2, rfl⟩ := ht2.lit
          obtain ⟨ba1, bc1, rfl⟩ := hb1.lit
          obtain ⟨ba2, bc2, rfl⟩ := hb2.lit
          have HT1 := Lib.hid ht1; have HT2 := Lib.hid ht2; have HB1 := Lib.hid hb1; have HB2 := Lib.hid hb2
          dsimp only at hq1 hq2 hq3
          have hq1 : ts.length ≤ 140737488355328 := by omega
          have hq2 : body.length ≤ 140737488355328 := by omega
          have hq3 : liMs body ≤ 140737488355328 := by omega
          clear ht1 ht2 hb1 hb2
          have p0 := hc1 0 (.string rel) rfl; have q0 := hc2 0 (.string rel) rfl
          have p1 := hc1 1 (.slice ta1 ts.length tc1) rfl; have q1 := hc2 1 (.slice ta2 ts.length tc2) rfl
          have p2 := hc1 2 (.slice ba1 body.length bc1) rfl; have q2 := hc2 2 (.slice ba2 body.length bc2) rfl
          have p3 := hc1 3 (.int .i64 ln) rfl; have q3 := hc2 3 (.int .i64 ln) rfl
          have p4 := hc1 4 (.int .i64 cl) rfl; have q4 := hc2 4 (.int .i64 cl) rfl
          rw [Nat.add_zero] at p0 q0
          have q0 := ((Mod.refl [] wr).alloc (Obj.cells #[.string rel, .slice ta1 ts.length tc1, .slice ba1 body.length bc1, .int .i64 ln, .int .i64 cl] 55)).cell q0 (by simp); have q1 := ((Mod.refl [] wr).alloc (Obj.cells #[.string rel, .slice ta1 ts.length tc1, .slice ba1 body.length bc1, .int .i64 ln, .int .i64 cl] 55)).cell q1 (by simp); have q2 := ((Mod.refl [] wr).alloc (Obj.cells #[.string rel, .slice ta1 ts.length tc1, .slice ba1 body.length bc1, .int .i64 ln, .int .i64 cl] 55)).cell q2 (by simp); have q3 := ((Mod.refl [] wr).alloc (Obj.cells #[.string rel, .slice ta1 ts.length tc1, .slice ba1 body.length bc1, .int .i64 ln, .int .i64 cl] 55)).cell q3 (by simp); have q4 := ((Mod.refl [] wr).alloc (Obj.cells #[.string rel, .slice ta1 ts.length tc1, .slice ba1 body.length bc1, .int .i64 ln, .int .i64 cl] 55)).cell q4 (by simp)
          clear hc1 hc2
          have eR1 := two_a wr #[.string rel, .slice ta1 ts.length tc1, .slice ba1 body.length bc1, .int .i64 ln, .int .i64 cl] #[.string rel, .slice ta2 ts.length tc2, .slice ba2 body.length bc2, .int .i64 ln, .int .i64 cl] 55 55
          have eR2 := two_b wr #[.string rel, .slice ta1 ts.length tc1, .slice ba1 body.length bc1, .int .i64 ln, .int .i64 cl] #[.string rel, .slice ta2 ts.length tc2, .slice ba2 body.length bc2, .int .i64 ln, .int .i64 cl] 55 55
          have mR := ((Mod.refl [] wr).alloc (Obj.cells #[.string rel, .slice ta1 ts.length tc1, .slice ba1 body.length bc1, .int .i64 ln, .int .i64 cl] 55)).alloc (Obj.cells #[.string rel, .slice ta2 ts.length tc2, .slice ba2 body.length bc2, .int .i64 ln, .int .i64 cl] 55)
          have y1' := ((Mod.refl [] wr).alloc (Obj.cells #[.string rel, .slice ta1 ts.length tc1, .slice ba1 body.length bc1, .int .i64 ln, .int .i64 cl] 55)).cell y1 (by simp)
          go_upto_region 20 with fail
          generalize (wr.alloc (Obj.cells _ 55)).alloc (Obj.cells _ 55) = wb at *
          have E2 := Lib.hid eR1; have E3 := Lib.hid eR2; have MB := Lib.hid mR
          have hTA := Lib.hid (HT1.out.keep mR (by simp)); have hTB := Lib.hid (HT2.out.keep mR (by simp)); have hBA := Lib.hid (HB1.out.keep mR (by simp)); have hBB := Lib.hid (HB2.out.keep mR (by simp))
          clear eR1 eR2 mR p0 p1 p2 p3 p4 q0 q1 q2 q3 q4 x1 y1 y1' HT1 HT2 HB1 HB2
          have x0 := cell_at E2.out 0; have y0 := cell_at E3.out 0
          have x1 := cell_at E2.out 1; have y1 := cell_at E3.out 1
          have x2 := cell_at E2.out 2; have y2 := cell_at E3.out 2
          have x3 := cell_at E2.out 3; have y3 := cell_at E3.out 3
          have x4 := cell_at E2.out 4; have y4 := cell_at E3.out 4
          simp only [List.getElem?_toArray, List.getElem?_cons_zero, List.getElem?_cons_succ] at x0 y0 x1 y1 x2 y2 x3 y3 x4 y4
          go_wp2_with fail
          refine (sameAtom_any ⟨rel, ts⟩ hq1 _ _ wb hTA.out hTB.out).mono ?_
          rintro e1 v1 ⟨rfl, m1⟩
          have M1 := Lib.hid m1
          clear x0 x1 x2 x3 x4 y0 y1 y2 y3 y4
          have x2 := cell_at (m1.at E2.out (by simp)) 2; have y2 := cell_at (m1.at E3.out (by simp)) 2
          simp only [List.getElem?_toArray, List.getElem?_cons_zero, List.getElem?_cons_succ] at x2 y2
          clear m1
          go_wp2_with fail
          refine (sameLits_any body hq2 hq3 _ _ v1 (hBA.out.keep M1.out (by simp)) (hBB.out.keep M1.out (by simp))).mono ?_
          rintro e2 v2 ⟨rfl, m2⟩
          have M2 := Lib.hid m2
          clear m2 x2 y2
          go_wp2_with fail
          go_roundw
          case rel => exact ⟨j + 1, by omega, by go_num, ((HQ.out.trans MB.out (by simp)).trans M1.out (by simp)).trans M2.out (by simp)⟩
          case measure => simp [intOf]; omega
        · obtain rfl : j = rules.length := by omega
          have hjI : ¬ (rules.length : Int) < (rules.length : Int) := by omega
          go_wp2_with fail
          go_ret
          exact ⟨rfl, MQ.out⟩
end Go.Proofs.YtppigckioalhhaaGreatDoorR
/- LISTS THAT GROW, of things with rows of their own; what may be appended whole. -/
namespace Go.Proofs.YtppigckioalhhaaGreatDoorR
open Go.RowKit
set_option linter.unusedVariables false
set_option linter.unusedSimpArgs false
set_option maxRecDepth 100000

/-- what is kept, of things of n cells -/
structure Bears {α : Type} (n : Nat) (cs : α → Array Value) (B : (Nat → Prop) → World → α → Prop) : Prop where
  size : ∀ x, (cs x).size = n
  keep : ∀ {F : Nat → Prop} {S : List Nat} {w w' : World} {p : α}, B F w p → Mod S w w' → (∀ s ∈ S, ¬ F s) → B F w' p
  mono : ∀ {F F' : Nat → Prop} {w : World} {p : α}, B F w p → (∀ k, F k → k < w.heap.size → F' k) → B F' w p
structure GI {α : Type} (T : TypeId) (n : Nat) (cs : α → Array Value) (B : (Nat → Prop) → World → α → Prop) (S : List Nat) (w0 W : World) (acc : List α) (va : Option Addr) (vc : Nat) : Prop where
  row : W.ownsRow 0 T n (.slice va acc.length vc) acc.length (rowCells cs acc)
  new : ∀ k ∈ fp (.slice va acc.length vc), w0.heap.size ≤ k
  sub : ∀ p ∈ acc, B (fun k => w0.heap.size ≤ k ∧ k ∉ fp (.slice va acc.length vc)) W p
  low : ∀ s ∈ S, s < w0.heap.size
  mod : Mod S w0 W
section
variable {α : Type} {T : TypeId} {n : Nat} {cs : α → Array Value} {B : (Nat → Prop) → World → α → Prop} {S : List Nat} {w0 W W' : World} {acc : List α} {va : Option Addr} {vc : Nat}
theorem GI.nil (hS : ∀ s ∈ S, s < w0.heap.size) : GI T n cs B S w0 w0 [] none 0 := ⟨World.ownsRow_nil _ _ _ _, by simp [fp], by simp, hS, Mod.refl _ _⟩
theorem GI.keep (hB : Bears n cs B) (h : GI T n cs B S w0 W acc va vc) (hm : Mod S W W') : GI T n cs B S w0 W' acc va vc := by
  have hl := h.low
  refine ⟨hm.owns h.row (fun k hk hs => ?_), h.new, fun p hp => hB.keep (h.sub p hp) hm (fun s hs hh => ?_), h.low, h.mod.trans hm (fun t ht => .inl ht)⟩
  · have := h.new k hk; have := hl k hs; omega
  · have := hl s hs; omega
theorem GI.grow {va' : Option Addr} {vc' : Nat} {p : α} {m : Nat} (hB : Bears n cs B) (h : GI T n cs B S w0 W acc va vc) (hm : Mod (fp (.slice va acc.length vc)) W W') (hp : B (fun k => m ≤ k) W p) (hn : ∀ k ∈ fp (.slice va acc.length vc), k < m) (hn0 : w0.heap.size ≤ m)
    (hown : W'.ownsRow 0 T n (.slice va' (acc.length + 1) vc') (acc.length + 1) (rowCells cs acc ++ (cs p).toList)) (hf : ∀ k ∈ fp (.slice va' (acc.length + 1) vc'), k ∈ fp (.slice va acc.length vc) ∨ W.heap.size ≤ k) :
    GI T n cs B S w0 W' (acc ++ [p]) va' vc' := by
  have e1 : (acc ++ [p]).length = acc.length + 1 := by simp
  have hnew := h.new
  have hsz := h.mod.size
  have hnew' : ∀ k ∈ fp (.slice va' (acc.length + 1) vc'), w0.heap.size ≤ k := fun k hk => by
    rcases hf k hk with hh | hh
    · exact hnew k hh
    · omega
  refine ⟨?_, by rw [e1]; exact hnew', ?_, h.low, h.mod.trans hm (fun k hk => .inr (hnew k hk))⟩
  · rw [e1, rowCells_snoc]
    exact hown
  · intro q hq
    rw [e1]
    rcases List.mem_append.1 hq with hq | hq
    · refine hB.mono (hB.keep (hB.mono (F' := fun k => w0.heap.size ≤ k ∧ k ∉ fp (.slice va acc.length vc) ∧ k < W.heap.size) (h.sub q hq) (fun k hk hk2 => ⟨hk.1, hk.2, hk2⟩)) hm (fun s hs hh => hh.2.1 hs)) (fun k hk hk2 => ⟨hk.1, fun hh => ?_⟩)
      rcases hf k hh with h1 | h1
      · exact hk.2.1 h1
      · have := hk.2.2; omega
    · rw [List.mem_singleton] at hq
      subst hq
      refine hB.mono (hB.keep (hB.mono (F' := fun k => m ≤ k ∧ k < W.heap.size) hp (fun k hk hk2 => ⟨hk, hk2⟩)) hm (fun s hs hh => by have := hn s hs; omega)) (fun k hk hk2 => ⟨by omega, fun hh => ?_⟩)
      rcases hf k hh with h1 | h1
      · have := hn k h1; omega
      · have := hk.2; omega
end
/-- what is in a list's row may be appended whole -/
theorem rows_src {α : Type} {F : Nat → Prop} {w : World} {n : Nat} {cs : α → Array Value} {l : List α} {u : Value} {TS e : TypeId} (hu : Tryz.prog.underlying TS = some (.slice e)) (hn : ∀ x, (cs x).size = n) (h0 : 0 < n) (h1 : ∀ x, ∀ v ∈ (cs x).toList, v.oneCell' = true) (h : RowB F w n cs l u) :
    Src Tryz.prog n TS u l.length (rowCells cs l) w := by
  have hone : ∀ v ∈ rowCells cs l, v.oneCell' = true := by
    intro v hv
    obtain ⟨x, -, hx⟩ := List.mem_flatMap.1 hv
    exact h1 x v hx
  cases h with
  | nil =>
    rename_i a c
    cases a with
    | none => exact Src.ofNil w hu c
    | some ad => exact Src.ofSlice w hu ad 0 c [] (by simp) (fun j u hu => by simp at hu) (by simp)
  | row hF hb hc =>
    rename_i b off c
    refine Src.ofSlice w hu _ _ c _ (rowCells_len hn l) (fun j v hv => ?_) hone
    rw [addr_add]
    have hj := (List.getElem?_eq_some_iff.1 hv).1
    rw [rowCells_len hn] at hj
    have hi : j / n < l.length := Nat.div_lt_of_lt_mul (by rw [Nat.mul_comm]; exact hj)
    have hmd : j % n < n := Nat.mod_lt _ h0
    have hsz : j % n < (cs l[j / n]).size := by rw [hn]; exact hmd
    have key := rowCells_get hn l (j / n) hi (j % n) _ (Array.getElem?_eq_getElem hsz)
    have hjj : j / n * n + j % n = j := by rw [Nat.mul_comm]; exact Nat.div_add_mod j n
    rw [hjj, hv] at key
    have := hc (j / n) hi (j % n) _ (Array.getElem?_eq_getElem hsz)
    rw [Nat.add_assoc, hjj] at this
    rw [this, key]
/-- expressions with their arguments' slices -/
abbrev ExU := Pr.Ex × Value
def csX (p : ExU) : Array Value := exV p.1 p.2
def BX (F : Nat → Prop) (w : World) (p : ExU) : Prop := EB F w p.1 p.2
theorem bearsX : Bears 7 csX BX := ⟨fun _ => rfl, fun h hm hs => EB.keep h hm hs, fun h hF => EB.mono h hF⟩
theorem csX_one {F : Nat → Prop} {w : World} {p : ExU} (h : BX F w p) : ∀ u ∈ (csX p).toList, u.oneCell' = true := by
  obtain ⟨e, u⟩ := p
  obtain ⟨a, c, hu⟩ := EB.lit h
  simp only at hu
  subst hu
  intro x hx
  simp [csX, exV] at hx
  rcases hx with rfl | rfl | rfl | rfl | rfl | rfl | rfl <;> rfl
theorem EB.of_row {F : Nat → Prop} {w : World} {k : Int} {v : ByteArray} {x : Va.Val} {op : Int} {u : Value} (l : List ExU) (h : RowB F w 7 csX l u) (hs : ∀ p ∈ l, BX F w p) : EB F w (.mk k v x op (l.map (·.1))) u := by
  cases h with
  | nil => exact .nil
  | row hF hb h1 =>
    rename_i g off c
    have := @EB.row F w k v x op (l.map (·.1)) g off c (fun i => if h : i < l.length then l[i].2 else .slice none 0 0) hF hb (fun i hi => by
      rw [List.length_map] at hi
      simp only [dif_pos hi, List.getElem_map]
      exact h1 i hi) (fun i hi => by
      rw [List.length_map] at hi
      simp only [dif_pos hi, List.getElem_map]
      exact hs _ (List.getElem_mem hi))
    simpa using this
end Go.Proofs.YtppigckioalhhaaGreatDoorR
/- COPIES: CopyAtom, CopyExpr. -/
namespace Go.Proofs.YtppigckioalhhaaGreatDoorR
open Go.RowKit
set_option linter.unusedVariables false
set_option linter.unusedSimpArgs false
set_option maxRecDepth 100000

/-- a copy: in new blocks alone -/
def CpA (a : Pr.Atom) (w : World) (e : Ending) (w' : World) : Prop := ∃ u, e = .returned (.agg #[.string a.rel, u]) ∧ RowB (fun k => w.heap.size ≤ k) w' 5 tmV a.terms u ∧ Mod [] w w'
set_option maxHeartbeats 4000000 in
theorem copyAtom_any {F : Nat → Prop} (a : Pr.Atom) (hl : a.terms.length ≤ 1048576) (u : Value) (w : World) (h : RowB F w 5 tmV a.terms u) :
    Calls Tryz.prog 97 #[.agg #[.string a.rel, u]] w (CpA a w) := by
  obtain ⟨rel, ts⟩ := a
  dsimp only at *
  obtain ⟨i0, hinf, hz0, hz1, hz2⟩ := info_parts Tryz.infoTerm
  obtain ⟨a1, c1, rfl⟩ := h.lit
  have hsrc := rows_src Tryz.underlying38 tmV_size (by omega) tmV_one h
  have mA := ((Mod.refl [] w).alloc (Obj.cells #[.string rel, .slice a1 ts.length c1] 40)).alloc (Obj.cells #[.string { data := #[] }, .slice none 0 0] 40)
  have eA := two_a w #[.string rel, .slice a1 ts.length c1] #[.string { data := #[] }, .slice none 0 0] 40 40
  have eB := two_b w #[.string rel, .slice a1 ts.length c1] #[.string { data := #[] }, .slice none 0 0] 40 40
  have H1 := h.keep mA (by simp)
  have S1 := Lib.hid (rows_src Tryz.underlying38 tmV_size (by omega) tmV_one H1)
  clear h hsrc H1
  go_enter Tryz.func97, Tryz.ntmps97
  go_upto_region 1 with fail
  generalize (w.alloc (Obj.cells _ 40)).alloc (Obj.cells _ 40) = w0 at *
  have M0 := Lib.hid mA; have E0 := Lib.hid eA; have E1 := Lib.hid eB
  clear mA eA eB
  have x0 := cell_at E0.out 0; have x1 := cell_at E0.out 1
  simp only [List.getElem?_toArray, List.getElem?_cons_zero, List.getElem?_cons_succ] at x0 x1
  go_wp2_with (at_builtin; refine wpList_append_src _ rfl _ _ 38 38 rfl 113 i0 (.agg #[Value.int IntKind.i64 0, Value.string { data := #[] }, Value.int IntKind.i64 0, Value.int IntKind.i64 0, Value.string { data := #[] }]) 5 56 Tryz.underlying38 hinf hz0 hz1 hz2 rfl (.slice none 0 0) 0 [] rfl (World.ownsRow_nil _ _ _ _) _ ts.length (rowCells tmV ts) rfl S1.out (by unfold maxLen; omega) (by omega) ?_)
  intro v2 w2 hown2 hm2 hf2 hn2
  (try rw [Nat.zero_add] at hown2); (try rw [List.nil_append] at hown2)
  obtain ⟨a2, c2, rfl⟩ := owns_slice hown2
  have M2 := Lib.hid (show Mod [] w0 w2 from hm2)
  have hR := RowB.of_owns (F := fun k => w0.heap.size ≤ k) tmV_size hown2 (fun k hk => by
    rcases hf2 k hk with hh | hh
    · simp [fp] at hh
    · exact hh)
  have R2 := Lib.hid hR
  clear hown2 hm2 hf2 hn2 x0 x1 S1 hR
  have E2 := Lib.hid (M2.out.at E0.out (by simp)); have E3 := Lib.hid (M2.out.at E1.out (by simp))
  have x0 := cell_at E2.out 0; have y0 := cell_at E3.out 0; have y1 := cell_at E3.out 1
  simp only [List.getElem?_toArray, List.getElem?_cons_zero, List.getElem?_cons_succ] at x0 y0 y1
  have fA : ∀ j, w2.frozen? ⟨w.heap.size + 1, j, none⟩ = false := fun j => free_at E3.out j
  have hz := M0.out.size
  have hz2 := lt_of_block E1.out
  go_wp2_with fail
  have mR := setCs_mod (w.heap.size + 1) [.string rel, .slice a2 ts.length c2] 0 w2
  refine bodyPost_ret (results_cell_row rfl _ _ _ _ _ _ _ rfl (setCs_row (vs := [.string rel, .slice a2 ts.length c2]) E3.out rfl) Tryz.underlying40 rfl (by kernel_rfl)) rfl ⟨_, rfl, ?_, (M0.out.trans M2.out (by simp)).trans mR (by simp)⟩
  exact (R2.out.keep mR (fun s hs => by rw [List.mem_singleton] at hs; omega)).mono (fun k hk _ => by omega)
end Go.Proofs.YtppigckioalhhaaGreatDoorR
/- COPIES: CopyExpr. -/
namespace Go.Proofs.YtppigckioalhhaaGreatDoorR
open Go.RowKit
set_option linter.unusedVariables false
set_option linter.unusedSimpArgs false
set_option maxRecDepth 100000

theorem Tryz.infoEx : (Tryz.prog.info? 45).map (fun i => (i.zero, i.size, i.bytes)) = some (some (.agg #[Value.int IntKind.i64 0, Value.string { data := #[] }, Value.int IntKind.i64 0, Value.int IntKind.i64 0, Value.string { data := #[] }, Value.int IntKind.i64 0, Value.slice none 0 0]), 7, 88) := by kernel_rfl
/-- a copy: in new blocks alone -/
def CpX (e : Pr.Ex) (w : World) (o : Ending) (w' : World) : Prop := ∃ u, o = .returned (.agg (exV e u)) ∧ EB (fun k => w.heap.size ≤ k) w' e u ∧ Mod [] w w'
def CXC (d : Nat) : Prop := ∀ (e : Pr.Ex), exD e ≤ d → exM e ≤ 1048576 → ∀ (F : Nat → Prop) (u : Value) (w : World), EB F w e u →
  Calls Tryz.prog 123 #[.agg (exV e u)] w (CpX e w)
set_option maxHeartbeats 8000000 in
theorem cxc_of (d : Nat) (hS : CXC d) : CXC (d + 1) := by
  intro e he hM F u w h
  obtain ⟨i0, hinf, hz0, hz1, hz2⟩ := info_parts Tryz.infoEx
  obtain ⟨k, v, ⟨xk, xn, xs⟩, op, args⟩ := e
  obtain ⟨a1, c1, rfl⟩ := h.lit
  have hd : exDs args ≤ d := by simp only [exD] at he; omega
  have hM1 : args.length ≤ 1048576 := by simp only [exM] at hM; omega
  have hM2 : exMs args ≤ 1048576 := by simp only [exM] at hM; omega
  have HS := Lib.hid hS; have H1 := Lib.hid h
  clear h hS he hM
  simp only [exV, Pr.Ex.k, Pr.Ex.v, Pr.Ex.x, Pr.Ex.op, Pr.Ex.args] at *
  generalize hxB : Lx.ofS xs = xB at *
  have mA := ((Mod.refl [] w).alloc (Obj.cells #[.int .i64 k, .string v, .int .i64 xk, .int .i64 xn, .string xB, .int .i64 op, .slice a1 args.length c1] 45)).alloc (Obj.cells #[Value.int IntKind.i64 0, Value.string { data := #[] }, Value.int IntKind.i64 0, Value.int IntKind.i64 0, Value.string { data := #[] }, Value.int IntKind.i64 0, Value.slice none 0 0] 45)
  have eA := two_a w #[.int .i64 k, .string v, .int .i64 xk, .int .i64 xn, .string xB, .int .i64 op, .slice a1 args.length c1] #[Value.int IntKind.i64 0, Value.string { data := #[] }, Value.int IntKind.i64 0, Value.int IntKind.i64 0, Value.string { data := #[] }, Value.int IntKind.i64 0, Value.slice none 0 0] 45 45
  have eB := two_b w #[.int .i64 k, .string v, .int .i64 xk, .int .i64 xn, .string xB, .int .i64 op, .slice a1 args.length c1] #[Value.int IntKind.i64 0, Value.string { data := #[] }, Value.int IntKind.i64 0, Value.int IntKind.i64 0, Value.string { data := #[] }, Value.int IntKind.i64 0, Value.slice none 0 0] 45 45
  go_enter Tryz.func123, Tryz.ntmps123
  go_upto_region 1 with fail
  generalize (w.alloc (Obj.cells _ 45)).alloc (Obj.cells _ 45) = w0 at *
  have M0 := Lib.hid mA; have E0 := Lib.hid eA; have E1 := Lib.hid eB
  clear mA eA eB
  have x0 := cell_at E0.out 0; have x1 := cell_at E0.out 1; have x2 := cell_at E0.out 2; have x3 := cell_at E0.out 3; have x4 := cell_at E0.out 4; have x5 := cell_at E0.out 5; have x6 := cell_at E0.out 6
  simp only [List.getElem?_toArray, List.getElem?_cons_zero, List.getElem?_cons_succ] at x0 x1 x2 x3 x4 x5 x6
  go_upto_region 3 with fail
  generalize hwL : w0.alloc (Obj.cells _ 45) = wL
  have hLA : Hid (Mod [] w0 wL ∧ wL.heap[w0.heap.size]? = some (.cells #[.int .i64 k, .string v, .int .i64 xk, .int .i64 xn, .string xB, .int .i64 op, .slice none 0 0] 45 (0, 0))) := Lib.hid (by
    subst hwL
    exact ⟨(Mod.refl [] w0).alloc _, heap_alloc_new w0 _⟩)
  clear x0 x1 x2 x3 x4 x5 x6 hwL
  have ML := Lib.hid hLA.out.1; have EL := Lib.hid hLA.out.2
  have hpl := lt_of_block EL.out
  have hp0 := lt_of_block E1.out
  have hm0 := M0.out.size
  generalize hpb : w0.heap.size = pb at *
  have GL : Hid (GI 45 7 csX BX [pb] wL wL [] none 0) := Lib.hid (GI.nil (fun s hs => by rw [List.mem_singleton] at hs; omega))
  clear hLA
  go_wp2_with fail
  have HL1 := Lib.hid (H1.out.mono (F' := fun k => k < w.heap.size) (fun k _ h => h))
  go_loopw [4] (fun iv wr => ∃ (acc : List ExU) (va : Option Addr) (vc : Nat), iv = .int .i64 (acc.length : Nat) ∧ acc.map (·.1) = args.take acc.length ∧ acc.length ≤ args.length ∧ wr.heap[pb]? = some (.cells #[.int .i64 k, .string v, .int .i64 xk, .int .i64 xn, .string xB, .int .i64 op, .slice va acc.length vc] 45 (0, 0)) ∧ GI 45 7 csX BX [pb] wL wr acc va vc) (fun iv _ => args.length - (intOf iv).toNat)
  case atStart => exact ⟨[], none, 0, rfl, by simp, by simp, EL.out, GL.out⟩
  case round =>
    obtain ⟨acc, va, vc, rfl, hmap, hle, hbx, hG⟩ := hrel
    have MW := Lib.hid (((M0.out.trans ML.out (by simp)).mono (T := [pb]) (by simp)).trans hG.mod (by simp))
    have EP := Lib.hid (hG.mod.at (ML.out.at E0.out (by simp)) (by simp; omega))
    have EX := Lib.hid hbx; have G0 := Lib.hid hG; have HM := Lib.hid hmap
    have z6 := cell_at EP.out 6; have b6 := cell_at EX.out 6
    simp only [List.getElem?_toArray, List.getElem?_cons_zero, List.getElem?_cons_succ] at z6 b6
    clear hG hbx hmap
    by_cases hlt : acc.length < args.length
    · have hjI : (acc.length : Int) < (args.length : Int) := by omega
      have hj0 : (0 : Int) ≤ (acc.length : Int) := by omega
      obtain ⟨b1, o1, u1, rfl, hc1, hE1⟩ := (HL1.out.keep MW.out (by simp; omega)).at acc.length hlt
      have hdj := exDs_mem args acc.length hlt
      have hmj := exMs_mem args acc.length hlt
      have HY : Hid (args[acc.length]? = some args[acc.length]) := Lib.hid (List.getElem?_eq_getElem hlt)
      simp only [Pr.Ex.args] at hc1 hE1
      generalize args[acc.length] = y at *
      obtain ⟨a2, c2, rfl⟩ := hE1.lit
      have r0 := hc1 0 (.int .i64 y.k) rfl
      have r1 := hc1 1 (.string y.v) rfl
      have r2 := hc1 2 (.int .i64 y.x.k) rfl
      have r3 := hc1 3 (.int .i64 y.x.n) rfl
      have r4 := hc1 4 (.string (Lx.ofS y.x.s)) rfl
      have r5 := hc1 5 (.int .i64 y.op) rfl
      have r6 := hc1 6 (.slice a2 y.args.length c2) rfl
      rw [Nat.add_zero] at r0
      clear hc1
      have HE1 := Lib.hid hE1
      clear hE1
      have HC : Hid (∀ w', Mod [] wr w' → Calls Tryz.prog 123 #[.agg (exV y (.slice a2 y.args.length c2))] w' (CpX y w')) := Lib.hid (fun w' hm => HS.out y (by omega) (by omega) _ _ _ (HE1.out.keep hm (by simp)))
      have hna : pb ∉ fp (.slice va acc.length vc) := fun hk => by have := G0.out.new pb hk; omega
      have hlR := Lib.hid (fun k hk => fp_lt G0.out.row k hk)
      have hsz := G0.out.mod.size
      unfold exV at HC
      go_wp2_with fail
      go_region_law (first
        | (go_simp; refine (HC.out wr.drew ((Mod.refl [] wr).drew)).mono ?_; rintro e3 w3 ⟨u3, rfl, hb3, m3⟩; obtain ⟨a3, c3, rfl⟩ := hb3.lit; have m03 := ((Mod.refl [] wr).drew).trans m3 (by simp); have X3 := Lib.hid (m03.at EX.out (by simp)); have q3 : w3.cell? ⟨pb, 6, none⟩ = some (.slice va acc.length vc) := cell_at X3.out 6; have mA4 := (Mod.refl [] w3).alloc (Obj.cells #[.int .i64 y.k, .string y.v, .int .i64 y.x.k, .int .i64 y.x.n, .string (Lx.ofS y.x.s), .int .i64 y.op, .slice a3 y.args.length c3] 45); have X4 := Lib.hid (mA4.at X3.out (by simp)); have q4 : (w3.alloc (Obj.cells #[.int .i64 y.k, .string y.v, .int .i64 y.x.k, .int .i64 y.x.n, .string (Lx.ofS y.x.s), .int .i64 y.op, .slice a3 y.args.length c3] 45)).cell? ⟨pb, 6, none⟩ = some (.slice va acc.length vc) := cell_at X4.out 6; have G4 := Lib.hid ((G0.out.keep bearsX (m03.mono (by simp))).keep bearsX (mA4.mono (by simp))); have S4 : Hid (Src Tryz.prog 7 43 (.slice (some ⟨w3.heap.size, 0, none⟩) 1 1) 1 (csX (y, .slice a3 y.args.length c3)).toList (w3.alloc (Obj.cells #[.int .i64 y.k, .string y.v, .int .i64 y.x.k, .int .i64 y.x.n, .string (Lx.ofS y.x.s), .int .i64 y.op, .slice a3 y.args.length c3] 45))) := Lib.hid (src_one (TS := 43) Tryz.underlying43 (heap_alloc_new w3 (Obj.cells (csX (y, .slice a3 y.args.length c3)) 45)) rfl (csX_one (p := (y, .slice a3 y.args.length c3)) (w := w3) hb3)); have L4 : Hid (BX (fun k => wr.heap.size ≤ k) (w3.alloc (Obj.cells #[.int .i64 y.k, .string y.v, .int .i64 y.x.k, .int .i64 y.x.n, .string (Lx.ofS y.x.s), .int .i64 y.op, .slice a3 y.args.length c3] 45)) (y, .slice a3 y.args.length c3)) := Lib.hid (hb3.keep mA4 (by simp)); unfold exV; clear hb3 m3 m03 mA4)
        | (refine step_append_src _ rfl _ _ 43 43 rfl 45 i0 (.agg #[Value.int IntKind.i64 0, Value.string { data := #[] }, Value.int IntKind.i64 0, Value.int IntKind.i64 0, Value.string { data := #[] }, Value.int IntKind.i64 0, Value.slice none 0 0]) 7 88 Tryz.underlying43 hinf hz0 hz1 hz2 rfl (.slice va acc.length vc) acc.length (rowCells csX acc) rfl G4.out.row _ 1 (csX (y, .slice a3 y.args.length c3)).toList rfl S4.out (by unfold maxLen; omega) (by omega) ?_; intro v5 w5 hown5 hm5 hf5; obtain ⟨va5, vc5, rfl⟩ := owns_slice hown5; have G5 := Lib.hid (G4.out.grow bearsX hm5 L4.out hlR.out hsz hown5 hf5); have X5 := Lib.hid (hm5.at X4.out hna); have q5 : w5.cell? ⟨pb, 6, none⟩ = some (.slice va acc.length vc) := cell_at X5.out 6; have f5 : w5.frozen? ⟨pb, 6, none⟩ = false := free_at X5.out 6; clear hown5 hm5 hf5))
      all_goals (
        have X6 := Lib.hid (setCell_at X5.out 6 (.slice va5 (acc.length + 1) vc5))
        have G6 := Lib.hid (G5.out.keep bearsX ((Mod.refl [pb] w5).setCell (p := ⟨pb, 6, none⟩) (.inl (by simp)) (.slice va5 (acc.length + 1) vc5)))
        clear q3 q4 q5 f5 X3 X4 X5 S4 L4 G4 G5 z6 b6
        go_wp2_with fail
        generalize w5.setCell ⟨pb, 6, none⟩ (.slice va5 (acc.length + 1) vc5) = w8 at *
        go_roundw
        case rel =>
          refine ⟨acc ++ [(y, .slice a3 y.args.length c3)], va5, vc5, by rw [List.length_append]; go_num, ?_, by simp; omega, ?_, G6.out⟩
          · rw [List.map_append, HM.out, show (acc ++ [(y, Value.slice a3 y.args.length c3)]).length = acc.length + 1 by simp, List.take_add_one, HY.out]; rfl
          · rw [X6.out]; simp
        case measure => simp [intOf]; omega)
    · obtain hae : acc.length = args.length := by omega
      have hjI : ¬ (acc.length : Int) < (args.length : Int) := by omega
      have hargs : args = acc.map (·.1) := by rw [HM.out, hae, List.take_length]
      have ER := Lib.hid (G0.out.mod.at (ML.out.at E1.out (by simp)) (by simp; omega))
      have b0 := cell_at EX.out 0; have b1 := cell_at EX.out 1; have b2 := cell_at EX.out 2; have b3 := cell_at EX.out 3; have b4 := cell_at EX.out 4; have b5 := cell_at EX.out 5; have y0 := cell_at ER.out 0; have y1 := cell_at ER.out 1; have y2 := cell_at ER.out 2; have y3 := cell_at ER.out 3; have y4 := cell_at ER.out 4; have y5 := cell_at ER.out 5; have y6 := cell_at ER.out 6
      simp only [List.getElem?_toArray, List.getElem?_cons_zero, List.getElem?_cons_succ] at b0 b1 b2 b3 b4 b5 y0 y1 y2 y3 y4 y5 y6
      have fA : ∀ j, wr.frozen? ⟨w.heap.size + 1, j, none⟩ = false := fun j => free_at ER.out j
      have hsz := G0.out.mod.size
      have HAR := Lib.hid hargs
      clear hae hargs
      go_wp2_with fail
      have mR := setCs_mod (w.heap.size + 1) [.int .i64 k, .string v, .int .i64 xk, .int .i64 xn, .string xB, .int .i64 op, .slice va acc.length vc] 0 wr
      refine bodyPost_ret (results_cell_row rfl _ _ _ _ _ _ _ rfl (setCs_row (vs := [.int .i64 k, .string v, .int .i64 xk, .int .i64 xn, .string xB, .int .i64 op, .slice va acc.length vc]) ER.out rfl) Tryz.underlying45 rfl (by kernel_rfl)) rfl ⟨.slice va acc.length vc, ?_, ?_, ?_⟩
      · rw [← hxB]; rfl
      · rw [HAR.out]
        refine EB.of_row acc ((RowB.of_owns (F := fun k => wL.heap.size ≤ k) bearsX.size G0.out.row G0.out.new).keep mR (fun s hs => by rw [List.mem_singleton] at hs; omega) |>.mono (fun k hk _ => by omega)) (fun p hp => ?_)
        exact bearsX.mono (bearsX.keep (G0.out.sub p hp) mR (fun s hs hh => by rw [List.mem_singleton] at hs; omega)) (fun k hk _ => by omega)
      · exact ((M0.out.trans ML.out (by simp)).trans (S := []) (T := [pb]) G0.out.mod (fun t ht => .inr (by rw [List.mem_singleton] at ht; omega))).trans mR (fun t ht => .inr (by rw [List.mem_singleton] at ht; omega))
theorem cxc_all : ∀ d, CXC d
  | 0 => fun e he _ => by cases e; simp [exD] at he
  | d + 1 => cxc_of d (cxc_all d)
theorem copyExpr_any {F : Nat → Prop} (e : Pr.Ex) (hM : exM e ≤ 1048576) (u : Value) (w : World) (h : EB F w e u) :
    Calls Tryz.prog 123 #[.agg (exV e u)] w (CpX e w) := cxc_all _ e (Nat.le_refl _) hM F u w h
end Go.Proofs.YtppigckioalhhaaGreatDoorR
/- A SLICE LITERAL OF ONE THING THAT IS KEPT WHOLE. -/
namespace Go.Proofs.YtppigckioalhhaaGreatDoorR
open Go.RowKit
set_option linter.unusedVariables false

section
variable {P : Program} {ops : Array Oper} {rest : List Oper} {o : Oper} {a : Act} {w : World} {Q : Exit → Act → World → Prop}
theorem slice_one_fill (cells : Array Value) (s : Nat) (X : Array Value) (h0 : 0 < s) (hs : cells.size = s) (hX : X.size = 1 * s) :
    Instr.fill (fun i => some (i * s, s)) X [(0, .agg cells)] = some cells := by
  have := Go.Great.fill_whole h0 [.agg cells] X (fun v hv => by rw [List.mem_singleton] at hv; subst hv; exact hs) (by simpa using hX.symm)
  simpa [Value.cells] using this
theorem wpList_slice_one (hgd : o.guard = none) (t e : TypeId) (x : Operand) (ho : o.op = .buildSlice t 1 #[(0, x)]) (cells : Array Value) (ie : TypeInfo) (z : Value) (hx : a.eval x = .agg cells)
    (hu : P.underlying t = some (.slice e)) (hie : P.info? e = some ie) (hz : ie.zero = some z) (hs : cells.size = ie.size) (h0 : 0 < ie.size) (hsm : ie.size ≤ 1000)
    (h : wpList P ops Q rest (a.put o.dst (.slice (some ⟨w.heap.size, 0, none⟩) 1 1)) (w.alloc (.cells cells e))) : wpList P ops Q (o :: rest) a w :=
  wpList_buildSlice hgd t e 1 #[(0, x)] ho cells ie z hu hie hz (by omega) (by omega) (by
    have := slice_one_fill cells ie.size ((Array.range (1 * ie.size)).map (z.cells[· % z.cells.size]!)) h0 hs (by simp)
    simpa [hx] using this) h
end
end Go.Proofs.YtppigckioalhhaaGreatDoorR
namespace Go.Proofs.YtppigckioalhhaaGreatDoorR
open Go.RowKit
set_option linter.unusedVariables false
set_option linter.unusedSimpArgs false
set_option maxRecDepth 100000

def csL (p : Pr.Li × LU) : Array Value := liV p.1 p.2
def BL (F : Nat → Prop) (w : World) (p : Pr.Li × LU) : Prop := LB F w p.1 p.2
theorem bearsLi : Bears 30 csL BL := ⟨liV_size, fun h hm hs => LB.keep h hm hs, fun h hF => LB.mono h hF⟩
theorem BB.of_gi {S : List Nat} {w w' : World} {acc : List (Pr.Li × LU)} {va : Option Addr} {vc : Nat} (h : GI 50 30 csL BL S w w' acc va vc) : BB (fun k => w.heap.size ≤ k) w' (acc.map (·.1)) (.slice va acc.length vc) :=
  BB.of_row acc (RowB.of_owns liV_size h.row h.new) (fun p hp => (h.sub p hp).mono (fun k hk _ => hk.1))
/-- a copy: its row is the call's own, the rest in other new blocks -/
def CpB (l : List Pr.Li) (w : World) (e : Ending) (w' : World) : Prop := ∃ (acc : List (Pr.Li × LU)) (va : Option Addr) (vc : Nat), e = .returned (.slice va acc.length vc) ∧ acc.map (·.1) = l ∧ GI 50 30 csL BL [] w w' acc va vc ∧ Mod [] w w'
def CLC (d : Nat) : Prop := ∀ (l : List Pr.Li), liDs l < d → l.length ≤ 1048576 → liMs l ≤ 1048576 → ∀ (F : Nat → Prop) (u : Value) (w : World), BB F w l u →
  Calls Tryz.prog 98 #[u] w (CpB l w)

set_option maxHeartbeats 16000000 in
theorem clc_of (d : Nat) (hS : CLC d) : CLC (d + 1) := by
  intro l hd hl hM F u w h
  obtain ⟨a1, c1, rfl⟩ := h.lit
  obtain ⟨i0, hinf, hz0, hz1, hz2⟩ := info_parts Tryz.infoLit
  have HS := Lib.hid hS; have H1 := Lib.hid (h.mono (F' := fun k => k < w.heap.size) (fun k _ h => h))
  have G00 : Hid (GI 50 30 csL BL [] w w [] none 0) := Lib.hid (GI.nil (by simp))
  clear h hS
  go_enter Tryz.func98, Tryz.ntmps98
  go_wp2_with fail
  go_loopw [3, 4] (fun ov iv wr => ∃ (acc : List (Pr.Li × LU)) (va : Option Addr) (vc : Nat), ov = .slice va acc.length vc ∧ iv = .int .i64 (acc.length : Nat) ∧ acc.map (·.1) = l.take acc.length ∧ acc.length ≤ l.length ∧ GI 50 30 csL BL [] w wr acc va vc) (fun _ iv _ => l.length - (intOf iv).toNat)
  case atStart => exact ⟨[], none, 0, rfl, rfl, by simp, by simp, G00.out⟩
  case round =>
    obtain ⟨acc, va, vc, rfl, rfl, hmap, hle, hG⟩ := hrel
    have MW0 := Lib.hid hG.mod
    have G0 := Lib.hid hG; have HMP := Lib.hid hmap
    clear hG hmap
    by_cases hlt : acc.length < l.length
    · have hjI : (acc.length : Int) < (l.length : Int) := by omega
      have hj0 : (0 : Int) ≤ (acc.length : Int) := by omega
      obtain ⟨g1, o1, U1, rfl, hc1, hL1⟩ := (H1.out.keep MW0.out (by simp)).at acc.length hlt
      have hdj := liDs_mem l acc.length hlt
      have hmj := liMs_mem l acc.length hlt
      have HY : Hid (l[acc.length]? = some l[acc.length]) := Lib.hid (List.getElem?_eq_getElem hlt)
      generalize l[acc.length] = y at *
      obtain ⟨k, ⟨rel, ts⟩, op, le, re, fn, av, of, body, ln, cl⟩ := y
      obtain ⟨ht1, hl1, hr1, ho1, hb1⟩ := hL1.parts
      obtain ⟨t1, l1, r1, q1, b1⟩ := U1
      dsimp only at ht1 hl1 hr1 ho1 hb1
      obtain ⟨ta1, tc1, rfl⟩ := ht1.lit; obtain ⟨la1, lc1, rfl⟩ := hl1.lit; obtain ⟨ra1, rc1, rfl⟩ := hr1.lit; obtain ⟨oa1, oc1, rfl⟩ := ho1.lit; obtain ⟨ba1, bc1, rfl⟩ := hb1.lit
      have hD : liDs body < d := by simp only [liD] at hdj; omega
      simp only [liM] at hmj
      have hB1 : ts.length ≤ 1048576 := by omega
      have hB2 : exM le ≤ 1048576 := by omega
      have hB3 : exM re ≤ 1048576 := by omega
      have hB4 : exM of ≤ 1048576 := by omega
      have hB5 : body.length ≤ 1048576 := by omega
      have hB6 : liMs body ≤ 1048576 := by omega
      clear hdj hmj hL1
      have hws := MW0.out.size
      have HT := Lib.hid ht1; have HL := Lib.hid hl1; have HR := Lib.hid hr1; have HO := Lib.hid ho1; have HB := Lib.hid hb1
      clear ht1 hl1 hr1 ho1 hb1
      unfold liV at hc1
      dsimp only at hc1
      obtain ⟨C1, hC1⟩ : ∃ C : Array Value, C = #[.int .i64 k, .string rel, .slice ta1 ts.length tc1, .int .i64 op, .int .i64 le.k, .string le.v, .int .i64 le.x.k, .int .i64 le.x.n, .string (Lx.ofS le.x.s), .int .i64 le.op, .slice la1 le.args.length lc1, .int .i64 re.k, .string re.v, .int .i64 re.x.k, .int .i64 re.x.n, .string (Lx.ofS re.x.s), .int .i64 re.op, .slice ra1 re.args.length rc1, .int .i64 fn, .string av, .int .i64 of.k, .string of.v, .int .i64 of.x.k, .int .i64 of.x.n, .string (Lx.ofS of.x.s), .int .i64 of.op, .slice oa1 of.args.length oc1, .slice ba1 body.length bc1, .int .i64 ln, .int .i64 cl] := ⟨_, rfl⟩
      rw [← hC1] at hc1
      have z1 : C1.size = 30 := by rw [hC1]; rfl
      have w1 := Lib.hid (show C1.toList.all (·.oneCell') = true by rw [hC1]; rfl)
      have HC1 := Lib.hid hC1; have K1 := Lib.hid hc1.rng
      clear hC1 hc1
      have hsz : ∀ C : Array Value, C.size = 30 → (Tryz.prog.info? 50).map (·.size) = some C.toList.length := fun C h => by rw [Array.length_toList, h]; exact Tryz.sizeLit
      have HSZ := Lib.hid hsz
      clear hsz
      go_upto_region 6 with (first | refine wpList_load_mid rfl 50 _ rfl g1 (o1 + acc.length * 30) rfl C1.toList _ K1.out Tryz.underlying50 rfl (HSZ.out C1 z1) ?_ | refine wpList_store_new rfl 50 _ _ rfl wr wr.heap.size C1 #[.int .i64 0, .string { data := #[] }, .slice none 0 0, .int .i64 0, .int .i64 0, .string { data := #[] }, .int .i64 0, .int .i64 0, .string { data := #[] }, .int .i64 0, .slice none 0 0, .int .i64 0, .string { data := #[] }, .int .i64 0, .int .i64 0, .string { data := #[] }, .int .i64 0, .slice none 0 0, .int .i64 0, .string { data := #[] }, .int .i64 0, .string { data := #[] }, .int .i64 0, .int .i64 0, .string { data := #[] }, .int .i64 0, .slice none 0 0, .slice none 0 0, .int .i64 0, .int .i64 0] 50 rfl rfl rfl rfl (by rw [z1]; exact Tryz.sizeLit) (by rw [z1]; rfl) w1.out ?_)
      have n1 := (Mod.refl [] wr).alloc (Obj.cells C1 50)
      have x1 := heap_alloc_new wr (Obj.cells C1 50)
      generalize wr.alloc (Obj.cells C1 50) = wa at *
      have hza := lt_of_block x1
      have X0 := Lib.hid x1; have NA := Lib.hid n1
      clear n1 x1 K1 w1
      rw [HC1.out] at X0
      clear HC1 z1 HSZ
      generalize hpx : wr.heap.size = px at *
      have MW := Lib.hid ((NA.out).mono (T := [px]) (by simp))
      have M0 := Lib.hid (Mod.refl [px] wa)
      have x1 := cell_at X0.out 1; have x2 := cell_at X0.out 2
      simp only [List.getElem?_toArray, List.getElem?_cons_zero, List.getElem?_cons_succ] at x1 x2
      go_wp2_with fail
      refine (copyAtom_any ⟨rel, ts⟩ hB1 _ wa (HT.out.keep (MW.out.trans M0.out (by simp)) (by simp; omega))).mono ?_
      rintro e1 v1 ⟨u1, rfl, r1, m1⟩
      obtain ⟨ta3, tc3, rfl⟩ := r1.lit
      have Y1 := Lib.hid (m1.at X0.out (by simp)); have N1 := Lib.hid (M0.out.trans m1 (by simp))
      have ss1 := M0.out.size
      have R1 := Lib.hid (r1.mono (F' := fun k => wa.heap.size ≤ k) (fun k hk _ => by omega))
      clear ss1
      clear m1 r1 x1 x2
      have x1 := cell_at Y1.out 1; have x2 := cell_at Y1.out 2
      simp only [List.getElem?_toArray, List.getElem?_cons_zero, List.getElem?_cons_succ] at x1 x2
      have fA : ∀ j, v1.frozen? ⟨px, j, none⟩ = false := fun j => free_at Y1.out j
      go_upto_region 7 with fail
      have X1 : Hid (((v1.setCell ⟨px, 1, none⟩ (.string rel)).setCell ⟨px, 2, none⟩ (.slice ta3 ts.length tc3)).heap[px]? = some (.cells #[.int .i64 k, .string rel, .slice ta3 ts.length tc3, .int .i64 op, .int .i64 le.k, .string le.v, .int .i64 le.x.k, .int .i64 le.x.n, .string (Lx.ofS le.x.s), .int .i64 le.op, .slice la1 le.args.length lc1, .int .i64 re.k, .string re.v, .int .i64 re.x.k, .int .i64 re.x.n, .string (Lx.ofS re.x.s), .int .i64 re.op, .slice ra1 re.args.length rc1, .int .i64 fn, .string av, .int .i64 of.k, .string of.v, .int .i64 of.x.k, .int .i64 of.x.n, .string (Lx.ofS of.x.s), .int .i64 of.op, .slice oa1 of.args.length oc1, .slice ba1 body.length bc1, .int .i64 ln, .int .i64 cl] 50 (0, 0))) := Lib.hid (setCs_heap [.string rel, .slice ta3 ts.length tc3] 1 [.int .i64 k, .string rel, .slice ta1 ts.length tc1, .int .i64 op, .int .i64 le.k, .string le.v, .int .i64 le.x.k, .int .i64 le.x.n, .string (Lx.ofS le.x.s), .int .i64 le.op, .slice la1 le.args.length lc1, .int .i64 re.k, .string re.v, .int .i64 re.x.k, .int .i64 re.x.n, .string (Lx.ofS re.x.s), .int .i64 re.op, .slice ra1 re.args.length rc1, .int .i64 fn, .string av, .int .i64 of.k, .string of.v, .int .i64 of.x.k, .int .i64 of.x.n, .string (Lx.ofS of.x.s), .int .i64 of.op, .slice oa1 of.args.length oc1, .slice ba1 body.length bc1, .int .i64 ln, .int .i64 cl] v1 Y1.out)
      have Q1 : Hid (Mod [px] v1 ((v1.setCell ⟨px, 1, none⟩ (.string rel)).setCell ⟨px, 2, none⟩ (.slice ta3 ts.length tc3))) := Lib.hid (setCs_mod px [.string rel, .slice ta3 ts.length tc3] 1 v1)
      generalize ((v1.setCell ⟨px, 1, none⟩ (.string rel)).setCell ⟨px, 2, none⟩ (.slice ta3 ts.length tc3)) = q1 at *
      have M1 := Lib.hid (N1.out.trans Q1.out (by simp))
      have R1 := Lib.hid (R1.out.keep Q1.out (fun s hs => by rw [List.mem_singleton] at hs; omega))
      clear N1 Q1
      clear fA Y1 x1 x2
      have x4 := cell_at X1.out 4; have x5 := cell_at X1.out 5; have x6 := cell_at X1.out 6; have x7 := cell_at X1.out 7; have x8 := cell_at X1.out 8; have x9 := cell_at X1.out 9; have x10 := cell_at X1.out 10
      simp only [List.getElem?_toArray, List.getElem?_cons_zero, List.getElem?_cons_succ] at x4 x5 x6 x7 x8 x9 x10
      go_wp2_with fail
      refine (copyExpr_any le hB2 _ q1 (HL.out.keep (MW.out.trans M1.out (by simp)) (by simp; omega))).mono ?_
      rintro e2 v2 ⟨u2, rfl, r2, m2⟩
      obtain ⟨la3, lc3, rfl⟩ := r2.lit
      have Y2 := Lib.hid (m2.at X1.out (by simp)); have N2 := Lib.hid (M1.out.trans m2 (by simp))
      have ss2 := M1.out.size
      have R2 := Lib.hid (r2.mono (F' := fun k => wa.heap.size ≤ k) (fun k hk _ => by omega))
      have R1 := Lib.hid (R1.out.keep m2 (by simp))
      clear ss2
      clear m2 r2 x4 x5 x6 x7 x8 x9 x10
      have x4 := cell_at Y2.out 4; have x5 := cell_at Y2.out 5; have x6 := cell_at Y2.out 6; have x7 := cell_at Y2.out 7; have x8 := cell_at Y2.out 8; have x9 := cell_at Y2.out 9; have x10 := cell_at Y2.out 10
      simp only [List.getElem?_toArray, List.getElem?_cons_zero, List.getElem?_cons_succ] at x4 x5 x6 x7 x8 x9 x10
      have fA : ∀ j, v2.frozen? ⟨px, j, none⟩ = false := fun j => free_at Y2.out j
      unfold exV
      go_upto_region 8 with fail
      have X2 : Hid ((((((((v2.setCell ⟨px, 4, none⟩ (.int .i64 le.k)).setCell ⟨px, 5, none⟩ (.string le.v)).setCell ⟨px, 6, none⟩ (.int .i64 le.x.k)).setCell ⟨px, 7, none⟩ (.int .i64 le.x.n)).setCell ⟨px, 8, none⟩ (.string (Lx.ofS le.x.s))).setCell ⟨px, 9, none⟩ (.int .i64 le.op)).setCell ⟨px, 10, none⟩ (.slice la3 le.args.length lc3)).heap[px]? = some (.cells #[.int .i64 k, .string rel, .slice ta3 ts.length tc3, .int .i64 op, .int .i64 le.k, .string le.v, .int .i64 le.x.k, .int .i64 le.x.n, .string (Lx.ofS le.x.s), .int .i64 le.op, .slice la3 le.args.length lc3, .int .i64 re.k, .string re.v, .int .i64 re.x.k, .int .i64 re.x.n, .string (Lx.ofS re.x.s), .int .i64 re.op, .slice ra1 re.args.length rc1, .int .i64 fn, .string av, .int .i64 of.k, .string of.v, .int .i64 of.x.k, .int .i64 of.x.n, .string (Lx.ofS of.x.s), .int .i64 of.op, .slice oa1 of.args.length oc1, .slice ba1 body.length bc1, .int .i64 ln, .int .i64 cl] 50 (0, 0))) := Lib.hid (setCs_heap [.int .i64 le.k, .string le.v, .int .i64 le.x.k, .int .i64 le.x.n, .string (Lx.ofS le.x.s), .int .i64 le.op, .slice la3 le.args.length lc3] 4 [.int .i64 k, .string rel, .slice ta3 ts.length tc3, .int .i64 op, .int .i64 le.k, .string le.v, .int .i64 le.x.k, .int .i64 le.x.n, .string (Lx.ofS le.x.s), .int .i64 le.op, .slice la1 le.args.length lc1, .int .i64 re.k, .string re.v, .int .i64 re.x.k, .int .i64 re.x.n, .string (Lx.ofS re.x.s), .int .i64 re.op, .slice ra1 re.args.length rc1, .int .i64 fn, .string av, .int .i64 of.k, .string of.v, .int .i64 of.x.k, .int .i64 of.x.n, .string (Lx.ofS of.x.s), .int .i64 of.op, .slice oa1 of.args.length oc1, .slice ba1 body.length bc1, .int .i64 ln, .int .i64 cl] v2 Y2.out)
      have Q2 : Hid (Mod [px] v2 (((((((v2.setCell ⟨px, 4, none⟩ (.int .i64 le.k)).setCell ⟨px, 5, none⟩ (.string le.v)).setCell ⟨px, 6, none⟩ (.int .i64 le.x.k)).setCell ⟨px, 7, none⟩ (.int .i64 le.x.n)).setCell ⟨px, 8, none⟩ (.string (Lx.ofS le.x.s))).setCell ⟨px, 9, none⟩ (.int .i64 le.op)).setCell ⟨px, 10, none⟩ (.slice la3 le.args.length lc3))) := Lib.hid (setCs_mod px [.int .i64 le.k, .string le.v, .int .i64 le.x.k, .int .i64 le.x.n, .string (Lx.ofS le.x.s), .int .i64 le.op, .slice la3 le.args.length lc3] 4 v2)
      generalize (((((((v2.setCell ⟨px, 4, none⟩ (.int .i64 le.k)).setCell ⟨px, 5, none⟩ (.string le.v)).setCell ⟨px, 6, none⟩ (.int .i64 le.x.k)).setCell ⟨px, 7, none⟩ (.int .i64 le.x.n)).setCell ⟨px, 8, none⟩ (.string (Lx.ofS le.x.s))).setCell ⟨px, 9, none⟩ (.int .i64 le.op)).setCell ⟨px, 10, none⟩ (.slice la3 le.args.length lc3)) = q2 at *
      have M2 := Lib.hid (N2.out.trans Q2.out (by simp))
      have R1 := Lib.hid (R1.out.keep Q2.out (fun s hs => by rw [List.mem_singleton] at hs; omega))
      have R2 := Lib.hid (R2.out.keep Q2.out (fun s hs => by rw [List.mem_singleton] at hs; omega))
      clear N2 Q2
      clear fA Y2 x4 x5 x6 x7 x8 x9 x10
      have x11 := cell_at X2.out 11; have x12 := cell_at X2.out 12; have x13 := cell_at X2.out 13; have x14 := cell_at X2.out 14; have x15 := cell_at X2.out 15; have x16 := cell_at X2.out 16; have x17 := cell_at X2.out 17
      simp only [List.getElem?_toArray, List.getElem?_cons_zero, List.getElem?_cons_succ] at x11 x12 x13 x14 x15 x16 x17
      go_wp2_with fail
      refine (copyExpr_any re hB3 _ q2 (HR.out.keep (MW.out.trans M2.out (by simp)) (by simp; omega))).mono ?_
      rintro e3 v3 ⟨u3, rfl, r3, m3⟩
      obtain ⟨ra3, rc3, rfl⟩ := r3.lit
      have Y3 := Lib.hid (m3.at X2.out (by simp)); have N3 := Lib.hid (M2.out.trans m3 (by simp))
      have ss3 := M2.out.size
      have R3 := Lib.hid (r3.mono (F' := fun k => wa.heap.size ≤ k) (fun k hk _ => by omega))
      have R1 := Lib.hid (R1.out.keep m3 (by simp))
      have R2 := Lib.hid (R2.out.keep m3 (by simp))
      clear ss3
      clear m3 r3 x11 x12 x13 x14 x15 x16 x17
      have x11 := cell_at Y3.out 11; have x12 := cell_at Y3.out 12; have x13 := cell_at Y3.out 13; have x14 := cell_at Y3.out 14; have x15 := cell_at Y3.out 15; have x16 := cell_at Y3.out 16; have x17 := cell_at Y3.out 17
      simp only [List.getElem?_toArray, List.getElem?_cons_zero, List.getElem?_cons_succ] at x11 x12 x13 x14 x15 x16 x17
      have fA : ∀ j, v3.frozen? ⟨px, j, none⟩ = false := fun j => free_at Y3.out j
      unfold exV
      go_upto_region 9 with fail
      have X3 : Hid ((((((((v3.setCell ⟨px, 11, none⟩ (.int .i64 re.k)).setCell ⟨px, 12, none⟩ (.string re.v)).setCell ⟨px, 13, none⟩ (.int .i64 re.x.k)).setCell ⟨px, 14, none⟩ (.int .i64 re.x.n)).setCell ⟨px, 15, none⟩ (.string (Lx.ofS re.x.s))).setCell ⟨px, 16, none⟩ (.int .i64 re.op)).setCell ⟨px, 17, none⟩ (.slice ra3 re.args.length rc3)).heap[px]? = some (.cells #[.int .i64 k, .string rel, .slice ta3 ts.length tc3, .int .i64 op, .int .i64 le.k, .string le.v, .int .i64 le.x.k, .int .i64 le.x.n, .string (Lx.ofS le.x.s), .int .i64 le.op, .slice la3 le.args.length lc3, .int .i64 re.k, .string re.v, .int .i64 re.x.k, .int .i64 re.x.n, .string (Lx.ofS re.x.s), .int .i64 re.op, .slice ra3 re.args.length rc3, .int .i64 fn, .string av, .int .i64 of.k, .string of.v, .int .i64 of.x.k, .int .i64 of.x.n, .string (Lx.ofS of.x.s), .int .i64 of.op, .slice oa1 of.args.length oc1, .slice ba1 body.length bc1, .int .i64 ln, .int .i64 cl] 50 (0, 0))) := Lib.hid (setCs_heap [.int .i64 re.k, .string re.v, .int .i64 re.x.k, .int .i64 re.x.n, .string (Lx.ofS re.x.s), .int .i64 re.op, .slice ra3 re.args.length rc3] 11 [.int .i64 k, .string rel, .slice ta3 ts.length tc3, .int .i64 op, .int .i64 le.k, .string le.v, .int .i64 le.x.k, .int .i64 le.x.n, .string (Lx.ofS le.x.s), .int .i64 le.op, .slice la3 le.args.length lc3, .int .i64 re.k, .string re.v, .int .i64 re.x.k, .int .i64 re.x.n, .string (Lx.ofS re.x.s), .int .i64 re.op, .slice ra1 re.args.length rc1, .int .i64 fn, .string av, .int .i64 of.k, .string of.v, .int .i64 of.x.k, .int .i64 of.x.n, .string (Lx.ofS of.x.s), .int .i64 of.op, .slice oa1 of.args.length oc1, .slice ba1 body.length bc1, .int .i64 ln, .int .i64 cl] v3 Y3.out)
      have Q3 : Hid (Mod [px] v3 (((((((v3.setCell ⟨px, 11, none⟩ (.int .i64 re.k)).setCell ⟨px, 12, none⟩ (.string re.v)).setCell ⟨px, 13, none⟩ (.int .i64 re.x.k)).setCell ⟨px, 14, none⟩ (.int .i64 re.x.n)).setCell ⟨px, 15, none⟩ (.string (Lx.ofS re.x.s))).setCell ⟨px, 16, none⟩ (.int .i64 re.op)).setCell ⟨px, 17, none⟩ (.slice ra3 re.args.length rc3))) := Lib.hid (setCs_mod px [.int .i64 re.k, .string re.v, .int .i64 re.x.k, .int .i64 re.x.n, .string (Lx.ofS re.x.s), .int .i64 re.op, .slice ra3 re.args.length rc3] 11 v3)
      generalize (((((((v3.setCell ⟨px, 11, none⟩ (.int .i64 re.k)).setCell ⟨px, 12, none⟩ (.string re.v)).setCell ⟨px, 13, none⟩ (.int .i64 re.x.k)).setCell ⟨px, 14, none⟩ (.int .i64 re.x.n)).setCell ⟨px, 15, none⟩ (.string (Lx.ofS re.x.s))).setCell ⟨px, 16, none⟩ (.int .i64 re.op)).setCell ⟨px, 17, none⟩ (.slice ra3 re.args.length rc3)) = q3 at *
      have M3 := Lib.hid (N3.out.trans Q3.out (by simp))
      have R1 := Lib.hid (R1.out.keep Q3.out (fun s hs => by rw [List.mem_singleton] at hs; omega))
      have R2 := Lib.hid (R2.out.keep Q3.out (fun s hs => by rw [List.mem_singleton] at hs; omega))
      have R3 := Lib.hid (R3.out.keep Q3.out (fun s hs => by rw [List.mem_singleton] at hs; omega))
      clear N3 Q3
      clear fA Y3 x11 x12 x13 x14 x15 x16 x17
      have x20 := cell_at X3.out 20; have x21 := cell_at X3.out 21; have x22 := cell_at X3.out 22; have x23 := cell_at X3.out 23; have x24 := cell_at X3.out 24; have x25 := cell_at X3.out 25; have x26 := cell_at X3.out 26
      simp only [List.getElem?_toArray, List.getElem?_cons_zero, List.getElem?_cons_succ] at x20 x21 x22 x23 x24 x25 x26
      go_wp2_with fail
      refine (copyExpr_any of hB4 _ q3 (HO.out.keep (MW.out.trans M3.out (by simp)) (by simp; omega))).mono ?_
      rintro e4 v4 ⟨u4, rfl, r4, m4⟩
      obtain ⟨oa3, oc3, rfl⟩ := r4.lit
      have Y4 := Lib.hid (m4.at X3.out (by simp)); have N4 := Lib.hid (M3.out.trans m4 (by simp))
      have ss4 := M3.out.size
      have R4 := Lib.hid (r4.mono (F' := fun k => wa.heap.size ≤ k) (fun k hk _ => by omega))
      have R1 := Lib.hid (R1.out.keep m4 (by simp))
      have R2 := Lib.hid (R2.out.keep m4 (by simp))
      have R3 := Lib.hid (R3.out.keep m4 (by simp))
      clear ss4
      clear m4 r4 x20 x21 x22 x23 x24 x25 x26
      have x20 := cell_at Y4.out 20; have x21 := cell_at Y4.out 21; have x22 := cell_at Y4.out 22; have x23 := cell_at Y4.out 23; have x24 := cell_at Y4.out 24; have x25 := cell_at Y4.out 25; have x26 := cell_at Y4.out 26
      simp only [List.getElem?_toArray, List.getElem?_cons_zero, List.getElem?_cons_succ] at x20 x21 x22 x23 x24 x25 x26
      have fA : ∀ j, v4.frozen? ⟨px, j, none⟩ = false := fun j => free_at Y4.out j
      unfold exV
      go_upto_region 10 with fail
      have X4 : Hid ((((((((v4.setCell ⟨px, 20, none⟩ (.int .i64 of.k)).setCell ⟨px, 21, none⟩ (.string of.v)).setCell ⟨px, 22, none⟩ (.int .i64 of.x.k)).setCell ⟨px, 23, none⟩ (.int .i64 of.x.n)).setCell ⟨px, 24, none⟩ (.string (Lx.ofS of.x.s))).setCell ⟨px, 25, none⟩ (.int .i64 of.op)).setCell ⟨px, 26, none⟩ (.slice oa3 of.args.length oc3)).heap[px]? = some (.cells #[.int .i64 k, .string rel, .slice ta3 ts.length tc3, .int .i64 op, .int .i64 le.k, .string le.v, .int .i64 le.x.k, .int .i64 le.x.n, .string (Lx.ofS le.x.s), .int .i64 le.op, .slice la3 le.args.length lc3, .int .i64 re.k, .string re.v, .int .i64 re.x.k, .int .i64 re.x.n, .string (Lx.ofS re.x.s), .int .i64 re.op, .slice ra3 re.args.length rc3, .int .i64 fn, .string av, .int .i64 of.k, .string of.v, .int .i64 of.x.k, .int .i64 of.x.n, .string (Lx.ofS of.x.s), .int .i64 of.op, .slice oa3 of.args.length oc3, .slice ba1 body.length bc1, .int .i64 ln, .int .i64 cl] 50 (0, 0))) := Lib.hid (setCs_heap [.int .i64 of.k, .string of.v, .int .i64 of.x.k, .int .i64 of.x.n, .string (Lx.ofS of.x.s), .int .i64 of.op, .slice oa3 of.args.length oc3] 20 [.int .i64 k, .string rel, .slice ta3 ts.length tc3, .int .i64 op, .int .i64 le.k, .string le.v, .int .i64 le.x.k, .int .i64 le.x.n, .string (Lx.ofS le.x.s), .int .i64 le.op, .slice la3 le.args.length lc3, .int .i64 re.k, .string re.v, .int .i64 re.x.k, .int .i64 re.x.n, .string (Lx.ofS re.x.s), .int .i64 re.op, .slice ra3 re.args.length rc3, .int .i64 fn, .string av, .int .i64 of.k, .string of.v, .int .i64 of.x.k, .int .i64 of.x.n, .string (Lx.ofS of.x.s), .int .i64 of.op, .slice oa1 of.args.length oc1, .slice ba1 body.length bc1, .int .i64 ln, .int .i64 cl] v4 Y4.out)
      have Q4 : Hid (Mod [px] v4 (((((((v4.setCell ⟨px, 20, none⟩ (.int .i64 of.k)).setCell ⟨px, 21, none⟩ (.string of.v)).setCell ⟨px, 22, none⟩ (.int .i64 of.x.k)).setCell ⟨px, 23, none⟩ (.int .i64 of.x.n)).setCell ⟨px, 24, none⟩ (.string (Lx.ofS of.x.s))).setCell ⟨px, 25, none⟩ (.int .i64 of.op)).setCell ⟨px, 26, none⟩ (.slice oa3 of.args.length oc3))) := Lib.hid (setCs_mod px [.int .i64 of.k, .string of.v, .int .i64 of.x.k, .int .i64 of.x.n, .string (Lx.ofS of.x.s), .int .i64 of.op, .slice oa3 of.args.length oc3] 20 v4)
      generalize (((((((v4.setCell ⟨px, 20, none⟩ (.int .i64 of.k)).setCell ⟨px, 21, none⟩ (.string of.v)).setCell ⟨px, 22, none⟩ (.int .i64 of.x.k)).setCell ⟨px, 23, none⟩ (.int .i64 of.x.n)).setCell ⟨px, 24, none⟩ (.string (Lx.ofS of.x.s))).setCell ⟨px, 25, none⟩ (.int .i64 of.op)).setCell ⟨px, 26, none⟩ (.slice oa3 of.args.length oc3)) = q4 at *
      have M4 := Lib.hid (N4.out.trans Q4.out (by simp))
      have R1 := Lib.hid (R1.out.keep Q4.out (fun s hs => by rw [List.mem_singleton] at hs; omega))
      have R2 := Lib.hid (R2.out.keep Q4.out (fun s hs => by rw [List.mem_singleton] at hs; omega))
      have R3 := Lib.hid (R3.out.keep Q4.out (fun s hs => by rw [List.mem_singleton] at hs; omega))
      have R4 := Lib.hid (R4.out.keep Q4.out (fun s hs => by rw [List.mem_singleton] at hs; omega))
      clear N4 Q4
      clear fA Y4 x20 x21 x22 x23 x24 x25 x26
      have x27 := cell_at X4.out 27
      simp only [List.getElem?_toArray, List.getElem?_cons_zero, List.getElem?_cons_succ] at x27
      go_wp2_with fail
      refine (HS.out body hD hB5 hB6 _ _ q4 (HB.out.keep (MW.out.trans M4.out (by simp)) (by simp; omega))).mono ?_
      rintro e5 v5 ⟨bacc, ba3, bc3, rfl, bm5, r5, m5⟩
      have Y5 := Lib.hid (m5.at X4.out (by simp)); have N5 := Lib.hid (M4.out.trans m5 (by simp))
      have ss5 := M4.out.size
      have R5 : Hid (BB (fun k => wa.heap.size ≤ k) v5 body (.slice ba3 bacc.length bc3)) := Lib.hid (bm5 ▸ (BB.of_gi r5).mono (fun k hk _ => by omega))
      clear bm5
      have R1 := Lib.hid (R1.out.keep m5 (by simp))
      have R2 := Lib.hid (R2.out.keep m5 (by simp))
      have R3 := Lib.hid (R3.out.keep m5 (by simp))
      have R4 := Lib.hid (R4.out.keep m5 (by simp))
      clear ss5
      clear m5 r5 x27
      have x27 := cell_at Y5.out 27
      simp only [List.getElem?_toArray, List.getElem?_cons_zero, List.getElem?_cons_succ] at x27
      have fA : ∀ j, v5.frozen? ⟨px, j, none⟩ = false := fun j => free_at Y5.out j
      go_upto_region 11 with fail
      have X5 : Hid ((v5.setCell ⟨px, 27, none⟩ (.slice ba3 bacc.length bc3)).heap[px]? = some (.cells #[.int .i64 k, .string rel, .slice ta3 ts.length tc3, .int .i64 op, .int .i64 le.k, .string le.v, .int .i64 le.x.k, .int .i64 le.x.n, .string (Lx.ofS le.x.s), .int .i64 le.op, .slice la3 le.args.length lc3, .int .i64 re.k, .string re.v, .int .i64 re.x.k, .int .i64 re.x.n, .string (Lx.ofS re.x.s), .int .i64 re.op, .slice ra3 re.args.length rc3, .int .i64 fn, .string av, .int .i64 of.k, .string of.v, .int .i64 of.x.k, .int .i64 of.x.n, .string (Lx.ofS of.x.s), .int .i64 of.op, .slice oa3 of.args.length oc3, .slice ba3 bacc.length bc3, .int .i64 ln, .int .i64 cl] 50 (0, 0))) := Lib.hid (setCs_heap [.slice ba3 bacc.length bc3] 27 [.int .i64 k, .string rel, .slice ta3 ts.length tc3, .int .i64 op, .int .i64 le.k, .string le.v, .int .i64 le.x.k, .int .i64 le.x.n, .string (Lx.ofS le.x.s), .int .i64 le.op, .slice la3 le.args.length lc3, .int .i64 re.k, .string re.v, .int .i64 re.x.k, .int .i64 re.x.n, .string (Lx.ofS re.x.s), .int .i64 re.op, .slice ra3 re.args.length rc3, .int .i64 fn, .string av, .int .i64 of.k, .string of.v, .int .i64 of.x.k, .int .i64 of.x.n, .string (Lx.ofS of.x.s), .int .i64 of.op, .slice oa3 of.args.length oc3, .slice ba1 body.length bc1, .int .i64 ln, .int .i64 cl] v5 Y5.out)
      have Q5 : Hid (Mod [px] v5 (v5.setCell ⟨px, 27, none⟩ (.slice ba3 bacc.length bc3))) := Lib.hid (setCs_mod px [.slice ba3 bacc.length bc3] 27 v5)
      generalize (v5.setCell ⟨px, 27, none⟩ (.slice ba3 bacc.length bc3)) = q5 at *
      have M5 := Lib.hid (N5.out.trans Q5.out (by simp))
      have R1 := Lib.hid (R1.out.keep Q5.out (fun s hs => by rw [List.mem_singleton] at hs; omega))
      have R2 := Lib.hid (R2.out.keep Q5.out (fun s hs => by rw [List.mem_singleton] at hs; omega))
      have R3 := Lib.hid (R3.out.keep Q5.out (fun s hs => by rw [List.mem_singleton] at hs; omega))
      have R4 := Lib.hid (R4.out.keep Q5.out (fun s hs => by rw [List.mem_singleton] at hs; omega))
      have R5 := Lib.hid (R5.out.keep Q5.out (fun s hs => by rw [List.mem_singleton] at hs; omega))
      clear N5 Q5
      clear fA Y5 x27

      have MZ := Lib.hid (NA.out.trans (S := []) M5.out (fun s hs => .inr (by rw [List.mem_singleton] at hs; omega)))
      have GZ := Lib.hid (G0.out.keep bearsLi MZ.out)
      have hn4 := Lib.hid (fun k hk => fp_lt G0.out.row k hk)
      obtain ⟨C5, hC5⟩ : ∃ C : Array Value, C = #[.int .i64 k, .string rel, .slice ta3 ts.length tc3, .int .i64 op, .int .i64 le.k, .string le.v, .int .i64 le.x.k, .int .i64 le.x.n, .string (Lx.ofS le.x.s), .int .i64 le.op, .slice la3 le.args.length lc3, .int .i64 re.k, .string re.v, .int .i64 re.x.k, .int .i64 re.x.n, .string (Lx.ofS re.x.s), .int .i64 re.op, .slice ra3 re.args.length rc3, .int .i64 fn, .string av, .int .i64 of.k, .string of.v, .int .i64 of.x.k, .int .i64 of.x.n, .string (Lx.ofS of.x.s), .int .i64 of.op, .slice oa3 of.args.length oc3, .slice ba3 bacc.length bc3, .int .i64 ln, .int .i64 cl] := ⟨_, rfl⟩
      have z5 : C5.size = 30 := by rw [hC5]; rfl
      have HX5 : Hid (q5.heap[px]? = some (.cells C5 50 (0, 0))) := Lib.hid (by rw [hC5]; exact X5.out)
      have hlb : LB (fun k => wa.heap.size ≤ k) q5 (Pr.Li.mk k ⟨rel, ts⟩ op le re fn av of body ln cl) ⟨.slice ta3 ts.length tc3, .slice la3 le.args.length lc3, .slice ra3 re.args.length rc3, .slice oa3 of.args.length oc3, .slice ba3 bacc.length bc3⟩ := .of R1.out R2.out R3.out R4.out R5.out
      have hcl : csL (Pr.Li.mk k ⟨rel, ts⟩ op le re fn av of body ln cl, ⟨.slice ta3 ts.length tc3, .slice la3 le.args.length lc3, .slice ra3 re.args.length rc3, .slice oa3 of.args.length oc3, .slice ba3 bacc.length bc3⟩) = C5 := hC5.symm
      have hone5 := liV_one (Pr.Li.mk k ⟨rel, ts⟩ op le re fn av of body ln cl, ⟨.slice ta3 ts.length tc3, .slice la3 le.args.length lc3, .slice ra3 re.args.length rc3, .slice oa3 of.args.length oc3, .slice ba3 bacc.length bc3⟩) hlb
      have hone5' : ∀ u ∈ C5.toList, u.oneCell' = true := by rw [← hcl]; exact hone5
      obtain ⟨NW, hNW⟩ : ∃ z : Pr.Li × LU, z = (Pr.Li.mk k ⟨rel, ts⟩ op le re fn av of body ln cl, ⟨.slice ta3 ts.length tc3, .slice la3 le.args.length lc3, .slice ra3 re.args.length rc3, .slice oa3 of.args.length oc3, .slice ba3 bacc.length bc3⟩) := ⟨_, rfl⟩
      have hNW1 := Lib.hid (show NW.1 = Pr.Li.mk k ⟨rel, ts⟩ op le re fn av of body ln cl by rw [hNW])
      rw [← hNW] at hcl
      have FB : Hid (∀ wX, wX = q5.alloc (Obj.cells C5 50) → GI 50 30 csL BL [] w wX acc va vc ∧ BL (fun k => wa.heap.size ≤ k) wX NW ∧ Src Tryz.prog 30 46 (.slice (some ⟨q5.heap.size, 0, none⟩) 1 1) 1 (csL NW).toList wX) := Lib.hid (fun wX e => by
        subst e
        have mA := (Mod.refl [] q5).alloc (Obj.cells C5 50)
        rw [hcl]
        refine ⟨GZ.out.keep bearsLi mA, ?_, src_one (cs := C5) Tryz.underlying46 (heap_alloc_new q5 _) z5 hone5'⟩
        rw [hNW]
        exact hlb.keep mA (by simp))
      have hsz5 : (Tryz.prog.info? 50).map (·.size) = some C5.size := by rw [z5]; exact Tryz.sizeLit
      have HS5 := Lib.hid hsz5
      clear GZ R1 R2 R3 R4 R5 hC5 X5 hlb hcl hone5 hone5' hNW hsz5
      go_wp2_with (first | refine wpList_load_row rfl 50 _ rfl px C5 50 (0, 0) rfl HX5.out _ Tryz.underlying50 rfl HS5.out ?_ | refine wpList_slice_one rfl 46 50 _ rfl C5 i0 (.agg #[.int .i64 0, .string { data := #[] }, .slice none 0 0, .int .i64 0, .int .i64 0, .string { data := #[] }, .int .i64 0, .int .i64 0, .string { data := #[] }, .int .i64 0, .slice none 0 0, .int .i64 0, .string { data := #[] }, .int .i64 0, .int .i64 0, .string { data := #[] }, .int .i64 0, .slice none 0 0, .int .i64 0, .string { data := #[] }, .int .i64 0, .string { data := #[] }, .int .i64 0, .int .i64 0, .string { data := #[] }, .int .i64 0, .slice none 0 0, .slice none 0 0, .int .i64 0, .int .i64 0]) rfl Tryz.underlying46 hinf hz0 (by rw [hz1]; exact z5) (by rw [hz1]; omega) (by rw [hz1]; omega) ?_ | (at_builtin; refine wpList_append_src _ rfl _ _ 46 46 rfl 50 i0 (.agg #[.int .i64 0, .string { data := #[] }, .slice none 0 0, .int .i64 0, .int .i64 0, .string { data := #[] }, .int .i64 0, .int .i64 0, .string { data := #[] }, .int .i64 0, .slice none 0 0, .int .i64 0, .string { data := #[] }, .int .i64 0, .int .i64 0, .string { data := #[] }, .int .i64 0, .slice none 0 0, .int .i64 0, .string { data := #[] }, .int .i64 0, .string { data := #[] }, .int .i64 0, .int .i64 0, .string { data := #[] }, .int .i64 0, .slice none 0 0, .slice none 0 0, .int .i64 0, .int .i64 0]) 30 384 Tryz.underlying46 hinf hz0 hz1 hz2 rfl (.slice va acc.length vc) acc.length (rowCells csL acc) rfl (FB.out _ rfl).1.row _ 1 (csL NW).toList rfl (FB.out _ rfl).2.2 (by unfold maxLen; omega) (by omega) ?_))
      intro v' w5 hown5 hm5 hf5 hn5
      obtain ⟨va5, vc5, rfl⟩ := owns_slice hown5
      obtain ⟨GX, LX, SX⟩ := FB.out _ rfl
      have G6 := Lib.hid (GX.grow (p := NW) bearsLi hm5 LX (fun k hk => by have := hn4.out k hk; omega) (by omega) hown5 (fun k hk => by
        rcases hf5 k hk with hh | hh
        · exact .inl hh
        · exact .inr (by simpa using hh)))
      clear hown5 hm5 hf5 hn5 GX LX SX FB hn4 HX5 HS5 z5
      go_wp2_with fail
      go_roundw
      case rel =>
        refine ⟨acc ++ [NW], va5, vc5, by simp, by rw [List.length_append]; go_num, ?_, by simp; omega, G6.out⟩
        rw [List.map_append, HMP.out, show ∀ z : Pr.Li × LU, (acc ++ [z]).length = acc.length + 1 from fun z => by simp, List.take_add_one, HY.out, ← hNW1.out]; rfl
      case measure => simp [intOf]; omega
    · have hae : acc.length = l.length := by omega
      have hjI : ¬ (acc.length : Int) < (l.length : Int) := by omega
      have HAE := Lib.hid hae
      clear hae
      go_wp2_with fail
      go_ret
      exact ⟨acc, va, vc, rfl, by rw [HMP.out, HAE.out, List.take_length], G0.out, MW0.out⟩
theorem clc_all : ∀ d, CLC d
  | 0 => fun l hd => absurd hd (by omega)
  | d + 1 => clc_of d (clc_all d)
theorem copyLits_any {F : Nat → Prop} (l : List Pr.Li) (hl : l.length ≤ 1048576) (hM : liMs l ≤ 1048576) (u : Value) (w : World) (h : BB F w l u) :
    Calls Tryz.prog 98 #[u] w (CpB l w) := clc_all (liDs l + 1) l (Nat.lt_succ_self _) hl hM F u w h
end Go.Proofs.YtppigckioalhhaaGreatDoorR
