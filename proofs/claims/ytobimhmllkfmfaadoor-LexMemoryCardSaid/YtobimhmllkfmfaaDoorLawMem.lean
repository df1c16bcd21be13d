/- LexMemory. Printed by wip/gen_mem.py. -/
import Derived.Test.YtobimhmllkfmfaaDoorLawGrow
namespace Go.Proofs.YtobimhmllkfmfaaDoor
open Go.RowKit
set_option linter.unusedVariables false
set_option linter.unusedSimpArgs false
set_option maxRecDepth 100000

set_option maxHeartbeats 8000000 in
theorem LexMemory_any (s t : ByteArray) (hs : s.size ≤ 140737488355328) (ht : t.size ≤ 140737488355328) (w : World) (hG : Glob w) :
    Calls Tryd.prog 8 #[.string s, .string t] w fun e w' => e = .returned (.bool true) ∧ Mod [] w w' := by
  have hk := known_any w hG
  have h1 := fun w hG => Tokens_any s hs w hG
  have h2 := fun w hG => Tokens_any t ht w hG
  have r1 := fun w => rTokens_any s hs w
  have r2 := fun w => rTokens_any t ht w
  have hn1 := tokens_len s
  have hn2 := tokens_len t
  unfold Toks at h1 h2 r1 r2
  generalize Lx.tokens (Cod.str s) = l at *
  generalize Lx.tokens (Cod.str t) = m at *
  generalize Lx.fault (Cod.str s) = f at *
  generalize Lx.fault (Cod.str t) = g at *
  obtain ⟨f1, f2, f3⟩ := f
  obtain ⟨g1, g2, g3⟩ := g
  simp only [fltV] at h1 h2 r1 r2
  have HK := Lib.hid hk; have H1 := Lib.hid h1; have H2 := Lib.hid h2; have R1 := Lib.hid r1; have R2 := Lib.hid r2
  clear hk h1 h2 r1 r2
  go_enter Tryd.func8, Tryd.ntmps8
  go_wp2_with fail
  refine HK.out.mono ?_
  rintro e x0 ⟨rfl, hm⟩
  have hq0 := hm.size
  have HM := Lib.hid hm
  clear hm
  go_wp2_with fail
  refine (R1.out _ ).mono ?_
  rintro e x1 ⟨vP, rfl, hv, hm⟩
  have hzx1 := hm.size
  have hi : ∀ k ∈ fp vP, x0.heap.size ≤ k ∧ k < x1.heap.size := fun k hk => ⟨hv.new k hk, fp_lt hv.row k hk⟩
  have hM' := HM.out.trans hm (by simp)
  clear HM
  have HM := Lib.hid hM'
  clear hM'
  have HP := Lib.hid hv; have HIP := Lib.hid hi
  clear hv hm hi
  go_wp2_with fail
  have hm := (Mod.refl [] x1).alloc (Obj.cells #[Value.int IntKind.i64 (f1 : Nat), Value.int IntKind.i64 (f2 : Nat), Value.int IntKind.i64 (f3 : Nat)] 28)
  have hq : x1.heap.size < (x1.alloc (Obj.cells #[Value.int IntKind.i64 (f1 : Nat), Value.int IntKind.i64 (f2 : Nat), Value.int IntKind.i64 (f3 : Nat)] 28)).heap.size := by simp
  generalize x1.alloc (Obj.cells #[Value.int IntKind.i64 (f1 : Nat), Value.int IntKind.i64 (f2 : Nat), Value.int IntKind.i64 (f3 : Nat)] 28) = x2 at *
  have hx2 := hq
  clear hq
  have nP := HP.out.keep hm (by simp)
  clear HP
  have HP := Lib.hid nP
  clear nP
  have hM' := HM.out.trans hm (by simp)
  clear HM
  have HM := Lib.hid hM'
  clear hM'
  clear hm
  refine (R2.out _ ).mono ?_
  rintro e x3 ⟨vQ, rfl, hv, hm⟩
  have hzx3 := hm.size
  have hi : ∀ k ∈ fp vQ, x2.heap.size ≤ k ∧ k < x3.heap.size := fun k hk => ⟨hv.new k hk, fp_lt hv.row k hk⟩
  have nP := HP.out.keep hm (by simp)
  clear HP
  have HP := Lib.hid nP
  clear nP
  have hM' := HM.out.trans hm (by simp)
  clear HM
  have HM := Lib.hid hM'
  clear hM'
  have HQ := Lib.hid hv; have HIQ := Lib.hid hi
  clear hv hm hi
  go_wp2_with fail
  have hm := (Mod.refl [] x3).alloc (Obj.cells #[Value.int IntKind.i64 (g1 : Nat), Value.int IntKind.i64 (g2 : Nat), Value.int IntKind.i64 (g3 : Nat)] 28)
  have hq : x3.heap.size < (x3.alloc (Obj.cells #[Value.int IntKind.i64 (g1 : Nat), Value.int IntKind.i64 (g2 : Nat), Value.int IntKind.i64 (g3 : Nat)] 28)).heap.size := by simp
  generalize x3.alloc (Obj.cells #[Value.int IntKind.i64 (g1 : Nat), Value.int IntKind.i64 (g2 : Nat), Value.int IntKind.i64 (g3 : Nat)] 28) = x4 at *
  have hx4 := hq
  clear hq
  have nP := HP.out.keep hm (by simp)
  clear HP
  have HP := Lib.hid nP
  clear nP
  have nQ := HQ.out.keep hm (by simp)
  clear HQ
  have HQ := Lib.hid nQ
  clear nQ
  have hM' := HM.out.trans hm (by simp)
  clear HM
  have HM := Lib.hid hM'
  clear hM'
  clear hm
  refine (H1.out _ (hG.past HM.out (by simp))).mono ?_
  rintro e x5 ⟨vA, rfl, hv, hm⟩
  have hzx5 := hm.size
  have hi : ∀ k ∈ fp vA, x4.heap.size ≤ k ∧ k < x5.heap.size := fun k hk => ⟨hv.new k hk, fp_lt hv.row k hk⟩
  have nP := HP.out.keep hm (by simp)
  clear HP
  have HP := Lib.hid nP
  clear nP
  have nQ := HQ.out.keep hm (by simp)
  clear HQ
  have HQ := Lib.hid nQ
  clear nQ
  have hM' := HM.out.trans hm (by simp)
  clear HM
  have HM := Lib.hid hM'
  clear hM'
  have HA := Lib.hid hv; have HIA := Lib.hid hi
  clear hv hm hi
  go_wp2_with fail
  have hm := (Mod.refl [] x5).alloc (Obj.cells #[Value.int IntKind.i64 (f1 : Nat), Value.int IntKind.i64 (f2 : Nat), Value.int IntKind.i64 (f3 : Nat)] 28)
  have hq : x5.heap.size < (x5.alloc (Obj.cells #[Value.int IntKind.i64 (f1 : Nat), Value.int IntKind.i64 (f2 : Nat), Value.int IntKind.i64 (f3 : Nat)] 28)).heap.size := by simp
  generalize x5.alloc (Obj.cells #[Value.int IntKind.i64 (f1 : Nat), Value.int IntKind.i64 (f2 : Nat), Value.int IntKind.i64 (f3 : Nat)] 28) = x6 at *
  have hx6 := hq
  clear hq
  have nP := HP.out.keep hm (by simp)
  clear HP
  have HP := Lib.hid nP
  clear nP
  have nQ := HQ.out.keep hm (by simp)
  clear HQ
  have HQ := Lib.hid nQ
  clear nQ
  have nA := HA.out.keep hm (by simp)
  clear HA
  have HA := Lib.hid nA
  clear nA
  have hM' := HM.out.trans hm (by simp)
  clear HM
  have HM := Lib.hid hM'
  clear hM'
  clear hm
  refine (H1.out _ (hG.past HM.out (by simp))).mono ?_
  rintro e x7 ⟨vB, rfl, hv, hm⟩
  have hzx7 := hm.size
  have hi : ∀ k ∈ fp vB, x6.heap.size ≤ k ∧ k < x7.heap.size := fun k hk => ⟨hv.new k hk, fp_lt hv.row k hk⟩
  have nP := HP.out.keep hm (by simp)
  clear HP
  have HP := Lib.hid nP
  clear nP
  have nQ := HQ.out.keep hm (by simp)
  clear HQ
  have HQ := Lib.hid nQ
  clear nQ
  have nA := HA.out.keep hm (by simp)
  clear HA
  have HA := Lib.hid nA
  clear nA
  have hM' := HM.out.trans hm (by simp)
  clear HM
  have HM := Lib.hid hM'
  clear hM'
  have HB := Lib.hid hv; have HIB := Lib.hid hi
  clear hv hm hi
  go_wp2_with fail
  have hm := (Mod.refl [] x7).alloc (Obj.cells #[Value.int IntKind.i64 (f1 : Nat), Value.int IntKind.i64 (f2 : Nat), Value.int IntKind.i64 (f3 : Nat)] 28)
  have hq : x7.heap.size < (x7.alloc (Obj.cells #[Value.int IntKind.i64 (f1 : Nat), Value.int IntKind.i64 (f2 : Nat), Value.int IntKind.i64 (f3 : Nat)] 28)).heap.size := by simp
  generalize x7.alloc (Obj.cells #[Value.int IntKind.i64 (f1 : Nat), Value.int IntKind.i64 (f2 : Nat), Value.int IntKind.i64 (f3 : Nat)] 28) = x8 at *
  have hx8 := hq
  clear hq
  have nP := HP.out.keep hm (by simp)
  clear HP
  have HP := Lib.hid nP
  clear nP
  have nQ := HQ.out.keep hm (by simp)
  clear HQ
  have HQ := Lib.hid nQ
  clear nQ
  have nA := HA.out.keep hm (by simp)
  clear HA
  have HA := Lib.hid nA
  clear nA
  have nB := HB.out.keep hm (by simp)
  clear HB
  have HB := Lib.hid nB
  clear nB
  have hM' := HM.out.trans hm (by simp)
  clear HM
  have HM := Lib.hid hM'
  clear hM'
  clear hm
  refine (H2.out _ (hG.past HM.out (by simp))).mono ?_
  rintro e x9 ⟨vC, rfl, hv, hm⟩
  have hzx9 := hm.size
  have hi : ∀ k ∈ fp vC, x8.heap.size ≤ k ∧ k < x9.heap.size := fun k hk => ⟨hv.new k hk, fp_lt hv.row k hk⟩
  have nP := HP.out.keep hm (by simp)
  clear HP
  have HP := Lib.hid nP
  clear nP
  have nQ := HQ.out.keep hm (by simp)
  clear HQ
  have HQ := Lib.hid nQ
  clear nQ
  have nA := HA.out.keep hm (by simp)
  clear HA
  have HA := Lib.hid nA
  clear nA
  have nB := HB.out.keep hm (by simp)
  clear HB
  have HB := Lib.hid nB
  clear nB
  have hM' := HM.out.trans hm (by simp)
  clear HM
  have HM := Lib.hid hM'
  clear hM'
  have HC := Lib.hid hv; have HIC := Lib.hid hi
  clear hv hm hi
  go_wp2_with fail
  have hm := (Mod.refl [] x9).alloc (Obj.cells #[Value.int IntKind.i64 (g1 : Nat), Value.int IntKind.i64 (g2 : Nat), Value.int IntKind.i64 (g3 : Nat)] 28)
  have hq : x9.heap.size < (x9.alloc (Obj.cells #[Value.int IntKind.i64 (g1 : Nat), Value.int IntKind.i64 (g2 : Nat), Value.int IntKind.i64 (g3 : Nat)] 28)).heap.size := by simp
  generalize x9.alloc (Obj.cells #[Value.int IntKind.i64 (g1 : Nat), Value.int IntKind.i64 (g2 : Nat), Value.int IntKind.i64 (g3 : Nat)] 28) = x10 at *
  have hx10 := hq
  clear hq
  have nP := HP.out.keep hm (by simp)
  clear HP
  have HP := Lib.hid nP
  clear nP
  have nQ := HQ.out.keep hm (by simp)
  clear HQ
  have HQ := Lib.hid nQ
  clear nQ
  have nA := HA.out.keep hm (by simp)
  clear HA
  have HA := Lib.hid nA
  clear nA
  have nB := HB.out.keep hm (by simp)
  clear HB
  have HB := Lib.hid nB
  clear nB
  have nC := HC.out.keep hm (by simp)
  clear HC
  have HC := Lib.hid nC
  clear nC
  have hM' := HM.out.trans hm (by simp)
  clear HM
  have HM := Lib.hid hM'
  clear hM'
  clear hm
  refine (H1.out _ (hG.past HM.out (by simp))).mono ?_
  rintro e x11 ⟨vD, rfl, hv, hm⟩
  have hzx11 := hm.size
  have hi : ∀ k ∈ fp vD, x10.heap.size ≤ k ∧ k < x11.heap.size := fun k hk => ⟨hv.new k hk, fp_lt hv.row k hk⟩
  have nP := HP.out.keep hm (by simp)
  clear HP
  have HP := Lib.hid nP
  clear nP
  have nQ := HQ.out.keep hm (by simp)
  clear HQ
  have HQ := Lib.hid nQ
  clear nQ
  have nA := HA.out.keep hm (by simp)
  clear HA
  have HA := Lib.hid nA
  clear nA
  have nB := HB.out.keep hm (by simp)
  clear HB
  have HB := Lib.hid nB
  clear nB
  have nC := HC.out.keep hm (by simp)
  clear HC
  have HC := Lib.hid nC
  clear nC
  have hM' := HM.out.trans hm (by simp)
  clear HM
  have HM := Lib.hid hM'
  clear hM'
  have HD := Lib.hid hv; have HID := Lib.hid hi
  clear hv hm hi
  go_wp2_with fail
  have hm := (Mod.refl [] x11).alloc (Obj.cells #[Value.int IntKind.i64 (f1 : Nat), Value.int IntKind.i64 (f2 : Nat), Value.int IntKind.i64 (f3 : Nat)] 28)
  have hq : x11.heap.size < (x11.alloc (Obj.cells #[Value.int IntKind.i64 (f1 : Nat), Value.int IntKind.i64 (f2 : Nat), Value.int IntKind.i64 (f3 : Nat)] 28)).heap.size := by simp
  generalize x11.alloc (Obj.cells #[Value.int IntKind.i64 (f1 : Nat), Value.int IntKind.i64 (f2 : Nat), Value.int IntKind.i64 (f3 : Nat)] 28) = x12 at *
  have hx12 := hq
  clear hq
  have nP := HP.out.keep hm (by simp)
  clear HP
  have HP := Lib.hid nP
  clear nP
  have nQ := HQ.out.keep hm (by simp)
  clear HQ
  have HQ := Lib.hid nQ
  clear nQ
  have nA := HA.out.keep hm (by simp)
  clear HA
  have HA := Lib.hid nA
  clear nA
  have nB := HB.out.keep hm (by simp)
  clear HB
  have HB := Lib.hid nB
  clear nB
  have nC := HC.out.keep hm (by simp)
  clear HC
  have HC := Lib.hid nC
  clear nC
  have nD := HD.out.keep hm (by simp)
  clear HD
  have HD := Lib.hid nD
  clear nD
  have hM' := HM.out.trans hm (by simp)
  clear HM
  have HM := Lib.hid hM'
  clear hM'
  clear hm
  refine (rSame_any l _ _ _ _ _ HA.out HP.out (by omega)).mono ?_
  rintro e x13 ⟨rfl, hm⟩
  have hzx13 := hm.size
  have nP := HP.out.keep hm (by simp)
  clear HP
  have HP := Lib.hid nP
  clear nP
  have nQ := HQ.out.keep hm (by simp)
  clear HQ
  have HQ := Lib.hid nQ
  clear nQ
  have nA := HA.out.keep hm (by simp)
  clear HA
  have HA := Lib.hid nA
  clear nA
  have nB := HB.out.keep hm (by simp)
  clear HB
  have HB := Lib.hid nB
  clear nB
  have nC := HC.out.keep hm (by simp)
  clear HC
  have HC := Lib.hid nC
  clear nC
  have nD := HD.out.keep hm (by simp)
  clear HD
  have HD := Lib.hid nD
  clear nD
  have hM' := HM.out.trans hm (by simp)
  clear HM
  have HM := Lib.hid hM'
  clear hM'
  clear hm
  go_wp2_with fail
  refine (rSame_any l _ _ _ _ _ HB.out HP.out (by omega)).mono ?_
  rintro e x14 ⟨rfl, hm⟩
  have hzx14 := hm.size
  have nP := HP.out.keep hm (by simp)
  clear HP
  have HP := Lib.hid nP
  clear nP
  have nQ := HQ.out.keep hm (by simp)
  clear HQ
  have HQ := Lib.hid nQ
  clear nQ
  have nA := HA.out.keep hm (by simp)
  clear HA
  have HA := Lib.hid nA
  clear nA
  have nB := HB.out.keep hm (by simp)
  clear HB
  have HB := Lib.hid nB
  clear nB
  have nC := HC.out.keep hm (by simp)
  clear HC
  have HC := Lib.hid nC
  clear nC
  have nD := HD.out.keep hm (by simp)
  clear HD
  have HD := Lib.hid nD
  clear nD
  have hM' := HM.out.trans hm (by simp)
  clear HM
  have HM := Lib.hid hM'
  clear hM'
  clear hm
  go_wp2_with fail
  refine (rSame_any m _ _ _ _ _ HC.out HQ.out (by omega)).mono ?_
  rintro e x15 ⟨rfl, hm⟩
  have hzx15 := hm.size
  have nP := HP.out.keep hm (by simp)
  clear HP
  have HP := Lib.hid nP
  clear nP
  have nQ := HQ.out.keep hm (by simp)
  clear HQ
  have HQ := Lib.hid nQ
  clear nQ
  have nA := HA.out.keep hm (by simp)
  clear HA
  have HA := Lib.hid nA
  clear nA
  have nB := HB.out.keep hm (by simp)
  clear HB
  have HB := Lib.hid nB
  clear nB
  have nC := HC.out.keep hm (by simp)
  clear HC
  have HC := Lib.hid nC
  clear nC
  have nD := HD.out.keep hm (by simp)
  clear HD
  have HD := Lib.hid nD
  clear nD
  have hM' := HM.out.trans hm (by simp)
  clear HM
  have HM := Lib.hid hM'
  clear hM'
  clear hm
  go_wp2_with fail
  refine (rSame_any l _ _ _ _ _ HD.out HP.out (by omega)).mono ?_
  rintro e x16 ⟨rfl, hm⟩
  have hzx16 := hm.size
  have nP := HP.out.keep hm (by simp)
  clear HP
  have HP := Lib.hid nP
  clear nP
  have nQ := HQ.out.keep hm (by simp)
  clear HQ
  have HQ := Lib.hid nQ
  clear nQ
  have nA := HA.out.keep hm (by simp)
  clear HA
  have HA := Lib.hid nA
  clear nA
  have nB := HB.out.keep hm (by simp)
  clear HB
  have HB := Lib.hid nB
  clear nB
  have nC := HC.out.keep hm (by simp)
  clear HC
  have HC := Lib.hid nC
  clear nC
  have nD := HD.out.keep hm (by simp)
  clear HD
  have HD := Lib.hid nD
  clear nD
  have hM' := HM.out.trans hm (by simp)
  clear HM
  have HM := Lib.hid hM'
  clear hM'
  clear hm
  go_wp2_with fail
  refine (fill_any l (-1) _ _ (by omega) _ HA.out).mono ?_
  rintro e x17 ⟨rfl, hr, hm⟩
  have hzx17 := hm.size
  have nP := HP.out.keep hm (fun k hk hS => by have q1 := HIP.out k hk; have q2 := HIA.out k hS; omega)
  clear HP
  have HP := Lib.hid nP
  clear nP
  have nQ := HQ.out.keep hm (fun k hk hS => by have q1 := HIQ.out k hk; have q2 := HIA.out k hS; omega)
  clear HQ
  have HQ := Lib.hid nQ
  clear nQ
  have nB := HB.out.keep hm (fun k hk hS => by have q1 := HIB.out k hk; have q2 := HIA.out k hS; omega)
  clear HB
  have HB := Lib.hid nB
  clear nB
  have nC := HC.out.keep hm (fun k hk hS => by have q1 := HIC.out k hk; have q2 := HIA.out k hS; omega)
  clear HC
  have HC := Lib.hid nC
  clear nC
  have nD := HD.out.keep hm (fun k hk hS => by have q1 := HID.out k hk; have q2 := HIA.out k hS; omega)
  clear HD
  have HD := Lib.hid nD
  clear nD
  have hM' := HM.out.trans hm (fun k hk => .inr (by have := HIA.out k hk; omega))
  clear HM
  have HM := Lib.hid hM'
  clear hM'
  clear HA hm
  have HA := Lib.hid hr
  clear hr
  go_wp2_with fail
  refine (fill_any l (-2) _ _ (by omega) _ HB.out).mono ?_
  rintro e x18 ⟨rfl, hr, hm⟩
  have hzx18 := hm.size
  have nP := HP.out.keep hm (fun k hk hS => by have q1 := HIP.out k hk; have q2 := HIB.out k hS; omega)
  clear HP
  have HP := Lib.hid nP
  clear nP
  have nQ := HQ.out.keep hm (fun k hk hS => by have q1 := HIQ.out k hk; have q2 := HIB.out k hS; omega)
  clear HQ
  have HQ := Lib.hid nQ
  clear nQ
  have nA := HA.out.keep hm (fun k hk hS => by have q1 := HIA.out k hk; have q2 := HIB.out k hS; omega)
  clear HA
  have HA := Lib.hid nA
  clear nA
  have nC := HC.out.keep hm (fun k hk hS => by have q1 := HIC.out k hk; have q2 := HIB.out k hS; omega)
  clear HC
  have HC := Lib.hid nC
  clear nC
  have nD := HD.out.keep hm (fun k hk hS => by have q1 := HID.out k hk; have q2 := HIB.out k hS; omega)
  clear HD
  have HD := Lib.hid nD
  clear nD
  have hM' := HM.out.trans hm (fun k hk => .inr (by have := HIB.out k hk; omega))
  clear HM
  have HM := Lib.hid hM'
  clear hM'
  clear HB hm
  have HB := Lib.hid hr
  clear hr
  go_wp2_with fail
  refine (fill_any m (-3) _ _ (by omega) _ HC.out).mono ?_
  rintro e x19 ⟨rfl, hr, hm⟩
  have hzx19 := hm.size
  have nP := HP.out.keep hm (fun k hk hS => by have q1 := HIP.out k hk; have q2 := HIC.out k hS; omega)
  clear HP
  have HP := Lib.hid nP
  clear nP
  have nQ := HQ.out.keep hm (fun k hk hS => by have q1 := HIQ.out k hk; have q2 := HIC.out k hS; omega)
  clear HQ
  have HQ := Lib.hid nQ
  clear nQ
  have nA := HA.out.keep hm (fun k hk hS => by have q1 := HIA.out k hk; have q2 := HIC.out k hS; omega)
  clear HA
  have HA := Lib.hid nA
  clear nA
  have nB := HB.out.keep hm (fun k hk hS => by have q1 := HIB.out k hk; have q2 := HIC.out k hS; omega)
  clear HB
  have HB := Lib.hid nB
  clear nB
  have nD := HD.out.keep hm (fun k hk hS => by have q1 := HID.out k hk; have q2 := HIC.out k hS; omega)
  clear HD
  have HD := Lib.hid nD
  clear nD
  have hM' := HM.out.trans hm (fun k hk => .inr (by have := HIC.out k hk; omega))
  clear HM
  have HM := Lib.hid hM'
  clear hM'
  clear HC hm
  have HC := Lib.hid hr
  clear hr
  go_wp2_with fail
  refine (fill_any l (-4) _ _ (by omega) _ HD.out).mono ?_
  rintro e x20 ⟨rfl, hr, hm⟩
  have hzx20 := hm.size
  have nP := HP.out.keep hm (fun k hk hS => by have q1 := HIP.out k hk; have q2 := HID.out k hS; omega)
  clear HP
  have HP := Lib.hid nP
  clear nP
  have nQ := HQ.out.keep hm (fun k hk hS => by have q1 := HIQ.out k hk; have q2 := HID.out k hS; omega)
  clear HQ
  have HQ := Lib.hid nQ
  clear nQ
  have nA := HA.out.keep hm (fun k hk hS => by have q1 := HIA.out k hk; have q2 := HID.out k hS; omega)
  clear HA
  have HA := Lib.hid nA
  clear nA
  have nB := HB.out.keep hm (fun k hk hS => by have q1 := HIB.out k hk; have q2 := HID.out k hS; omega)
  clear HB
  have HB := Lib.hid nB
  clear nB
  have nC := HC.out.keep hm (fun k hk hS => by have q1 := HIC.out k hk; have q2 := HID.out k hS; omega)
  clear HC
  have HC := Lib.hid nC
  clear nC
  have hM' := HM.out.trans hm (fun k hk => .inr (by have := HID.out k hk; omega))
  clear HM
  have HM := Lib.hid hM'
  clear hM'
  clear HD hm
  have HD := Lib.hid hr
  clear hr
  go_wp2_with fail
  refine (grow_any l.length (-1) _ (by omega) _ HA.out).mono ?_
  rintro e x21 ⟨vE, rfl, hr, hf, hm, hkp⟩
  have hzx21 := hm.size
  have na := HA.out.marked.keeps hkp
  have nP := HP.out.keep hm (fun k hk hS => by have q1 := HIP.out k hk; have q2 := HIA.out k hS; omega)
  clear HP
  have HP := Lib.hid nP
  clear nP
  have nQ := HQ.out.keep hm (fun k hk hS => by have q1 := HIQ.out k hk; have q2 := HIA.out k hS; omega)
  clear HQ
  have HQ := Lib.hid nQ
  clear nQ
  have nB := HB.out.keep hm (fun k hk hS => by have q1 := HIB.out k hk; have q2 := HIA.out k hS; omega)
  clear HB
  have HB := Lib.hid nB
  clear nB
  have nC := HC.out.keep hm (fun k hk hS => by have q1 := HIC.out k hk; have q2 := HIA.out k hS; omega)
  clear HC
  have HC := Lib.hid nC
  clear nC
  have nD := HD.out.keep hm (fun k hk hS => by have q1 := HID.out k hk; have q2 := HIA.out k hS; omega)
  clear HD
  have HD := Lib.hid nD
  clear nD
  have hM' := HM.out.trans hm (fun k hk => .inr (by have := HIA.out k hk; omega))
  clear HM
  have HM := Lib.hid hM'
  clear hM'
  clear HA hm hkp
  have HA := Lib.hid na; have HE := Lib.hid hr; have HIE := Lib.hid hf
  clear na hr hf
  go_wp2_with fail
  refine (grow_any l.length (-2) _ (by omega) _ HB.out).mono ?_
  rintro e x22 ⟨vF, rfl, hr, hf, hm, hkp⟩
  have hzx22 := hm.size
  have na := HB.out.marked.keeps hkp
  have nP := HP.out.keep hm (fun k hk hS => by have q1 := HIP.out k hk; have q2 := HIB.out k hS; omega)
  clear HP
  have HP := Lib.hid nP
  clear nP
  have nQ := HQ.out.keep hm (fun k hk hS => by have q1 := HIQ.out k hk; have q2 := HIB.out k hS; omega)
  clear HQ
  have HQ := Lib.hid nQ
  clear nQ
  have nA := HA.out.keep hm (fun k hk hS => by have q1 := HIA.out k hk; have q2 := HIB.out k hS; omega)
  clear HA
  have HA := Lib.hid nA
  clear nA
  have nC := HC.out.keep hm (fun k hk hS => by have q1 := HIC.out k hk; have q2 := HIB.out k hS; omega)
  clear HC
  have HC := Lib.hid nC
  clear nC
  have nD := HD.out.keep hm (fun k hk hS => by have q1 := HID.out k hk; have q2 := HIB.out k hS; omega)
  clear HD
  have HD := Lib.hid nD
  clear nD
  have nE := HE.out.keep hm (fun k hk hS => by have q1 := HIB.out k hS; rcases HIE.out k hk with h | h <;> first | (have q2 := HIA.out k h; omega) | omega)
  clear HE
  have HE := Lib.hid nE
  clear nE
  have hM' := HM.out.trans hm (fun k hk => .inr (by have := HIB.out k hk; omega))
  clear HM
  have HM := Lib.hid hM'
  clear hM'
  clear HB hm hkp
  have HB := Lib.hid na; have HF := Lib.hid hr; have HIF := Lib.hid hf
  clear na hr hf
  go_wp2_with fail
  refine (grow_any m.length (-3) _ (by omega) _ HC.out).mono ?_
  rintro e x23 ⟨vG, rfl, hr, hf, hm, hkp⟩
  have hzx23 := hm.size
  have na := HC.out.marked.keeps hkp
  have nP := HP.out.keep hm (fun k hk hS => by have q1 := HIP.out k hk; have q2 := HIC.out k hS; omega)
  clear HP
  have HP := Lib.hid nP
  clear nP
  have nQ := HQ.out.keep hm (fun k hk hS => by have q1 := HIQ.out k hk; have q2 := HIC.out k hS; omega)
  clear HQ
  have HQ := Lib.hid nQ
  clear nQ
  have nA := HA.out.keep hm (fun k hk hS => by have q1 := HIA.out k hk; have q2 := HIC.out k hS; omega)
  clear HA
  have HA := Lib.hid nA
  clear nA
  have nB := HB.out.keep hm (fun k hk hS => by have q1 := HIB.out k hk; have q2 := HIC.out k hS; omega)
  clear HB
  have HB := Lib.hid nB
  clear nB
  have nD := HD.out.keep hm (fun k hk hS => by have q1 := HID.out k hk; have q2 := HIC.out k hS; omega)
  clear HD
  have HD := Lib.hid nD
  clear nD
  have nE := HE.out.keep hm (fun k hk hS => by have q1 := HIC.out k hS; rcases HIE.out k hk with h | h <;> first | (have q2 := HIA.out k h; omega) | omega)
  clear HE
  have HE := Lib.hid nE
  clear nE
  have nF := HF.out.keep hm (fun k hk hS => by have q1 := HIC.out k hS; rcases HIF.out k hk with h | h <;> first | (have q2 := HIB.out k h; omega) | omega)
  clear HF
  have HF := Lib.hid nF
  clear nF
  have hM' := HM.out.trans hm (fun k hk => .inr (by have := HIC.out k hk; omega))
  clear HM
  have HM := Lib.hid hM'
  clear hM'
  clear HC hm hkp
  have HC := Lib.hid na; have HG := Lib.hid hr; have HIG := Lib.hid hf
  clear na hr hf
  go_wp2_with fail
  refine (grow_any l.length (-4) _ (by omega) _ HD.out).mono ?_
  rintro e x24 ⟨vH, rfl, hr, hf, hm, hkp⟩
  have hzx24 := hm.size
  have na := HD.out.marked.keeps hkp
  have nP := HP.out.keep hm (fun k hk hS => by have q1 := HIP.out k hk; have q2 := HID.out k hS; omega)
  clear HP
  have HP := Lib.hid nP
  clear nP
  have nQ := HQ.out.keep hm (fun k hk hS => by have q1 := HIQ.out k hk; have q2 := HID.out k hS; omega)
  clear HQ
  have HQ := Lib.hid nQ
  clear nQ
  have nA := HA.out.keep hm (fun k hk hS => by have q1 := HIA.out k hk; have q2 := HID.out k hS; omega)
  clear HA
  have HA := Lib.hid nA
  clear nA
  have nB := HB.out.keep hm (fun k hk hS => by have q1 := HIB.out k hk; have q2 := HID.out k hS; omega)
  clear HB
  have HB := Lib.hid nB
  clear nB
  have nC := HC.out.keep hm (fun k hk hS => by have q1 := HIC.out k hk; have q2 := HID.out k hS; omega)
  clear HC
  have HC := Lib.hid nC
  clear nC
  have nE := HE.out.keep hm (fun k hk hS => by have q1 := HID.out k hS; rcases HIE.out k hk with h | h <;> first | (have q2 := HIA.out k h; omega) | omega)
  clear HE
  have HE := Lib.hid nE
  clear nE
  have nF := HF.out.keep hm (fun k hk hS => by have q1 := HID.out k hS; rcases HIF.out k hk with h | h <;> first | (have q2 := HIB.out k h; omega) | omega)
  clear HF
  have HF := Lib.hid nF
  clear nF
  have nG := HG.out.keep hm (fun k hk hS => by have q1 := HID.out k hS; rcases HIG.out k hk with h | h <;> first | (have q2 := HIC.out k h; omega) | omega)
  clear HG
  have HG := Lib.hid nG
  clear nG
  have hM' := HM.out.trans hm (fun k hk => .inr (by have := HID.out k hk; omega))
  clear HM
  have HM := Lib.hid hM'
  clear hM'
  clear HD hm hkp
  have HD := Lib.hid na; have HH := Lib.hid hr; have HIH := Lib.hid hf
  clear na hr hf
  go_wp2_with fail
  refine (reads_any _ (l.length + 40) (-1) (by omega) _ HE.out.marked).mono ?_
  rintro e x25 ⟨rfl, hxe⟩
  subst hxe
  go_wp2_with fail
  refine (reads_any _ (l.length + 40) (-2) (by omega) _ HF.out.marked).mono ?_
  rintro e x26 ⟨rfl, hxe⟩
  subst hxe
  go_wp2_with fail
  refine (reads_any _ (m.length + 40) (-3) (by omega) _ HG.out.marked).mono ?_
  rintro e x27 ⟨rfl, hxe⟩
  subst hxe
  go_wp2_with fail
  refine (reads_any _ (l.length + 40) (-4) (by omega) _ HH.out.marked).mono ?_
  rintro e x28 ⟨rfl, hxe⟩
  subst hxe
  go_wp2_with fail
  refine (H1.out _ (hG.past HM.out (by simp))).mono ?_
  rintro e x29 ⟨vZ, rfl, hv, hm⟩
  have hzx29 := hm.size
  have hi : ∀ k ∈ fp vZ, x28.heap.size ≤ k ∧ k < x29.heap.size := fun k hk => ⟨hv.new k hk, fp_lt hv.row k hk⟩
  have nP := HP.out.keep hm (by simp)
  clear HP
  have HP := Lib.hid nP
  clear nP
  have nQ := HQ.out.keep hm (by simp)
  clear HQ
  have HQ := Lib.hid nQ
  clear nQ
  have nA := HA.out.keep hm (by simp)
  clear HA
  have HA := Lib.hid nA
  clear nA
  have nB := HB.out.keep hm (by simp)
  clear HB
  have HB := Lib.hid nB
  clear nB
  have nC := HC.out.keep hm (by simp)
  clear HC
  have HC := Lib.hid nC
  clear nC
  have nD := HD.out.keep hm (by simp)
  clear HD
  have HD := Lib.hid nD
  clear nD
  have nE := HE.out.keep hm (by simp)
  clear HE
  have HE := Lib.hid nE
  clear nE
  have nF := HF.out.keep hm (by simp)
  clear HF
  have HF := Lib.hid nF
  clear nF
  have nG := HG.out.keep hm (by simp)
  clear HG
  have HG := Lib.hid nG
  clear nG
  have nH := HH.out.keep hm (by simp)
  clear HH
  have HH := Lib.hid nH
  clear nH
  have hM' := HM.out.trans hm (by simp)
  clear HM
  have HM := Lib.hid hM'
  clear hM'
  have HZ := Lib.hid hv; have HIZ := Lib.hid hi
  clear hv hm hi
  go_wp2_with fail
  have hm := (Mod.refl [] x29).alloc (Obj.cells #[Value.int IntKind.i64 (f1 : Nat), Value.int IntKind.i64 (f2 : Nat), Value.int IntKind.i64 (f3 : Nat)] 28)
  have hq : x29.heap.size < (x29.alloc (Obj.cells #[Value.int IntKind.i64 (f1 : Nat), Value.int IntKind.i64 (f2 : Nat), Value.int IntKind.i64 (f3 : Nat)] 28)).heap.size := by simp
  generalize x29.alloc (Obj.cells #[Value.int IntKind.i64 (f1 : Nat), Value.int IntKind.i64 (f2 : Nat), Value.int IntKind.i64 (f3 : Nat)] 28) = x30 at *
  have hx30 := hq
  clear hq
  have nP := HP.out.keep hm (by simp)
  clear HP
  have HP := Lib.hid nP
  clear nP
  have nQ := HQ.out.keep hm (by simp)
  clear HQ
  have HQ := Lib.hid nQ
  clear nQ
  have nA := HA.out.keep hm (by simp)
  clear HA
  have HA := Lib.hid nA
  clear nA
  have nB := HB.out.keep hm (by simp)
  clear HB
  have HB := Lib.hid nB
  clear nB
  have nC := HC.out.keep hm (by simp)
  clear HC
  have HC := Lib.hid nC
  clear nC
  have nD := HD.out.keep hm (by simp)
  clear HD
  have HD := Lib.hid nD
  clear nD
  have nE := HE.out.keep hm (by simp)
  clear HE
  have HE := Lib.hid nE
  clear nE
  have nF := HF.out.keep hm (by simp)
  clear HF
  have HF := Lib.hid nF
  clear nF
  have nG := HG.out.keep hm (by simp)
  clear HG
  have HG := Lib.hid nG
  clear nG
  have nH := HH.out.keep hm (by simp)
  clear HH
  have HH := Lib.hid nH
  clear nH
  have nZ := HZ.out.keep hm (by simp)
  clear HZ
  have HZ := Lib.hid nZ
  clear nZ
  have hM' := HM.out.trans hm (by simp)
  clear HM
  have HM := Lib.hid hM'
  clear hM'
  clear hm
  refine (rSame_any l _ _ _ _ _ HZ.out HP.out (by omega)).mono ?_
  rintro e x31 ⟨rfl, hm⟩
  have hzx31 := hm.size
  have nP := HP.out.keep hm (by simp)
  clear HP
  have HP := Lib.hid nP
  clear nP
  have nQ := HQ.out.keep hm (by simp)
  clear HQ
  have HQ := Lib.hid nQ
  clear nQ
  have nA := HA.out.keep hm (by simp)
  clear HA
  have HA := Lib.hid nA
  clear nA
  have nB := HB.out.keep hm (by simp)
  clear HB
  have HB := Lib.hid nB
  clear nB
  have nC := HC.out.keep hm (by simp)
  clear HC
  have HC := Lib.hid nC
  clear nC
  have nD := HD.out.keep hm (by simp)
  clear HD
  have HD := Lib.hid nD
  clear nD
  have nE := HE.out.keep hm (by simp)
  clear HE
  have HE := Lib.hid nE
  clear nE
  have nF := HF.out.keep hm (by simp)
  clear HF
  have HF := Lib.hid nF
  clear nF
  have nG := HG.out.keep hm (by simp)
  clear HG
  have HG := Lib.hid nG
  clear nG
  have nH := HH.out.keep hm (by simp)
  clear HH
  have HH := Lib.hid nH
  clear nH
  have nZ := HZ.out.keep hm (by simp)
  clear HZ
  have HZ := Lib.hid nZ
  clear nZ
  have hM' := HM.out.trans hm (by simp)
  clear HM
  have HM := Lib.hid hM'
  clear hM'
  clear hm
  go_wp2_with fail
  refine (reads_any _ (l.length) (-1) (by omega) _ HA.out).mono ?_
  rintro e x32 ⟨rfl, hxe⟩
  subst hxe
  go_wp2_with fail
  refine (reads_any _ (l.length) (-2) (by omega) _ HB.out).mono ?_
  rintro e x33 ⟨rfl, hxe⟩
  subst hxe
  go_wp2_with fail
  refine (reads_any _ (m.length) (-3) (by omega) _ HC.out).mono ?_
  rintro e x34 ⟨rfl, hxe⟩
  subst hxe
  go_wp2_with fail
  go_ret
  exact ⟨rfl, HM.out⟩
end Go.Proofs.YtobimhmllkfmfaaDoor
