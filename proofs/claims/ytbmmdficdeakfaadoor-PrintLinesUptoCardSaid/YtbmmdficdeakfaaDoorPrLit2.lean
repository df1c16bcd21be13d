/- THE WRITER: literal, ahead of aggregate and body. Printed by wip/gen_lit2.py. -/
import Derived.Test.YtbmmdficdeakfaaDoorPrLit
import Derived.Deep.MidRow
namespace Go.Proofs.YtbmmdficdeakfaaDoor
open Go.RowKit
set_option linter.unusedVariables false
set_option linter.unusedSimpArgs false
set_option maxRecDepth 100000

def agV (fn : Int) (av : ByteArray) (of : Pr.Ex) (uo ub : Value) : Array Value := #[.int .i64 fn, .string av, .int .i64 of.k, .string of.v, .int .i64 of.x.k, .int .i64 of.x.n, .string (Lx.ofS of.x.s), .int .i64 of.op, uo, ub]
def LitC (w0 : World) (b : Nat) : Prop := ∀ (e : Pr.Li) (U : LU) (p : Nat) (q v : Value) (l : List Nat) (bad : Bool) (w : World), WAt w0 w p q v l bad (16 - (b : Int)) → LOk w0 e U → GlobV w0 → l.length + (lWt e - 100) ≤ 140737488000000 →
  Calls Tryd.prog 27 #[.pointer (some ⟨p, 0, none⟩), .agg (liV e U)] w (WRes p v l bad (16 - (b : Int)) (Pr.pL b e) (lWt e - 100) w)
def BodyC (w0 : World) (b : Nat) : Prop := ∀ (ls : List Pr.Li) (u : Value) (p : Nat) (q v : Value) (l : List Nat) (bad : Bool) (w : World), WAt w0 w p q v l bad (16 - (b : Int)) → BOk w0 ls u → GlobV w0 → l.length + lsWt ls ≤ 140737488000000 →
  Calls Tryd.prog 38 #[.pointer (some ⟨p, 0, none⟩), u] w (WRes p v l bad (16 - (b : Int)) (comO (Pr.pL b) ls) (lsWt ls) w)
def AggC (w0 : World) (b : Nat) : Prop := ∀ (fn : Int) (av : ByteArray) (of : Pr.Ex) (body : List Pr.Li) (uo ub : Value) (p : Nat) (q v : Value) (l : List Nat) (bad : Bool) (w : World), WAt w0 w p q v l bad (16 - (b : Int)) → EOk w0 of uo → BOk w0 body ub → GlobV w0 → l.length + (exWt of + av.size + 500 + lsWt body) ≤ 140737488000000 →
  Calls Tryd.prog 41 #[.pointer (some ⟨p, 0, none⟩), .agg (agV fn av of uo ub)] w (WRes p v l bad (16 - (b : Int)) (pG b fn av of body) (exWt of + av.size + 500 + lsWt body) w)
theorem CellsAt.range {w : World} {b o : Nat} {cs : List Value} (h : CellsAt w b o cs.toArray) : w.rangeAt b o cs := fun j v hv => h j v (by simpa using hv)
def cmpS (op : Int) : ByteArray := if op = 1 then { data := #[32, 61, 32] } else if op = 2 then { data := #[32, 33, 61, 32] } else if op = 3 then { data := #[32, 60, 32] } else if op = 4 then { data := #[32, 60, 61, 32] } else if op = 5 then { data := #[32, 62, 32] } else { data := #[32, 62, 61, 32] }
theorem cmpS_len (op : Int) : (cmpS op).size ≤ 4 := by
  unfold cmpS
  repeat' split
  all_goals decide
theorem cmpS_str (op : Int) : Cod.str (cmpS op) = Pr.cmp op := by
  unfold cmpS Pr.cmp
  repeat' split
  all_goals rfl
section
variable (b : Nat) (a : Pr.Atom) (op : Int) (l r : Pr.Ex) (fn : Int) (av : ByteArray) (of : Pr.Ex) (body : List Pr.Li)
theorem tail1 : tailO b 1 a op l r fn av of body = Pr.pA a := by unfold tailO; rw [if_pos rfl]
theorem tail2 : tailO b 2 a op l r fn av of body = cat (some [110, 111, 116, 32]) (Pr.pA a) := by unfold tailO; rw [if_neg (by decide), if_pos rfl]
theorem tail3 : tailO b 3 a op l r fn av of body = cat (cat (Pr.pE 17 l) (cmpO op)) (Pr.pE 17 r) := by unfold tailO; rw [if_neg (by decide), if_neg (by decide), if_pos rfl]
theorem tail4 : tailO b 4 a op l r fn av of body = pG b fn av of body := by unfold tailO; rw [if_neg (by decide), if_neg (by decide), if_neg (by decide), if_pos rfl]
theorem tailN {k : Int} (h1 : k ≠ 1) (h2 : k ≠ 2) (h3 : k ≠ 3) (h4 : k ≠ 4) : tailO b k a op l r fn av of body = none := by unfold tailO; rw [if_neg h1, if_neg h2, if_neg h3, if_neg h4]
end
set_option maxHeartbeats 8000000 in
theorem lit_of {w0 : World} {b : Nat} (hb16 : b ≤ 16) (HA : AggC w0 b) : LitC w0 b := by
  intro e U p q v l bad w h hL hG hlen
  obtain ⟨k, a, op, le, re, fn, av, of, body, ln, cl⟩ := e
  obtain ⟨hT, hl, hr, ho, hb⟩ := hL.parts
  obtain ⟨Ut, Ul, Ur, Uo, Ub⟩ := U
  dsimp only at hT hl hr ho hb
  obtain ⟨ta, tc, rfl⟩ := hT.lit
  obtain ⟨la, lc, rfl⟩ := hl.lit
  obtain ⟨ra, rc, rfl⟩ := hr.lit
  obtain ⟨oa, oc, rfl⟩ := ho.lit
  obtain ⟨ba, bc, rfl⟩ := hb.lit
  rw [pL_eq]
  have hW : lWt (.mk k a op le re fn av of body ln cl) = aWt a + exWt le + exWt re + exWt of + av.size + 1000 + lsWt body := rfl
  have HLK := Lib.hid (fun w => lacks_any k a op le re fn av of body ln cl ta la ra oa ba tc lc rc oc bc w)
  have MA := Lib.hid ((Mod.refl [] w).alloc (Obj.cells #[Value.int IntKind.i64 k, Value.string a.rel, (Value.slice ta a.terms.length tc), Value.int IntKind.i64 op, Value.int IntKind.i64 le.k, Value.string le.v, Value.int IntKind.i64 le.x.k, Value.int IntKind.i64 le.x.n, Value.string (Lx.ofS le.x.s), Value.int IntKind.i64 le.op, (Value.slice la le.args.length lc), Value.int IntKind.i64 re.k, Value.string re.v, Value.int IntKind.i64 re.x.k, Value.int IntKind.i64 re.x.n, Value.string (Lx.ofS re.x.s), Value.int IntKind.i64 re.op, (Value.slice ra re.args.length rc), Value.int IntKind.i64 fn, Value.string av, Value.int IntKind.i64 of.k, Value.string of.v, Value.int IntKind.i64 of.x.k, Value.int IntKind.i64 of.x.n, Value.string (Lx.ofS of.x.s), Value.int IntKind.i64 of.op, (Value.slice oa of.args.length oc), (Value.slice ba body.length bc), Value.int IntKind.i64 ln, Value.int IntKind.i64 cl] 48))
  have RA := Lib.hid ((Run.start h).fresh MA.out (by simp))
  have XA : Hid (CellsAt _ w.heap.size 0 (liV (.mk k a op le re fn av of body ln cl) ⟨.slice ta a.terms.length tc, .slice la le.args.length lc, .slice ra re.args.length rc, .slice oa of.args.length oc, .slice ba body.length bc⟩)) := Lib.hid (CellsAt.of (heap_alloc_new w (Obj.cells #[Value.int IntKind.i64 k, Value.string a.rel, (Value.slice ta a.terms.length tc), Value.int IntKind.i64 op, Value.int IntKind.i64 le.k, Value.string le.v, Value.int IntKind.i64 le.x.k, Value.int IntKind.i64 le.x.n, Value.string (Lx.ofS le.x.s), Value.int IntKind.i64 le.op, (Value.slice la le.args.length lc), Value.int IntKind.i64 re.k, Value.string re.v, Value.int IntKind.i64 re.x.k, Value.int IntKind.i64 re.x.n, Value.string (Lx.ofS re.x.s), Value.int IntKind.i64 re.op, (Value.slice ra re.args.length rc), Value.int IntKind.i64 fn, Value.string av, Value.int IntKind.i64 of.k, Value.string of.v, Value.int IntKind.i64 of.x.k, Value.int IntKind.i64 of.x.n, Value.string (Lx.ofS of.x.s), Value.int IntKind.i64 of.op, (Value.slice oa of.args.length oc), (Value.slice ba body.length bc), Value.int IntKind.i64 ln, Value.int IntKind.i64 cl] 48)))
  have HT := Lib.hid hT
  have HE1 := Lib.hid hl
  have HE2 := Lib.hid hr
  have HEO := Lib.hid ho
  have HB := Lib.hid hb
  have HG := Lib.hid hG
  have HAG := Lib.hid HA
  unfold AggC agV at HAG
  clear h hL hT hl hr ho hb hG HA
  unfold liV at *
  generalize Pr.lacks k a op le re fn av of body.length = lk at *
  rw [hW] at hlen ⊢
  clear hW
  go_enter Tryd.func27, Tryd.ntmps27
  go_upto_region 1 with fail
  generalize w.alloc (Obj.cells #[Value.int IntKind.i64 k, Value.string a.rel, (Value.slice ta a.terms.length tc), Value.int IntKind.i64 op, Value.int IntKind.i64 le.k, Value.string le.v, Value.int IntKind.i64 le.x.k, Value.int IntKind.i64 le.x.n, Value.string (Lx.ofS le.x.s), Value.int IntKind.i64 le.op, (Value.slice la le.args.length lc), Value.int IntKind.i64 re.k, Value.string re.v, Value.int IntKind.i64 re.x.k, Value.int IntKind.i64 re.x.n, Value.string (Lx.ofS re.x.s), Value.int IntKind.i64 re.op, (Value.slice ra re.args.length rc), Value.int IntKind.i64 fn, Value.string av, Value.int IntKind.i64 of.k, Value.string of.v, Value.int IntKind.i64 of.x.k, Value.int IntKind.i64 of.x.n, Value.string (Lx.ofS of.x.s), Value.int IntKind.i64 of.op, (Value.slice oa of.args.length oc), (Value.slice ba body.length bc), Value.int IntKind.i64 ln, Value.int IntKind.i64 cl] 48) = wA at *
  have XR := CellsAt.range (cs := [Value.int IntKind.i64 k, Value.string a.rel, (Value.slice ta a.terms.length tc), Value.int IntKind.i64 op, Value.int IntKind.i64 le.k, Value.string le.v, Value.int IntKind.i64 le.x.k, Value.int IntKind.i64 le.x.n, Value.string (Lx.ofS le.x.s), Value.int IntKind.i64 le.op, (Value.slice la le.args.length lc), Value.int IntKind.i64 re.k, Value.string re.v, Value.int IntKind.i64 re.x.k, Value.int IntKind.i64 re.x.n, Value.string (Lx.ofS re.x.s), Value.int IntKind.i64 re.op, (Value.slice ra re.args.length rc), Value.int IntKind.i64 fn, Value.string av, Value.int IntKind.i64 of.k, Value.string of.v, Value.int IntKind.i64 of.x.k, Value.int IntKind.i64 of.x.n, Value.string (Lx.ofS of.x.s), Value.int IntKind.i64 of.op, (Value.slice oa of.args.length oc), (Value.slice ba body.length bc), Value.int IntKind.i64 ln, Value.int IntKind.i64 cl]) XA.out
  go_wp2_with (refine wpList_load_mid rfl 48 _ rfl w.heap.size 0 rfl _ _ XR Tryd.underlying48 rfl (by kernel_rfl) ?_)
  refine (HLK.out _).mono ?_
  rintro e1 w1 ⟨rfl, m1⟩
  have R1 := Lib.hid (RA.out.new m1)
  have X1 := Lib.hid (XA.out.past m1)
  clear m1 HLK XR XA
  go_wp2_with fail
  refine (R1.out.must lk).mono ?_
  rintro e2 w2 ⟨rfl, r2, k2⟩
  have R2 := Lib.hid (r2.of (cat_nil _) (Nat.le_refl _))
  have X2 := Lib.hid (X1.out.kept k2 (by simp))
  clear k2 r2 X1
  have c0 : w2.cell? ⟨w.heap.size, 0, none⟩ = some (.int .i64 k) := X2.out.zero 0 _ rfl
  have c1 : w2.cell? ⟨w.heap.size, 1, none⟩ = some (.string a.rel) := X2.out.zero 1 _ rfl
  have c2 : w2.cell? ⟨w.heap.size, 2, none⟩ = some ((.slice ta a.terms.length tc)) := X2.out.zero 2 _ rfl
  have c3 : w2.cell? ⟨w.heap.size, 3, none⟩ = some (.int .i64 op) := X2.out.zero 3 _ rfl
  have c4 : w2.cell? ⟨w.heap.size, 4, none⟩ = some (.int .i64 le.k) := X2.out.zero 4 _ rfl
  have c5 : w2.cell? ⟨w.heap.size, 5, none⟩ = some (.string le.v) := X2.out.zero 5 _ rfl
  have c6 : w2.cell? ⟨w.heap.size, 6, none⟩ = some (.int .i64 le.x.k) := X2.out.zero 6 _ rfl
  have c7 : w2.cell? ⟨w.heap.size, 7, none⟩ = some (.int .i64 le.x.n) := X2.out.zero 7 _ rfl
  have c8 : w2.cell? ⟨w.heap.size, 8, none⟩ = some (.string (Lx.ofS le.x.s)) := X2.out.zero 8 _ rfl
  have c9 : w2.cell? ⟨w.heap.size, 9, none⟩ = some (.int .i64 le.op) := X2.out.zero 9 _ rfl
  have c10 : w2.cell? ⟨w.heap.size, 10, none⟩ = some ((.slice la le.args.length lc)) := X2.out.zero 10 _ rfl
  have c11 : w2.cell? ⟨w.heap.size, 11, none⟩ = some (.int .i64 re.k) := X2.out.zero 11 _ rfl
  have c12 : w2.cell? ⟨w.heap.size, 12, none⟩ = some (.string re.v) := X2.out.zero 12 _ rfl
  have c13 : w2.cell? ⟨w.heap.size, 13, none⟩ = some (.int .i64 re.x.k) := X2.out.zero 13 _ rfl
  have c14 : w2.cell? ⟨w.heap.size, 14, none⟩ = some (.int .i64 re.x.n) := X2.out.zero 14 _ rfl
  have c15 : w2.cell? ⟨w.heap.size, 15, none⟩ = some (.string (Lx.ofS re.x.s)) := X2.out.zero 15 _ rfl
  have c16 : w2.cell? ⟨w.heap.size, 16, none⟩ = some (.int .i64 re.op) := X2.out.zero 16 _ rfl
  have c17 : w2.cell? ⟨w.heap.size, 17, none⟩ = some ((.slice ra re.args.length rc)) := X2.out.zero 17 _ rfl
  have c18 : w2.cell? ⟨w.heap.size, 18, none⟩ = some (.int .i64 fn) := X2.out.zero 18 _ rfl
  have c19 : w2.cell? ⟨w.heap.size, 19, none⟩ = some (.string av) := X2.out.zero 19 _ rfl
  have c20 : w2.cell? ⟨w.heap.size, 20, none⟩ = some (.int .i64 of.k) := X2.out.zero 20 _ rfl
  have c21 : w2.cell? ⟨w.heap.size, 21, none⟩ = some (.string of.v) := X2.out.zero 21 _ rfl
  have c22 : w2.cell? ⟨w.heap.size, 22, none⟩ = some (.int .i64 of.x.k) := X2.out.zero 22 _ rfl
  have c23 : w2.cell? ⟨w.heap.size, 23, none⟩ = some (.int .i64 of.x.n) := X2.out.zero 23 _ rfl
  have c24 : w2.cell? ⟨w.heap.size, 24, none⟩ = some (.string (Lx.ofS of.x.s)) := X2.out.zero 24 _ rfl
  have c25 : w2.cell? ⟨w.heap.size, 25, none⟩ = some (.int .i64 of.op) := X2.out.zero 25 _ rfl
  have c26 : w2.cell? ⟨w.heap.size, 26, none⟩ = some ((.slice oa of.args.length oc)) := X2.out.zero 26 _ rfl
  have c27 : w2.cell? ⟨w.heap.size, 27, none⟩ = some ((.slice ba body.length bc)) := X2.out.zero 27 _ rfl
  have c28 : w2.cell? ⟨w.heap.size, 28, none⟩ = some (.int .i64 ln) := X2.out.zero 28 _ rfl
  have c29 : w2.cell? ⟨w.heap.size, 29, none⟩ = some (.int .i64 cl) := X2.out.zero 29 _ rfl
  by_cases k1 : k = 1
  · subst k1
    go_wp2_with fail
    refine (R2.out.atom a _ HT.out HG.out (by omega)).mono ?_
    rintro e3 w3 ⟨rfl, r3, k3⟩
    have R3 := Lib.hid r3
    clear r3 k3
    go_wp2_with fail
    go_end0
    exact (R3.out.of (by rw [tail1]) (by omega)).done
  · by_cases k2 : k = 2
    · subst k2
      clear k1
      go_wp2_with fail
      refine (R2.out.put [{ data := #[110, 111, 116, 32] }] rfl rfl (by simp) (by rw [fl_len]; show _ + (4 + 0) ≤ _; omega)).mono ?_
      rintro e3 w3 ⟨rfl, r3, k3⟩
      have R3 := Lib.hid (r3.of (o' := cat (mustO lk) (some [110, 111, 116, 32])) (n' := 4) rfl (by rw [fl_len]; exact Nat.le_of_eq rfl))
      have c1 := k3.cell c1 (by simp); have c2 := k3.cell c2 (by simp)
      clear r3 k3
      go_wp2_with fail
      refine (R3.out.atom a _ HT.out HG.out (by omega)).mono ?_
      rintro e4 w4 ⟨rfl, r4, k4⟩
      have R4 := Lib.hid r4
      clear r4 k4
      go_wp2_with fail
      go_end0
      exact (R4.out.of (by rw [cat_assoc, tail2]) (by omega)).done
    · by_cases k3 : k = 3
      · subst k3
        clear k1 k2
        have M3 := Lib.hid ((Mod.refl [] w2).alloc (Obj.cells #[Value.string { data := #[] }, Value.string { data := #[32, 61, 32] }, Value.string { data := #[32, 33, 61, 32] }, Value.string { data := #[32, 60, 32] }, Value.string { data := #[32, 60, 61, 32] }, Value.string { data := #[32, 62, 32] }, Value.string { data := #[32, 62, 61, 32] }] 97))
        have R3 := Lib.hid (R2.out.fresh M3.out (by simp))
        have hcell := heap_alloc_new w2 (Obj.cells #[Value.string { data := #[] }, Value.string { data := #[32, 61, 32] }, Value.string { data := #[32, 33, 61, 32] }, Value.string { data := #[32, 60, 32] }, Value.string { data := #[32, 60, 61, 32] }, Value.string { data := #[32, 62, 32] }, Value.string { data := #[32, 62, 61, 32] }] 97)
        have HSG : Hid (∀ n : Nat, 1 ≤ n → n ≤ 6 → (w2.alloc (Obj.cells #[Value.string { data := #[] }, Value.string { data := #[32, 61, 32] }, Value.string { data := #[32, 33, 61, 32] }, Value.string { data := #[32, 60, 32] }, Value.string { data := #[32, 60, 61, 32] }, Value.string { data := #[32, 62, 32] }, Value.string { data := #[32, 62, 61, 32] }] 97)).cell? ⟨w2.heap.size, n, none⟩ = some (.string (cmpS n))) := Lib.hid (fun n h1 h2 => by
          have : n = 1 ∨ n = 2 ∨ n = 3 ∨ n = 4 ∨ n = 5 ∨ n = 6 := by omega
          rcases this with rfl | rfl | rfl | rfl | rfl | rfl <;> simp only [World.cell?, hcell] <;> rfl)
        clear hcell
        have c3 := M3.out.cell c3 (by simp)
        have c4 := M3.out.cell c4 (by simp)
        have c5 := M3.out.cell c5 (by simp)
        have c6 := M3.out.cell c6 (by simp)
        have c7 := M3.out.cell c7 (by simp)
        have c8 := M3.out.cell c8 (by simp)
        have c9 := M3.out.cell c9 (by simp)
        have c10 := M3.out.cell c10 (by simp)
        have c11 := M3.out.cell c11 (by simp)
        have c12 := M3.out.cell c12 (by simp)
        have c13 := M3.out.cell c13 (by simp)
        have c14 := M3.out.cell c14 (by simp)
        have c15 := M3.out.cell c15 (by simp)
        have c16 := M3.out.cell c16 (by simp)
        have c17 := M3.out.cell c17 (by simp)
        go_upto_region 10 with fail
        generalize w2.alloc (Obj.cells #[Value.string { data := #[] }, Value.string { data := #[32, 61, 32] }, Value.string { data := #[32, 33, 61, 32] }, Value.string { data := #[32, 60, 32] }, Value.string { data := #[32, 60, 61, 32] }, Value.string { data := #[32, 62, 32] }, Value.string { data := #[32, 62, 61, 32] }] 97) = w3 at *
        clear M3
        go_wp2_with fail
        refine (R3.out.expr le _ HE1.out HG.out (by omega)).mono ?_
        rintro e4 w4 ⟨rfl, r4, k4⟩
        have R4 := Lib.hid r4
        have HS4 : Hid (∀ n : Nat, 1 ≤ n → n ≤ 6 → w4.cell? ⟨w2.heap.size, n, none⟩ = some (.string (cmpS n))) := Lib.hid (fun n h1 h2 => k4.cell (HSG.out n h1 h2) (by simp))
        have c3 := k4.cell c3 (by simp)
        have c11 := k4.cell c11 (by simp)
        have c12 := k4.cell c12 (by simp)
        have c13 := k4.cell c13 (by simp)
        have c14 := k4.cell c14 (by simp)
        have c15 := k4.cell c15 (by simp)
        have c16 := k4.cell c16 (by simp)
        have c17 := k4.cell c17 (by simp)
        clear r4 k4 HSG c4 c5 c6 c7 c8 c9 c10
        by_cases ho : 1 ≤ op ∧ op ≤ 6
        · obtain ⟨sg, hsg⟩ : ∃ sg, cmpS op = sg := ⟨_, rfl⟩
          have HSZ : Hid (sg.size ≤ 4) := Lib.hid (hsg ▸ cmpS_len op)
          have HCO : Hid (cmpO op = some (Cod.str sg)) := Lib.hid (by unfold cmpO; rw [if_pos ho, ← hsg, cmpS_str])
          have s0 : w4.cell? ⟨w2.heap.size, op.toNat, none⟩ = some (.string sg) := by
            rw [← hsg]
            have := HS4.out op.toNat (by omega) (by omega)
            rwa [Int.toNat_of_nonneg (by omega)] at this
          clear hsg
          have hop : op = 1 ∨ op = 2 ∨ op = 3 ∨ op = 4 ∨ op = 5 ∨ op = 6 := by omega
          clear ho
          rcases hop with rfl | rfl | rfl | rfl | rfl | rfl
          all_goals (
            simp only [show Int.toNat 1 = 1 from rfl, show Int.toNat 2 = 2 from rfl, show Int.toNat 3 = 3 from rfl, show Int.toNat 4 = 4 from rfl, show Int.toNat 5 = 5 from rfl, show Int.toNat 6 = 6 from rfl] at s0
            go_wp2_with fail
            refine (R4.out.put [sg] rfl rfl (by simp) (by rw [fl_len]; show _ + (sg.size + 0) ≤ _; have := HSZ.out; omega)).mono ?_
            rintro e5 w5 ⟨rfl, r5, k5⟩
            have R5 := Lib.hid (r5.of (o' := cat (cat (mustO lk) (Pr.pE 17 le)) (some (Cod.str sg))) (n' := exWt le + 4) (by simp) (by rw [fl_len]; show _ + (sg.size + 0) ≤ _; have := HSZ.out; omega))
            have c11 := k5.cell c11 (by simp)
            have c12 := k5.cell c12 (by simp)
            have c13 := k5.cell c13 (by simp)
            have c14 := k5.cell c14 (by simp)
            have c15 := k5.cell c15 (by simp)
            have c16 := k5.cell c16 (by simp)
            have c17 := k5.cell c17 (by simp)
            clear r5 k5
            go_wp2_with fail
            refine (R5.out.expr re _ HE2.out HG.out (by omega)).mono ?_
            rintro e6 w6 ⟨rfl, r6, k6⟩
            have R6 := Lib.hid r6
            clear r6 k6
            go_wp2_with fail
            go_end0
            exact (R6.out.of (by rw [tail3, HCO.out]; simp only [cat_assoc]) (by omega)).done)
        · have HCO : Hid (cmpO op = none) := Lib.hid (by unfold cmpO; rw [if_neg ho])
          obtain ⟨q', v', bad', g0, g1, g2, g3, fz, -, -⟩ := R4.out.cells
          have HS := Lib.hid (R4.out.setBad (cat (mustO lk) (tailO b 3 a op le re fn av of body)) (.inl (by rw [tail3, HCO.out]; simp)))
          by_cases h1 : op < 1
          · clear ho
            go_wp2_with fail
            go_end0
            exact (HS.out.1.of rfl (by omega)).done
          · have h2 : 7 ≤ op := by omega
            clear ho
            go_wp2_with fail
            go_end0
            exact (HS.out.1.of rfl (by omega)).done
      · by_cases k4 : k = 4
        · subst k4
          clear k1 k2 k3
          go_wp2_with fail
          refine (R2.out.call (Nat.le_refl _) (fun q v l' bad h hl => HAG.out fn av of body _ _ p q v l' bad _ h HEO.out HB.out HG.out (by omega))).mono ?_
          rintro e3 w3 ⟨rfl, r3, k3⟩
          have R3 := Lib.hid r3
          clear r3 k3
          go_wp2_with fail
          go_end0
          exact (R3.out.of (by rw [tail4]) (by omega)).done
        · have k1B : (k == 1) = false := by rw [beq_eq_false_iff_ne]; exact k1
          have k2B : (k == 2) = false := by rw [beq_eq_false_iff_ne]; exact k2
          have k3B : (k == 3) = false := by rw [beq_eq_false_iff_ne]; exact k3
          have k4B : (k == 4) = false := by rw [beq_eq_false_iff_ne]; exact k4
          obtain ⟨q', v', bad', g0, g1, g2, g3, fz, -, -⟩ := R2.out.cells
          have HS := Lib.hid (R2.out.setBad (cat (mustO lk) (tailO b k a op le re fn av of body)) (.inl (by rw [tailN _ _ _ _ _ _ _ _ _ k1 k2 k3 k4]; simp)))
          clear k1 k2 k3 k4
          go_wp2_with fail
          go_end0
          exact (HS.out.1.of rfl (by omega)).done
end Go.Proofs.YtbmmdficdeakfaaDoor
