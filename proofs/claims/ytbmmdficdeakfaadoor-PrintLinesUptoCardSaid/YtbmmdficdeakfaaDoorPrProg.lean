/- THE WRITER's entries: Rule, Atom, Expr. -/
import Derived.Test.YtbmmdficdeakfaaDoorPrRule
namespace Go.Proofs.YtbmmdficdeakfaaDoor
open Go.RowKit
set_option linter.unusedVariables false
set_option linter.unusedSimpArgs false
set_option maxRecDepth 100000

theorem fresh_at {w0 w1 : World} (m : Mod [] w0 w1) : WAt w0 (w1.alloc (Obj.cells #[.pointer none, .slice none 0 0, .bool false, .int .i64 0] 70)) w1.heap.size (.pointer none) (.slice none 0 0) [] false 0 :=
  ⟨⟨heap_alloc_new _ _, .inl rfl, World.ownsRow_nil _ _ _ _, by simp [fp], by simp, fun _ => rfl⟩, m.alloc _, m.size, by simp [fp]⟩
def tv (o : Option (List Nat)) : Value := match o with
  | some t => .tuple #[.string (Lx.ofS t), .int .i64 0]
  | none => .tuple #[.string { data := #[] }, .int .i64 50]
/-- what an entry answers -/
def Told (o : Option (List Nat)) (n : Nat) (w : World) (e : Ending) (w' : World) : Prop := e = .returned (tv o) ∧ Mod [] w w' ∧ ∀ t, o = some t → t.length ≤ n
section
variable {w0 w w' : World} {p : Nat} {q v v0 : Value} {l l0 : List Nat} {bad b0 : Bool} {br br' : Int} {B : List Nat} {o o2 : Option (List Nat)} {n n2 : Nat}
theorem Run.startB (h : WAt w0 w p q (.slice none 0 0) l bad br) (hB : ∀ b ∈ B, b ≠ p ∧ b < w.heap.size) : Run w0 w p (.slice none 0 0) l bad br br B (some []) 0 w :=
  ⟨q, _, l, bad, h, WMod.refl _ _ _, ⟨by omega, fun h => h, fun h => ⟨h, fun x hx => by cases hx; simp⟩⟩, fun b hb => ⟨(hB b hb).1, by simp [fp], (hB b hb).2⟩, Nat.le_refl _⟩
theorem Run.told (H : Run w0 w p v0 [] false br br' B o n w') (hn : n ≤ 140737488000000) :
    Calls Tryd.prog 26 #[.pointer (some ⟨p, 0, none⟩)] w' (Told o n w0) := by
  obtain ⟨q, v, l, bad, h, hm, hr, hB, hz⟩ := H.ex
  obtain ⟨h1, -, h3⟩ := hr
  obtain ⟨h3, h4⟩ := h3 rfl
  rw [List.length_nil, Nat.zero_add] at h1
  refine (told_any p q v l bad br' w' h.wr (by omega)).mono ?_
  rintro e w2 ⟨rfl, m2⟩
  refine ⟨?_, h.base.trans m2 (fun t ht => .inr (h.hv t ht)), fun t ht => ?_⟩
  · cases o with
    | none => rw [h3]; rfl
    | some t =>
      have := h4 t rfl
      rw [List.nil_append] at this
      rw [h3, this]; rfl
  · have := h4 t ht
    rw [List.nil_append] at this
    rw [← this]
    exact h1
end
theorem Mod.loose {w w' : World} (h : Mod [] w w') : Mod [] w w' := h
set_option maxHeartbeats 2000000 in
theorem Rule_any (r : Pr.Rul) (tu ub : Value) (w : World) (hT : TOk w r.head.terms tu) (hB : BOk w r.body ub) (hG : GlobV w) (hlen : rWt r ≤ 140737488000000) :
    Calls Tryd.prog 7 #[.agg (ruV r tu ub)] w (Told (Pr.pR r) (rWt r) w) := by
  have HC := Lib.hid (fun p q v l bad w' h hl => rule_any w r tu ub p q v l bad w' h hT hB hG hl)
  obtain ⟨ta, tc, rfl⟩ := hT.lit
  obtain ⟨ba, bc, rfl⟩ := hB.lit
  clear hT hB hG
  obtain ⟨⟨rel, ts⟩, body, ln, cl⟩ := r
  unfold ruV at *
  dsimp only at *
  generalize Pr.pR ⟨⟨rel, ts⟩, body, ln, cl⟩ = o at *
  generalize rWt ⟨⟨rel, ts⟩, body, ln, cl⟩ = n at *
  have MA := Lib.hid ((Mod.refl [] w).alloc (Obj.cells #[.string rel, .slice ta ts.length tc, .slice ba body.length bc, .int .i64 ln, .int .i64 cl] 38))
  have XA : Hid (CellsAt _ w.heap.size 0 #[.string rel, .slice ta ts.length tc, .slice ba body.length bc, .int .i64 ln, .int .i64 cl]) := Lib.hid (CellsAt.of (heap_alloc_new w (Obj.cells #[.string rel, .slice ta ts.length tc, .slice ba body.length bc, .int .i64 ln, .int .i64 cl] 38)))
  have hsz : Hid (w.heap.size < (w.alloc (Obj.cells #[.string rel, .slice ta ts.length tc, .slice ba body.length bc, .int .i64 ln, .int .i64 cl] 38)).heap.size) := Lib.hid (by simp)
  go_enter Tryd.func7, Tryd.ntmps7
  go_upto_region 1 with fail
  generalize w.alloc (Obj.cells #[Value.string rel, Value.slice ta ts.length tc, Value.slice ba body.length bc, Value.int IntKind.i64 ln, Value.int IntKind.i64 cl] 38) = wA at *
  have R0 := Lib.hid (Run.startB (B := [w.heap.size]) (fresh_at MA.out) (by simp; have := hsz.out; omega))
  have X0 := Lib.hid (XA.out.past ((Mod.refl [] wA).alloc (Obj.cells #[.pointer none, .slice none 0 0, .bool false, .int .i64 0] 70)))
  go_upto_region 2 with fail
  generalize wA.alloc (Obj.cells #[Value.pointer none, Value.slice none 0 0, Value.bool false, Value.int IntKind.i64 0] 70) = wS at *
  have c0 : wS.cell? ⟨w.heap.size, 0, none⟩ = some (.string rel) := X0.out.zero 0 _ rfl
  have c1 : wS.cell? ⟨w.heap.size, 1, none⟩ = some (.slice ta ts.length tc) := X0.out.zero 1 _ rfl
  have c2 : wS.cell? ⟨w.heap.size, 2, none⟩ = some (.slice ba body.length bc) := X0.out.zero 2 _ rfl
  have c3 : wS.cell? ⟨w.heap.size, 3, none⟩ = some (.int .i64 ln) := X0.out.zero 3 _ rfl
  have c4 : wS.cell? ⟨w.heap.size, 4, none⟩ = some (.int .i64 cl) := X0.out.zero 4 _ rfl
  go_wp2_with fail
  refine (R0.out.call (Nat.le_refl _) (fun q v l' bad h hl => HC.out _ q v l' bad _ h (by simp at hl; rw [hl]; simpa using hlen))).mono ?_
  rintro e1 w1 ⟨rfl, r1, k1⟩
  have R1 := Lib.hid (r1.of (cat_nil _) (Nat.le_of_eq (Nat.zero_add _)))
  clear r1 k1 c0 c1 c2 c3 c4
  go_wp2_with fail
  refine (R1.out.told hlen).mono ?_
  rintro e2 w2 ⟨rfl, m2, hl2⟩
  have M2 := Lib.hid m2
  have HL2 := Lib.hid hl2
  clear m2 hl2
  cases o
  all_goals (
    unfold tv
    go_wp2_with fail
    go_ret2
    exact ⟨rfl, M2.out, HL2.out⟩)
/- printed from here on: wip/gen_prog.py -/
set_option maxHeartbeats 2000000 in
theorem Atom_any (a : Pr.Atom) (tu : Value) (w : World) (hT : TOk w a.terms tu) (hG : GlobV w) (hlen : aWt a ≤ 140737488000000) :
    Calls Tryd.prog 12 #[.agg (#[.string a.rel, tu])] w (Told (Pr.pA a) (aWt a) w) := by
  have HC := Lib.hid (fun p q v l bad w' h hl => atom_any w a tu p q v l bad 0 w' h hT hG hl)
  obtain ⟨ta, tc, rfl⟩ := hT.lit
  clear hT
  clear hG
  generalize Pr.pA a = o at *
  generalize aWt a = n at *
  have MA := Lib.hid ((Mod.refl [] w).alloc (Obj.cells #[.string a.rel, .slice ta a.terms.length tc] 33))
  have XA : Hid (CellsAt _ w.heap.size 0 #[.string a.rel, .slice ta a.terms.length tc]) := Lib.hid (CellsAt.of (heap_alloc_new w (Obj.cells #[.string a.rel, .slice ta a.terms.length tc] 33)))
  have hsz : Hid (w.heap.size < (w.alloc (Obj.cells #[.string a.rel, .slice ta a.terms.length tc] 33)).heap.size) := Lib.hid (by simp)
  go_enter Tryd.func12, Tryd.ntmps12
  go_upto_region 1 with fail
  generalize w.alloc (Obj.cells #[Value.string a.rel, Value.slice ta a.terms.length tc] 33) = wA at *
  have R0 := Lib.hid (Run.startB (B := [w.heap.size]) (fresh_at MA.out) (by simp; have := hsz.out; omega))
  have X0 := Lib.hid (XA.out.past ((Mod.refl [] wA).alloc (Obj.cells #[.pointer none, .slice none 0 0, .bool false, .int .i64 0] 70)))
  go_upto_region 2 with fail
  generalize wA.alloc (Obj.cells #[Value.pointer none, Value.slice none 0 0, Value.bool false, Value.int IntKind.i64 0] 70) = wS at *
  have c0 : wS.cell? ⟨w.heap.size, 0, none⟩ = some (.string a.rel) := X0.out.zero 0 _ rfl
  have c1 : wS.cell? ⟨w.heap.size, 1, none⟩ = some (.slice ta a.terms.length tc) := X0.out.zero 1 _ rfl
  go_wp2_with fail
  refine (R0.out.call (Nat.le_refl _) (fun q v l' bad h hl => HC.out _ q v l' bad _ h (by simp at hl; rw [hl]; simp; omega))).mono ?_
  rintro e1 w1 ⟨rfl, r1, k1⟩
  have R1 := Lib.hid (r1.of (cat_nil _) (Nat.le_of_eq (Nat.zero_add _)))
  clear r1 k1 c0 c1
  go_wp2_with fail
  refine (R1.out.told (by omega)).mono ?_
  rintro e2 w2 ⟨rfl, m2, hl2⟩
  have M2 := Lib.hid m2
  have HL2 := Lib.hid hl2
  clear m2 hl2
  cases o
  all_goals (
    unfold tv
    go_wp2_with fail
    go_ret2
    exact ⟨rfl, M2.out, HL2.out⟩)
set_option maxHeartbeats 2000000 in
theorem Expr_any (e : Pr.Ex) (u : Value) (w : World) (hE : EOk w e u) (hG : GlobV w) (hlen : exWt e ≤ 140737488000000) :
    Calls Tryd.prog 13 #[.agg (exV e u)] w (Told (Pr.pE 17 e) (exWt e) w) := by
  have HC := Lib.hid (fun p q v l bad w' h hl => (expr_all w 17 (by omega)).1 e u p q v l bad 0 w' h hE hG hl)
  obtain ⟨ea, ec, rfl⟩ := hE.lit
  clear hE
  clear hG
  have hd : (((17 : Nat) : Int) - 1) = 16 := by omega
  rw [hd] at HC
  clear hd
  unfold exV at *
  generalize Pr.pE 17 e = o at *
  generalize exWt e = n at *
  have MA := Lib.hid ((Mod.refl [] w).alloc (Obj.cells #[.int .i64 e.k, .string e.v, .int .i64 e.x.k, .int .i64 e.x.n, .string (Lx.ofS e.x.s), .int .i64 e.op, .slice ea e.args.length ec] 44))
  have XA : Hid (CellsAt _ w.heap.size 0 #[.int .i64 e.k, .string e.v, .int .i64 e.x.k, .int .i64 e.x.n, .string (Lx.ofS e.x.s), .int .i64 e.op, .slice ea e.args.length ec]) := Lib.hid (CellsAt.of (heap_alloc_new w (Obj.cells #[.int .i64 e.k, .string e.v, .int .i64 e.x.k, .int .i64 e.x.n, .string (Lx.ofS e.x.s), .int .i64 e.op, .slice ea e.args.length ec] 44)))
  have hsz : Hid (w.heap.size < (w.alloc (Obj.cells #[.int .i64 e.k, .string e.v, .int .i64 e.x.k, .int .i64 e.x.n, .string (Lx.ofS e.x.s), .int .i64 e.op, .slice ea e.args.length ec] 44)).heap.size) := Lib.hid (by simp)
  go_enter Tryd.func13, Tryd.ntmps13
  go_upto_region 1 with fail
  generalize w.alloc (Obj.cells #[Value.int IntKind.i64 e.k, Value.string e.v, Value.int IntKind.i64 e.x.k, Value.int IntKind.i64 e.x.n, Value.string (Lx.ofS e.x.s), Value.int IntKind.i64 e.op, Value.slice ea e.args.length ec] 44) = wA at *
  have R0 := Lib.hid (Run.startB (B := [w.heap.size]) (fresh_at MA.out) (by simp; have := hsz.out; omega))
  have X0 := Lib.hid (XA.out.past ((Mod.refl [] wA).alloc (Obj.cells #[.pointer none, .slice none 0 0, .bool false, .int .i64 0] 70)))
  go_upto_region 2 with fail
  generalize wA.alloc (Obj.cells #[Value.pointer none, Value.slice none 0 0, Value.bool false, Value.int IntKind.i64 0] 70) = wS at *
  have c0 : wS.cell? ⟨w.heap.size, 0, none⟩ = some (.int .i64 e.k) := X0.out.zero 0 _ rfl
  have c1 : wS.cell? ⟨w.heap.size, 1, none⟩ = some (.string e.v) := X0.out.zero 1 _ rfl
  have c2 : wS.cell? ⟨w.heap.size, 2, none⟩ = some (.int .i64 e.x.k) := X0.out.zero 2 _ rfl
  have c3 : wS.cell? ⟨w.heap.size, 3, none⟩ = some (.int .i64 e.x.n) := X0.out.zero 3 _ rfl
  have c4 : wS.cell? ⟨w.heap.size, 4, none⟩ = some (.string (Lx.ofS e.x.s)) := X0.out.zero 4 _ rfl
  have c5 : wS.cell? ⟨w.heap.size, 5, none⟩ = some (.int .i64 e.op) := X0.out.zero 5 _ rfl
  have c6 : wS.cell? ⟨w.heap.size, 6, none⟩ = some (.slice ea e.args.length ec) := X0.out.zero 6 _ rfl
  go_wp2_with fail
  refine (R0.out.call (Nat.le_refl _) (fun q v l' bad h hl => HC.out _ q v l' bad _ h (by simp at hl; rw [hl]; simp; omega))).mono ?_
  rintro e1 w1 ⟨rfl, r1, k1⟩
  have R1 := Lib.hid (r1.of (cat_nil _) (Nat.le_of_eq (Nat.zero_add _)))
  clear r1 k1 c0 c1 c2 c3 c4 c5 c6
  go_wp2_with fail
  refine (R1.out.told (by omega)).mono ?_
  rintro e2 w2 ⟨rfl, m2, hl2⟩
  have M2 := Lib.hid m2
  have HL2 := Lib.hid hl2
  clear m2 hl2
  cases o
  all_goals (
    unfold tv
    go_wp2_with fail
    go_ret2
    exact ⟨rfl, M2.out, HL2.out⟩)
set_option maxHeartbeats 2000000 in
theorem Literal_any (k : Int) (a : Pr.Atom) (op : Int) (le re : Pr.Ex) (fn : Int) (av : ByteArray) (of : Pr.Ex) (body : List Pr.Li) (ln cl : Int) (Ut Ul Ur Uo Ub : Value) (w : World) (hL : LOk w (.mk k a op le re fn av of body ln cl) ⟨Ut, Ul, Ur, Uo, Ub⟩) (hG : GlobV w) (hlen : lWt (.mk k a op le re fn av of body ln cl) - 100 ≤ 140737488000000) :
    Calls Tryd.prog 11 #[.agg (liV (.mk k a op le re fn av of body ln cl) ⟨Ut, Ul, Ur, Uo, Ub⟩)] w (Told (Pr.pL 16 (.mk k a op le re fn av of body ln cl)) (lWt (.mk k a op le re fn av of body ln cl) - 100) w) := by
  have HC := Lib.hid (fun p q v l bad w' (h : WAt w w' p q v l bad 0) hl => (lits_all w 16 (Nat.le_refl _)).1 (.mk k a op le re fn av of body ln cl) ⟨Ut, Ul, Ur, Uo, Ub⟩ p q v l bad w' h hL hG hl)
  obtain ⟨hT, hl, hr, ho, hb⟩ := hL.parts
  dsimp only at hT hl hr ho hb
  obtain ⟨ta, tc, rfl⟩ := hT.lit
  obtain ⟨la, lc, rfl⟩ := hl.lit
  obtain ⟨ra, rc, rfl⟩ := hr.lit
  obtain ⟨oa, oc, rfl⟩ := ho.lit
  obtain ⟨ba, bc, rfl⟩ := hb.lit
  clear hT hl hr ho hb hL
  clear hG
  have h0 : (16 - ((16 : Nat) : Int)) = 0 := by omega
  rw [h0] at HC
  clear h0
  unfold liV at *
  generalize Pr.pL 16 (.mk k a op le re fn av of body ln cl) = o at *
  generalize lWt (.mk k a op le re fn av of body ln cl) - 100 = n at *
  have MA := Lib.hid ((Mod.refl [] w).alloc (Obj.cells #[.int .i64 k, .string a.rel, .slice ta a.terms.length tc, .int .i64 op, .int .i64 le.k, .string le.v, .int .i64 le.x.k, .int .i64 le.x.n, .string (Lx.ofS le.x.s), .int .i64 le.op, .slice la le.args.length lc, .int .i64 re.k, .string re.v, .int .i64 re.x.k, .int .i64 re.x.n, .string (Lx.ofS re.x.s), .int .i64 re.op, .slice ra re.args.length rc, .int .i64 fn, .string av, .int .i64 of.k, .string of.v, .int .i64 of.x.k, .int .i64 of.x.n, .string (Lx.ofS of.x.s), .int .i64 of.op, .slice oa of.args.length oc, .slice ba body.length bc, .int .i64 ln, .int .i64 cl] 48))
  have XA : Hid (CellsAt _ w.heap.size 0 #[.int .i64 k, .string a.rel, .slice ta a.terms.length tc, .int .i64 op, .int .i64 le.k, .string le.v, .int .i64 le.x.k, .int .i64 le.x.n, .string (Lx.ofS le.x.s), .int .i64 le.op, .slice la le.args.length lc, .int .i64 re.k, .string re.v, .int .i64 re.x.k, .int .i64 re.x.n, .string (Lx.ofS re.x.s), .int .i64 re.op, .slice ra re.args.length rc, .int .i64 fn, .string av, .int .i64 of.k, .string of.v, .int .i64 of.x.k, .int .i64 of.x.n, .string (Lx.ofS of.x.s), .int .i64 of.op, .slice oa of.args.length oc, .slice ba body.length bc, .int .i64 ln, .int .i64 cl]) := Lib.hid (CellsAt.of (heap_alloc_new w (Obj.cells #[.int .i64 k, .string a.rel, .slice ta a.terms.length tc, .int .i64 op, .int .i64 le.k, .string le.v, .int .i64 le.x.k, .int .i64 le.x.n, .string (Lx.ofS le.x.s), .int .i64 le.op, .slice la le.args.length lc, .int .i64 re.k, .string re.v, .int .i64 re.x.k, .int .i64 re.x.n, .string (Lx.ofS re.x.s), .int .i64 re.op, .slice ra re.args.length rc, .int .i64 fn, .string av, .int .i64 of.k, .string of.v, .int .i64 of.x.k, .int .i64 of.x.n, .string (Lx.ofS of.x.s), .int .i64 of.op, .slice oa of.args.length oc, .slice ba body.length bc, .int .i64 ln, .int .i64 cl] 48)))
  have hsz : Hid (w.heap.size < (w.alloc (Obj.cells #[.int .i64 k, .string a.rel, .slice ta a.terms.length tc, .int .i64 op, .int .i64 le.k, .string le.v, .int .i64 le.x.k, .int .i64 le.x.n, .string (Lx.ofS le.x.s), .int .i64 le.op, .slice la le.args.length lc, .int .i64 re.k, .string re.v, .int .i64 re.x.k, .int .i64 re.x.n, .string (Lx.ofS re.x.s), .int .i64 re.op, .slice ra re.args.length rc, .int .i64 fn, .string av, .int .i64 of.k, .string of.v, .int .i64 of.x.k, .int .i64 of.x.n, .string (Lx.ofS of.x.s), .int .i64 of.op, .slice oa of.args.length oc, .slice ba body.length bc, .int .i64 ln, .int .i64 cl] 48)).heap.size) := Lib.hid (by simp)
  go_enter Tryd.func11, Tryd.ntmps11
  go_upto_region 1 with fail
  generalize w.alloc (Obj.cells #[Value.int IntKind.i64 k, Value.string a.rel, Value.slice ta a.terms.length tc, Value.int IntKind.i64 op, Value.int IntKind.i64 le.k, Value.string le.v, Value.int IntKind.i64 le.x.k, Value.int IntKind.i64 le.x.n, Value.string (Lx.ofS le.x.s), Value.int IntKind.i64 le.op, Value.slice la le.args.length lc, Value.int IntKind.i64 re.k, Value.string re.v, Value.int IntKind.i64 re.x.k, Value.int IntKind.i64 re.x.n, Value.string (Lx.ofS re.x.s), Value.int IntKind.i64 re.op, Value.slice ra re.args.length rc, Value.int IntKind.i64 fn, Value.string av, Value.int IntKind.i64 of.k, Value.string of.v, Value.int IntKind.i64 of.x.k, Value.int IntKind.i64 of.x.n, Value.string (Lx.ofS of.x.s), Value.int IntKind.i64 of.op, Value.slice oa of.args.length oc, Value.slice ba body.length bc, Value.int IntKind.i64 ln, Value.int IntKind.i64 cl] 48) = wA at *
  have R0 := Lib.hid (Run.startB (B := [w.heap.size]) (fresh_at MA.out) (by simp; have := hsz.out; omega))
  have X0 := Lib.hid (XA.out.past ((Mod.refl [] wA).alloc (Obj.cells #[.pointer none, .slice none 0 0, .bool false, .int .i64 0] 70)))
  go_upto_region 2 with fail
  generalize wA.alloc (Obj.cells #[Value.pointer none, Value.slice none 0 0, Value.bool false, Value.int IntKind.i64 0] 70) = wS at *
  have XR := CellsAt.range (cs := [Value.int IntKind.i64 k, Value.string a.rel, Value.slice ta a.terms.length tc, Value.int IntKind.i64 op, Value.int IntKind.i64 le.k, Value.string le.v, Value.int IntKind.i64 le.x.k, Value.int IntKind.i64 le.x.n, Value.string (Lx.ofS le.x.s), Value.int IntKind.i64 le.op, Value.slice la le.args.length lc, Value.int IntKind.i64 re.k, Value.string re.v, Value.int IntKind.i64 re.x.k, Value.int IntKind.i64 re.x.n, Value.string (Lx.ofS re.x.s), Value.int IntKind.i64 re.op, Value.slice ra re.args.length rc, Value.int IntKind.i64 fn, Value.string av, Value.int IntKind.i64 of.k, Value.string of.v, Value.int IntKind.i64 of.x.k, Value.int IntKind.i64 of.x.n, Value.string (Lx.ofS of.x.s), Value.int IntKind.i64 of.op, Value.slice oa of.args.length oc, Value.slice ba body.length bc, Value.int IntKind.i64 ln, Value.int IntKind.i64 cl]) X0.out
  go_wp2_with (refine wpList_load_mid rfl 48 _ rfl w.heap.size 0 rfl _ _ XR Tryd.underlying48 rfl (by kernel_rfl) ?_)
  refine (R0.out.call (Nat.le_refl _) (fun q v l' bad h hl => HC.out _ q v l' bad _ h (by simp at hl; rw [hl]; simp; omega))).mono ?_
  rintro e1 w1 ⟨rfl, r1, k1⟩
  have R1 := Lib.hid (r1.of (cat_nil _) (Nat.le_of_eq (Nat.zero_add _)))
  clear r1 k1 XR
  go_wp2_with fail
  refine (R1.out.told (by omega)).mono ?_
  rintro e2 w2 ⟨rfl, m2, hl2⟩
  have M2 := Lib.hid m2
  have HL2 := Lib.hid hl2
  clear m2 hl2
  cases o
  all_goals (
    unfold tv
    go_wp2_with fail
    go_ret2
    exact ⟨rfl, M2.out, HL2.out⟩)
end Go.Proofs.YtbmmdficdeakfaaDoor
