/- ValueOrders. -/
import Derived.Test.YthdkaoegegiheaaDoorVaCmp3
import Derived.Test.YthdkaoegegiheaaDoorVaCmpRef
import Derived.Test.YthdkaoegegiheaaDoorVaWhole
namespace Go.Proofs.YthdkaoegegiheaaDoor
open Go.RowKit
set_option linter.unusedVariables false
set_option linter.unusedSimpArgs false
set_option maxRecDepth 100000

/-- four boxes: two values, two facts -/
structure OBox (w : World) (b : Nat) (x y : Va.Val) (r : ByteArray) (u : Value) (q : ByteArray) (v : Value) : Prop where
  vv : VVBox w b (b + 1) x y
  ff : FFBox w (b + 2) (b + 3) r u q v
theorem OBox.past {w w' : World} {b : Nat} {x y : Va.Val} {r : ByteArray} {u : Value} {q : ByteArray} {v : Value} (h : OBox w b x y r u q v) (hm : Mod [] w w') : OBox w' b x y r u q v := ⟨h.vv.past hm, h.ff.past hm⟩
theorem OBox.past1 {w w' : World} {b g : Nat} {x y : Va.Val} {r : ByteArray} {u : Value} {q : ByteArray} {v : Value} (h : OBox w b x y r u q v) (hm : Mod [g] w w') (hg : b + 3 < g) : OBox w' b x y r u q v :=
  ⟨⟨hm.cell h.vv.c0 (by simp; omega), hm.cell h.vv.c1 (by simp; omega), hm.cell h.vv.c2 (by simp; omega), hm.cell h.vv.d0 (by simp; omega), hm.cell h.vv.d1 (by simp; omega), hm.cell h.vv.d2 (by simp; omega)⟩,
   ⟨hm.cell h.ff.c0 (by simp; omega), hm.cell h.ff.c1 (by simp; omega), hm.cell h.ff.d0 (by simp; omega), hm.cell h.ff.d1 (by simp; omega)⟩⟩
theorem OBox.new (w : World) (x y : Va.Val) (r : ByteArray) (u : Value) (q : ByteArray) (v : Value) (T1 T2 T3 T4 : TypeId) :
    OBox ((((w.alloc (Obj.cells #[Value.int IntKind.i64 x.k, Value.int IntKind.i64 x.n, Value.string (Lx.ofS x.s)] T1)).alloc (Obj.cells #[Value.int IntKind.i64 y.k, Value.int IntKind.i64 y.n, Value.string (Lx.ofS y.s)] T2)).alloc (Obj.cells #[.string r, u] T3)).alloc (Obj.cells #[.string q, v] T4)) w.heap.size x y r u q v := by
  have h1 := VVBox.new w x y T1 T2
  have h2 := FFBox.new ((w.alloc (Obj.cells #[Value.int IntKind.i64 x.k, Value.int IntKind.i64 x.n, Value.string (Lx.ofS x.s)] T1)).alloc (Obj.cells #[Value.int IntKind.i64 y.k, Value.int IntKind.i64 y.n, Value.string (Lx.ofS y.s)] T2)) r u q v T3 T4
  have hs : ((w.alloc (Obj.cells #[Value.int IntKind.i64 x.k, Value.int IntKind.i64 x.n, Value.string (Lx.ofS x.s)] T1)).alloc (Obj.cells #[Value.int IntKind.i64 y.k, Value.int IntKind.i64 y.n, Value.string (Lx.ofS y.s)] T2)).heap.size = w.heap.size + 2 := by simp
  rw [hs] at h2
  exact ⟨h1.past (((Mod.refl [] _).alloc _).alloc _), h2⟩
theorem OBox.lt {w : World} {b : Nat} {x y : Va.Val} {r : ByteArray} {u : Value} {q : ByteArray} {v : Value} (h : OBox w b x y r u q v) : b + 3 < w.heap.size := World.block_lt_of_cell? _ _ h.ff.d0

set_option maxHeartbeats 4000000 in
theorem ValueOrders_any (x y : Va.Val) (r : ByteArray) (xs : List Va.Val) (u : Value) (q : ByteArray) (ys : List Va.Val) (v : Value) (hx : VL x) (hy : VL y)
    (hxs : ∀ x ∈ xs, VL x) (hr : r.size ≤ 140737488355327) (hl : xs.length ≤ 4398046511103) (hys : ∀ y ∈ ys, VL y) (hq : q.size ≤ 140737488355327) (hl2 : ys.length ≤ 4398046511103) (w : World) (hR : VRow w u xs) (hR2 : VRow w v ys) (hG : GlobV w) :
    Calls Tryd.prog 5 #[.agg (valV x), .agg (valV y), .agg #[.string r, u], .agg #[.string q, v]] w fun e w' => e = .returned (.bool true) ∧ Mod [] w w' := by
  obtain ⟨a, c, rfl⟩ := hR.lit
  obtain ⟨a2, c2, rfl⟩ := hR2.lit
  have HA := Lib.hid (fun w hG => awake_any w hG)
  have HL := Lib.hid (fun w h => lent_any (.slice a xs.length c) xs hl w h)
  have HL2 := Lib.hid (fun w h => lent_any (.slice a2 ys.length c2) ys hl2 w h)
  have HC := Lib.hid (fun w => Compare_any x y hx.1 hy.1 w)
  have HT := Lib.hid (fun v u w h h2 => CompareTuples_any v u xs ys hxs hys (by omega) (by omega) w h h2)
  have HF := Lib.hid (fun u v w h h2 => CompareFacts_any r q u v xs ys hxs hys (by omega) (by omega) w h h2)
  have HC2 := Lib.hid (fun w => rCompare_any x y hx hy w)
  have HT2 := Lib.hid (fun v u w h h2 => rCompareTuples_any v u xs ys hxs hys (by omega) (by omega) w h h2)
  have HF2 := Lib.hid (fun u v w h h2 => rCompareFacts_any r q u v xs ys hxs hys (by omega) (by omega) (by omega) (by omega) w h h2)
  have HW := Lib.hid (fun g w h1 h2 => whole_any g c a xs (fun x hx => (hxs x hx).1) (by omega) w h1 h2)
  have HW2 := Lib.hid (fun g w h1 h2 => whole_any g c2 a2 ys (fun x hx => (hys x hx).1) (by omega) w h1 h2)
  generalize Va.orI (Va.cmpS (Cod.str r) (Cod.str q)) (Va.cmpT xs ys) = cf at *
  generalize Va.cmpT xs ys = ct at *
  generalize Va.cmpV x y = cv at *
  have hxx : valV x = #[.int .i64 x.k, .int .i64 x.n, .string (Lx.ofS x.s)] := rfl
  have hyy : valV y = #[.int .i64 y.k, .int .i64 y.n, .string (Lx.ofS y.s)] := rfl
  have HB0 := Lib.hid (OBox.new w x y r (.slice a xs.length c) q (.slice a2 ys.length c2) 23 23 34 34)
  have HM0 := Lib.hid (((((Mod.refl [] w).alloc (Obj.cells #[Value.int IntKind.i64 x.k, Value.int IntKind.i64 x.n, Value.string (Lx.ofS x.s)] 23)).alloc (Obj.cells #[Value.int IntKind.i64 y.k, Value.int IntKind.i64 y.n, Value.string (Lx.ofS y.s)] 23)).alloc (Obj.cells #[.string r, .slice a xs.length c] 34)).alloc (Obj.cells #[.string q, .slice a2 ys.length c2] 34))
  have HR := Lib.hid hR; have HR2 := Lib.hid hR2; have HG := Lib.hid hG
  rw [hxx, hyy] at *
  clear hR hR2 hG hxx hyy hxs hys hx hy
  go_enter Tryd.func5, Tryd.ntmps5
  go_wp2_with fail
  refine (HA.out _ (HG.out.past HM0.out (by simp))).mono ?_
  rintro e w1 ⟨rfl, m1⟩
  have M1 := Lib.hid (HM0.out.trans m1 (by simp)); have B1 := Lib.hid (HB0.out.past m1)
  clear m1 HM0 HB0
  obtain ⟨⟨c0, c1, c2', d0, d1, d2⟩, e0, e1, f0, f1⟩ := B1.out
  go_wp2_with fail
  refine (HL.out _ (HR.out.past M1.out (by simp))).mono ?_
  rintro e w2 ⟨g, rfl, hat, m2, hg⟩
  have hgd : w.heap.size + 3 < g := Nat.lt_of_lt_of_le B1.out.lt hg
  have M2 := Lib.hid (M1.out.trans m2 (by simp)); have B2 := Lib.hid (B1.out.past m2); have A2 := Lib.hid hat
  clear m2 M1 B1 c0 c1 c2' d0 d1 d2 e0 e1 f0 f1 hat
  obtain ⟨⟨c0, c1, c2', d0, d1, d2⟩, e0, e1, f0, f1⟩ := B2.out
  go_wp2_with fail
  refine (HL2.out _ (HR2.out.past M2.out (by simp))).mono ?_
  rintro e w3 ⟨g2, rfl, hat, m3, hg2⟩
  have hgg : g < g2 := Nat.lt_of_lt_of_le A2.out.lt hg2
  have M3 := Lib.hid (M2.out.trans m3 (by simp)); have B3 := Lib.hid (B2.out.past m3); have A3 := Lib.hid (A2.out.keep m3 (by simp)); have D3 := Lib.hid hat
  clear m3 M2 B2 A2 c0 c1 c2' d0 d1 d2 e0 e1 f0 f1 hat
  obtain ⟨⟨c0, c1, c2', d0, d1, d2⟩, e0, e1, f0, f1⟩ := B3.out
  go_wp2_with fail
  refine (HC.out _).mono ?_
  rintro e w4 ⟨rfl, m4⟩
  have M4 := Lib.hid (M3.out.trans m4 (by simp)); have B4 := Lib.hid (B3.out.past m4); have A4 := Lib.hid (A3.out.keep m4 (by simp)); have D4 := Lib.hid (D3.out.keep m4 (by simp))
  clear m4 M3 B3 A3 D3 c0 c1 c2' d0 d1 d2 e0 e1 f0 f1
  obtain ⟨⟨c0, c1, c2', d0, d1, d2⟩, e0, e1, f0, f1⟩ := B4.out
  go_wp2_with fail
  refine (HT.out _ _ _ (by have := A4.out.vrow xs.length (xs.length + 2) (by simp); rwa [List.take_left] at this) (by have := D4.out.vrow ys.length (ys.length + 2) (by simp); rwa [List.take_left] at this)).mono ?_
  rintro e w5 ⟨rfl, m5⟩
  have M5 := Lib.hid (M4.out.trans m5 (by simp)); have B5 := Lib.hid (B4.out.past m5); have A5 := Lib.hid (A4.out.keep m5 (by simp)); have D5 := Lib.hid (D4.out.keep m5 (by simp))
  clear m5 M4 B4 A4 D4 c0 c1 c2' d0 d1 d2 e0 e1 f0 f1
  obtain ⟨⟨c0, c1, c2', d0, d1, d2⟩, e0, e1, f0, f1⟩ := B5.out
  go_wp2_with fail
  refine (HF.out _ _ _ (by have := A5.out.vrow xs.length (xs.length + 2) (by simp); rwa [List.take_left] at this) (by have := D5.out.vrow ys.length (ys.length + 2) (by simp); rwa [List.take_left] at this)).mono ?_
  rintro e w6 ⟨rfl, m6⟩
  have M6 := Lib.hid (M5.out.trans m6 (by simp)); have B6 := Lib.hid (B5.out.past m6); have A6 := Lib.hid (A5.out.keep m6 (by simp)); have D6 := Lib.hid (D5.out.keep m6 (by simp))
  clear m6 M5 B5 A5 D5 c0 c1 c2' d0 d1 d2 e0 e1 f0 f1
  obtain ⟨⟨c0, c1, c2', d0, d1, d2⟩, e0, e1, f0, f1⟩ := B6.out
  go_wp2_with fail
  refine (HW.out _ _ A6.out (HR.out.past M6.out (by simp))).mono ?_
  rintro e w7 ⟨rfl, m7⟩
  have M7 := Lib.hid (M6.out.trans m7 (fun t ht => .inr (by simp at ht; omega))); have B7 := Lib.hid (B6.out.past1 m7 hgd); have D7 := Lib.hid (D6.out.keep m7 (by simp; omega))
  clear m7 M6 B6 A6 D6 c0 c1 c2' d0 d1 d2 e0 e1 f0 f1
  obtain ⟨⟨c0, c1, c2', d0, d1, d2⟩, e0, e1, f0, f1⟩ := B7.out
  go_wp2_with fail
  refine (HW2.out _ _ D7.out (HR2.out.past M7.out (by simp))).mono ?_
  rintro e w8 ⟨rfl, m8⟩
  have M8 := Lib.hid (M7.out.trans m8 (fun t ht => .inr (by simp at ht; omega))); have B8 := Lib.hid (B7.out.past1 m8 (by omega))
  clear m8 M7 B7 D7 c0 c1 c2' d0 d1 d2 e0 e1 f0 f1
  obtain ⟨⟨c0, c1, c2', d0, d1, d2⟩, e0, e1, f0, f1⟩ := B8.out
  go_wp2_with fail
  refine (HC2.out _).mono ?_
  rintro e w9 ⟨rfl, m9⟩
  have M9 := Lib.hid (M8.out.trans m9 (by simp)); have B9 := Lib.hid (B8.out.past m9)
  clear m9 M8 B8 c0 c1 c2' d0 d1 d2 e0 e1 f0 f1
  obtain ⟨⟨c0, c1, c2', d0, d1, d2⟩, e0, e1, f0, f1⟩ := B9.out
  go_wp2_with fail
  refine (HT2.out _ _ _ (HR.out.past M9.out (by simp)) (HR2.out.past M9.out (by simp))).mono ?_
  rintro e w10 ⟨rfl, m10⟩
  have M10 := Lib.hid (M9.out.trans m10 (by simp)); have B10 := Lib.hid (B9.out.past m10)
  clear m10 M9 B9 c0 c1 c2' d0 d1 d2 e0 e1 f0 f1
  obtain ⟨⟨c0, c1, c2', d0, d1, d2⟩, e0, e1, f0, f1⟩ := B10.out
  go_wp2_with fail
  refine (HF2.out _ _ _ (HR.out.past M10.out (by simp)) (HR2.out.past M10.out (by simp))).mono ?_
  rintro e w11 ⟨rfl, m11⟩
  go_wp2_with fail
  go_ret
  exact ⟨rfl, M10.out.trans m11 (by simp)⟩
end Go.Proofs.YthdkaoegegiheaaDoor
