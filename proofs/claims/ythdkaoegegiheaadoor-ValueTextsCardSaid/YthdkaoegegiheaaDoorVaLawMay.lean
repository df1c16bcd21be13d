/- ValueMayBe. -/
import Derived.Test.YthdkaoegegiheaaDoorVaWhole
namespace Go.Proofs.YthdkaoegegiheaaDoor
open Go.RowKit
set_option linter.unusedVariables false
set_option linter.unusedSimpArgs false
set_option maxRecDepth 100000

/-- two boxes: a value, a fact -/
structure VFBox (w : World) (b d : Nat) (v : Va.Val) (r : ByteArray) (u : Value) : Prop where
  c0 : w.cell? ⟨b, 0, none⟩ = some (.int .i64 v.k)
  c1 : w.cell? ⟨b, 1, none⟩ = some (.int .i64 v.n)
  c2 : w.cell? ⟨b, 2, none⟩ = some (.string (Lx.ofS v.s))
  d0 : w.cell? ⟨d, 0, none⟩ = some (.string r)
  d1 : w.cell? ⟨d, 1, none⟩ = some u
theorem VFBox.past {w w' : World} {b d : Nat} {v : Va.Val} {r : ByteArray} {u : Value} (h : VFBox w b d v r u) (hm : Mod [] w w') : VFBox w' b d v r u :=
  ⟨hm.cell h.c0 (by simp), hm.cell h.c1 (by simp), hm.cell h.c2 (by simp), hm.cell h.d0 (by simp), hm.cell h.d1 (by simp)⟩
theorem VFBox.past1 {w w' : World} {b d g : Nat} {v : Va.Val} {r : ByteArray} {u : Value} (h : VFBox w b d v r u) (hm : Mod [g] w w') (h1 : b ≠ g) (h2 : d ≠ g) : VFBox w' b d v r u :=
  ⟨hm.cell h.c0 (by simpa using h1), hm.cell h.c1 (by simpa using h1), hm.cell h.c2 (by simpa using h1), hm.cell h.d0 (by simpa using h2), hm.cell h.d1 (by simpa using h2)⟩
theorem VFBox.new (w : World) (v : Va.Val) (r : ByteArray) (u : Value) (T1 T2 : TypeId) : VFBox ((w.alloc (Obj.cells #[Value.int IntKind.i64 v.k, Value.int IntKind.i64 v.n, Value.string (Lx.ofS v.s)] T1)).alloc (Obj.cells #[.string r, u] T2)) w.heap.size (w.heap.size + 1) v r u := by
  have h1 := two_at w (Obj.cells #[Value.int IntKind.i64 v.k, Value.int IntKind.i64 v.n, Value.string (Lx.ofS v.s)] T1) (Obj.cells #[.string r, u] T2)
  have h2 := heap_alloc_new (w.alloc (Obj.cells #[Value.int IntKind.i64 v.k, Value.int IntKind.i64 v.n, Value.string (Lx.ofS v.s)] T1)) (Obj.cells #[.string r, u] T2)
  have hs : (w.alloc (Obj.cells #[Value.int IntKind.i64 v.k, Value.int IntKind.i64 v.n, Value.string (Lx.ofS v.s)] T1)).heap.size = w.heap.size + 1 := by simp
  rw [hs] at h2
  constructor <;> simp only [World.cell?, h1, h2] <;> rfl

set_option maxHeartbeats 4000000 in
theorem ValueMayBe_any (v : Va.Val) (r : ByteArray) (ts : List Va.Val) (u : Value) (s : ByteArray) (hv : v.Ok) (hb : ∀ x ∈ ts, VB x) (hr : r.size ≤ 140737488355327) (hl : ts.length ≤ 4398046511103) (hs : s.size ≤ 140737488355327) (w : World) (hR : VRow w u ts) (hG : GlobV w) :
    Calls Tryd.prog 4 #[.agg (valV v), .agg #[.string r, u], .string s] w fun e w' => e = .returned (.bool true) ∧ Mod [] w w' := by
  obtain ⟨a, c, rfl⟩ := hR.lit
  have HA := Lib.hid (fun w hG => awake_any w hG)
  have HL := Lib.hid (fun w h => lent_any (.slice a ts.length c) ts hl w h)
  have HC := Lib.hid (fun w => check_any v w)
  have HD := Lib.hid (fun w => vcheck_any v w)
  have HF := Lib.hid (fun v w h => CheckFact_any r v ts (by omega) (by omega) w h)
  have HE := Lib.hid (fun v w h => vCheckFact_any r v ts (by omega) (by omega) w h)
  have HN := Lib.hid (fun w => Name_any s (by omega) w)
  have HV := Lib.hid (fun w => Variable_any s (by omega) w)
  have HN2 := Lib.hid (fun w => vName_any s (by omega) w)
  have HV2 := Lib.hid (fun w => vVariable_any s (by omega) w)
  have HW := Lib.hid (fun g w h1 h2 => whole_any g c a ts hb (by omega) w h1 h2)
  unfold FactR at HF HE
  generalize factB r ts = fb at *
  generalize chk v = cb at *
  generalize Va.name (Cod.str s) = nb at *
  generalize Va.variable_ (Cod.str s) = vb at *
  have hvv : valV v = #[.int .i64 v.k, .int .i64 v.n, .string (Lx.ofS v.s)] := rfl
  rw [hvv] at *
  have HB0 := Lib.hid (VFBox.new w v r (.slice a ts.length c) 23 34)
  have HM0 := Lib.hid (((Mod.refl [] w).alloc (Obj.cells #[Value.int IntKind.i64 v.k, Value.int IntKind.i64 v.n, Value.string (Lx.ofS v.s)] 23)).alloc (Obj.cells #[.string r, .slice a ts.length c] 34))
  have HR := Lib.hid hR
  have HG := Lib.hid hG
  clear hR hG hvv hb hv
  have hd0 : w.heap.size + 1 ≠ w.heap.size := by omega
  go_enter Tryd.func4, Tryd.ntmps4
  go_wp2_with fail
  refine (HA.out _ (HG.out.past HM0.out (by simp))).mono ?_
  rintro e w1 ⟨rfl, m1⟩
  have M1 := Lib.hid (HM0.out.trans m1 (by simp)); have B1 := Lib.hid (HB0.out.past m1)
  clear m1 HM0 HB0
  obtain ⟨c0, c1, c2, d0, d1⟩ := B1.out
  go_wp2_with fail
  refine (HL.out _ (HR.out.past M1.out (by simp))).mono ?_
  rintro e w2 ⟨g, rfl, hat, m2, hg⟩
  have hgd : w.heap.size + 1 < g := Nat.lt_of_lt_of_le (World.block_lt_of_cell? _ _ d0) hg
  have M2 := Lib.hid (M1.out.trans m2 (by simp)); have B2 := Lib.hid (B1.out.past m2); have H2 := Lib.hid hat
  clear m2 M1 B1 c0 c1 c2 d0 d1 hat
  obtain ⟨c0, c1, c2, d0, d1⟩ := B2.out
  go_wp2_with fail
  refine (HC.out _).mono ?_
  rintro e w3 ⟨rfl, m3⟩
  have M3 := Lib.hid (M2.out.trans m3 (by simp)); have B3 := Lib.hid (B2.out.past m3); have H3 := Lib.hid (H2.out.keep m3 (by simp))
  clear m3 M2 B2 H2 c0 c1 c2 d0 d1
  obtain ⟨c0, c1, c2, d0, d1⟩ := B3.out
  go_wp2_with fail
  refine (HF.out _ _ (by have := H3.out.vrow ts.length (ts.length + 2) (by simp); rwa [List.take_left] at this)).mono ?_
  rintro e w4 ⟨rfl, m4⟩
  have M4 := Lib.hid (M3.out.trans m4 (by simp)); have B4 := Lib.hid (B3.out.past m4); have H4 := Lib.hid (H3.out.keep m4 (by simp))
  clear m4 M3 B3 H3 c0 c1 c2 d0 d1
  obtain ⟨c0, c1, c2, d0, d1⟩ := B4.out
  go_wp2_with fail
  refine (HW.out _ _ H4.out (HR.out.past M4.out (by simp))).mono ?_
  rintro e w5 ⟨rfl, m5⟩
  have M5 := Lib.hid (M4.out.trans m5 (fun t ht => .inr (by simp at ht; omega))); have B5 := Lib.hid (B4.out.past1 m5 (by omega) (by omega))
  clear m5 M4 B4 H4 c0 c1 c2 d0 d1
  obtain ⟨c0, c1, c2, d0, d1⟩ := B5.out
  go_wp2_with fail
  refine (HN.out _).mono ?_
  rintro e w6 ⟨rfl, m6⟩
  go_wp2_with fail
  refine (HV.out _).mono ?_
  rintro e w7 ⟨rfl, m7⟩
  have m67 := m6.trans m7 (by simp)
  have M7 := Lib.hid (M5.out.trans m67 (by simp)); have B7 := Lib.hid (B5.out.past m67)
  clear m6 m7 m67 M5 B5 c0 c1 c2 d0 d1
  obtain ⟨c0, c1, c2, d0, d1⟩ := B7.out
  go_wp2_with fail
  refine (HD.out _).mono ?_
  rintro e w8 ⟨rfl, m8⟩
  have M8 := Lib.hid (M7.out.trans m8 (by simp)); have B8 := Lib.hid (B7.out.past m8)
  clear m8 M7 B7 c0 c1 c2 d0 d1
  obtain ⟨c0, c1, c2, d0, d1⟩ := B8.out
  go_wp2_with fail
  refine (HE.out _ _ (HR.out.past M8.out (by simp))).mono ?_
  rintro e w9 ⟨rfl, m9⟩
  have M9 := Lib.hid (M8.out.trans m9 (by simp))
  clear m9 M8 B8 c0 c1 c2 d0 d1
  go_wp2_with fail
  refine (HN2.out _).mono ?_
  rintro e w10 ⟨rfl, rfl⟩
  go_wp2_with fail
  refine (HV2.out _).mono ?_
  rintro e w11 ⟨rfl, rfl⟩
  go_wp2_with fail
  go_ret
  exact ⟨rfl, M9.out⟩
end Go.Proofs.YthdkaoegegiheaaDoor
