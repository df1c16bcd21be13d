/- ValueTexts. -/
import Derived.Test.YthdkaoegegiheaaDoorVaFactT
import Derived.Test.YthdkaoegegiheaaDoorVaRefT5
import Derived.Test.YthdkaoegegiheaaDoorVaLawMay
namespace Go.Proofs.YthdkaoegegiheaaDoor
open Go.RowKit
set_option linter.unusedVariables false
set_option linter.unusedSimpArgs false
set_option maxRecDepth 100000

theorem prs_vb {l : List Nat} (hl : ∀ c ∈ l, c < 256) {u : Va.Val} (hp : Va.parse l = some u) : VB u := by
  unfold Va.parse at hp
  split at hp
  · simp at hp
  · rename_i g hgg
    split at hp
    · simp only [Option.some.injEq] at hp
      subst hp
      unfold Va.guess at hgg
      split at hgg
      · simp only [Option.some.injEq] at hgg; subst hgg; simp [VB]
      · split at hgg
        · obtain ⟨t, ht, rfl⟩ := Option.map_eq_some_iff.1 hgg
          exact fun c hc => uqF_lt _ _ t (fun c hc => hl c (List.mem_of_mem_take (List.mem_of_mem_drop hc))) ht c hc
        · simp only [Option.some.injEq] at hgg; subst hgg; exact hl
    · simp at hp
theorem rg_vb {l : List Nat} (hl : ∀ c ∈ l, c < 256) {u : Va.Val} (hp : Va.rguess l = some u) : VB u := by
  unfold Va.rguess at hp
  split at hp
  · obtain ⟨t, ht, rfl⟩ := Option.map_eq_some_iff.1 hp
    simp [VB]
  · split at hp
    · simp only [Option.some.injEq] at hp; subst hp
      exact Va.ruqF_lt _ _ (fun c hc => hl c (List.mem_of_mem_drop hc))
    · simp only [Option.some.injEq] at hp; subst hp; exact hl
theorem prsV_eq (o : Option Va.Val) : ∃ (u : Va.Val) (c : Int), prsV o = .tuple #[.agg (valV u), .int .i64 c] := by
  cases o with
  | none => exact ⟨_, _, rfl⟩
  | some v => exact ⟨_, _, rfl⟩

set_option maxHeartbeats 8000000 in
theorem ValueTexts_any (v : Va.Val) (r : ByteArray) (ts : List Va.Val) (u : Value) (s : ByteArray) (hv : v.Ok) (hb : ∀ x ∈ ts, x.Ok) (hr : r.size ≤ 140737488355327) (hl : ts.length ≤ 4398046511103) (hs : s.size ≤ 140737488355327) (w : World) (hR : VRow w u ts) (hG : GlobV w) :
    Calls Tryd.prog 8 #[.agg (valV v), .agg #[.string r, u], .string s] w fun e w' => e = .returned (.bool true) ∧ Mod [] w w' := by
  obtain ⟨a, c, rfl⟩ := hR.lit
  have HA := Lib.hid (fun w hG => awake_any w hG)
  have HL := Lib.hid (fun w h => lent_any (.slice a ts.length c) ts hl w h)
  have hT := fun w hG => Text_any v hv w hG
  have hF := fun v w h hG => FactText_any r v ts (by omega) (by omega) hb w h hG
  have hP := fun w hG => Parse_any s hs w hG
  have hT2 := fun w hG => vText_any v hv w hG
  have hF2 := fun v w h hG => vFactText_any r v ts (by omega) (by omega) hb w h hG
  have hP2 := fun w hG => vParse_any s hs w hG
  have HW := Lib.hid (fun g w h1 h2 => whole_any g c a ts (fun x hx => (hb x hx).byte) (by omega) w h1 h2)
  rw [Va.rparse_eq (fun v h => prs_vb (Cod.str_lt s) h) (fun v h => rg_vb (Cod.str_lt s) h)] at hP2
  obtain ⟨pu, pc, hpe⟩ := prsV_eq (Va.parse (Cod.str s))
  rw [hpe] at hP hP2
  unfold txtV at hT hT2
  unfold factV at hF hF2
  generalize Lx.ofS (if factB r ts = 0 then factT r ts else []) = ft at *
  generalize factB r ts = fb at *
  generalize Lx.ofS (if Va.may v then Va.text v else []) = tx at *
  generalize chk v = cb at *
  have hvv : valV v = #[.int .i64 v.k, .int .i64 v.n, .string (Lx.ofS v.s)] := rfl
  have hvu : valV pu = #[.int .i64 pu.k, .int .i64 pu.n, .string (Lx.ofS pu.s)] := rfl
  rw [hvv] at *
  rw [hvu] at hP hP2
  have HT := Lib.hid hT; have HF := Lib.hid hF; have HP := Lib.hid hP; have HT2 := Lib.hid hT2; have HF2 := Lib.hid hF2; have HP2 := Lib.hid hP2
  have HB0 := Lib.hid (VFBox.new w v r (.slice a ts.length c) 23 34)
  have HM0 := Lib.hid (((Mod.refl [] w).alloc (Obj.cells #[Value.int IntKind.i64 v.k, Value.int IntKind.i64 v.n, Value.string (Lx.ofS v.s)] 23)).alloc (Obj.cells #[.string r, .slice a ts.length c] 34))
  have HR := Lib.hid hR
  have HG := Lib.hid hG
  clear hR hG hvv hvu hb hv hT hF hP hT2 hF2 hP2 hpe
  have hd0 : w.heap.size + 1 ≠ w.heap.size := by omega
  go_enter Tryd.func8, Tryd.ntmps8
  go_wp2_with fail
  refine (HA.out _ (HG.out.past HM0.out (by simp))).mono ?_
  rintro e w1 ⟨rfl, m1⟩
  have M1 := Lib.hid (HM0.out.trans m1 (by simp)); have B1 := Lib.hid (HB0.out.past m1)
  clear m1 HM0 HB0
  obtain ⟨c0, c1, c2, d0, d1⟩ := B1.out
  go_wp2_with fail
  refine (HL.out _ (HR.out.past M1.out (by simp))).mono ?_
  rintro e w2 ⟨g, rfl, hat, m2, hg⟩
  have hgd : w.heap.size + 1 < g := Nat.lt_of_lt_of_le (World.block_lt_of_cell? _ _ d0) hg
  have M2 := Lib.hid (M1.out.trans m2 (by simp)); have B2 := Lib.hid (B1.out.past m2); have H2 := Lib.hid hat
  clear m2 M1 B1 c0 c1 c2 d0 d1 hat
  obtain ⟨c0, c1, c2, d0, d1⟩ := B2.out
  go_wp2_with fail
  refine (HT.out _ (HG.out.past M2.out (by simp))).mono ?_
  rintro e w3 ⟨rfl, m3⟩
  have M3 := Lib.hid (M2.out.trans m3 (by simp)); have B3 := Lib.hid (B2.out.past m3); have H3 := Lib.hid (H2.out.keep m3 (by simp))
  clear m3 M2 B2 H2 c0 c1 c2 d0 d1
  obtain ⟨c0, c1, c2, d0, d1⟩ := B3.out
  go_wp2_with fail
  refine (HF.out _ _ (by have := H3.out.vrow ts.length (ts.length + 2) (by simp); rwa [List.take_left] at this) (HG.out.past M3.out (by simp))).mono ?_
  rintro e w4 ⟨rfl, m4⟩
  have M4 := Lib.hid (M3.out.trans m4 (by simp)); have B4 := Lib.hid (B3.out.past m4); have H4 := Lib.hid (H3.out.keep m4 (by simp))
  clear m4 M3 B3 H3 c0 c1 c2 d0 d1
  obtain ⟨c0, c1, c2, d0, d1⟩ := B4.out
  go_wp2_with fail
  refine (HW.out _ _ H4.out (HR.out.past M4.out (by simp))).mono ?_
  rintro e w5 ⟨rfl, m5⟩
  have M5 := Lib.hid (M4.out.trans m5 (fun t ht => .inr (by simp at ht; omega))); have B5 := Lib.hid (B4.out.past1 m5 (by omega) (by omega))
  clear m5 M4 B4 H4 c0 c1 c2 d0 d1
  obtain ⟨c0, c1, c2, d0, d1⟩ := B5.out
  go_wp2_with fail
  refine (HP.out _ (HG.out.past M5.out (by simp))).mono ?_
  rintro e w6 ⟨rfl, m6⟩
  have hX := heap_alloc_new w6 (Obj.cells #[Value.int IntKind.i64 pu.k, Value.int IntKind.i64 pu.n, Value.string (Lx.ofS pu.s)] 23)
  have hma := (Mod.refl [] w6).alloc (Obj.cells #[Value.int IntKind.i64 pu.k, Value.int IntKind.i64 pu.n, Value.string (Lx.ofS pu.s)] 23)
  have m6a := m6.trans hma (by simp)
  have M6 := Lib.hid (M5.out.trans m6a (by simp)); have B6 := Lib.hid (B5.out.past m6a); have X6 := Lib.hid hX
  clear m6 m6a hma hX M5 B5 c0 c1 c2 d0 d1
  obtain ⟨c0, c1, c2, d0, d1⟩ := B6.out
  go_wp2_with fail
  refine (HT2.out _ (HG.out.past M6.out (by simp))).mono ?_
  rintro e w7 ⟨rfl, m7⟩
  have M7 := Lib.hid (M6.out.trans m7 (by simp)); have B7 := Lib.hid (B6.out.past m7); have X7 := Lib.hid (m7.at X6.out (by simp))
  clear m7 M6 B6 X6 c0 c1 c2 d0 d1
  obtain ⟨c0, c1, c2, d0, d1⟩ := B7.out
  go_wp2_with fail
  refine (HF2.out _ _ (HR.out.past M7.out (by simp)) (HG.out.past M7.out (by simp))).mono ?_
  rintro e w8 ⟨rfl, m8⟩
  have M8 := Lib.hid (M7.out.trans m8 (by simp)); have X8 := Lib.hid (m8.at X7.out (by simp))
  clear m8 M7 B7 X7 c0 c1 c2 d0 d1
  go_wp2_with fail
  refine (HP2.out _ (HG.out.past M8.out (by simp))).mono ?_
  rintro e w9 ⟨rfl, m9⟩
  have hX := heap_alloc_new w9 (Obj.cells #[Value.int IntKind.i64 pu.k, Value.int IntKind.i64 pu.n, Value.string (Lx.ofS pu.s)] 23)
  have hma := (Mod.refl [] w9).alloc (Obj.cells #[Value.int IntKind.i64 pu.k, Value.int IntKind.i64 pu.n, Value.string (Lx.ofS pu.s)] 23)
  have hX9 := hma.at (m9.at X8.out (by simp)) (by simp)
  have M9 := Lib.hid ((M8.out.trans m9 (by simp)).trans hma (by simp))
  have k0 : (w9.alloc (Obj.cells #[Value.int IntKind.i64 pu.k, Value.int IntKind.i64 pu.n, Value.string (Lx.ofS pu.s)] 23)).cell? ⟨w6.heap.size, 0, none⟩ = some (.int .i64 pu.k) := by simp only [World.cell?, hX9]; rfl
  have k1 : (w9.alloc (Obj.cells #[Value.int IntKind.i64 pu.k, Value.int IntKind.i64 pu.n, Value.string (Lx.ofS pu.s)] 23)).cell? ⟨w6.heap.size, 1, none⟩ = some (.int .i64 pu.n) := by simp only [World.cell?, hX9]; rfl
  have k2 : (w9.alloc (Obj.cells #[Value.int IntKind.i64 pu.k, Value.int IntKind.i64 pu.n, Value.string (Lx.ofS pu.s)] 23)).cell? ⟨w6.heap.size, 2, none⟩ = some (.string (Lx.ofS pu.s)) := by simp only [World.cell?, hX9]; rfl
  clear m9 hma M8 X8 hX hX9
  go_wp2_with fail
  go_ret
  exact ⟨rfl, M9.out⟩
end Go.Proofs.YthdkaoegegiheaaDoor
