/- ValueOrder. -/
import Derived.Test.YthdkaoegegiheaaDoorVaCmp3
import Derived.Test.YthdkaoegegiheaaDoorVaAwake
import Derived.Deep.DeepCutAuto
namespace Go.Proofs.YthdkaoegegiheaaDoor
open Go.RowKit
set_option linter.unusedVariables false
set_option linter.unusedSimpArgs false
set_option maxRecDepth 100000

/-- three boxes: three facts -/
structure F3Box (w : World) (b : Nat) (r : ByteArray) (u : Value) (q : ByteArray) (v : Value) (p : ByteArray) (t : Value) : Prop where
  c0 : w.cell? ⟨b, 0, none⟩ = some (.string r)
  c1 : w.cell? ⟨b, 1, none⟩ = some u
  d0 : w.cell? ⟨b + 1, 0, none⟩ = some (.string q)
  d1 : w.cell? ⟨b + 1, 1, none⟩ = some v
  e0 : w.cell? ⟨b + 2, 0, none⟩ = some (.string p)
  e1 : w.cell? ⟨b + 2, 1, none⟩ = some t
theorem F3Box.past {w w' : World} {b : Nat} {r q p : ByteArray} {u v t : Value} (h : F3Box w b r u q v p t) (hm : Mod [] w w') : F3Box w' b r u q v p t :=
  ⟨hm.cell h.c0 (by simp), hm.cell h.c1 (by simp), hm.cell h.d0 (by simp), hm.cell h.d1 (by simp), hm.cell h.e0 (by simp), hm.cell h.e1 (by simp)⟩
theorem F3Box.new (w : World) (r : ByteArray) (u : Value) (q : ByteArray) (v : Value) (p : ByteArray) (t : Value) (T1 T2 T3 : TypeId) :
    F3Box (((w.alloc (Obj.cells #[.string r, u] T1)).alloc (Obj.cells #[.string q, v] T2)).alloc (Obj.cells #[.string p, t] T3)) w.heap.size r u q v p t := by
  have h1 := (FFBox.new w r u q v T1 T2).past ((Mod.refl [] _).alloc (Obj.cells #[.string p, t] T3))
  have h2 := heap_alloc_new ((w.alloc (Obj.cells #[.string r, u] T1)).alloc (Obj.cells #[.string q, v] T2)) (Obj.cells #[.string p, t] T3)
  have hs : ((w.alloc (Obj.cells #[.string r, u] T1)).alloc (Obj.cells #[.string q, v] T2)).heap.size = w.heap.size + 2 := by simp
  rw [hs] at h2
  refine ⟨h1.c0, h1.c1, h1.d0, h1.d1, ?_, ?_⟩ <;> simp only [World.cell?, h2] <;> rfl

theorem str_inj {a b : ByteArray} (h : Cod.str a = Cod.str b) : a = b := by rw [← Lx.ofS_str a, ← Lx.ofS_str b, h]
/-- what the order of three facts gives -/
structure OrdF (ab ba bc ac : Int) (same : Bool) : Prop where
  rng : ab = -1 ∨ ab = 0 ∨ ab = 1
  rng2 : bc = -1 ∨ bc = 0 ∨ bc = 1
  anti : ba = - ab
  zero : (ab == 0) = same
  low : ab ≤ 0 → bc ≤ 0 → ¬ 0 < ac
  high : 0 ≤ ab → 0 ≤ bc → ¬ ac < 0
theorem ordF_of (A B C : List Nat × List Va.Val) (same : Bool) (hs : same = true ↔ A = B) : OrdF (Va.cmpF A B) (Va.cmpF B A) (Va.cmpF B C) (Va.cmpF A C) same where
  rng := Va.ordF.rng _ _
  rng2 := Va.ordF.rng _ _
  anti := Va.ordF.anti _ _
  zero := by
    rw [Bool.eq_iff_iff, hs, beq_iff_eq]
    exact Va.ordF.zero _ _
  low h1 h2 := by have := Va.ordF.trans A B C h1 h2; omega
  high h1 h2 := by
    have := Va.ordF.trans C B A (by have := Va.ordF.anti B C; omega) (by have := Va.ordF.anti A B; omega)
    have h3 := Va.ordF.anti A C
    omega
theorem cmpT_head (xs ys : List Va.Val) (h1 : 0 < xs.length) (h2 : 0 < ys.length) : Va.cmpV xs[0] ys[0] = 0 ∨ Va.cmpT xs ys = Va.cmpV xs[0] ys[0] := by
  by_cases h : Va.cmpV xs[0] ys[0] = 0
  · exact .inl h
  · exact .inr (Va.lexi_at Va.ordV.self 0 xs ys h1 h2 rfl h)

set_option maxHeartbeats 8000000 in
theorem ValueOrder_any (r : ByteArray) (xs : List Va.Val) (u : Value) (q : ByteArray) (ys : List Va.Val) (v : Value) (p : ByteArray) (zs : List Va.Val) (t : Value)
    (hxs : ∀ x ∈ xs, VL x) (hr : r.size ≤ 140737488355327) (hl : xs.length ≤ 4398046511103) (hys : ∀ y ∈ ys, VL y) (hq : q.size ≤ 140737488355327) (hl2 : ys.length ≤ 4398046511103)
    (hzs : ∀ y ∈ zs, VL y) (hp : p.size ≤ 140737488355327) (hl3 : zs.length ≤ 4398046511103) (w : World) (hR : VRow w u xs) (hR2 : VRow w v ys) (hR3 : VRow w t zs) (hG : GlobV w) :
    Calls Tryd.prog 6 #[.agg #[.string r, u], .agg #[.string q, v], .agg #[.string p, t]] w fun e w' => e = .returned (.bool true) ∧ Mod [] w w' := by
  have HA := Lib.hid (fun w hG => awake_any w hG)
  have hab := fun w h h2 => CompareFacts_any r q u v xs ys hxs hys (by omega) (by omega) w h h2
  have hba := fun w h h2 => CompareFacts_any q r v u ys xs hys hxs (by omega) (by omega) w h h2
  have hbc := fun w h h2 => CompareFacts_any q p v t ys zs hys hzs (by omega) (by omega) w h h2
  have hac := fun w h h2 => CompareFacts_any r p u t xs zs hxs hzs (by omega) (by omega) w h h2
  have hsf := fun w h h2 => SameFact_any r q u v xs ys (fun x hx => (hxs x hx).1) (fun x hx => (hys x hx).1) (by omega) (by omega) w h h2
  have HT := Lib.hid (fun w h h2 => CompareTuples_any u v xs ys hxs hys (by omega) (by omega) w h h2)
  have ho := ordF_of (Cod.str r, xs) (Cod.str q, ys) (Cod.str p, zs) (decide (r = q) && decide (xs = ys)) (by
    rw [Bool.and_eq_true, decide_eq_true_eq, decide_eq_true_eq, Prod.mk.injEq]
    exact ⟨fun h => ⟨by rw [h.1], h.2⟩, fun h => ⟨str_inj h.1, h.2⟩⟩)
  have htab : r = q → Va.cmpF (Cod.str r, xs) (Cod.str q, ys) = Va.cmpT xs ys := fun e => by
    subst e
    exact if_pos (Va.ordS.self _)
  have e1 : Va.orI (Va.cmpS (Cod.str r) (Cod.str q)) (Va.cmpT xs ys) = Va.cmpF (Cod.str r, xs) (Cod.str q, ys) := rfl
  have e2 : Va.orI (Va.cmpS (Cod.str q) (Cod.str r)) (Va.cmpT ys xs) = Va.cmpF (Cod.str q, ys) (Cod.str r, xs) := rfl
  have e3 : Va.orI (Va.cmpS (Cod.str q) (Cod.str p)) (Va.cmpT ys zs) = Va.cmpF (Cod.str q, ys) (Cod.str p, zs) := rfl
  have e4 : Va.orI (Va.cmpS (Cod.str r) (Cod.str p)) (Va.cmpT xs zs) = Va.cmpF (Cod.str r, xs) (Cod.str p, zs) := rfl
  rw [e1] at hab; rw [e2] at hba; rw [e3] at hbc; rw [e4] at hac
  clear e1 e2 e3 e4
  generalize Va.cmpF (Cod.str r, xs) (Cod.str q, ys) = ab at *
  generalize Va.cmpF (Cod.str q, ys) (Cod.str r, xs) = ba at *
  generalize Va.cmpF (Cod.str q, ys) (Cod.str p, zs) = bc at *
  generalize Va.cmpF (Cod.str r, xs) (Cod.str p, zs) = ac at *
  have hsb := str_beq r q
  have hrq : Hid ((r.toList == q.toList) = true → Va.cmpT xs ys = ab) := Lib.hid (fun h => by rw [hsb, decide_eq_true_eq] at h; exact (htab h).symm)
  clear hsb htab
  generalize (decide (r = q) && decide (xs = ys)) = same at *
  have hhead := fun h1 h2 => cmpT_head xs ys h1 h2
  have HHd := Lib.hid hhead
  have HCV := Lib.hid (fun (h1 : 0 < xs.length) (h2 : 0 < ys.length) w => Compare_any xs[0] ys[0] (hxs _ (List.getElem_mem h1)).1 (hys _ (List.getElem_mem h2)).1 w)
  have HCV := Lib.hid (fun (h1 : 0 < xs.length) (h2 : 0 < ys.length) w => Compare_any xs[0] ys[0] (hxs _ (List.getElem_mem h1)).1 (hys _ (List.getElem_mem h2)).1 w)
  have HCV := Lib.hid (fun (h1 : 0 < xs.length) (h2 : 0 < ys.length) w => Compare_any xs[0] ys[0] (hxs _ (List.getElem_mem h1)).1 (hys _ (List.getElem_mem h2)).1 w)
  have HCV := Lib.hid (fun (h1 : 0 < xs.length) (h2 : 0 < ys.length) w => Compare_any xs[0] ys[0] (hxs _ (List.getElem_mem h1)).1 (hys _ (List.getElem_mem h2)).1 w)
  have HCV := Lib.hid (fun (h1 : 0 < xs.length) (h2 : 0 < ys.length) w => Compare_any xs[0] ys[0] (hxs _ (List.getElem_mem h1)).1 (hys _ (List.getElem_mem h2)).1 w)
  generalize Va.cmpT xs ys = ct at *
  obtain ⟨a, c, rfl⟩ := hR.lit
  obtain ⟨a2, c2, rfl⟩ := hR2.lit
  have HO := Lib.hid ho
  have HB0 := Lib.hid (F3Box.new w r (.slice a xs.length c) q (.slice a2 ys.length c2) p t 34 34 34)
  have HM0 := Lib.hid ((((Mod.refl [] w).alloc (Obj.cells #[.string r, .slice a xs.length c] 34)).alloc (Obj.cells #[.string q, .slice a2 ys.length c2] 34)).alloc (Obj.cells #[.string p, t] 34))
  have HR := Lib.hid hR; have HR2 := Lib.hid hR2; have HR3 := Lib.hid hR3; have HG := Lib.hid hG
  have HAB := Lib.hid hab; have HBA := Lib.hid hba; have HBC := Lib.hid hbc; have HAC := Lib.hid hac; have HSF := Lib.hid hsf
  clear hR hR2 hR3 hG hxs hys hzs ho hab hba hbc hac hsf hhead
  go_enter Tryd.func6, Tryd.ntmps6
  go_wp2_with fail
  refine (HA.out _ (HG.out.past HM0.out (by simp))).mono ?_
  rintro e w1 ⟨rfl, m1⟩
  have M1 := Lib.hid (HM0.out.trans m1 (by simp)); have B1 := Lib.hid (HB0.out.past m1)
  clear m1 HM0 HB0
  obtain ⟨c0, c1, d0, d1, e0, e1⟩ := B1.out
  go_wp2_with fail
  refine (HAB.out _ (HR.out.past M1.out (by simp)) (HR2.out.past M1.out (by simp))).mono ?_
  rintro e w2 ⟨rfl, m2⟩
  have M2 := Lib.hid (M1.out.trans m2 (by simp)); have B2 := Lib.hid (B1.out.past m2)
  clear m2 M1 B1 c0 c1 d0 d1 e0 e1
  obtain ⟨c0, c1, d0, d1, e0, e1⟩ := B2.out
  go_wp2_with fail
  refine (HBA.out _ (HR2.out.past M2.out (by simp)) (HR.out.past M2.out (by simp))).mono ?_
  rintro e w3 ⟨rfl, m3⟩
  have M3 := Lib.hid (M2.out.trans m3 (by simp)); have B3 := Lib.hid (B2.out.past m3)
  clear m3 M2 B2 c0 c1 d0 d1 e0 e1
  obtain ⟨c0, c1, d0, d1, e0, e1⟩ := B3.out
  go_wp2_with fail
  refine (HBC.out _ (HR2.out.past M3.out (by simp)) (HR3.out.past M3.out (by simp))).mono ?_
  rintro e w4 ⟨rfl, m4⟩
  have M4 := Lib.hid (M3.out.trans m4 (by simp)); have B4 := Lib.hid (B3.out.past m4)
  clear m4 M3 B3 c0 c1 d0 d1 e0 e1
  obtain ⟨c0, c1, d0, d1, e0, e1⟩ := B4.out
  go_wp2_with fail
  refine (HAC.out _ (HR.out.past M4.out (by simp)) (HR3.out.past M4.out (by simp))).mono ?_
  rintro e w5 ⟨rfl, m5⟩
  have M5 := Lib.hid (M4.out.trans m5 (by simp)); have B5 := Lib.hid (B4.out.past m5)
  clear m5 M4 B4 c0 c1 d0 d1 e0 e1
  obtain ⟨c0, c1, d0, d1, e0, e1⟩ := B5.out
  go_wp2_with fail
  refine (HSF.out _ (HR.out.past M5.out (by simp)) (HR2.out.past M5.out (by simp))).mono ?_
  rintro e w6 ⟨rfl, m6⟩
  have M6 := Lib.hid (M5.out.trans m6 (by simp)); have B6 := Lib.hid (B5.out.past m6)
  clear m6 M5 B5 c0 c1 d0 d1 e0 e1
  obtain ⟨c0, c1, d0, d1, e0, e1⟩ := B6.out
  go_upto_region 7 with fail
  go_cut [53] (fun c wx => c = .bool false ∧ wx = w6)
  case first =>
    obtain ⟨rng, -, anti, zero, -, -⟩ := HO.out
    subst anti
    subst zero
    rcases rng with rfl | rfl | rfl <;> (go_wp2_with fail; go_meet; exact ⟨rfl, rfl⟩)
  case rest =>
    obtain ⟨rfl, rfl⟩ := hcut
    go_upto_region 9 with fail
    go_cut [75] (fun c wx => c = .bool false ∧ wx = wc)
    case first =>
      obtain ⟨rng, rng2, anti, zero, low, high⟩ := HO.out
      subst anti
      subst zero
      rcases rng with rfl | rfl | rfl <;> rcases rng2 with rfl | rfl | rfl
      all_goals first
        | (have h1 := low (by decide) (by decide); have h2 := high (by decide) (by decide); clear low high; go_wp2_with fail; go_meet; exact ⟨rfl, rfl⟩)
        | (have h1 := low (by decide) (by decide); clear low high; go_wp2_with fail; go_meet; exact ⟨rfl, rfl⟩)
        | (have h1 := high (by decide) (by decide); clear low high; go_wp2_with fail; go_meet; exact ⟨rfl, rfl⟩)
        | (clear low high; go_wp2_with fail; go_meet; exact ⟨rfl, rfl⟩)
    case rest =>
      obtain ⟨rfl, rfl⟩ := hcut
      go_upto_if 80 with fail
      go_cut [] (fun wx => Mod [] wc wx)
      case first =>
        by_cases e : (r.toList == q.toList) = true
        · obtain rfl := hrq.out e
          have e2 : r = q := by rw [str_beq, decide_eq_true_eq] at e; exact e
          subst e2
          have nE := Lib.hid e
          clear e
          have nB : (ct != ct) = false := by simp
          go_wp2_with fail
          all_goals first
            | exact absurd nE.out (by rw [‹(r.toList == r.toList) = false›]; decide)
            | skip
          refine (HT.out _ (HR.out.past M6.out (by simp)) (HR2.out.past M6.out (by simp))).mono ?_
          rintro e w7 ⟨rfl, m7⟩
          go_wp2_with fail
          go_meet
          exact m7
        · have e' : (r.toList == q.toList) = false := by simpa using e
          go_wp2_with fail
          go_meet
          exact Mod.refl _ _
      case rest =>
        have M7 := Lib.hid (M6.out.trans hcut (by simp)); have B7 := Lib.hid (B6.out.past hcut)
        clear hcut M6 B6 c0 c1 d0 d1 e0 e1
        obtain ⟨c0, c1, d0, d1, e0, e1⟩ := B7.out
        by_cases h1 : xs.length = 0
        · have hI : ((xs.length : Int) == 0) = true := by rw [h1]; rfl
          have HL := Lib.hid h1
          clear h1
          go_wp2_with fail
          go_ret
          exact ⟨rfl, M7.out⟩
        · have hI : ((xs.length : Int) == 0) = false := by rw [beq_eq_false_iff_ne]; omega
          by_cases h2 : ys.length = 0
          · have hJ : ((ys.length : Int) == 0) = true := by rw [h2]; rfl
            have HL := Lib.hid h2
            clear h1 h2
            go_wp2_with fail
            go_ret
            exact ⟨rfl, M7.out⟩
          · have hJ : ((ys.length : Int) == 0) = false := by rw [beq_eq_false_iff_ne]; omega
            have g1 : 0 < xs.length := by omega
            have g2 : 0 < ys.length := by omega
            have g1I : (0 : Int) < (xs.length : Int) := by omega
            have g2I : (0 : Int) < (ys.length : Int) := by omega
            obtain ⟨b, off, rfl, hv⟩ := (HR.out.past M7.out (by simp)).at 0 g1
            obtain ⟨b2, off2, rfl, hv2⟩ := (HR2.out.past M7.out (by simp)).at 0 g2
            have hc := HCV.out g1 g2
            have hh := HHd.out g1 g2
            rw [Nat.zero_mul, Nat.add_zero] at hv hv2
            unfold valV at hc
            generalize xs[0] = x at *
            generalize ys[0] = y at *
            generalize Va.cmpV x y = cv at *
            obtain ⟨p0, p1, p2⟩ := hv
            obtain ⟨q0, q1, q2⟩ := hv2
            have HC := Lib.hid hc
            have HH := Lib.hid hh
            clear hc hh HHd HCV h1 h2
            have HV : Hid (ValAt wc.drew b off x) := Lib.hid ⟨(Mod.refl [] wc).drew.cell p0 (by simp), (Mod.refl [] wc).drew.cell p1 (by simp), (Mod.refl [] wc).drew.cell p2 (by simp)⟩
            have HV2 : Hid (ValAt wc.drew b2 off2 y) := Lib.hid ⟨(Mod.refl [] wc).drew.cell q0 (by simp), (Mod.refl [] wc).drew.cell q1 (by simp), (Mod.refl [] wc).drew.cell q2 (by simp)⟩
            have HBD := Lib.hid (B7.out.past (Mod.refl [] wc).drew)
            have HMD := Lib.hid (M7.out.drew)
            go_wp2_with fail
            refine wp_region_held_drew (S := (fun w' : World => w'.cell? ⟨w.heap.size, 1, none⟩ = some (.slice (some ⟨b, off, none⟩) xs.length c) ∧ w'.cell? ⟨w.heap.size + 1, 1, none⟩ = some (.slice (some ⟨b2, off2, none⟩) ys.length c2) ∧ w'.cell? ⟨b, off, none⟩ = some (.int .i64 x.k) ∧ w'.cell? ⟨b, off + 1, none⟩ = some (.int .i64 x.n) ∧ w'.cell? ⟨b, off + 2, none⟩ = some (.string (Lx.ofS x.s)) ∧ w'.cell? ⟨b2, off2, none⟩ = some (.int .i64 y.k) ∧ w'.cell? ⟨b2, off2 + 1, none⟩ = some (.int .i64 y.n) ∧ w'.cell? ⟨b2, off2 + 2, none⟩ = some (.string (Lx.ofS y.s)))) (by kernel_rfl) (by (try dsimp only); exact ⟨HBD.out.c1, HBD.out.d1, HV.out.c0, HV.out.c1, HV.out.c2, HV2.out.c0, HV2.out.c1, HV2.out.c2⟩) (fun hHeld => ?_)
            refine wpAnyH_take (i := 0) (oi := ?_) (v := ?_) ?_ ?_ ?_ ?_ ?_ ?_ (by assumption) ?_
            rotate_left 2
            · (simp only [List.getElem?_toArray, List.getElem?_cons_succ, List.getElem?_cons_zero]) <;> rfl
            · kernel_rfl
            · kernel_rfl
            · kernel_rfl
            rotate_left 1
            · refine Or.inl ⟨by rfl, ?_⟩
              intro w hSw
              (try dsimp only at hSw)
              go_simp
              all_goals with_reducible rfl
            rotate_left 1
            · exact fun _ _ _ h => h
            try simp only [Act.put, List.setIfInBounds_toArray, List.set_cons_zero, List.set_cons_succ]
            refine wpAnyH_take (i := 1) (oi := ?_) (v := ?_) ?_ ?_ ?_ ?_ ?_ ?_ (by assumption) ?_
            rotate_left 2
            · (simp only [List.getElem?_toArray, List.getElem?_cons_succ, List.getElem?_cons_zero]) <;> rfl
            · kernel_rfl
            · kernel_rfl
            · kernel_rfl
            rotate_left 1
            · refine Or.inl ⟨by rfl, ?_⟩
              intro w hSw
              (try dsimp only at hSw)
              go_simp
              all_goals with_reducible rfl
            rotate_left 1
            · exact fun _ _ _ h => h
            try simp only [Act.put, List.setIfInBounds_toArray, List.set_cons_zero, List.set_cons_succ]
            refine wpAnyH_take (i := 2) (oi := ?_) (v := ?_) ?_ ?_ ?_ ?_ ?_ ?_ (by assumption) ?_
            rotate_left 2
            · (simp only [List.getElem?_toArray, List.getElem?_cons_succ, List.getElem?_cons_zero]) <;> rfl
            · kernel_rfl
            · kernel_rfl
            · kernel_rfl
            rotate_left 1
            · refine Or.inl ⟨by rfl, ?_⟩
              intro w hSw
              (try dsimp only at hSw)
              go_simp
              all_goals with_reducible rfl
            rotate_left 1
            · exact fun _ _ _ h => h
            try simp only [Act.put, List.setIfInBounds_toArray, List.set_cons_zero, List.set_cons_succ]
            refine wpAnyH_take (i := 3) (oi := ?_) (v := ?_) ?_ ?_ ?_ ?_ ?_ ?_ (by assumption) ?_
            rotate_left 2
            · (simp only [List.getElem?_toArray, List.getElem?_cons_succ, List.getElem?_cons_zero]) <;> rfl
            · kernel_rfl
            · kernel_rfl
            · kernel_rfl
            rotate_left 1
            · refine Or.inl ⟨by rfl, ?_⟩
              intro w hSw
              (try dsimp only at hSw)
              go_simp
              all_goals with_reducible rfl
            rotate_left 1
            · exact fun _ _ _ h => h
            try simp only [Act.put, List.setIfInBounds_toArray, List.set_cons_zero, List.set_cons_succ]
            refine wpAnyH_take (i := 4) (oi := ?_) (v := ?_) ?_ ?_ ?_ ?_ ?_ ?_ (by assumption) ?_
            rotate_left 2
            · (simp only [List.getElem?_toArray, List.getElem?_cons_succ, List.getElem?_cons_zero]) <;> rfl
            · kernel_rfl
            · kernel_rfl
            · kernel_rfl
            rotate_left 1
            · refine Or.inl ⟨by rfl, ?_⟩
              intro w hSw
              (try dsimp only at hSw)
              go_simp
              all_goals with_reducible rfl
            rotate_left 1
            · exact fun _ _ _ h => h
            try simp only [Act.put, List.setIfInBounds_toArray, List.set_cons_zero, List.set_cons_succ]
            refine wpAnyH_take (i := 5) (oi := ?_) (v := ?_) ?_ ?_ ?_ ?_ ?_ ?_ (by assumption) ?_
            rotate_left 2
            · (simp only [List.getElem?_toArray, List.getElem?_cons_succ, List.getElem?_cons_zero]) <;> rfl
            · kernel_rfl
            · kernel_rfl
            · kernel_rfl
            rotate_left 1
            · refine Or.inl ⟨by rfl, ?_⟩
              intro w hSw
              (try dsimp only at hSw)
              go_simp
              all_goals with_reducible rfl
            rotate_left 1
            · exact fun _ _ _ h => h
            try simp only [Act.put, List.setIfInBounds_toArray, List.set_cons_zero, List.set_cons_succ]
            refine wpAnyH_take (i := 6) (oi := ?_) (v := ?_) ?_ ?_ ?_ ?_ ?_ ?_ (by assumption) ?_
            rotate_left 2
            · (simp only [List.getElem?_toArray, List.getElem?_cons_succ, List.getElem?_cons_zero]) <;> rfl
            · kernel_rfl
            · kernel_rfl
            · kernel_rfl
            rotate_left 1
            · refine Or.inl ⟨by rfl, ?_⟩
              intro w hSw
              (try dsimp only at hSw)
              go_simp
              all_goals with_reducible rfl
            rotate_left 1
            · exact fun _ _ _ h => h
            try simp only [Act.put, List.setIfInBounds_toArray, List.set_cons_zero, List.set_cons_succ]
            refine wpAnyH_take (i := 7) (oi := ?_) (v := ?_) ?_ ?_ ?_ ?_ ?_ ?_ (by assumption) ?_
            rotate_left 2
            · (simp only [List.getElem?_toArray, List.getElem?_cons_succ, List.getElem?_cons_zero]) <;> rfl
            · kernel_rfl
            · kernel_rfl
            · kernel_rfl
            rotate_left 1
            · refine Or.inl ⟨by rfl, ?_⟩
              intro w hSw
              (try dsimp only at hSw)
              go_simp
              all_goals with_reducible rfl
            rotate_left 1
            · exact fun _ _ _ h => h
            try simp only [Act.put, List.setIfInBounds_toArray, List.set_cons_zero, List.set_cons_succ]
            refine wpAnyH_ready (rs := [8]) (by kernel_rfl) (by simp) ?_
            refine AllReadyH.cons (o := ?_) ?_ ?_ AllReadyH.nil
            rotate_left 1
            · (simp only [List.getElem?_toArray, List.getElem?_cons_succ, List.getElem?_cons_zero]) <;> rfl
            intro K hK
            go_simp
            refine (HC.out _).mono ?_
            rintro e w8 ⟨rfl, m1⟩
            refine hK.out _ _ (by (try dsimp only); exact ⟨m1.cell HBD.out.c1 (by simp), m1.cell HBD.out.d1 (by simp), m1.cell HV.out.c0 (by simp), m1.cell HV.out.c1 (by simp), m1.cell HV.out.c2 (by simp), m1.cell HV2.out.c0 (by simp), m1.cell HV2.out.c1 (by simp), m1.cell HV2.out.c2 (by simp)⟩) (fun hHeld => ?_)
            clear hK K
            try simp only [Act.put, List.setIfInBounds_toArray, List.set_cons_zero, List.set_cons_succ]
            refine wpAnyH_take (i := 9) (oi := ?_) (v := ?_) ?_ ?_ ?_ ?_ ?_ ?_ (by assumption) ?_
            rotate_left 2
            · (simp only [List.getElem?_toArray, List.getElem?_cons_succ, List.getElem?_cons_zero]) <;> rfl
            · kernel_rfl
            · kernel_rfl
            · kernel_rfl
            rotate_left 1
            · refine Or.inl ⟨by rfl, ?_⟩
              intro w hSw
              (try dsimp only at hSw)
              go_simp
              all_goals with_reducible rfl
            rotate_left 1
            · exact fun _ _ _ h => h
            try simp only [Act.put, List.setIfInBounds_toArray, List.set_cons_zero, List.set_cons_succ]
            refine wpAnyH_done (by kernel_rfl) ?_ _
            have M8 := Lib.hid (HMD.out.trans m1 (by simp))
            have hb8 := HBD.out.past m1
            clear m1 hHeld c0 c1 d0 d1 e0 e1
            obtain ⟨c0, c1, d0, d1, e0, e1⟩ := hb8
            go_wp2_with fail
            refine (HT.out _ (HR.out.past M8.out (by simp)) (HR2.out.past M8.out (by simp))).mono ?_
            rintro e w9 ⟨rfl, m9⟩
            have M9 := Lib.hid (M8.out.trans m9 (by simp))
            clear m9
            by_cases z : cv = 0
            · subst z
              go_wp2_with fail
              go_ret
              exact ⟨rfl, M9.out⟩
            · have zB : (cv == 0) = false := by rw [beq_eq_false_iff_ne]; exact z
              obtain rfl : ct = cv := HH.out.resolve_left z
              go_wp2_with fail
              go_ret
              exact ⟨by simp, M9.out⟩
end Go.Proofs.YthdkaoegegiheaaDoor
