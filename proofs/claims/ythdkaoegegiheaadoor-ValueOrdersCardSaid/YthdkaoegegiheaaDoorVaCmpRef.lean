/- VALUES: the order: the reference's. -/
import Derived.Test.YthdkaoegegiheaaDoorVaCmp2
namespace Go.Proofs.YthdkaoegegiheaaDoor
open Go.RowKit
set_option linter.unusedVariables false
set_option linter.unusedSimpArgs false
set_option maxRecDepth 100000

theorem rnum_any (a b : Int) (w : World) : Calls Tryd.prog 67 #[.int .i64 a, .int .i64 b] w fun e w' => e = .returned (.int .i64 (Va.cmpI a b)) ∧ w' = w := by
  have hc1 : Hid (a < b → Va.cmpI a b = -1) := Lib.hid (fun h => if_pos h)
  have hc2 : Hid (¬ a < b → b < a → Va.cmpI a b = 1) := Lib.hid (fun h k => (if_neg h).trans (if_pos k))
  have hc3 : Hid (¬ a < b → ¬ b < a → Va.cmpI a b = 0) := Lib.hid (fun h k => (if_neg h).trans (if_neg k))
  by_cases h1 : a < b
  · go_enter Tryd.func67, Tryd.ntmps67
    go_wp2_with fail
    go_ret
    exact ⟨by rw [hc1.out h1]; rfl, rfl⟩
  · by_cases h2 : b < a
    · go_enter Tryd.func67, Tryd.ntmps67
      go_wp2_with fail
      go_ret
      exact ⟨by rw [hc2.out (by omega) h2]; rfl, rfl⟩
    · go_enter Tryd.func67, Tryd.ntmps67
      go_wp2_with fail
      go_ret
      exact ⟨by rw [hc3.out (by omega) (by omega)]; rfl, rfl⟩

theorem byte_eq (s : ByteArray) (k : Nat) (hlt : k < s.size) (hltl : k < (Cod.str s).length) : s[k].toNat = (Cod.str s)[k] := by
  have := Lx.get_str s k hlt
  rw [← this, List.getD_eq_getElem?_getD, List.getElem?_eq_getElem hltl]; rfl

set_option maxHeartbeats 2000000 in
theorem rtexts_any (a b : ByteArray) (ha : a.size ≤ 9223372036854775807) (hb : b.size ≤ 9223372036854775807) (w : World) :
    Calls Tryd.prog 68 #[.string a, .string b] w fun e w' => e = .returned (.int .i64 (Va.cmpS (Cod.str a) (Cod.str b))) ∧ Mod [] w w' := by
  have hla := Cod.str_len a
  have hlb := Cod.str_len b
  have HN := Lib.hid (fun w => rnum_any (a.size : Int) (b.size : Int) w)
  go_enter Tryd.func68, Tryd.ntmps68
  go_wp2_with fail
  go_loopw [5] (fun iv wr => ∃ k : Nat, k ≤ a.size ∧ k ≤ b.size ∧ iv = .int .i64 (k : Nat) ∧ Mod [] w wr ∧ (Cod.str a).take k = (Cod.str b).take k) (fun iv _ => a.size - (intOf iv).toNat)
  case atStart => exact ⟨0, by omega, by omega, rfl, Mod.refl _ _, rfl⟩
  case round =>
    obtain ⟨k, hk, hk2, rfl, hmr, hal⟩ := hrel
    by_cases hlt : k < a.size
    · by_cases hlt2 : k < b.size
      · have hkI : (k : Int) < (a.size : Int) := by omega
        have hkJ : (k : Int) < (b.size : Int) := by omega
        have hk0 : (0 : Int) ≤ (k : Int) := by omega
        have hltl : k < (Cod.str a).length := by omega
        have hltm : k < (Cod.str b).length := by omega
        have hcd := byte_eq a k hlt hltl
        have hce := byte_eq b k hlt2 hltm
        have hsn : (Cod.str a)[k] = (Cod.str b)[k] → (Cod.str a).take (k + 1) = (Cod.str b).take (k + 1) := fun e => by
          rw [List.take_succ_eq_append_getElem hltl, List.take_succ_eq_append_getElem hltm, hal, e]
        have hno : Va.cmpN (Cod.str a)[k] (Cod.str b)[k] ≠ 0 → Va.cmpS (Cod.str a) (Cod.str b) = Va.cmpN (Cod.str a)[k] (Cod.str b)[k] := fun e => Va.lexi_at Va.ordN.self k _ _ hltl hltm hal e
        generalize (Cod.str a)[k] = c at *
        generalize (Cod.str b)[k] = d at *
        have hcn : Va.cmpN c d = if (c : Int) < (d : Int) then -1 else if (d : Int) < (c : Int) then 1 else 0 := rfl
        by_cases h1 : (c : Int) < (d : Int)
        · rw [if_pos h1] at hcn
          have HE := Lib.hid ((hno (by omega)).trans hcn)
          have HM := Lib.hid hmr
          clear hno hsn hcn hal hmr
          go_wp2_with fail
          go_quiet (fail)
          go_wp2_with fail
          go_ret
          exact ⟨by rw [HE.out]; rfl, by first | exact HM.out.drewN _ | exact HM.out.drew | exact HM.out⟩
        · rw [if_neg h1] at hcn
          by_cases h2 : (d : Int) < (c : Int)
          · rw [if_pos h2] at hcn
            have HE := Lib.hid ((hno (by omega)).trans hcn)
            have HM := Lib.hid hmr
            clear hno hsn hcn hal hmr
            go_wp2_with fail
            go_quiet (fail)
            go_wp2_with fail
            go_quiet (fail)
            go_wp2_with fail
            go_ret
            exact ⟨by rw [HE.out]; rfl, by first | exact (HM.out.drewN _).drewN _ | exact HM.out.drewN _ | exact HM.out.drew.drew | exact HM.out.drew | exact HM.out⟩
          · have HS := Lib.hid (hsn (by omega))
            have HM := Lib.hid hmr
            clear hno hsn hcn hal hmr
            go_wp2_with fail
            go_quiet (fail)
            go_wp2_with fail
            go_quiet (fail)
            go_wp2_with fail
            go_roundw
            case rel => exact ⟨k + 1, by omega, by omega, by go_num, by first | exact (HM.out.drewN _).drewN _ | exact HM.out.drewN _ | exact HM.out.drew.drew | exact HM.out.drew | exact HM.out, HS.out⟩
            case measure => simp [intOf]; omega
      · have hkI : (k : Int) < (a.size : Int) := by omega
        have hkJ : ¬ (k : Int) < (b.size : Int) := by omega
        have HE : Hid (Va.cmpS (Cod.str a) (Cod.str b) = Va.cmpI a.size b.size) := Lib.hid (by have := Va.lexi_end Va.ordN.self k _ _ (by omega) (by omega) hal (.inr (by omega)); rw [hla, hlb] at this; exact this)
        have HM := Lib.hid hmr
        clear hal hmr hla hlb
        go_wp2_with fail
        refine (HN.out _).mono ?_
        rintro e w1 ⟨rfl, rfl⟩
        go_wp2_with fail
        go_ret
        exact ⟨by rw [HE.out]; rfl, HM.out⟩
    · have hkI : ¬ (k : Int) < (a.size : Int) := by omega
      have HE : Hid (Va.cmpS (Cod.str a) (Cod.str b) = Va.cmpI a.size b.size) := Lib.hid (by have := Va.lexi_end Va.ordN.self k _ _ (by omega) (by omega) hal (.inl (by omega)); rw [hla, hlb] at this; exact this)
      have HM := Lib.hid hmr
      clear hal hmr hla hlb
      go_wp2_with fail
      refine (HN.out _).mono ?_
      rintro e w1 ⟨rfl, rfl⟩
      go_wp2_with fail
      go_ret
      exact ⟨by rw [HE.out]; rfl, HM.out⟩

set_option maxHeartbeats 1000000 in
theorem rCompare_any (x y : Va.Val) (hx : VL x) (hy : VL y) (w : World) :
    Calls Tryd.prog 28 #[.agg (valV x), .agg (valV y)] w fun e w' => e = .returned (.int .i64 (Va.cmpV x y)) ∧ Mod [] w w' := by
  obtain ⟨k1, n1, s1⟩ := x
  obtain ⟨k2, n2, s2⟩ := y
  obtain ⟨hx1, hx2⟩ := hx
  obtain ⟨hy1, hy2⟩ := hy
  have h1 := fun w => rnum_any k1 k2 w
  have h2 := fun w => rnum_any n1 n2 w
  have h3 := fun w => rtexts_any (Lx.ofS s1) (Lx.ofS s2) (by rw [ofS_size]; exact hx2) (by rw [ofS_size]; exact hy2) w
  rw [Lx.str_ofS hx1, Lx.str_ofS hy1] at h3
  have hE : Va.cmpV ⟨k1, n1, s1⟩ ⟨k2, n2, s2⟩ = Va.orI (Va.cmpI k1 k2) (Va.orI (Va.cmpI n1 n2) (Va.cmpS s1 s2)) := rfl
  have HM0 := Lib.hid (((Mod.refl [] w).alloc (Obj.cells #[Value.int IntKind.i64 k1, Value.int IntKind.i64 n1, Value.string (Lx.ofS s1)] 23)).alloc (Obj.cells #[Value.int IntKind.i64 k2, Value.int IntKind.i64 n2, Value.string (Lx.ofS s2)] 23))
  have hxx : valV ⟨k1, n1, s1⟩ = #[.int .i64 k1, .int .i64 n1, .string (Lx.ofS s1)] := rfl
  have hyy : valV ⟨k2, n2, s2⟩ = #[.int .i64 k2, .int .i64 n2, .string (Lx.ofS s2)] := rfl
  rw [hxx, hyy]
  clear hxx hyy
  have H1 := Lib.hid h1; have H2 := Lib.hid h2; have H3 := Lib.hid h3
  clear h1 h2 h3
  by_cases e1 : k1 = k2
  · subst e1
    have z1 := Va.ordI.self k1
    rw [show Va.orI (Va.cmpI k1 k1) (Va.orI (Va.cmpI n1 n2) (Va.cmpS s1 s2)) = Va.orI (Va.cmpI n1 n2) (Va.cmpS s1 s2) from if_pos z1] at hE
    by_cases e2 : n1 = n2
    · subst e2
      have z2 := Va.ordI.self n1
      rw [show Va.orI (Va.cmpI n1 n1) (Va.cmpS s1 s2) = Va.cmpS s1 s2 from if_pos z2] at hE
      have HE := Lib.hid hE
      clear hE z1 z2
      go_enter Tryd.func28, Tryd.ntmps28
      go_wp2_with fail
      refine (H3.out _).mono ?_
      rintro e w1 ⟨rfl, m1⟩
      go_wp2_with fail
      go_ret
      exact ⟨by rw [HE.out]; rfl, HM0.out.trans m1 (by simp)⟩
    · have z2 : Va.cmpI n1 n2 ≠ 0 := fun h => e2 ((Va.ordI.zero _ _).1 h)
      rw [show Va.orI (Va.cmpI n1 n2) (Va.cmpS s1 s2) = Va.cmpI n1 n2 from if_neg z2] at hE
      have HE := Lib.hid hE
      have nB := bneI e2
      clear hE z1 z2
      go_enter Tryd.func28, Tryd.ntmps28
      go_wp2_with fail
      refine (H2.out _).mono ?_
      rintro e w1 ⟨rfl, rfl⟩
      go_wp2_with fail
      go_ret
      exact ⟨by rw [HE.out]; rfl, HM0.out⟩
  · have z1 : Va.cmpI k1 k2 ≠ 0 := fun h => e1 ((Va.ordI.zero _ _).1 h)
    rw [show Va.orI (Va.cmpI k1 k2) (Va.orI (Va.cmpI n1 n2) (Va.cmpS s1 s2)) = Va.cmpI k1 k2 from if_neg z1] at hE
    have HE := Lib.hid hE
    have nB := bneI e1
    clear hE z1
    go_enter Tryd.func28, Tryd.ntmps28
    go_wp2_with fail
    refine (H1.out _).mono ?_
    rintro e w1 ⟨rfl, rfl⟩
    go_wp2_with fail
    go_ret
    exact ⟨by rw [HE.out]; rfl, HM0.out⟩

set_option maxHeartbeats 2000000 in
theorem rCompareTuples_any (v u : Value) (xs ys : List Va.Val) (hx : ∀ x ∈ xs, VL x) (hy : ∀ y ∈ ys, VL y) (hl : xs.length ≤ 140737488355328) (hl2 : ys.length ≤ 140737488355328) (w : World) (h : VRow w v xs) (h2 : VRow w u ys) :
    Calls Tryd.prog 29 #[v, u] w fun e w' => e = .returned (.int .i64 (Va.cmpT xs ys)) ∧ Mod [] w w' := by
  obtain ⟨a, c, rfl⟩ := h.lit
  obtain ⟨a2, c2, rfl⟩ := h2.lit
  have H := Lib.hid h; have H2 := Lib.hid h2
  have HN := Lib.hid (fun w => rnum_any (xs.length : Int) (ys.length : Int) w)
  clear h h2
  go_enter Tryd.func29, Tryd.ntmps29
  go_wp2_with fail
  go_loopw [5] (fun iv wr => ∃ k : Nat, k ≤ xs.length ∧ k ≤ ys.length ∧ iv = .int .i64 (k : Nat) ∧ Mod [] w wr ∧ xs.take k = ys.take k) (fun iv _ => xs.length - (intOf iv).toNat)
  case atStart => exact ⟨0, by omega, by omega, rfl, Mod.refl _ _, rfl⟩
  case round =>
    obtain ⟨k, hk, hk2, rfl, hmr, hal⟩ := hrel
    by_cases hlt : k < xs.length
    · by_cases hlt2 : k < ys.length
      · have hkI : (k : Int) < (xs.length : Int) := by omega
        have hkJ : (k : Int) < (ys.length : Int) := by omega
        have hk0 : (0 : Int) ≤ (k : Int) := by omega
        obtain ⟨b, off, rfl, hv⟩ := (H.out.past hmr (by simp)).at k hlt
        obtain ⟨b2, off2, rfl, hv2⟩ := (H2.out.past hmr (by simp)).at k hlt2
        obtain ⟨c00, c01, c02⟩ := hv
        obtain ⟨c10, c11, c12⟩ := hv2
        have hc := fun w => rCompare_any xs[k] ys[k] (hx _ (List.getElem_mem hlt)) (hy _ (List.getElem_mem hlt2)) w
        have hsn : Va.cmpV xs[k] ys[k] = 0 → xs.take (k + 1) = ys.take (k + 1) := fun e => by
          rw [List.take_succ_eq_append_getElem hlt, List.take_succ_eq_append_getElem hlt2, hal, (Va.ordV.zero _ _).1 e]
        have hno : Va.cmpV xs[k] ys[k] ≠ 0 → Va.cmpT xs ys = Va.cmpV xs[k] ys[k] := fun e => Va.lexi_at Va.ordV.self k _ _ hlt hlt2 hal e
        unfold valV at hc
        generalize xs[k] = x at *
        generalize ys[k] = y at *
        generalize Va.cmpV x y = cv at *
        have HC := Lib.hid hc
        have HM := Lib.hid hmr
        clear hc hmr hal
        have HV : Hid (ValAt wr.drew b (off + k * 3) x) := Lib.hid ⟨(Mod.refl [] wr).drew.cell c00 (by simp), (Mod.refl [] wr).drew.cell c01 (by simp), (Mod.refl [] wr).drew.cell c02 (by simp)⟩
        have HV2 : Hid (ValAt wr.drew b2 (off2 + k * 3) y) := Lib.hid ⟨(Mod.refl [] wr).drew.cell c10 (by simp), (Mod.refl [] wr).drew.cell c11 (by simp), (Mod.refl [] wr).drew.cell c12 (by simp)⟩
        have HMD := Lib.hid (HM.out.drew)
        go_wp2_with fail
        refine wp_region_held_drew (S := (fun w' : World => w'.cell? ⟨b, off + k * 3, none⟩ = some (.int .i64 x.k) ∧ w'.cell? ⟨b, off + k * 3 + 1, none⟩ = some (.int .i64 x.n) ∧ w'.cell? ⟨b, off + k * 3 + 2, none⟩ = some (.string (Lx.ofS x.s)) ∧ w'.cell? ⟨b2, off2 + k * 3, none⟩ = some (.int .i64 y.k) ∧ w'.cell? ⟨b2, off2 + k * 3 + 1, none⟩ = some (.int .i64 y.n) ∧ w'.cell? ⟨b2, off2 + k * 3 + 2, none⟩ = some (.string (Lx.ofS y.s)))) (by kernel_rfl) (by (try dsimp only); exact ⟨HV.out.c0, HV.out.c1, HV.out.c2, HV2.out.c0, HV2.out.c1, HV2.out.c2⟩) (fun hHeld => ?_)
        refine wpAnyH_take (i := 0) (oi := ?_) (v := ?_) ?_ ?_ ?_ ?_ ?_ ?_ (by assumption) ?_
        rotate_left 2
        · (simp only [List.getElem?_toArray, List.getElem?_cons_succ, List.getElem?_cons_zero]) <;> rfl
        · kernel_rfl
        · kernel_rfl
        · kernel_rfl
        rotate_left 1
        · refine Or.inl ⟨by rfl, ?_⟩
          intro w hSw
          (try dsimp only at hSw)
          go_simp
          all_goals with_reducible rfl
        rotate_left 1
        · exact fun _ _ _ h => h
        try simp only [Act.put, List.setIfInBounds_toArray, List.set_cons_zero, List.set_cons_succ]
        refine wpAnyH_take (i := 1) (oi := ?_) (v := ?_) ?_ ?_ ?_ ?_ ?_ ?_ (by assumption) ?_
        rotate_left 2
        · (simp only [List.getElem?_toArray, List.getElem?_cons_succ, List.getElem?_cons_zero]) <;> rfl
        · kernel_rfl
        · kernel_rfl
        · kernel_rfl
        rotate_left 1
        · refine Or.inl ⟨by rfl, ?_⟩
          intro w hSw
          (try dsimp only at hSw)
          go_simp
          all_goals with_reducible rfl
        rotate_left 1
        · exact fun _ _ _ h => h
        try simp only [Act.put, List.setIfInBounds_toArray, List.set_cons_zero, List.set_cons_succ]
        refine wpAnyH_take (i := 2) (oi := ?_) (v := ?_) ?_ ?_ ?_ ?_ ?_ ?_ (by assumption) ?_
        rotate_left 2
        · (simp only [List.getElem?_toArray, List.getElem?_cons_succ, List.getElem?_cons_zero]) <;> rfl
        · kernel_rfl
        · kernel_rfl
        · kernel_rfl
        rotate_left 1
        · refine Or.inl ⟨by rfl, ?_⟩
          intro w hSw
          (try dsimp only at hSw)
          go_simp
          all_goals with_reducible rfl
        rotate_left 1
        · exact fun _ _ _ h => h
        try simp only [Act.put, List.setIfInBounds_toArray, List.set_cons_zero, List.set_cons_succ]
        refine wpAnyH_take (i := 3) (oi := ?_) (v := ?_) ?_ ?_ ?_ ?_ ?_ ?_ (by assumption) ?_
        rotate_left 2
        · (simp only [List.getElem?_toArray, List.getElem?_cons_succ, List.getElem?_cons_zero]) <;> rfl
        · kernel_rfl
        · kernel_rfl
        · kernel_rfl
        rotate_left 1
        · refine Or.inl ⟨by rfl, ?_⟩
          intro w hSw
          (try dsimp only at hSw)
          go_simp
          all_goals with_reducible rfl
        rotate_left 1
        · exact fun _ _ _ h => h
        try simp only [Act.put, List.setIfInBounds_toArray, List.set_cons_zero, List.set_cons_succ]
        refine wpAnyH_take (i := 4) (oi := ?_) (v := ?_) ?_ ?_ ?_ ?_ ?_ ?_ (by assumption) ?_
        rotate_left 2
        · (simp only [List.getElem?_toArray, List.getElem?_cons_succ, List.getElem?_cons_zero]) <;> rfl
        · kernel_rfl
        · kernel_rfl
        · kernel_rfl
        rotate_left 1
        · refine Or.inl ⟨by rfl, ?_⟩
          intro w hSw
          (try dsimp only at hSw)
          go_simp
          all_goals with_reducible rfl
        rotate_left 1
        · exact fun _ _ _ h => h
        try simp only [Act.put, List.setIfInBounds_toArray, List.set_cons_zero, List.set_cons_succ]
        refine wpAnyH_take (i := 5) (oi := ?_) (v := ?_) ?_ ?_ ?_ ?_ ?_ ?_ (by assumption) ?_
        rotate_left 2
        · (simp only [List.getElem?_toArray, List.getElem?_cons_succ, List.getElem?_cons_zero]) <;> rfl
        · kernel_rfl
        · kernel_rfl
        · kernel_rfl
        rotate_left 1
        · refine Or.inl ⟨by rfl, ?_⟩
          intro w hSw
          (try dsimp only at hSw)
          go_simp
          all_goals with_reducible rfl
        rotate_left 1
        · exact fun _ _ _ h => h
        try simp only [Act.put, List.setIfInBounds_toArray, List.set_cons_zero, List.set_cons_succ]
        refine wpAnyH_take (i := 6) (oi := ?_) (v := ?_) ?_ ?_ ?_ ?_ ?_ ?_ (by assumption) ?_
        rotate_left 2
        · (simp only [List.getElem?_toArray, List.getElem?_cons_succ, List.getElem?_cons_zero]) <;> rfl
        · kernel_rfl
        · kernel_rfl
        · kernel_rfl
        rotate_left 1
        · refine Or.inl ⟨by rfl, ?_⟩
          intro w hSw
          (try dsimp only at hSw)
          go_simp
          all_goals with_reducible rfl
        rotate_left 1
        · exact fun _ _ _ h => h
        try simp only [Act.put, List.setIfInBounds_toArray, List.set_cons_zero, List.set_cons_succ]
        refine wpAnyH_take (i := 7) (oi := ?_) (v := ?_) ?_ ?_ ?_ ?_ ?_ ?_ (by assumption) ?_
        rotate_left 2
        · (simp only [List.getElem?_toArray, List.getElem?_cons_succ, List.getElem?_cons_zero]) <;> rfl
        · kernel_rfl
        · kernel_rfl
        · kernel_rfl
        rotate_left 1
        · refine Or.inl ⟨by rfl, ?_⟩
          intro w hSw
          (try dsimp only at hSw)
          go_simp
          all_goals with_reducible rfl
        rotate_left 1
        · exact fun _ _ _ h => h
        try simp only [Act.put, List.setIfInBounds_toArray, List.set_cons_zero, List.set_cons_succ]
        refine wpAnyH_ready (rs := [8]) (by kernel_rfl) (by simp) ?_
        refine AllReadyH.cons (o := ?_) ?_ ?_ AllReadyH.nil
        rotate_left 1
        · (simp only [List.getElem?_toArray, List.getElem?_cons_succ, List.getElem?_cons_zero]) <;> rfl
        intro K hK
        go_simp
        refine (HC.out _).mono ?_
        rintro e w1 ⟨rfl, m1⟩
        refine hK.out _ _ (by (try dsimp only); exact ⟨m1.cell HV.out.c0 (by simp), m1.cell HV.out.c1 (by simp), m1.cell HV.out.c2 (by simp), m1.cell HV2.out.c0 (by simp), m1.cell HV2.out.c1 (by simp), m1.cell HV2.out.c2 (by simp)⟩) (fun hHeld => ?_)
        clear hK K
        try simp only [Act.put, List.setIfInBounds_toArray, List.set_cons_zero, List.set_cons_succ]
        refine wpAnyH_take (i := 9) (oi := ?_) (v := ?_) ?_ ?_ ?_ ?_ ?_ ?_ (by assumption) ?_
        rotate_left 2
        · (simp only [List.getElem?_toArray, List.getElem?_cons_succ, List.getElem?_cons_zero]) <;> rfl
        · kernel_rfl
        · kernel_rfl
        · kernel_rfl
        rotate_left 1
        · refine Or.inl ⟨by rfl, ?_⟩
          intro w hSw
          (try dsimp only at hSw)
          go_simp
          all_goals with_reducible rfl
        rotate_left 1
        · exact fun _ _ _ h => h
        try simp only [Act.put, List.setIfInBounds_toArray, List.set_cons_zero, List.set_cons_succ]
        refine wpAnyH_done (by kernel_rfl) ?_ _
        have M1 := Lib.hid (HMD.out.trans m1 (by simp))
        clear m1 hHeld
        by_cases e : cv = 0
        · have HS := Lib.hid (hsn e)
          subst e
          clear hsn hno
          go_wp2_with fail
          go_roundw
          case rel => exact ⟨k + 1, by omega, by omega, by go_num, M1.out, HS.out⟩
          case measure => simp [intOf]; omega
        · have HE := Lib.hid (hno e)
          have nB := bneI e
          clear hsn hno
          go_wp2_with fail
          go_ret
          exact ⟨by rw [HE.out]; rfl, M1.out⟩
      · have hkI : (k : Int) < (xs.length : Int) := by omega
        have hkJ : ¬ (k : Int) < (ys.length : Int) := by omega
        have HE : Hid (Va.cmpT xs ys = Va.cmpI xs.length ys.length) := Lib.hid (Va.lexi_end Va.ordV.self k _ _ (by omega) (by omega) hal (.inr (by omega)))
        have HM := Lib.hid hmr
        clear hal hmr
        go_wp2_with fail
        refine (HN.out _).mono ?_
        rintro e w1 ⟨rfl, rfl⟩
        go_wp2_with fail
        go_ret
        exact ⟨by rw [HE.out]; rfl, HM.out⟩
    · have hkI : ¬ (k : Int) < (xs.length : Int) := by omega
      have HE : Hid (Va.cmpT xs ys = Va.cmpI xs.length ys.length) := Lib.hid (Va.lexi_end Va.ordV.self k _ _ (by omega) (by omega) hal (.inl (by omega)))
      have HM := Lib.hid hmr
      clear hal hmr
      go_wp2_with fail
      refine (HN.out _).mono ?_
      rintro e w1 ⟨rfl, rfl⟩
      go_wp2_with fail
      go_ret
      exact ⟨by rw [HE.out]; rfl, HM.out⟩

set_option maxHeartbeats 1000000 in
theorem rCompareFacts_any (r q : ByteArray) (u v : Value) (xs ys : List Va.Val) (hx : ∀ x ∈ xs, VL x) (hy : ∀ y ∈ ys, VL y) (hr : r.size ≤ 140737488355328) (hq : q.size ≤ 140737488355328) (hl : xs.length ≤ 140737488355328) (hl2 : ys.length ≤ 140737488355328) (w : World) (h : VRow w u xs) (h2 : VRow w v ys) :
    Calls Tryd.prog 30 #[.agg #[.string r, u], .agg #[.string q, v]] w fun e w' => e = .returned (.int .i64 (Va.orI (Va.cmpS (Cod.str r) (Cod.str q)) (Va.cmpT xs ys))) ∧ Mod [] w w' := by
  have H1 := Lib.hid (fun w => rtexts_any r q (by omega) (by omega) w)
  have HT := Lib.hid (fun w h h2 => rCompareTuples_any u v xs ys hx hy hl hl2 w h h2)
  have HB0 := Lib.hid (FFBox.new w r u q v 34 34)
  have HM0 := Lib.hid (((Mod.refl [] w).alloc (Obj.cells #[.string r, u] 34)).alloc (Obj.cells #[.string q, v] 34))
  have HR := Lib.hid h; have HR2 := Lib.hid h2
  clear h h2 hx hy
  generalize Va.cmpS (Cod.str r) (Cod.str q) = a1 at *
  generalize Va.cmpT xs ys = a2 at *
  by_cases e1 : a1 = 0
  · subst e1
    rw [show Va.orI 0 a2 = a2 from rfl]
    go_enter Tryd.func30, Tryd.ntmps30
    go_wp2_with fail
    refine (H1.out _).mono ?_
    rintro e w1 ⟨rfl, m1⟩
    have M1 := Lib.hid (HM0.out.trans m1 (by simp))
    obtain ⟨c0, c1, d0, d1⟩ := HB0.out.past m1
    clear m1 HM0
    go_wp2_with fail
    refine (HT.out _ (HR.out.past M1.out (by simp)) (HR2.out.past M1.out (by simp))).mono ?_
    rintro e w2 ⟨rfl, m2⟩
    go_wp2_with fail
    go_ret
    exact ⟨rfl, M1.out.trans m2 (by simp)⟩
  · have nB := bneI e1
    rw [show Va.orI a1 a2 = a1 from if_neg e1]
    go_enter Tryd.func30, Tryd.ntmps30
    go_wp2_with fail
    refine (H1.out _).mono ?_
    rintro e w1 ⟨rfl, m1⟩
    have M1 := Lib.hid (HM0.out.trans m1 (by simp))
    clear m1 HM0
    go_wp2_with fail
    go_ret
    exact ⟨rfl, M1.out⟩
end Go.Proofs.YthdkaoegegiheaaDoor
