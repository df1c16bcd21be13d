/- VALUES: some of the document's examples: the head of every statement. -/
import Derived.Test.YtcalbbfkgdfidaaDoorVaPut
import Derived.Deep.RegionHeld3
import Derived.Deep.RegionWith
namespace Go.Proofs.YtcalbbfkgdfidaaDoor
open Go.RowKit
set_option linter.unusedVariables false
set_option linter.unusedSimpArgs false
set_option maxRecDepth 100000

theorem num_any (n : Int) (w : World) : Calls Tryd.prog 13 #[.int .i64 n] w fun e w' => e = .returned (.agg (valV ⟨1, n, []⟩)) ∧ Mod [] w w' := by
  go_enter Tryd.func13, Tryd.ntmps13
  go_wp2_with fail
  refine bodyPost_ret (results_cell_row rfl _ _ _ _ _ _ _ rfl (heap_alloc_new w _) Tryd.underlying44 rfl (by kernel_rfl)) rfl ⟨rfl, (Mod.refl [] w).alloc _⟩
theorem sym_any (s : ByteArray) (w : World) : Calls Tryd.prog 15 #[.string s] w fun e w' => e = .returned (.agg #[.int .i64 2, .int .i64 0, .string s]) ∧ Mod [] w w' := by
  go_enter Tryd.func15, Tryd.ntmps15
  go_wp2_with fail
  refine bodyPost_ret (results_cell_row rfl _ _ _ _ _ _ _ rfl (heap_alloc_new w _) Tryd.underlying44 rfl (by kernel_rfl)) rfl ⟨rfl, (Mod.refl [] w).alloc _⟩

def aAnn : Va.Val := ⟨2, 0, [65, 110, 110]⟩
theorem aMay : Va.may aAnn = true := by decide
theorem aText : Va.text aAnn = [34, 65, 110, 110, 34] := by
  unfold Va.text aAnn
  rw [if_neg (show ¬ (2 : Int) = 1 by decide)]
  decide
theorem aParse : Va.parse [34, 65, 110, 110, 34] = some aAnn := by
  rw [← aText]
  exact Va.parse_text (by decide) aMay
theorem aPut : putL [⟨1, 1, []⟩, ⟨2, 0, [97]⟩] = [2, 1, 2, 2, 1, 97] := by decide
theorem aPutE : putE [⟨1, 1, []⟩, ⟨2, 0, [97]⟩] = 0 := by decide
theorem aN1 : Va.name (Cod.str { data := #[97, 66, 95, 57] }) = true := by decide
theorem aN2 : Va.name (Cod.str { data := #[115, 117, 109] }) = false := by decide
theorem aC1 : chk ⟨1, 2147483647, []⟩ = 0 := by decide
theorem aC2 : chk ⟨1, 2147483648, []⟩ = 20 := by decide
theorem aS : Cod.str { data := #[34, 65, 110, 110, 34] } = [34, 65, 110, 110, 34] := by rfl

set_option maxHeartbeats 4000000 in
theorem awake_any (w : World) (hG : GlobV w) : Calls Tryd.prog 5 #[] w fun e w' => e = .returned (.bool true) ∧ Mod [] w w' := by
  have h1 := fun w => check_any ⟨1, 2147483647, []⟩ w
  have h2 := fun w => check_any ⟨1, 2147483648, []⟩ w
  rw [aC1] at h1
  rw [aC2] at h2
  have h3 := fun w hG => Text_any aAnn (val_ok aMay (by decide)) w hG
  have h4 := fun w hG => Parse_any { data := #[34, 65, 110, 110, 34] } (by decide) w hG
  rw [aS, aParse] at h4
  have h5 := fun v w h => Put_any v [⟨1, 1, []⟩, ⟨2, 0, [97]⟩] (by intro x hx; simp only [List.mem_cons, List.not_mem_nil, or_false] at hx; rcases hx with rfl | rfl <;> simp [VB]) (by decide) w h
  unfold PutR at h5
  rw [aPut, aPutE] at h5
  have h6 := fun w => Name_any { data := #[97, 66, 95, 57] } (by decide) w
  have h7 := fun w => Name_any { data := #[115, 117, 109] } (by decide) w
  rw [aN1] at h6
  rw [aN2] at h7
  have ht : txtV aAnn = .tuple #[.string { data := #[34, 65, 110, 110, 34] }, .int .i64 0] := by
    unfold txtV chk
    rw [aMay]
    simp only [if_true]
    rw [aText]; rfl
  rw [ht] at h3
  have hp : prsV (some aAnn) = .tuple #[.agg #[.int .i64 2, .int .i64 0, .string { data := #[65, 110, 110] }], .int .i64 0] := rfl
  rw [hp] at h4
  have ha : valV aAnn = #[.int .i64 2, .int .i64 0, .string { data := #[65, 110, 110] }] := rfl
  rw [ha] at h3
  simp only [valV] at h1 h2
  have hem : Lx.ofS [] = { data := #[] } := rfl
  rw [hem] at h1 h2
  have hnum := fun n w => num_any n w
  simp only [valV, hem] at hnum
  have H1 := Lib.hid h1; have H2 := Lib.hid h2; have H3 := Lib.hid h3; have H4 := Lib.hid h4; have H5 := Lib.hid h5; have H6 := Lib.hid h6; have H7 := Lib.hid h7; have HN := Lib.hid hnum
  clear h1 h2 h3 h4 h5 h6 h7 hnum ht hp ha hem
  go_enter Tryd.func5, Tryd.ntmps5
  go_wp2_with fail
  refine (HN.out _ _).mono ?_
  rintro e w1 ⟨rfl, m1⟩
  have M1 := Lib.hid m1
  clear m1
  go_wp2_with fail
  refine (H1.out _).mono ?_
  rintro e w2 ⟨rfl, m2⟩
  have M2 := Lib.hid (M1.out.trans m2 (by simp))
  clear m2 M1
  go_wp2_with fail
  refine (HN.out _ _).mono ?_
  rintro e w3 ⟨rfl, m3⟩
  have M3 := Lib.hid (M2.out.trans m3 (by simp))
  clear m3 M2
  go_wp2_with fail
  refine (H2.out _).mono ?_
  rintro e w4 ⟨rfl, m4⟩
  have M4 := Lib.hid (M3.out.trans m4 (by simp))
  clear m4 M3
  go_wp2_with fail
  refine (sym_any _ _).mono ?_
  rintro e w5 ⟨rfl, m5⟩
  have M5 := Lib.hid (M4.out.trans m5 (by simp))
  clear m5 M4
  go_wp2_with fail
  refine (H3.out _ (hG.past M5.out (by simp))).mono ?_
  rintro e w6 ⟨rfl, m6⟩
  have M6 := Lib.hid (M5.out.trans m6 (by simp))
  clear m6 M5
  go_wp2_with fail
  refine (H4.out _ (hG.past M6.out (by simp))).mono ?_
  rintro e w7 ⟨rfl, m7⟩
  have hB7 := heap_alloc_new w7 (Obj.cells #[Value.int IntKind.i64 2, Value.int IntKind.i64 0, Value.string { data := #[65, 110, 110] }] 44)
  have M7 := Lib.hid ((M6.out.trans m7 (by simp)).alloc (Obj.cells #[Value.int IntKind.i64 2, Value.int IntKind.i64 0, Value.string { data := #[65, 110, 110] }] 44)); have HB7 := Lib.hid hB7
  clear m7 M6 hB7
  go_wp2_with fail
  refine (HN.out _ _).mono ?_
  rintro e w8 ⟨rfl, m8⟩
  have M8 := Lib.hid (M7.out.trans m8 (by simp)); have HB8 := Lib.hid (m8.at HB7.out (by simp))
  clear m8 M7 HB7
  go_wp2_with fail
  refine (sym_any _ _).mono ?_
  rintro e w9 ⟨rfl, m9⟩
  have M9 := Lib.hid (M8.out.trans m9 (by simp)); have HB9 := Lib.hid (m9.at HB8.out (by simp))
  clear m9 M8 HB8
  go_wp2_with fail
  have hB10 := heap_alloc_new w9 (Obj.cells #[Value.int IntKind.i64 1, Value.int IntKind.i64 1, Value.string { data := #[] }, Value.int IntKind.i64 2, Value.int IntKind.i64 0, Value.string { data := #[97] }] 44)
  have hv : VRow (w9.alloc (Obj.cells #[Value.int IntKind.i64 1, Value.int IntKind.i64 1, Value.string { data := #[] }, Value.int IntKind.i64 2, Value.int IntKind.i64 0, Value.string { data := #[97] }] 44)) (.slice (some ⟨w9.heap.size, 0, none⟩) 2 2) [⟨1, 1, []⟩, ⟨2, 0, [97]⟩] := by
    refine .inr ⟨w9.heap.size, 0, 2, rfl, fun i hi => ?_⟩
    match i, hi with
    | 0, _ => exact ⟨by simp only [World.cell?, hB10]; rfl, by simp only [World.cell?, hB10]; rfl, by simp only [World.cell?, hB10]; rfl⟩
    | 1, _ => exact ⟨by simp only [World.cell?, hB10]; rfl, by simp only [World.cell?, hB10]; rfl, by simp only [World.cell?, hB10]; rfl⟩
  refine (H5.out _ _ hv).mono ?_
  rintro e w10 ⟨v10, rfl, hown, m10, hf10⟩
  have m10' := ((Mod.refl [] w9).alloc (Obj.cells #[Value.int IntKind.i64 1, Value.int IntKind.i64 1, Value.string { data := #[] }, Value.int IntKind.i64 2, Value.int IntKind.i64 0, Value.string { data := #[97] }] 44)).trans m10 (by simp)
  have M10 := Lib.hid (M9.out.trans m10' (by simp)); have HB10 := Lib.hid (m10'.at HB9.out (by simp)); have HO10 := Lib.hid hown
  clear hB10 hv hown m10 hf10 m10' M9 HB9
  go_wp2_with fail
  refine (H6.out _).mono ?_
  rintro e w11 ⟨rfl, m11⟩
  have M11 := Lib.hid (M10.out.trans m11 (by simp)); have HB11 := Lib.hid (m11.at HB10.out (by simp)); have HO11 := Lib.hid (m11.owns HO10.out (by simp))
  clear m11 M10 HB10 HO10
  go_wp2_with fail
  refine (H7.out _).mono ?_
  rintro e w12 ⟨rfl, m12⟩
  have M12 := Lib.hid (M11.out.trans m12 (by simp)); have HB12 := Lib.hid (m12.at HB11.out (by simp)); have HO12 := Lib.hid (m12.owns HO11.out (by simp))
  clear m12 M11 HB11 HO11 H1 H2 H3 H4 H5 H6 H7 HN
  go_wp2_with fail
  have hcell : ∀ w' : World, w'.heap[w7.heap.size]? = some (.cells #[Value.int IntKind.i64 2, Value.int IntKind.i64 0, Value.string { data := #[65, 110, 110] }] 44 (0, 0)) → w'.cell? ⟨w7.heap.size, 0, none⟩ = some (.int .i64 2) ∧ w'.cell? ⟨w7.heap.size, 1, none⟩ = some (.int .i64 0) ∧ w'.cell? ⟨w7.heap.size, 2, none⟩ = some (.string { data := #[65, 110, 110] }) := fun w' h => by
    refine ⟨?_, ?_, ?_⟩ <;> simp only [World.cell?, h] <;> rfl
  have hconv : ∀ w' : World, w'.ownsRow 0 5 1 v10 6 (toCells [2, 1, 2, 2, 1, 97]) → (convert 51 9 v10).run Tryd.prog w' = .ok (.string { data := #[2, 1, 2, 2, 1, 97] }) w' := fun w' h => conv_reads (l := [2, 1, 2, 2, 1, 97]) (reads_own h (by decide) (by decide))
  obtain ⟨c0, c1, c2⟩ := hcell w12 HB12.out
  obtain ⟨e0, e1, e2⟩ := hcell w12.drew HB12.out
  have k0 := hconv w12 HO12.out
  have k1 := hconv w12.drew HO12.out
  have HCELL := Lib.hid hcell; have HCONV := Lib.hid hconv
  clear hcell hconv
  refine wp_region_held_drew (S := (fun w' : World => w'.cell? ⟨w7.heap.size, 0, none⟩ = some (.int .i64 2) ∧ w'.cell? ⟨w7.heap.size, 1, none⟩ = some (.int .i64 0) ∧ w'.cell? ⟨w7.heap.size, 2, none⟩ = some (.string { data := #[65, 110, 110] }) ∧ (convert 51 9 v10).run Tryd.prog w' = .ok (.string { data := #[2, 1, 2, 2, 1, 97] }) w')) (by kernel_rfl) (by (try dsimp only); exact ⟨e0, e1, e2, k1⟩) (fun hHeld => ?_)
  refine wpAnyH_take (i := 0) (oi := ?_) (v := ?_) ?_ ?_ ?_ ?_ ?_ ?_ (by assumption) ?_
  rotate_left 2
  · (simp only [List.getElem?_toArray, List.getElem?_cons_succ, List.getElem?_cons_zero]) <;> rfl
  · kernel_rfl
  · kernel_rfl
  · kernel_rfl
  rotate_left 1
  · refine Or.inl ⟨by rfl, ?_⟩
    intro w hSw
    (try dsimp only at hSw)
    go_simp
    all_goals with_reducible rfl
  rotate_left 1
  · exact fun _ _ _ h => h
  try simp only [Act.put, List.setIfInBounds_toArray, List.set_cons_zero, List.set_cons_succ]
  refine wpAnyH_take (i := 1) (oi := ?_) (v := ?_) ?_ ?_ ?_ ?_ ?_ ?_ (by assumption) ?_
  rotate_left 2
  · (simp only [List.getElem?_toArray, List.getElem?_cons_succ, List.getElem?_cons_zero]) <;> rfl
  · kernel_rfl
  · kernel_rfl
  · kernel_rfl
  rotate_left 1
  · refine Or.inl ⟨by rfl, ?_⟩
    intro w hSw
    (try dsimp only at hSw)
    go_simp
    all_goals with_reducible rfl
  rotate_left 1
  · exact fun _ _ _ h => h
  try simp only [Act.put, List.setIfInBounds_toArray, List.set_cons_zero, List.set_cons_succ]
  refine wpAnyH_take (i := 2) (oi := ?_) (v := ?_) ?_ ?_ ?_ ?_ ?_ ?_ (by assumption) ?_
  rotate_left 2
  · (simp only [List.getElem?_toArray, List.getElem?_cons_succ, List.getElem?_cons_zero]) <;> rfl
  · kernel_rfl
  · kernel_rfl
  · kernel_rfl
  rotate_left 1
  · refine Or.inl ⟨by rfl, ?_⟩
    intro w hSw
    (try dsimp only at hSw)
    go_simp
    all_goals with_reducible rfl
  rotate_left 1
  · exact fun _ _ _ h => h
  try simp only [Act.put, List.setIfInBounds_toArray, List.set_cons_zero, List.set_cons_succ]
  refine wpAnyH_take (i := 3) (oi := ?_) (v := ?_) ?_ ?_ ?_ ?_ ?_ ?_ (by assumption) ?_
  rotate_left 2
  · (simp only [List.getElem?_toArray, List.getElem?_cons_succ, List.getElem?_cons_zero]) <;> rfl
  · kernel_rfl
  · kernel_rfl
  · kernel_rfl
  rotate_left 1
  · refine Or.inl ⟨by rfl, ?_⟩
    intro w hSw
    (try dsimp only at hSw)
    go_simp
    all_goals with_reducible rfl
  rotate_left 1
  · exact fun _ _ _ h => h
  try simp only [Act.put, List.setIfInBounds_toArray, List.set_cons_zero, List.set_cons_succ]
  refine wpAnyH_take (i := 4) (oi := ?_) (v := ?_) ?_ ?_ ?_ ?_ ?_ ?_ (by assumption) ?_
  rotate_left 2
  · (simp only [List.getElem?_toArray, List.getElem?_cons_succ, List.getElem?_cons_zero]) <;> rfl
  · kernel_rfl
  · kernel_rfl
  · kernel_rfl
  rotate_left 1
  · refine Or.inl ⟨by rfl, ?_⟩
    intro w hSw
    (try dsimp only at hSw)
    go_simp
    all_goals with_reducible rfl
  rotate_left 1
  · exact fun _ _ _ h => h
  try simp only [Act.put, List.setIfInBounds_toArray, List.set_cons_zero, List.set_cons_succ]
  refine wpAnyH_take (i := 5) (oi := ?_) (v := ?_) ?_ ?_ ?_ ?_ ?_ ?_ (by assumption) ?_
  rotate_left 2
  · (simp only [List.getElem?_toArray, List.getElem?_cons_succ, List.getElem?_cons_zero]) <;> rfl
  · kernel_rfl
  · kernel_rfl
  · kernel_rfl
  rotate_left 1
  · refine Or.inl ⟨by rfl, ?_⟩
    intro w hSw
    (try dsimp only at hSw)
    go_simp
    all_goals with_reducible rfl
  rotate_left 1
  · exact fun _ _ _ h => h
  try simp only [Act.put, List.setIfInBounds_toArray, List.set_cons_zero, List.set_cons_succ]
  refine wpAnyH_take (i := 6) (oi := ?_) (v := ?_) ?_ ?_ ?_ ?_ ?_ ?_ (by assumption) ?_
  rotate_left 2
  · (simp only [List.getElem?_toArray, List.getElem?_cons_succ, List.getElem?_cons_zero]) <;> rfl
  · kernel_rfl
  · kernel_rfl
  · kernel_rfl
  rotate_left 1
  · refine Or.inl ⟨by rfl, ?_⟩
    intro w hSw
    (try dsimp only at hSw)
    go_simp
    all_goals with_reducible rfl
  rotate_left 1
  · exact fun _ _ _ h => h
  try simp only [Act.put, List.setIfInBounds_toArray, List.set_cons_zero, List.set_cons_succ]
  refine wpAnyH_take (i := 7) (oi := ?_) (v := ?_) ?_ ?_ ?_ ?_ ?_ ?_ (by assumption) ?_
  rotate_left 2
  · (simp only [List.getElem?_toArray, List.getElem?_cons_succ, List.getElem?_cons_zero]) <;> rfl
  · kernel_rfl
  · kernel_rfl
  · kernel_rfl
  rotate_left 1
  · refine Or.inl ⟨by rfl, ?_⟩
    intro w hSw
    (try dsimp only at hSw)
    go_simp
    all_goals with_reducible rfl
  rotate_left 1
  · exact fun _ _ _ h => h
  try simp only [Act.put, List.setIfInBounds_toArray, List.set_cons_zero, List.set_cons_succ]
  refine wpAnyH_take (i := 8) (oi := ?_) (v := ?_) ?_ ?_ ?_ ?_ ?_ ?_ (by assumption) ?_
  rotate_left 2
  · (simp only [List.getElem?_toArray, List.getElem?_cons_succ, List.getElem?_cons_zero]) <;> rfl
  · kernel_rfl
  · kernel_rfl
  · kernel_rfl
  rotate_left 1
  · refine Or.inl ⟨by rfl, ?_⟩
    intro w hSw
    (try dsimp only at hSw)
    go_simp
    all_goals with_reducible rfl
  rotate_left 1
  · exact fun _ _ _ h => h
  try simp only [Act.put, List.setIfInBounds_toArray, List.set_cons_zero, List.set_cons_succ]
  refine wpAnyH_take (i := 9) (oi := ?_) (v := ?_) ?_ ?_ ?_ ?_ ?_ ?_ (by assumption) ?_
  rotate_left 2
  · (simp only [List.getElem?_toArray, List.getElem?_cons_succ, List.getElem?_cons_zero]) <;> rfl
  · kernel_rfl
  · kernel_rfl
  · kernel_rfl
  rotate_left 1
  · refine Or.inl ⟨by rfl, ?_⟩
    intro w hSw
    (try dsimp only at hSw)
    go_simp
    all_goals with_reducible rfl
  rotate_left 1
  · exact fun _ _ _ h => h
  try simp only [Act.put, List.setIfInBounds_toArray, List.set_cons_zero, List.set_cons_succ]
  refine wpAnyH_take (i := 10) (oi := ?_) (v := ?_) ?_ ?_ ?_ ?_ ?_ ?_ (by assumption) ?_
  rotate_left 2
  · (simp only [List.getElem?_toArray, List.getElem?_cons_succ, List.getElem?_cons_zero]) <;> rfl
  · kernel_rfl
  · kernel_rfl
  · kernel_rfl
  rotate_left 1
  · refine Or.inl ⟨by rfl, ?_⟩
    intro w hSw
    (try dsimp only at hSw)
    go_simp
    all_goals with_reducible rfl
  rotate_left 1
  · exact fun _ _ _ h => h
  try simp only [Act.put, List.setIfInBounds_toArray, List.set_cons_zero, List.set_cons_succ]
  refine wpAnyH_take (i := 11) (oi := ?_) (v := ?_) ?_ ?_ ?_ ?_ ?_ ?_ (by assumption) ?_
  rotate_left 2
  · (simp only [List.getElem?_toArray, List.getElem?_cons_succ, List.getElem?_cons_zero]) <;> rfl
  · kernel_rfl
  · kernel_rfl
  · kernel_rfl
  rotate_left 1
  · refine Or.inl ⟨by rfl, ?_⟩
    intro w hSw
    (try dsimp only at hSw)
    go_simp
    all_goals with_reducible rfl
  rotate_left 1
  · exact fun _ _ _ h => h
  try simp only [Act.put, List.setIfInBounds_toArray, List.set_cons_zero, List.set_cons_succ]
  refine wpAnyH_take (i := 12) (oi := ?_) (v := ?_) ?_ ?_ ?_ ?_ ?_ ?_ (by assumption) ?_
  rotate_left 2
  · (simp only [List.getElem?_toArray, List.getElem?_cons_succ, List.getElem?_cons_zero]) <;> rfl
  · kernel_rfl
  · kernel_rfl
  · kernel_rfl
  rotate_left 1
  · refine Or.inl ⟨by rfl, ?_⟩
    intro w hSw
    (try dsimp only at hSw)
    go_simp
    all_goals with_reducible rfl
  rotate_left 1
  · exact fun _ _ _ h => h
  try simp only [Act.put, List.setIfInBounds_toArray, List.set_cons_zero, List.set_cons_succ]
  refine wpAnyH_take (i := 13) (oi := ?_) (v := ?_) ?_ ?_ ?_ ?_ ?_ ?_ (by assumption) ?_
  rotate_left 2
  · (simp only [List.getElem?_toArray, List.getElem?_cons_succ, List.getElem?_cons_zero]) <;> rfl
  · kernel_rfl
  · kernel_rfl
  · kernel_rfl
  rotate_left 1
  · refine Or.inl ⟨by rfl, ?_⟩
    intro w hSw
    (try dsimp only at hSw)
    go_simp
    all_goals with_reducible rfl
  rotate_left 1
  · exact fun _ _ _ h => h
  try simp only [Act.put, List.setIfInBounds_toArray, List.set_cons_zero, List.set_cons_succ]
  refine wpAnyH_take (i := 14) (oi := ?_) (v := ?_) ?_ ?_ ?_ ?_ ?_ ?_ (by assumption) ?_
  rotate_left 2
  · (simp only [List.getElem?_toArray, List.getElem?_cons_succ, List.getElem?_cons_zero]) <;> rfl
  · kernel_rfl
  · kernel_rfl
  · kernel_rfl
  rotate_left 1
  · refine Or.inl ⟨by rfl, ?_⟩
    intro w hSw
    (try dsimp only at hSw)
    go_simp
    all_goals with_reducible rfl
  rotate_left 1
  · exact fun _ _ _ h => h
  try simp only [Act.put, List.setIfInBounds_toArray, List.set_cons_zero, List.set_cons_succ]
  refine wpAnyH_take (i := 15) (oi := ?_) (v := ?_) ?_ ?_ ?_ ?_ ?_ ?_ (by assumption) ?_
  rotate_left 2
  · (simp only [List.getElem?_toArray, List.getElem?_cons_succ, List.getElem?_cons_zero]) <;> rfl
  · kernel_rfl
  · kernel_rfl
  · kernel_rfl
  rotate_left 1
  · refine Or.inl ⟨by rfl, ?_⟩
    intro w hSw
    (try dsimp only at hSw)
    go_simp
    all_goals with_reducible rfl
  rotate_left 1
  · exact fun _ _ _ h => h
  try simp only [Act.put, List.setIfInBounds_toArray, List.set_cons_zero, List.set_cons_succ]
  refine wpAnyH_ready (rs := [16]) (by kernel_rfl) (by simp) ?_
  refine AllReadyH.cons (o := ?_) ?_ ?_ AllReadyH.nil
  rotate_left 1
  · (simp only [List.getElem?_toArray, List.getElem?_cons_succ, List.getElem?_cons_zero]) <;> rfl
  intro K hK
  go_simp
  refine (sym_any _ _).mono ?_
  rintro e w13 ⟨rfl, m13⟩
  obtain ⟨g0, g1, g2⟩ := HCELL.out w13 (m13.at HB12.out (by simp))
  have k2 := HCONV.out w13 (m13.owns HO12.out (by simp))
  have M13 : Hid (Mod [] w12 w13) := Lib.hid (((Mod.refl [] w12).drew).trans m13 (by simp))
  clear m13
  refine hK.out _ _ (by (try dsimp only); exact ⟨g0, g1, g2, k2⟩) (fun hHeld => ?_)
  clear hK K
  try simp only [Act.put, List.setIfInBounds_toArray, List.set_cons_zero, List.set_cons_succ]
  refine wpAnyH_take (i := 17) (oi := ?_) (v := ?_) ?_ ?_ ?_ ?_ ?_ ?_ (by assumption) ?_
  rotate_left 2
  · (simp only [List.getElem?_toArray, List.getElem?_cons_succ, List.getElem?_cons_zero]) <;> rfl
  · kernel_rfl
  · kernel_rfl
  · kernel_rfl
  rotate_left 1
  · refine Or.inl ⟨by rfl, ?_⟩
    intro w hSw
    (try dsimp only at hSw)
    go_simp
    all_goals with_reducible rfl
  rotate_left 1
  · exact fun _ _ _ h => h
  try simp only [Act.put, List.setIfInBounds_toArray, List.set_cons_zero, List.set_cons_succ]
  refine wpAnyH_take (i := 18) (oi := ?_) (v := ?_) ?_ ?_ ?_ ?_ ?_ ?_ (by assumption) ?_
  rotate_left 2
  · (simp only [List.getElem?_toArray, List.getElem?_cons_succ, List.getElem?_cons_zero]) <;> rfl
  · kernel_rfl
  · kernel_rfl
  · kernel_rfl
  rotate_left 1
  · refine Or.inl ⟨by rfl, ?_⟩
    intro w hSw
    (try dsimp only at hSw)
    go_simp
    all_goals with_reducible rfl
  rotate_left 1
  · exact fun _ _ _ h => h
  try simp only [Act.put, List.setIfInBounds_toArray, List.set_cons_zero, List.set_cons_succ]
  refine wpAnyH_take (i := 19) (oi := ?_) (v := ?_) ?_ ?_ ?_ ?_ ?_ ?_ (by assumption) ?_
  rotate_left 2
  · (simp only [List.getElem?_toArray, List.getElem?_cons_succ, List.getElem?_cons_zero]) <;> rfl
  · kernel_rfl
  · kernel_rfl
  · kernel_rfl
  rotate_left 1
  · refine Or.inl ⟨by rfl, ?_⟩
    intro w hSw
    (try dsimp only at hSw)
    go_simp
    all_goals with_reducible rfl
  rotate_left 1
  · exact fun _ _ _ h => h
  try simp only [Act.put, List.setIfInBounds_toArray, List.set_cons_zero, List.set_cons_succ]
  refine wpAnyH_take (i := 20) (oi := ?_) (v := ?_) ?_ ?_ ?_ ?_ ?_ ?_ (by assumption) ?_
  rotate_left 2
  · (simp only [List.getElem?_toArray, List.getElem?_cons_succ, List.getElem?_cons_zero]) <;> rfl
  · kernel_rfl
  · kernel_rfl
  · kernel_rfl
  rotate_left 1
  · refine Or.inl ⟨by rfl, ?_⟩
    intro w hSw
    (try dsimp only at hSw)
    go_simp
    all_goals with_reducible rfl
  rotate_left 1
  · exact fun _ _ _ h => h
  try simp only [Act.put, List.setIfInBounds_toArray, List.set_cons_zero, List.set_cons_succ]
  refine wpAnyH_take (i := 21) (oi := ?_) (v := ?_) ?_ ?_ ?_ ?_ ?_ ?_ (by assumption) ?_
  rotate_left 2
  · (simp only [List.getElem?_toArray, List.getElem?_cons_succ, List.getElem?_cons_zero]) <;> rfl
  · kernel_rfl
  · kernel_rfl
  · kernel_rfl
  rotate_left 1
  · refine Or.inl ⟨by rfl, ?_⟩
    intro w hSw
    (try dsimp only at hSw)
    go_simp
    all_goals with_reducible rfl
  rotate_left 1
  · exact fun _ _ _ h => h
  try simp only [Act.put, List.setIfInBounds_toArray, List.set_cons_zero, List.set_cons_succ]
  refine wpAnyH_take (i := 22) (oi := ?_) (v := ?_) ?_ ?_ ?_ ?_ ?_ ?_ (by assumption) ?_
  rotate_left 2
  · (simp only [List.getElem?_toArray, List.getElem?_cons_succ, List.getElem?_cons_zero]) <;> rfl
  · kernel_rfl
  · kernel_rfl
  · kernel_rfl
  rotate_left 1
  · refine Or.inl ⟨by rfl, ?_⟩
    intro w hSw
    (try dsimp only at hSw)
    go_simp
    all_goals with_reducible rfl
  rotate_left 1
  · exact fun _ _ _ h => h
  try simp only [Act.put, List.setIfInBounds_toArray, List.set_cons_zero, List.set_cons_succ]
  refine wpAnyH_take (i := 23) (oi := ?_) (v := ?_) ?_ ?_ ?_ ?_ ?_ ?_ (by assumption) ?_
  rotate_left 2
  · (simp only [List.getElem?_toArray, List.getElem?_cons_succ, List.getElem?_cons_zero]) <;> rfl
  · kernel_rfl
  · kernel_rfl
  · kernel_rfl
  rotate_left 1
  · refine Or.inl ⟨by rfl, ?_⟩
    intro w hSw
    (try dsimp only at hSw)
    go_simp
    all_goals with_reducible rfl
  rotate_left 1
  · exact fun _ _ _ h => h
  try simp only [Act.put, List.setIfInBounds_toArray, List.set_cons_zero, List.set_cons_succ]
  refine wpAnyH_take (i := 24) (oi := ?_) (v := ?_) ?_ ?_ ?_ ?_ ?_ ?_ (by assumption) ?_
  rotate_left 2
  · (simp only [List.getElem?_toArray, List.getElem?_cons_succ, List.getElem?_cons_zero]) <;> rfl
  · kernel_rfl
  · kernel_rfl
  · kernel_rfl
  rotate_left 1
  · refine Or.inl ⟨by rfl, ?_⟩
    intro w hSw
    (try dsimp only at hSw)
    go_simp
    all_goals with_reducible rfl
  rotate_left 1
  · exact fun _ _ _ h => h
  try simp only [Act.put, List.setIfInBounds_toArray, List.set_cons_zero, List.set_cons_succ]
  refine wpAnyH_take (i := 25) (oi := ?_) (v := ?_) ?_ ?_ ?_ ?_ ?_ ?_ (by assumption) ?_
  rotate_left 2
  · (simp only [List.getElem?_toArray, List.getElem?_cons_succ, List.getElem?_cons_zero]) <;> rfl
  · kernel_rfl
  · kernel_rfl
  · kernel_rfl
  rotate_left 1
  · refine Or.inl ⟨by rfl, ?_⟩
    intro w hSw
    (try dsimp only at hSw)
    go_simp
    all_goals with_reducible rfl
  rotate_left 1
  · exact fun _ _ _ h => h
  try simp only [Act.put, List.setIfInBounds_toArray, List.set_cons_zero, List.set_cons_succ]
  refine wpAnyH_take (i := 26) (oi := ?_) (v := ?_) ?_ ?_ ?_ ?_ ?_ ?_ (by assumption) ?_
  rotate_left 2
  · (simp only [List.getElem?_toArray, List.getElem?_cons_succ, List.getElem?_cons_zero]) <;> rfl
  · kernel_rfl
  · kernel_rfl
  · kernel_rfl
  rotate_left 1
  · refine Or.inl ⟨by rfl, ?_⟩
    intro w hSw
    (try dsimp only at hSw)
    go_simp
    all_goals with_reducible rfl
  rotate_left 1
  · exact fun _ _ _ h => h
  try simp only [Act.put, List.setIfInBounds_toArray, List.set_cons_zero, List.set_cons_succ]
  refine wpAnyH_take (i := 27) (oi := ?_) (v := ?_) ?_ ?_ ?_ ?_ ?_ ?_ (by assumption) ?_
  rotate_left 2
  · (simp only [List.getElem?_toArray, List.getElem?_cons_succ, List.getElem?_cons_zero]) <;> rfl
  · kernel_rfl
  · kernel_rfl
  · kernel_rfl
  rotate_left 1
  · refine Or.inl ⟨by rfl, ?_⟩
    intro w hSw
    (try dsimp only at hSw)
    go_simp
    all_goals with_reducible rfl
  rotate_left 1
  · exact fun _ _ _ h => h
  try simp only [Act.put, List.setIfInBounds_toArray, List.set_cons_zero, List.set_cons_succ]
  refine wpAnyH_take (i := 28) (oi := ?_) (v := ?_) ?_ ?_ ?_ ?_ ?_ ?_ (by assumption) ?_
  rotate_left 2
  · (simp only [List.getElem?_toArray, List.getElem?_cons_succ, List.getElem?_cons_zero]) <;> rfl
  · kernel_rfl
  · kernel_rfl
  · kernel_rfl
  rotate_left 1
  · refine Or.inl ⟨by rfl, ?_⟩
    intro w hSw
    (try dsimp only at hSw)
    go_simp
    all_goals with_reducible rfl
  rotate_left 1
  · exact fun _ _ _ h => h
  try simp only [Act.put, List.setIfInBounds_toArray, List.set_cons_zero, List.set_cons_succ]
  refine wpAnyH_take (i := 29) (oi := ?_) (v := ?_) ?_ ?_ ?_ ?_ ?_ ?_ (by assumption) ?_
  rotate_left 2
  · (simp only [List.getElem?_toArray, List.getElem?_cons_succ, List.getElem?_cons_zero]) <;> rfl
  · kernel_rfl
  · kernel_rfl
  · kernel_rfl
  rotate_left 1
  · refine Or.inl ⟨by rfl, ?_⟩
    intro w hSw
    (try dsimp only at hSw)
    go_simp
    all_goals with_reducible rfl
  rotate_left 1
  · exact fun _ _ _ h => h
  try simp only [Act.put, List.setIfInBounds_toArray, List.set_cons_zero, List.set_cons_succ]
  refine wpAnyH_take (i := 30) (oi := ?_) (v := ?_) ?_ ?_ ?_ ?_ ?_ ?_ (by assumption) ?_
  rotate_left 2
  · (simp only [List.getElem?_toArray, List.getElem?_cons_succ, List.getElem?_cons_zero]) <;> rfl
  · kernel_rfl
  · kernel_rfl
  · kernel_rfl
  rotate_left 1
  · refine Or.inl ⟨by rfl, ?_⟩
    intro w hSw
    (try dsimp only at hSw)
    go_simp
    all_goals with_reducible rfl
  rotate_left 1
  · exact fun _ _ _ h => h
  try simp only [Act.put, List.setIfInBounds_toArray, List.set_cons_zero, List.set_cons_succ]
  refine wpAnyH_take (i := 31) (oi := ?_) (v := ?_) ?_ ?_ ?_ ?_ ?_ ?_ (by assumption) ?_
  rotate_left 2
  · (simp only [List.getElem?_toArray, List.getElem?_cons_succ, List.getElem?_cons_zero]) <;> rfl
  · kernel_rfl
  · kernel_rfl
  · kernel_rfl
  rotate_left 1
  · refine Or.inl ⟨by rfl, ?_⟩
    intro w hSw
    (try dsimp only at hSw)
    go_simp
    all_goals with_reducible rfl
  rotate_left 1
  · exact fun _ _ _ h => h
  try simp only [Act.put, List.setIfInBounds_toArray, List.set_cons_zero, List.set_cons_succ]
  refine wpAnyH_take (i := 32) (oi := ?_) (v := ?_) ?_ ?_ ?_ ?_ ?_ ?_ (by assumption) ?_
  rotate_left 2
  · (simp only [List.getElem?_toArray, List.getElem?_cons_succ, List.getElem?_cons_zero]) <;> rfl
  · kernel_rfl
  · kernel_rfl
  · kernel_rfl
  rotate_left 1
  · refine Or.inl ⟨by rfl, ?_⟩
    intro w hSw
    (try dsimp only at hSw)
    go_simp
    all_goals with_reducible rfl
  rotate_left 1
  · exact fun _ _ _ h => h
  try simp only [Act.put, List.setIfInBounds_toArray, List.set_cons_zero, List.set_cons_succ]
  refine wpAnyH_take (i := 33) (oi := ?_) (v := ?_) ?_ ?_ ?_ ?_ ?_ ?_ (by assumption) ?_
  rotate_left 2
  · (simp only [List.getElem?_toArray, List.getElem?_cons_succ, List.getElem?_cons_zero]) <;> rfl
  · kernel_rfl
  · kernel_rfl
  · kernel_rfl
  rotate_left 1
  · refine Or.inl ⟨by rfl, ?_⟩
    intro w hSw
    (try dsimp only at hSw)
    go_simp
    all_goals with_reducible rfl
  rotate_left 1
  · exact fun _ _ _ h => h
  try simp only [Act.put, List.setIfInBounds_toArray, List.set_cons_zero, List.set_cons_succ]
  refine wpAnyH_take (i := 34) (oi := ?_) (v := ?_) ?_ ?_ ?_ ?_ ?_ ?_ (by assumption) ?_
  rotate_left 2
  · (simp only [List.getElem?_toArray, List.getElem?_cons_succ, List.getElem?_cons_zero]) <;> rfl
  · kernel_rfl
  · kernel_rfl
  · kernel_rfl
  rotate_left 1
  · refine Or.inl ⟨by rfl, ?_⟩
    intro w hSw
    (try dsimp only at hSw)
    go_simp
    all_goals with_reducible rfl
  rotate_left 1
  · exact fun _ _ _ h => h
  try simp only [Act.put, List.setIfInBounds_toArray, List.set_cons_zero, List.set_cons_succ]
  refine wpAnyH_take (i := 35) (oi := ?_) (v := ?_) ?_ ?_ ?_ ?_ ?_ ?_ (by assumption) ?_
  rotate_left 2
  · (simp only [List.getElem?_toArray, List.getElem?_cons_succ, List.getElem?_cons_zero]) <;> rfl
  · kernel_rfl
  · kernel_rfl
  · kernel_rfl
  rotate_left 1
  · refine Or.inl ⟨by rfl, ?_⟩
    intro w hSw
    (try dsimp only at hSw)
    go_simp
    all_goals with_reducible rfl
  rotate_left 1
  · exact fun _ _ _ h => h
  try simp only [Act.put, List.setIfInBounds_toArray, List.set_cons_zero, List.set_cons_succ]
  refine wpAnyH_take (i := 36) (oi := ?_) (v := ?_) ?_ ?_ ?_ ?_ ?_ ?_ (by assumption) ?_
  rotate_left 2
  · (simp only [List.getElem?_toArray, List.getElem?_cons_succ, List.getElem?_cons_zero]) <;> rfl
  · kernel_rfl
  · kernel_rfl
  · kernel_rfl
  rotate_left 1
  · refine Or.inl ⟨by rfl, ?_⟩
    intro w hSw
    (try dsimp only at hSw)
    go_simp
    all_goals with_reducible rfl
  rotate_left 1
  · exact fun _ _ _ h => h
  try simp only [Act.put, List.setIfInBounds_toArray, List.set_cons_zero, List.set_cons_succ]
  refine wpAnyH_take (i := 37) (oi := ?_) (v := ?_) ?_ ?_ ?_ ?_ ?_ ?_ (by assumption) ?_
  rotate_left 2
  · (simp only [List.getElem?_toArray, List.getElem?_cons_succ, List.getElem?_cons_zero]) <;> rfl
  · kernel_rfl
  · kernel_rfl
  · kernel_rfl
  rotate_left 1
  · refine Or.inl ⟨by rfl, ?_⟩
    intro w hSw
    (try dsimp only at hSw)
    go_simp
    all_goals with_reducible rfl
  rotate_left 1
  · exact fun _ _ _ h => h
  try simp only [Act.put, List.setIfInBounds_toArray, List.set_cons_zero, List.set_cons_succ]
  refine wpAnyH_take (i := 38) (oi := ?_) (v := ?_) ?_ ?_ ?_ ?_ ?_ ?_ (by assumption) ?_
  rotate_left 2
  · (simp only [List.getElem?_toArray, List.getElem?_cons_succ, List.getElem?_cons_zero]) <;> rfl
  · kernel_rfl
  · kernel_rfl
  · kernel_rfl
  rotate_left 1
  · refine Or.inl ⟨by rfl, ?_⟩
    intro w hSw
    (try dsimp only at hSw)
    go_simp
    all_goals with_reducible rfl
  rotate_left 1
  · exact fun _ _ _ h => h
  try simp only [Act.put, List.setIfInBounds_toArray, List.set_cons_zero, List.set_cons_succ]
  refine wpAnyH_take (i := 39) (oi := ?_) (v := ?_) ?_ ?_ ?_ ?_ ?_ ?_ (by assumption) ?_
  rotate_left 2
  · (simp only [List.getElem?_toArray, List.getElem?_cons_succ, List.getElem?_cons_zero]) <;> rfl
  · kernel_rfl
  · kernel_rfl
  · kernel_rfl
  rotate_left 1
  · refine Or.inl ⟨by rfl, ?_⟩
    intro w hSw
    (try dsimp only at hSw)
    go_simp
    all_goals with_reducible rfl
  rotate_left 1
  · exact fun _ _ _ h => h
  try simp only [Act.put, List.setIfInBounds_toArray, List.set_cons_zero, List.set_cons_succ]
  refine wpAnyH_done (by kernel_rfl) ?_ _
  go_wp2_with fail
  go_ret
  exact ⟨rfl, M12.out.trans M13.out (by simp)⟩
end Go.Proofs.YtcalbbfkgdfidaaDoor
