/- ValueTextBack. -/
import Derived.Test.YthdkaoegegiheaaDoorVaAwake
namespace Go.Proofs.YthdkaoegegiheaaDoor
open Go.RowKit
set_option linter.unusedVariables false
set_option linter.unusedSimpArgs false
set_option maxRecDepth 100000

theorem nDigits_le (u : Nat) : Lib.nDigits u ≤ u + 1 := by
  induction u using Nat.strongRecOn with
  | _ u ih =>
    by_cases h : u < 10
    · rw [Lib.nDigits_small h]; omega
    · rw [Lib.nDigits_big h]
      have := ih (u / 10) (by omega)
      omega
theorem text_len {v : Va.Val} (h : Va.may v = true) : (Va.text v).length ≤ 3000000000 := by
  have h64 := may_len h
  have hk := h
  unfold Va.may at hk
  simp only [Bool.or_eq_true, Bool.and_eq_true, beq_iff_eq, decide_eq_true_eq] at hk
  unfold Va.text
  split
  · unfold Va.itoa Lib.itoa
    rw [List.length_map]
    split
    · rw [List.length_cons, Lib.decDigits_length]
      have := nDigits_le v.n.natAbs
      omega
    · rw [Lib.decDigits_length]
      have := nDigits_le v.n.toNat
      omega
  · split
    · omega
    · unfold Va.quoted
      have := flat_len v.s
      simp only [List.length_cons, List.length_append, List.length_nil]
      omega

theorem prsV_some (v : Va.Val) : prsV (some v) = .tuple #[.agg (valV v), .int .i64 0] := rfl
theorem prsV_none : prsV none = .tuple #[.agg (valV Va.zero), .int .i64 21] := rfl
set_option maxHeartbeats 4000000 in
theorem ValueTextBack_any (v : Va.Val) (s : ByteArray) (hv : v.Ok) (hs : s.size ≤ 140737488355327) (w : World) (hG : GlobV w) :
    Calls Tryd.prog 3 #[.agg (valV v), .string s] w fun e w' => e = .returned (.bool true) ∧ Mod [] w w' := by
  have ha := fun w hG => awake_any w hG
  have h1 := fun w => check_any v w
  have h2 := fun w hG => Text_any v hv w hG
  have h4 := fun w hG => Parse_any s hs w hG
  have h3 : Va.may v = true → ∀ w, GlobV w → Calls Tryd.prog 15 #[.string (Lx.ofS (Va.text v))] w fun e w' => e = .returned (prsV (some v)) ∧ Mod [] w w' := fun hm w hG => by
    have hst : Cod.str (Lx.ofS (Va.text v)) = Va.text v := Lx.str_ofS (text_lt hv.byte)
    have hsz : (Lx.ofS (Va.text v)).size = (Va.text v).length := ofS_size _
    have hln := text_len hm
    have := Parse_any (Lx.ofS (Va.text v)) (by omega) w hG
    rw [hst, Va.parse_text hv.byte hm] at this
    exact this
  have h5 : ∀ u, Va.parse (Cod.str s) = some u → ∀ w, GlobV w → Calls Tryd.prog 14 #[.agg (valV u)] w fun e w' => e = .returned (.tuple #[.string s, .int .i64 0]) ∧ Mod [] w w' := fun u hu w hG => by
    obtain ⟨hm, ht⟩ := Va.parse_back hu
    have hub : VB u := by
      have hg := hu
      unfold Va.parse at hg
      split at hg
      · simp at hg
      · rename_i g hgg
        split at hg
        · simp only [Option.some.injEq] at hg
          subst hg
          unfold Va.guess at hgg
          split at hgg
          · simp only [Option.some.injEq] at hgg; subst hgg; simp [VB]
          · split at hgg
            · cases hq : Va.uq (((Cod.str s).take ((Cod.str s).length - 1)).drop 1) with
              | none => rw [hq] at hgg; simp at hgg
              | some t =>
                rw [hq] at hgg
                simp only [Option.map_some, Option.some.injEq] at hgg
                subst hgg
                exact uqF_lt _ _ t (fun c hc => Cod.str_lt s c (List.mem_of_mem_take (List.mem_of_mem_drop hc))) hq
            · simp only [Option.some.injEq] at hgg; subst hgg; exact Cod.str_lt s
        · simp at hg
    have := Text_any u (val_ok hm hub) w hG
    have e : txtV u = .tuple #[.string s, .int .i64 0] := by
      unfold txtV chk
      rw [hm]
      simp only [if_true]
      rw [ht, Lx.ofS_str]
    rw [e] at this
    exact this
  have hz : valV Va.zero = #[.int .i64 0, .int .i64 0, .string { data := #[] }] := rfl
  generalize Va.parse (Cod.str s) = o at *
  have HA := Lib.hid ha; have H1 := Lib.hid h1; have H2 := Lib.hid h2; have H3 := Lib.hid h3; have H4 := Lib.hid h4; have H5 := Lib.hid h5
  clear ha h1 h2 h3 h4 h5
  have hvv : valV v = #[.int .i64 v.k, .int .i64 v.n, .string (Lx.ofS v.s)] := rfl
  rw [hvv]
  rw [hvv] at H1 H2
  have hm0 := (Mod.refl [] w).alloc (Obj.cells #[Value.int IntKind.i64 v.k, Value.int IntKind.i64 v.n, Value.string (Lx.ofS v.s)] 23)
  have hB0 := heap_alloc_new w (Obj.cells #[Value.int IntKind.i64 v.k, Value.int IntKind.i64 v.n, Value.string (Lx.ofS v.s)] 23)
  have HM0 := Lib.hid hm0; have HB0 := Lib.hid hB0
  clear hm0 hB0
  have hcell : ∀ w' : World, w'.heap[w.heap.size]? = some (.cells #[Value.int IntKind.i64 v.k, Value.int IntKind.i64 v.n, Value.string (Lx.ofS v.s)] 23 (0, 0)) → w'.cell? ⟨w.heap.size, 0, none⟩ = some (.int .i64 v.k) ∧ w'.cell? ⟨w.heap.size, 1, none⟩ = some (.int .i64 v.n) ∧ w'.cell? ⟨w.heap.size, 2, none⟩ = some (.string (Lx.ofS v.s)) := fun w' h => by
    refine ⟨?_, ?_, ?_⟩ <;> simp only [World.cell?, h] <;> rfl
  have HC := Lib.hid hcell
  clear hcell
  go_enter Tryd.func3, Tryd.ntmps3
  go_wp2_with fail
  refine (HA.out _ (hG.past HM0.out (by simp))).mono ?_
  rintro e w1 ⟨rfl, m1⟩
  obtain ⟨c0, c1, c2⟩ := HC.out w1 (m1.at HB0.out (by simp))
  have M1 := Lib.hid (HM0.out.trans m1 (by simp)); have B1 := Lib.hid (m1.at HB0.out (by simp))
  clear m1 HM0 HB0
  go_wp2_with fail
  refine (H1.out _).mono ?_
  rintro e w2 ⟨rfl, m2⟩
  have M2 := Lib.hid (M1.out.trans m2 (by simp)); have B2 := Lib.hid (m2.at B1.out (by simp))
  clear m2 M1 B1 c0 c1 c2
  obtain ⟨c0, c1, c2⟩ := HC.out w2 B2.out
  go_wp2_with fail
  refine (H2.out _ (hG.past M2.out (by simp))).mono ?_
  rintro e w3 ⟨rfl, m3⟩
  have M3 := Lib.hid (M2.out.trans m3 (by simp)); have B3 := Lib.hid (m3.at B2.out (by simp))
  clear m3 M2 B2 c0 c1 c2
  obtain ⟨c0, c1, c2⟩ := HC.out w3 B3.out
  unfold txtV
  cases hmv : Va.may v
  · have hch : chk v = 20 := by unfold chk; rw [hmv]; rfl
    rw [hch]
    clear hmv hch H3
    go_wp2_with fail
    refine (H4.out _ (hG.past M3.out (by simp))).mono ?_
    rintro e w4 ⟨rfl, m4⟩
    have M4 := Lib.hid (M3.out.trans m4 (by simp))
    clear m4 M3
    cases o with
    | none =>
      rw [prsV_none, hz]
      go_wp2_with fail
      go_ret
      exact ⟨rfl, M4.out.alloc _⟩
    | some u =>
      have h5' := H5.out u rfl
      rw [prsV_some]
      have huu : valV u = #[.int .i64 u.k, .int .i64 u.n, .string (Lx.ofS u.s)] := rfl
      rw [huu] at h5' ⊢
      have H5' := Lib.hid h5'
      clear h5' H5
      have hGX := hG.past (M4.out.alloc (Obj.cells #[Value.int IntKind.i64 u.k, Value.int IntKind.i64 u.n, Value.string (Lx.ofS u.s)] 23)) (by simp)
      have HGX := Lib.hid hGX
      clear hGX
      go_wp2_with fail
      refine (H5'.out _ HGX.out).mono ?_
      rintro e w6 ⟨rfl, m6⟩
      have M6 := Lib.hid ((M4.out.alloc (Obj.cells #[Value.int IntKind.i64 u.k, Value.int IntKind.i64 u.n, Value.string (Lx.ofS u.s)] 23)).trans m6 (by simp))
      clear m6
      go_wp2_with fail
      go_ret
      exact ⟨rfl, M6.out⟩
  · have hch : chk v = 0 := by unfold chk; rw [hmv]; rfl
    rw [hch]
    have h3' := H3.out hmv
    rw [prsV_some, hvv] at h3'
    have H3' := Lib.hid h3'
    clear hch H3 h3' hmv
    simp only [if_true]
    go_wp2_with fail
    refine (H3'.out _ (hG.past M3.out (by simp))).mono ?_
    rintro e w5 ⟨rfl, m5⟩
    have M5 := Lib.hid ((M3.out.trans m5 (by simp)).alloc (Obj.cells #[Value.int IntKind.i64 v.k, Value.int IntKind.i64 v.n, Value.string (Lx.ofS v.s)] 23)); have B5 := Lib.hid (m5.at B3.out (by simp))
    clear m5 c0 c1 c2
    obtain ⟨c0, c1, c2⟩ := HC.out w5 B5.out
    have hlt5 := lt_of_block B5.out
    go_wp2_with fail
    refine (H4.out _ (hG.past M5.out (by simp))).mono ?_
    rintro e w4 ⟨rfl, m4⟩
    have M4 := Lib.hid (M5.out.trans m4 (by simp))
    clear m4 M5 c0 c1 c2
    cases o with
    | none =>
      rw [prsV_none, hz]
      go_wp2_with fail
      go_ret
      exact ⟨rfl, M4.out.alloc _⟩
    | some u =>
      have h5' := H5.out u rfl
      rw [prsV_some]
      have huu : valV u = #[.int .i64 u.k, .int .i64 u.n, .string (Lx.ofS u.s)] := rfl
      rw [huu] at h5' ⊢
      have H5' := Lib.hid h5'
      clear h5' H5
      have hGX := hG.past (M4.out.alloc (Obj.cells #[Value.int IntKind.i64 u.k, Value.int IntKind.i64 u.n, Value.string (Lx.ofS u.s)] 23)) (by simp)
      have HGX := Lib.hid hGX
      clear hGX
      go_wp2_with fail
      refine (H5'.out _ HGX.out).mono ?_
      rintro e w6 ⟨rfl, m6⟩
      have M6 := Lib.hid ((M4.out.alloc (Obj.cells #[Value.int IntKind.i64 u.k, Value.int IntKind.i64 u.n, Value.string (Lx.ofS u.s)] 23)).trans m6 (by simp))
      clear m6
      go_wp2_with fail
      go_ret
      exact ⟨rfl, M6.out⟩
end Go.Proofs.YthdkaoegegiheaaDoor
