/- LexScans: one call of both scanners; a nil scanner. -/
import Derived.Test.YtobimhmllkfmfaaDoorLawPlace
namespace Go.Proofs.YtobimhmllkfmfaaDoor
open Go.RowKit
set_option linter.unusedVariables false
set_option linter.unusedSimpArgs false
set_option maxRecDepth 100000

theorem next_nil (w : World) : Calls Tryd.prog 28 #[.pointer none] w fun e w' => e = .returned (.tuple #[.agg (tokC zeroT), .bool false]) ∧ Mod [] w w' := by
  go_enter Tryd.func28, Tryd.ntmps28
  go_wp2_with fail
  refine bodyPost_ret (res_tok rfl _ _ _ _ _ _ _ rfl rfl (heap_alloc_new w _) rfl) rfl ⟨rfl, (Mod.refl [] w).alloc _⟩
theorem fault_nil (w : World) : Calls Tryd.prog 29 #[.pointer none] w fun e w' => e = .returned (.agg #[.int .i64 0, .int .i64 0, .int .i64 0]) ∧ Mod [] w w' := by
  go_enter Tryd.func29, Tryd.ntmps29
  go_wp2_with fail
  refine bodyPost_ret (results_cell_row rfl _ _ _ _ _ _ _ rfl (heap_alloc_new w _) Tryd.underlying28 rfl (by kernel_rfl)) rfl ⟨rfl, (Mod.refl [] w).alloc _⟩
theorem end_nil (w : World) : Calls Tryd.prog 30 #[.pointer none] w fun e w' => e = .returned (.agg #[.int .i64 0, .int .i64 0]) ∧ Mod [] w w' := by
  go_enter Tryd.func30, Tryd.ntmps30
  go_wp2_with fail
  refine bodyPost_ret (results_cell_row rfl _ _ _ _ _ _ _ rfl (heap_alloc_new w _) Tryd.underlying26 rfl (by kernel_rfl)) rfl ⟨rfl, (Mod.refl [] w).alloc _⟩

theorem none_any (w : World) : Calls Tryd.prog 16 #[] w fun e w' => e = .returned (.bool true) ∧ Mod [] w w' := by
  go_enter Tryd.func16, Tryd.ntmps16
  go_wp2_with fail
  refine (next_nil _).mono ?_
  rintro e w1 ⟨rfl, hm1⟩
  rw [tokC, zeroT]
  have hB1 := heap_alloc_new w1 (Obj.cells (tokC zeroT) 45)
  have ha1 := hm1.alloc (Obj.cells (tokC zeroT) 45)
  have HB1 := Lib.hid hB1; have HA1 := Lib.hid ha1
  clear hB1 ha1 hm1
  go_wp2_with fail
  refine (fault_nil _).mono ?_
  rintro e w2 ⟨rfl, hm2⟩
  have hB2 := hm2.at HB1.out (by simp)
  have ha2 := HA1.out.trans hm2 (by simp)
  have hF3 := heap_alloc_new w2 (Obj.cells #[Value.int IntKind.i64 0, Value.int IntKind.i64 0, Value.int IntKind.i64 0] 28)
  have hB3 := ((Mod.refl [] w2).alloc (Obj.cells #[Value.int IntKind.i64 0, Value.int IntKind.i64 0, Value.int IntKind.i64 0] 28)).at hB2 (by simp)
  have ha3 := ha2.alloc (Obj.cells #[Value.int IntKind.i64 0, Value.int IntKind.i64 0, Value.int IntKind.i64 0] 28)
  have HB3 := Lib.hid hB3; have HA3 := Lib.hid ha3; have HF3 := Lib.hid hF3
  clear hm2 hB2 ha2 hF3 hB3 ha3
  go_wp2_with fail
  refine (end_nil _).mono ?_
  rintro e w4 ⟨rfl, hm4⟩
  have hB5 := hm4.at HB3.out (by simp)
  have hF5 := hm4.at HF3.out (by simp)
  have HM5 := Lib.hid (HA3.out.trans hm4 (by simp))
  obtain ⟨q0, q1, q2, q3, q4, q5, q6⟩ := tok_cells hB5
  simp only [zeroT] at q0 q1 q2 q3 q4 q5 q6
  rw [show Lx.ofS [] = { data := #[] } from rfl] at q1 q4
  have hl1 := lt_of_block hB5
  have hl2 := lt_of_block hF5
  have f0 : w4.cell? ⟨w2.heap.size, 0, none⟩ = some (.int .i64 0) := by simp [World.cell?, hF5]
  have f1 : w4.cell? ⟨w2.heap.size, 1, none⟩ = some (.int .i64 0) := by simp [World.cell?, hF5]
  have f2 : w4.cell? ⟨w2.heap.size, 2, none⟩ = some (.int .i64 0) := by simp [World.cell?, hF5]
  clear hm4 hB5 hF5
  go_wp2_with fail
  go_ret
  exact ⟨rfl, HM5.out.alloc _⟩

/-- what a call of both answers -/
def playSt (k : Int) (x : Lx.St) : Lx.St := if k = 0 then (Lx.next x).1 else x
set_option maxHeartbeats 1000000 in
theorem play_any (b c a : Nat) (s s' : ByteArray) (k : Int) (x : Lx.St) (w : World) (h : ScIs w b s x) (h' : RsIs w c s' a x) (hG : Glob w) (hb3 : 3 ≤ b) (hc3 : 3 ≤ c) (hbc : b ≠ c) :
    Calls Tryd.prog 17 #[.pointer (some ⟨b, 0, none⟩), .pointer (some ⟨c, 0, none⟩), .int .i64 k] w fun e w' => e = .returned (.bool true) ∧ (∃ s2 a2, ScIs w' b s2 (playSt k x) ∧ RsIs w' c s' a2 (playSt k x)) ∧ Mod [b, c] w w' := by
  by_cases k0 : k = 0
  · subst k0
    have hn := next_any b s x w h hG hb3
    have hr := fun w h => rNext_any c a s' x w h
    unfold Nx at hn
    unfold RNx at hr
    simp only [nextV_eq] at hn hr
    have hps : playSt 0 x = (Lx.next x).1 := rfl
    rw [hps]
    generalize Lx.next x = r at *
    obtain ⟨y, o⟩ := r
    simp only at hn hr ⊢
    generalize o.getD zeroT = t at *
    generalize o.isSome = ok at *
    simp only [tokC] at hn hr
    have HN := Lib.hid hn; have HR := Lib.hid hr; have H' := Lib.hid h'
    have hbl := h.lt; have hcl := h'.lt
    clear hn hr h h' hps
    go_enter Tryd.func17, Tryd.ntmps17
    go_wp2_with fail
    refine HN.out.mono ?_
    rintro e w1 ⟨rfl, s1, h1, hm1⟩
    have hB1 := heap_alloc_new w1 (Obj.cells (tokC t) 45)
    have ha1 := (Mod.refl [] w1).alloc (Obj.cells (tokC t) 45)
    have h1a := h1.past ha1 (by simp)
    have h1b := (H'.out.keep hm1 (by simp; omega)).past ha1 (by simp)
    have hma := hm1.alloc (Obj.cells (tokC t) 45)
    have HB1 := Lib.hid hB1; have H1 := Lib.hid h1a; have H2 := Lib.hid h1b; have HM1 := Lib.hid hma
    have hs1 := hm1.size
    clear hB1 ha1 h1a h1b hma hm1 h1
    go_wp2_with fail
    refine (HR.out _ H2.out).mono ?_
    rintro e w2 ⟨rfl, a2, h2, hm2⟩
    have hB2 := hm2.at HB1.out (by simp; omega)
    have h2b := H1.out.keep hm2 (by simp; omega)
    have hm2w : Mod [b, c] w w2 := (HM1.out.mono (T := [b, c]) (by simp)).trans hm2 (by simp)
    obtain ⟨q0, q1, q2, q3, q4, q5, q6⟩ := tok_cells hB2
    have hl2 := lt_of_block hB2
    have H3 := Lib.hid h2; have H4 := Lib.hid h2b; have HM2 := Lib.hid hm2w
    clear hB2 h2 h2b hm2w hm2
    cases ok
    · go_wp2_with fail
      go_ret
      exact ⟨rfl, ⟨_, _, H4.out.past ((Mod.refl [] w2).alloc _) (by simp), H3.out.past ((Mod.refl [] w2).alloc _) (by simp)⟩, HM2.out.alloc _⟩
    · go_wp2_with fail
      go_ret
      exact ⟨rfl, ⟨_, _, H4.out.past ((Mod.refl [] w2).alloc _) (by simp), H3.out.past ((Mod.refl [] w2).alloc _) (by simp)⟩, HM2.out.alloc _⟩
  · have hps : playSt k x = x := if_neg k0
    rw [hps]
    have k0B : (k == 0) = false := by rw [beq_eq_false_iff_ne]; exact k0
    by_cases k1 : k = 1
    · subst k1
      have hf := fun w h => Fault_any b s x w h
      have hr := fun w h => rFault_any c a s' x w h
      simp only [faultV] at hf hr
      have HF := Lib.hid hf; have HR := Lib.hid hr; have H := Lib.hid h; have H' := Lib.hid h'
      clear hf hr h h' k0 k0B
      go_enter Tryd.func17, Tryd.ntmps17
      go_wp2_with fail
      refine (HF.out _ H.out).mono ?_
      rintro e w1 ⟨rfl, hm1⟩
      have HM1 := Lib.hid hm1
      clear hm1
      go_wp2_with fail
      refine (HR.out _ (H'.out.past HM1.out (by simp))).mono ?_
      rintro e w2 ⟨rfl, hm2⟩
      have HM2 := Lib.hid (HM1.out.trans hm2 (by simp))
      clear hm2
      go_wp2_with fail
      go_ret
      exact ⟨rfl, ⟨_, _, H.out.past HM2.out (by simp), H'.out.past HM2.out (by simp)⟩, HM2.out.mono (by simp)⟩
    · have k1B : (k == 1) = false := by rw [beq_eq_false_iff_ne]; exact k1
      have hf := fun w h => End_any b s x w h
      have hr := fun w h => rEnd_any c a s' x w h
      simp only [endV] at hf hr
      have HF := Lib.hid hf; have HR := Lib.hid hr; have H := Lib.hid h; have H' := Lib.hid h'
      clear hf hr h h'
      go_enter Tryd.func17, Tryd.ntmps17
      go_wp2_with fail
      refine (HF.out _ H.out).mono ?_
      rintro e w1 ⟨rfl, hm1⟩
      have HM1 := Lib.hid hm1
      clear hm1
      go_wp2_with fail
      refine (HR.out _ (H'.out.past HM1.out (by simp))).mono ?_
      rintro e w2 ⟨rfl, hm2⟩
      have HM2 := Lib.hid (HM1.out.trans hm2 (by simp))
      clear hm2
      go_wp2_with fail
      go_ret
      exact ⟨rfl, ⟨_, _, H.out.past HM2.out (by simp), H'.out.past HM2.out (by simp)⟩, HM2.out.mono (by simp)⟩
end Go.Proofs.YtobimhmllkfmfaaDoor
