/- THE REFERENCE: Tokens. -/
import Derived.Test.YtobimhmllkfmfaaDoorRfToks
namespace Go.Proofs.YtobimhmllkfmfaaDoor
open Go.RowKit
set_option linter.unusedVariables false
set_option linter.unusedSimpArgs false
set_option maxRecDepth 100000

/-- no fault, no place of one -/
theorem next_fp {x : Lx.St} (h : x.code = 0 → x.fp = (0, 0)) : (Lx.next x).1.code = 0 → (Lx.next x).1.fp = (0, 0) := by
  unfold Lx.next
  split
  · exact h
  · split
    · intro hc; simp at hc
    · split
      · exact h
      · split
        · rename_i e he
          intro hc
          have := word_bad he
          simp at hc; omega
        · exact h
theorem allF_fp : ∀ (k : Nat) (x : Lx.St), (x.code = 0 → x.fp = (0, 0)) → (Lx.allF k x).2.code = 0 → (Lx.allF k x).2.fp = (0, 0)
  | 0, x, h => h
  | k + 1, x, h => by
    rw [allF_succ]
    have := next_fp h
    cases hn : Lx.next x with
    | mk y o =>
      rw [hn] at this
      cases o with
      | none => exact this
      | some t => exact allF_fp k y this
theorem given_fp (l : List Nat) : (Lx.given l).2.code = 0 → (Lx.given l).2.fp = (0, 0) := allF_fp _ _ (fun _ => rfl)
theorem faultV_given (l : List Nat) : faultV (Lx.given l).2 = fltV (Lx.fault l) := by
  unfold Lx.fault faultV fltV
  by_cases h : (Lx.given l).2.code = 0
  · rw [if_pos h, given_fp l h, h]
  · rw [if_neg h]

set_option maxHeartbeats 4000000 in
theorem rTokens_any (s : ByteArray) (hs : s.size ≤ 140737488355328) (w : World) :
    Calls Tryd.prog 12 #[.string s] w (Toks (Cod.str s) w) := by
  have hfv := faultV_given (Cod.str s)
  by_cases hc : (Lx.given (Cod.str s)).2.code = 0
  · have hcB : (((Lx.given (Cod.str s)).2.code : Int) != 0) = false := by rw [hc]; rfl
    have e : Hid (Lx.tokens (Cod.str s) = (Lx.given (Cod.str s)).1) := Lib.hid (by unfold Lx.tokens; rw [if_pos hc])
    have HFV := Lib.hid hfv
    clear hc hfv
    go_enter Tryd.func12, Tryd.ntmps12
    go_wp2_with fail
    refine (rGiven_any s hs _).mono ?_
    rintro e2 w2 ⟨v, rfl, hr, hm⟩
    have hF2 := hm.at (heap_alloc_new w (Obj.cells #[Value.int IntKind.i64 0, Value.int IntKind.i64 0, Value.int IntKind.i64 0] 28)) (by simp)
    have hmw := ((Mod.refl [] w).alloc _).trans hm (by simp)
    rw [faultV]
    generalize Lx.given (Cod.str s) = r at *
    have fz : ∀ j, w2.frozen? ⟨w.heap.size, j, none⟩ = false := fun j => by simp [World.frozen?, hF2]
    have f0 : w2.cell? ⟨w.heap.size, 0, none⟩ = some (.int .i64 0) := by simp [World.cell?, hF2]
    have f1 : w2.cell? ⟨w.heap.size, 1, none⟩ = some (.int .i64 0) := by simp [World.cell?, hF2]
    have f2 : w2.cell? ⟨w.heap.size, 2, none⟩ = some (.int .i64 0) := by simp [World.cell?, hF2]
    have hlt := lt_of_block hF2
    have hne : w.heap.size ≠ w2.heap.size := by omega
    have HR := Lib.hid hr; have HM := Lib.hid hmw; have HF2 := Lib.hid hF2
    clear hr hmw hm hF2
    go_wp2_with fail
    go_region
    go_wp2_with fail
    refine bodyPost_ret (res_toks rfl _ _ _ _ _ _ _ rfl rfl (drew_at (((Mod.refl [] _).alloc _).at (store3 HF2.out _ _ _) (by simp))) rfl) rfl ?_
    refine ⟨v, by rw [← HFV.out]; rfl, ?_, ((mod3 HM.out (.inr (Nat.le_refl _)) _ _ _).alloc _).drew⟩
    rw [e.out]
    refine (HR.out.keep (S := [w.heap.size]) ((mod3 (Mod.refl _ w2) (.inl (by simp)) _ _ _).alloc _).drew (fun k hk => ?_)).base (by simp)
    have h1 := HR.out.new k hk
    simp at h1 ⊢; omega
  · have hcB : (((Lx.given (Cod.str s)).2.code : Int) != 0) = true := by rw [bne_iff_ne]; omega
    have e : Hid (Lx.tokens (Cod.str s) = []) := Lib.hid (by unfold Lx.tokens; rw [if_neg hc])
    have HFV := Lib.hid hfv
    clear hc hfv
    go_enter Tryd.func12, Tryd.ntmps12
    go_wp2_with fail
    refine (rGiven_any s hs _).mono ?_
    rintro e2 w2 ⟨v, rfl, hr, hm⟩
    have hF2 := hm.at (heap_alloc_new w (Obj.cells #[Value.int IntKind.i64 0, Value.int IntKind.i64 0, Value.int IntKind.i64 0] 28)) (by simp)
    have hmw := ((Mod.refl [] w).alloc _).trans hm (by simp)
    rw [faultV]
    generalize Lx.given (Cod.str s) = r at *
    have fz : ∀ j, w2.frozen? ⟨w.heap.size, j, none⟩ = false := fun j => by simp [World.frozen?, hF2]
    have f0 : w2.cell? ⟨w.heap.size, 0, none⟩ = some (.int .i64 0) := by simp [World.cell?, hF2]
    have f1 : w2.cell? ⟨w.heap.size, 1, none⟩ = some (.int .i64 0) := by simp [World.cell?, hF2]
    have f2 : w2.cell? ⟨w.heap.size, 2, none⟩ = some (.int .i64 0) := by simp [World.cell?, hF2]
    have hlt := lt_of_block hF2
    have hne : w.heap.size ≠ w2.heap.size := by omega
    have HR := Lib.hid hr; have HM := Lib.hid hmw; have HF2 := Lib.hid hF2
    clear hr hmw hm hF2
    go_wp2_with fail
    go_region
    go_wp2_with fail
    refine bodyPost_ret (res_toks rfl _ _ _ _ _ _ _ rfl rfl (drew_at (((Mod.refl [] _).alloc _).at (store3 HF2.out _ _ _) (by simp))) rfl) rfl ?_
    refine ⟨_, by rw [← HFV.out]; rfl, ?_, ((mod3 HM.out (.inr (Nat.le_refl _)) _ _ _).alloc _).drew⟩
    rw [e.out]
    exact TokRow.nil _ _
end Go.Proofs.YtobimhmllkfmfaaDoor
