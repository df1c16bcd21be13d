/- LexMemory: a list is written over, grown, read. -/
import Derived.Test.YtobimhmllkfmfaaDoorMem2
namespace Go.Proofs.YtobimhmllkfmfaaDoor
open Go.RowKit
set_option linter.unusedVariables false
set_option linter.unusedSimpArgs false
set_option maxRecDepth 100000

theorem reads_any (v : Value) (n : Nat) (mark : Int) (hn : n ≤ 140737488355328) (w : World) (h : Marked w v n mark) :
    Calls Tryd.prog 24 #[v, .int .i64 mark] w fun e w' => e = .returned (.bool true) ∧ w' = w := by
  obtain ⟨⟨a, c, rfl⟩, hc⟩ := h
  go_enter Tryd.func24, Tryd.ntmps24
  go_wp2_with fail
  go_loopw [5] (fun iv wr => ∃ k : Nat, k ≤ n ∧ iv = .int .i64 (k : Nat) ∧ wr = w) (fun iv _ => n - (intOf iv).toNat)
  case atStart => exact ⟨0, Nat.zero_le _, rfl, rfl⟩
  case round =>
    obtain ⟨k, hk, rfl, rfl⟩ := hrel
    by_cases hlt : k < n
    · have hkI : (k : Int) < (n : Int) := by omega
      have hk0 : (0 : Int) ≤ (k : Int) := by omega
      obtain ⟨g, c', e, hcell⟩ := hc k hlt
      simp only [Value.slice.injEq, true_and] at e
      obtain ⟨rfl, rfl⟩ := e
      have HC := Lib.hid hc
      clear hc
      go_wp2_with fail
      go_roundw
      case rel => exact ⟨k + 1, by omega, by go_num, by trivial⟩
      case measure => simp [intOf]; omega
    · obtain rfl : k = n := by omega
      have hkI : ¬ (k : Int) < (k : Int) := by omega
      go_wp2_with fail
      go_ret
      exact ⟨rfl, rfl⟩

theorem owns_cells {w : World} {n : Nat} {g cap : Nat} {xs : List Value} (h : w.ownsRow 0 45 7 (.slice (some ⟨g, 0, none⟩) n cap) n xs) : (∀ j, j < n * 7 → ∃ u, w.cell? ⟨g, j, none⟩ = some u) ∧ ∀ j, w.frozen? ⟨g, j, none⟩ = false := by
  rcases h.2 with ⟨h3, -⟩ | ⟨g', cap', cur, hv, hb, hg, hn, hc, hs, ht⟩
  · simp at h3
  · simp only [Value.slice.injEq, Option.some.injEq, Addr.mk.injEq, and_true, true_and] at hv
    obtain ⟨rfl, rfl⟩ := hv
    refine ⟨fun j hj => ?_, fun j => by simp [World.frozen?, hg]⟩
    have : n * 7 ≤ cap * 7 := Nat.mul_le_mul_right _ hn
    refine ⟨cur[j]'(by omega), ?_⟩
    simp only [World.cell?, hg]
    exact Array.getElem?_eq_getElem _
def markC (mark : Int) : Array Value := #[.int .i64 mark, .string { data := #[] }, .int .i64 0, .int .i64 0, .string { data := #[] }, .int .i64 0, .int .i64 0]
theorem mrow_step {w : World} {n g cap k : Nat} {mark : Int} (h : MRow w (.slice (some ⟨g, 0, none⟩) n cap) n mark k) (hk : k < n) (v1 v2 v3 v4 v5 v6 : Value) :
    MRow (((((((w.setCell ⟨g, k * 7, none⟩ (.int .i64 mark)).setCell ⟨g, k * 7 + 1, none⟩ v1).setCell ⟨g, k * 7 + 2, none⟩ v2).setCell ⟨g, k * 7 + 3, none⟩ v3).setCell ⟨g, k * 7 + 4, none⟩ v4).setCell ⟨g, k * 7 + 5, none⟩ v5).setCell ⟨g, k * 7 + 6, none⟩ v6) (.slice (some ⟨g, 0, none⟩) n cap) n mark (k + 1) := by
  obtain ⟨xs, h1, h2⟩ := h.row
  have hl : xs.length = n * 7 := h1.1
  have := owns_set (owns_set (owns_set (owns_set (owns_set (owns_set (owns_set h1 (k * 7) (.int .i64 mark) (by omega)) (k * 7 + 1) v1 (by omega)) (k * 7 + 2) v2 (by omega)) (k * 7 + 3) v3 (by omega)) (k * 7 + 4) v4 (by omega)) (k * 7 + 5) v5 (by omega)) (k * 7 + 6) v6 (by omega)
  refine ⟨_, this, fun i hi hin => ?_⟩
  rw [List.getElem?_set_ne (by omega), List.getElem?_set_ne (by omega), List.getElem?_set_ne (by omega), List.getElem?_set_ne (by omega), List.getElem?_set_ne (by omega), List.getElem?_set_ne (by omega)]
  by_cases e : i = k
  · subst e
    rw [List.getElem?_set_self (by omega)]
  · rw [List.getElem?_set_ne (by omega)]
    exact h2 i (by omega) hin

theorem mod_tok' {S : List Nat} {w0 w : World} {b o : Nat} (h : Mod S w0 w) (hb : b ∈ S ∨ w0.heap.size ≤ b) (v0 v1 v2 v3 v4 v5 v6 : Value) :
    Mod S w0 (((((((w.setCell ⟨b, o, none⟩ v0).setCell ⟨b, o + 1, none⟩ v1).setCell ⟨b, o + 2, none⟩ v2).setCell ⟨b, o + 3, none⟩ v3).setCell ⟨b, o + 4, none⟩ v4).setCell ⟨b, o + 5, none⟩ v5).setCell ⟨b, o + 6, none⟩ v6) :=
  ((((((h.setCell hb _).setCell hb _).setCell hb _).setCell hb _).setCell hb _).setCell hb _).setCell hb _

set_option maxHeartbeats 1000000 in
theorem fill_any (l : List Lx.Tok) (mark : Int) (v : Value) (base : Nat) (hn : l.length ≤ 70000) (w : World) (h : TokRow w base v l) :
    Calls Tryd.prog 22 #[v, .int .i64 mark] w fun e w' => e = .returned (.tuple #[]) ∧ MRow w' v l.length mark l.length ∧ Mod (fp v) w w' := by
  obtain ⟨a, c, rfl⟩ := h.lit
  have h0 : MRow w (.slice a l.length c) l.length mark 0 := ⟨_, h.row, fun i hi => by omega⟩
  have H0 := Lib.hid h0
  clear h h0
  generalize l.length = n at *
  go_enter Tryd.func22, Tryd.ntmps22
  go_wp2_with fail
  go_loopw [4] (fun iv wr => ∃ k : Nat, k ≤ n ∧ iv = .int .i64 (k : Nat) ∧ MRow wr (.slice a n c) n mark k ∧ Mod (fp (.slice a n c)) w wr) (fun iv _ => n - (intOf iv).toNat)
  case atStart => exact ⟨0, Nat.zero_le _, rfl, H0.out, Mod.refl _ _⟩
  case round =>
    obtain ⟨k, hk, rfl, hM, hmr⟩ := hrel
    by_cases hlt : k < n
    · have hkI : (k : Int) < (n : Int) := by omega
      have hk0 : (0 : Int) ≤ (k : Int) := by omega
      obtain ⟨xs, h1, h2⟩ := hM.row
      obtain ⟨g, rfl⟩ : ∃ g, a = some ⟨g, 0, none⟩ := by
        rcases h1.2 with ⟨h3, h4⟩ | ⟨g', cap', cur, hv, hb, hg, hn, hc, hs, ht⟩
        · omega
        · simp only [Value.slice.injEq, true_and] at hv
          exact ⟨_, hv.1⟩
      obtain ⟨hcs, hfz⟩ := owns_cells h1
      obtain ⟨u0, c0⟩ := hcs (k * 7) (by omega)
      obtain ⟨u1, c1⟩ := hcs (k * 7 + 1) (by omega)
      obtain ⟨u2, c2⟩ := hcs (k * 7 + 2) (by omega)
      obtain ⟨u3, c3⟩ := hcs (k * 7 + 3) (by omega)
      obtain ⟨u4, c4⟩ := hcs (k * 7 + 4) (by omega)
      obtain ⟨u5, c5⟩ := hcs (k * 7 + 5) (by omega)
      obtain ⟨u6, c6⟩ := hcs (k * 7 + 6) (by omega)
      have HMR := Lib.hid hM
      clear hM h1 h2 hcs
      go_wp2_with fail
      go_roundw
      case rel =>
        refine ⟨k + 1, by omega, by go_num, mrow_step HMR.out hlt _ _ _ _ _ _, ?_⟩
        exact mod_tok' hmr (.inl (by simp [fp])) _ _ _ _ _ _ _
      case measure => simp [intOf]; omega
    · obtain rfl : k = n := by omega
      have hkI : ¬ (k : Int) < (k : Int) := by omega
      go_wp2_with fail
      go_end0
      exact ⟨rfl, hM, hmr⟩
end Go.Proofs.YtobimhmllkfmfaaDoor
