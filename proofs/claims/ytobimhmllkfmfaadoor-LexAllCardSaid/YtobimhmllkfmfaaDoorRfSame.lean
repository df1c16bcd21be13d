/- THE REFERENCE: are two lists of words alike? -/
import Derived.Test.YtobimhmllkfmfaaDoorRfTok2
import Derived.Laws.StructEq
namespace Go.Proofs.YtobimhmllkfmfaaDoor
open Go.RowKit
set_option linter.unusedVariables false
set_option linter.unusedSimpArgs false
set_option maxRecDepth 100000

theorem tokCells_get : ∀ (l : List Lx.Tok) (i : Nat) (t : Lx.Tok), l[i]? = some t → ∀ j, j < 7 → (tokCells l)[i * 7 + j]? = (tokC t).toList[j]?
  | [], i, t, h => by simp at h
  | u :: r, 0, t, h => fun j hj => by
    simp at h; subst h
    rw [tokCells, List.flatMap_cons, List.getElem?_append_left (by simp [tokC]; omega)]
    simp
  | u :: r, i + 1, t, h => fun j hj => by
    rw [tokCells, List.flatMap_cons, List.getElem?_append_right (by simp [tokC]; omega)]
    have := tokCells_get r i t (by simpa using h) j hj
    rw [tokCells] at this
    rw [← this]
    congr 1
    simp [tokC]; omega

/-- the cells of a list's word -/
theorem TokRow.at {w : World} {base : Nat} {v : Value} {l : List Lx.Tok} (h : TokRow w base v l) (i : Nat) (t : Lx.Tok) (hi : l[i]? = some t) :
    ∃ g c, v = .slice (some ⟨g, 0, none⟩) l.length c ∧ w.cell? ⟨g, i * 7, none⟩ = some (.int .i64 (t.kind : Nat)) ∧ w.cell? ⟨g, i * 7 + 1, none⟩ = some (.string (Lx.ofS t.text)) ∧ w.cell? ⟨g, i * 7 + 2, none⟩ = some (.int .i64 (t.vk : Nat)) ∧
      w.cell? ⟨g, i * 7 + 3, none⟩ = some (.int .i64 (t.num : Nat)) ∧ w.cell? ⟨g, i * 7 + 4, none⟩ = some (.string (Lx.ofS t.sym)) ∧ w.cell? ⟨g, i * 7 + 5, none⟩ = some (.int .i64 (t.line : Nat)) ∧ w.cell? ⟨g, i * 7 + 6, none⟩ = some (.int .i64 (t.col : Nat)) := by
  have hlt : i < l.length := (List.getElem?_eq_some_iff.1 hi).1
  rcases h.row.2 with ⟨rfl, h0⟩ | ⟨g, cap, cur, rfl, hb, hg, hn, hc, hs, ht⟩
  · omega
  · have key : ∀ j, j < 7 → w.cell? ⟨g, i * 7 + j, none⟩ = (tokC t).toList[j]? := by
      intro j hj
      rw [← tokCells_get l i t hi j hj, ← ht]
      simp only [World.cell?, hg]
      have hlt2 : i * 7 + j < l.length * 7 := by omega
      rw [List.getElem?_take, if_pos hlt2]
      simp
    refine ⟨g, cap, rfl, ?_, ?_, ?_, ?_, ?_, ?_, ?_⟩
    · exact key 0 (by omega)
    · exact key 1 (by omega)
    · exact key 2 (by omega)
    · exact key 3 (by omega)
    · exact key 4 (by omega)
    · exact key 5 (by omega)
    · exact key 6 (by omega)

set_option maxHeartbeats 2000000 in
theorem rSame_any (l : List Lx.Tok) (va vm : Value) (w : World) (B C : Nat) (ha : TokRow w B va l) (hm : TokRow w C vm l) (hn : l.length ≤ 70000) :
    Calls Tryd.prog 13 #[va, vm] w fun e w' => e = .returned (.bool true) ∧ Mod [] w w' := by
  obtain ⟨aa, ac, rfl⟩ := ha.lit
  obtain ⟨ma, mc, rfl⟩ := hm.lit
  go_enter Tryd.func13, Tryd.ntmps13
  go_wp2_with fail
  go_loopg [5] l.length (fun gk iv wr => ∃ i : Nat, l.length = gk + i ∧ iv = .int .i64 (i : Nat) ∧ Mod [] w wr)
  case atStart => exact ⟨0, rfl, rfl, Mod.refl _ _⟩
  case round =>
    obtain ⟨i, hg, rfl, hmr⟩ := hrel
    by_cases hi : i < l.length
    · have h1 : l[i]? = some l[i] := List.getElem?_eq_getElem hi
      obtain ⟨g1, k1, e1, a0, a1, a2, a3, a4, a5, a6⟩ := (ha.past hmr (by simp)).at i _ h1
      obtain ⟨g2, k2, e2, m0, m1, m2, m3, m4, m5, m6⟩ := (hm.past hmr (by simp)).at i _ h1
      simp only [Value.slice.injEq, true_and] at e1 e2
      obtain ⟨rfl, rfl⟩ := e1
      obtain ⟨rfl, rfl⟩ := e2
      have hiI : (i : Int) < (l.length : Int) := by omega
      have hi0 : (0 : Int) ≤ (i : Int) := by omega
      generalize l[i] = x at *
      have HA := Lib.hid ha; have HM := Lib.hid hm
      clear ha hm h1
      go_wp2_with fail
      go_quiet (fail)
      go_wp2_with fail
      go_roundg (gk - 1)
      case measure => omega
      case rel => exact ⟨i + 1, by omega, by go_num, hmr.drewN _⟩
    · have hiI : ¬ (i : Int) < (l.length : Int) := by omega
      go_wp2_with fail
      go_ret
      exact ⟨rfl, hmr⟩
end Go.Proofs.YtobimhmllkfmfaaDoor
