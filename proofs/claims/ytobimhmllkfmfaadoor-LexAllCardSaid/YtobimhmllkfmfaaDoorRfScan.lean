/- THE REFERENCE's scanner: a step, blanks and remarks. -/
import Derived.Test.YtobimhmllkfmfaaDoorRfWord
namespace Go.Proofs.YtobimhmllkfmfaaDoor
open Go.RowKit
set_option linter.unusedVariables false
set_option linter.unusedSimpArgs false
set_option maxRecDepth 100000

def rsCells (s : ByteArray) (a : Nat) (x : Lx.St) : Array Value :=
  #[.string s, .int .i64 (a : Nat), .int .i64 (x.pos.1 : Nat), .int .i64 (x.pos.2 : Nat), .int .i64 (x.code : Nat), .int .i64 (x.fp.1 : Nat), .int .i64 (x.fp.2 : Nat), .int .i64 (x.fin.1 : Nat), .int .i64 (x.fin.2 : Nat)]
structure RsIs (w : World) (b : Nat) (s : ByteArray) (a : Nat) (x : Lx.St) : Prop where
  at_ : w.heap[b]? = some (.cells (rsCells s a x) 63 (0, 0))
  str : (Cod.str s).drop a = x.s
  ain : a ≤ s.size
  long : x.long = decide (65536 < s.size)
  size : s.size ≤ 140737488355328
  lim : x.long = false → x.pos.1 + 2 * x.s.length ≤ 200000 ∧ x.pos.2 + 2 * x.s.length ≤ 200000

theorem RsIs.lt {w : World} {b a : Nat} {s : ByteArray} {x : Lx.St} (h : RsIs w b s a x) : b < w.heap.size := lt_of_block h.at_
theorem RsIs.free {w : World} {b a : Nat} {s : ByteArray} {x : Lx.St} (h : RsIs w b s a x) (i : Nat) : w.frozen? ⟨b, i, none⟩ = false := by simp [World.frozen?, h.at_]
theorem RsIs.keep {S : List Nat} {w w' : World} {b a : Nat} {s : ByteArray} {x : Lx.St} (h : RsIs w b s a x) (hm : Mod S w w') (hb : b ∉ S) : RsIs w' b s a x :=
  ⟨hm.at h.at_ hb, h.str, h.ain, h.long, h.size, h.lim⟩
theorem RsIs.past {S : List Nat} {w w' : World} {b a : Nat} {s : ByteArray} {x : Lx.St} (h : RsIs w b s a x) (hm : Mod S w w') (hS : ∀ t ∈ S, w.heap.size ≤ t) : RsIs w' b s a x :=
  h.keep hm (fun hb => by have := hS b hb; have := h.lt; omega)
theorem RsIs.len {w : World} {b a : Nat} {s : ByteArray} {x : Lx.St} (h : RsIs w b s a x) : x.s.length = s.size - a := by rw [← h.str, List.length_drop, Cod.str_len]
theorem rs_cells {w : World} {b a : Nat} {s : ByteArray} {x : Lx.St} (h : RsIs w b s a x) :
    w.cell? ⟨b, 0, none⟩ = some (.string s) ∧ w.cell? ⟨b, 1, none⟩ = some (.int .i64 (a : Nat)) ∧ w.cell? ⟨b, 2, none⟩ = some (.int .i64 (x.pos.1 : Nat)) ∧ w.cell? ⟨b, 3, none⟩ = some (.int .i64 (x.pos.2 : Nat)) ∧ w.cell? ⟨b, 4, none⟩ = some (.int .i64 (x.code : Nat)) ∧
    w.cell? ⟨b, 5, none⟩ = some (.int .i64 (x.fp.1 : Nat)) ∧ w.cell? ⟨b, 6, none⟩ = some (.int .i64 (x.fp.2 : Nat)) ∧ w.cell? ⟨b, 7, none⟩ = some (.int .i64 (x.fin.1 : Nat)) ∧ w.cell? ⟨b, 8, none⟩ = some (.int .i64 (x.fin.2 : Nat)) := by
  simp [World.cell?, h.at_, rsCells]

theorem rStep_any (b a : Nat) (s : ByteArray) (x : Lx.St) (w : World) (h : RsIs w b s a x) (ha : a < s.size) (hl : x.long = false) :
    Calls Tryd.prog 40 #[.pointer (some ⟨b, 0, none⟩)] w fun e w' => e = .returned (.tuple #[]) ∧ RsIs w' b s (a + 1) (St.at x 1) ∧ Mod [b] w w' := by
  have hlen := h.len
  obtain ⟨hl1, hl2⟩ := h.lim hl
  have hsz := h.size
  obtain ⟨c, r, hd⟩ : ∃ c r, x.s = c :: r := by
    cases hx : x.s with
    | nil => rw [hx] at hlen; simp at hlen; omega
    | cons c r => exact ⟨_, _, rfl⟩
  have hc0 : s[a].toNat = c := by
    rw [← Lx.get_str s a ha, List.getD_eq_getElem?_getD, ← List.head?_drop, h.str, hd]; rfl
  have hD : Hid (∀ n, RsIs (w.drewN n) b s a x) := Lib.hid (fun n => h.keep ((Mod.refl [] w).drewN n) (by simp))
  have haI : (a : Int) < (s.size : Int) := by omega
  have ha0 : (0 : Int) ≤ (a : Int) := by omega
  obtain ⟨c0, c1, c2, c3, c4, c5, c6, c7, c8⟩ := rs_cells h
  have fb := h.free
  have H := Lib.hid h
  have hfin : ∀ (w' : World) (p : Nat × Nat), w'.heap[b]? = some (.cells (rsCells s (a + 1) { x with pos := p }) 63 (0, 0)) → p = (if c = 10 then (x.pos.1 + 1, 1) else (x.pos.1, x.pos.2 + 1)) → RsIs w' b s (a + 1) (St.at x 1) := by
    intro w' p hw hp
    have e : St.at x 1 = { x with s := r, pos := p } := by
      unfold St.at
      rw [hd, hp]
      rfl
    have hrl : r.length + 1 = x.s.length := by rw [hd]; rfl
    rw [e]
    refine ⟨hw, ?_, by omega, h.long, h.size, fun _ => ?_⟩
    · show (Cod.str s).drop (a + 1) = r
      rw [← List.drop_drop, h.str, hd]; rfl
    · simp only
      rw [hp]
      split <;> simp only <;> omega
  have HF := Lib.hid hfin
  have hx1 : x.pos.1 ≤ 200000 := by omega
  have hx2 : x.pos.2 ≤ 200000 := by omega
  have hM : ∀ n, Mod [b] w (w.drewN n) := fun n => (Mod.refl [b] w).drewN n
  have HM := Lib.hid hM
  clear h hd hfin hlen hM
  by_cases h10 : c = 10
  · have p10 : ((s[a].toNat : Int) == 10) = true := by rw [hc0, h10]; rfl
    clear hc0
    go_enter Tryd.func40, Tryd.ntmps40
    go_wp2_with fail
    go_quiet (fail)
    go_wp2_with fail
    go_end0
    refine ⟨rfl, HF.out _ (x.pos.1 + 1, 1) ?_ (by rw [if_pos h10]), (((HM.out nq).setCell (p := ⟨b, 2, none⟩) (by simp) _).setCell (p := ⟨b, 3, none⟩) (by simp) _).setCell (p := ⟨b, 1, none⟩) (by simp) _⟩
    rw [setCell_at (setCell_at (setCell_at (hD.out nq).at_ 2 _) 3 _) 1 _]
    rfl
  · have p10 : ((s[a].toNat : Int) == 10) = false := by rw [hc0, beq_eq_false_iff_ne]; omega
    clear hc0
    go_enter Tryd.func40, Tryd.ntmps40
    go_wp2_with fail
    go_quiet (fail)
    go_wp2_with fail
    go_end0
    refine ⟨rfl, HF.out _ (x.pos.1, x.pos.2 + 1) ?_ (by rw [if_neg h10]), ((HM.out nq).setCell (p := ⟨b, 3, none⟩) (by simp) _).setCell (p := ⟨b, 1, none⟩) (by simp) _⟩
    rw [setCell_at (setCell_at (hD.out nq).at_ 3 _) 1 _]
    rfl
end Go.Proofs.YtobimhmllkfmfaaDoor
