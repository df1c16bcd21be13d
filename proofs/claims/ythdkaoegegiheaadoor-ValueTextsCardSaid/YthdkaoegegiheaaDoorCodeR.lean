/- THE READER: contracts of what reads bytes. -/
import Derived.Test.YthdkaoegegiheaaDoorCodeW
namespace Go.Proofs.YthdkaoegegiheaaDoor
open Go.RowKit
set_option linter.unusedVariables false
set_option maxRecDepth 100000

/-- block b holds a reader of the bytes l (its slice is v), at a place, with a fault -/
structure RdIs (w : World) (b : Nat) (v : Value) (l : List Nat) (pos f : Nat) : Prop where
  at_ : w.heap[b]? = some (.cells #[v, .int .i64 (pos : Int), .int .i64 (f : Int)] 170 (0, 0))
  row : w.ownsRow 0 5 1 v l.length (toCells l)
  out : b ∉ fp v
  byte : ∀ c ∈ l, c < 256
  len : l.length ≤ 140737488355328
  in_ : pos ≤ l.length

theorem RdIs.c0 {w : World} {b : Nat} {v : Value} {l : List Nat} {a f : Nat} (h : RdIs w b v l a f) : w.cell? ⟨b, 0, none⟩ = some v := by simp [World.cell?, h.at_]
theorem RdIs.c1 {w : World} {b : Nat} {v : Value} {l : List Nat} {a f : Nat} (h : RdIs w b v l a f) : w.cell? ⟨b, 1, none⟩ = some (.int .i64 (a : Int)) := by simp [World.cell?, h.at_]
theorem RdIs.c2 {w : World} {b : Nat} {v : Value} {l : List Nat} {a f : Nat} (h : RdIs w b v l a f) : w.cell? ⟨b, 2, none⟩ = some (.int .i64 (f : Int)) := by simp [World.cell?, h.at_]
theorem RdIs.free {w : World} {b : Nat} {v : Value} {l : List Nat} {a f : Nat} (h : RdIs w b v l a f) (i : Nat) : w.frozen? ⟨b, i, none⟩ = false := by simp [World.frozen?, h.at_]

theorem RdIs.drewN {w : World} {b : Nat} {v : Value} {l : List Nat} {a f : Nat} (h : RdIs w b v l a f) (n : Nat) : RdIs (w.drewN n) b v l a f :=
  ⟨h.at_, h.row, h.out, h.byte, h.len, h.in_⟩

theorem set_at {w : World} {b : Nat} {v : Value} {l : List Nat} {a f : Nat} (h : RdIs w b v l a f) (a' : Nat) (ha : a' ≤ l.length) : RdIs (w.setCell ⟨b, 1, none⟩ (.int .i64 (a' : Int))) b v l a' f :=
  ⟨by simp [World.setCell, Array.getElem?_modify, h.at_], ownsRow_setCell_other h.row (fun e => h.out (ownBlock_fp _ _ e)) _, h.out, h.byte, h.len, ha⟩
theorem set_fault {w : World} {b : Nat} {v : Value} {l : List Nat} {a f : Nat} (h : RdIs w b v l a f) (f' : Nat) : RdIs (w.setCell ⟨b, 2, none⟩ (.int .i64 (f' : Int))) b v l a f' :=
  ⟨by simp [World.setCell, Array.getElem?_modify, h.at_], ownsRow_setCell_other h.row (fun e => h.out (ownBlock_fp _ _ e)) _, h.out, h.byte, h.len, h.in_⟩

theorem mod_one (w : World) (b o : Nat) (u : Value) : Mod [b] w (w.setCell ⟨b, o, none⟩ u) :=
  Mod.setCell (p := ⟨b, o, none⟩) (Mod.refl _ _) (.inl List.mem_cons_self) _

/-- the first fault stays -/
def ff (f e : Nat) : Nat := if f = 0 then e else f

/-- what a call on a reader leaves -/
def Rd (b : Nat) (v : Value) (l : List Nat) (a f : Nat) (x : Value) (w : World) (e : Ending) (w' : World) : Prop :=
  e = .returned x ∧ RdIs w' b v l a f ∧ Mod [b] w w'

theorem fail_any (b : Nat) (v : Value) (l : List Nat) (a f e : Nat) (w : World) (h : RdIs w b v l a f) :
    Calls Tryd.prog 132 #[.pointer (some ⟨b, 0, none⟩), .int .i64 (e : Int)] w (Rd b v l a (ff f e) (.tuple #[]) w) := by
  have h2 := h.c2
  have hf := h.free 2
  by_cases h0 : f = 0
  · subst h0
    have HH : Rd b v l a (ff 0 e) (.tuple #[]) w (.returned (.tuple #[])) (w.setCell ⟨b, 2, none⟩ (.int .i64 (e : Int))) := ⟨rfl, set_fault h e, mod_one _ _ _ _⟩
    go_enter Tryd.func132, Tryd.ntmps132
    go_wp2
    go_end0
    exact HH
  · have HH : Rd b v l a (ff f e) (.tuple #[]) w (.returned (.tuple #[])) w := by rw [ff, if_neg h0]; exact ⟨rfl, h, Mod.refl _ _⟩
    have hz : ((f : Int) == 0) = false := by rw [beq_eq_false_iff_ne]; omega
    go_enter Tryd.func132, Tryd.ntmps132
    go_wp2
    go_end0
    exact HH

theorem well_any (b : Nat) (v : Value) (l : List Nat) (a f : Nat) (w : World) (h : RdIs w b v l a f) (y : Bool) (hy : y = decide (f = 0)) :
    Calls Tryd.prog 130 #[.pointer (some ⟨b, 0, none⟩)] w fun e w' => e = .returned (.bool y) ∧ w = w' := by
  have h2 := h.c2
  have hz : ((f : Int) == 0) = y := by rw [hy, Bool.eq_iff_iff]; simp
  clear hy
  go_enter Tryd.func130, Tryd.ntmps130
  go_wp2
  go_ret
  exact ⟨rfl, rfl⟩

/-- what is cut -/
def cutL (l : List Nat) (a n : Nat) : List Nat := if n ≤ l.length - a then (l.drop a).take n else []
def cutA (l : List Nat) (a n : Nat) : Nat := if n ≤ l.length - a then a + n else a
def cutF (l : List Nat) (a n : Nat) : Nat := if n ≤ l.length - a then 0 else 10

theorem reads_sub {w : World} {g cap : Nat} {l : List Nat} (hrow : w.ownsRow 0 5 1 (.slice (some ⟨g, 0, none⟩) l.length cap) l.length (toCells l)) (hb : ∀ c ∈ l, c < 256) (hlen : l.length ≤ 140737488355328)
    (a n : Nat) (hc : n ≤ l.length - a) (o c : Nat) (ho : o = a ∨ n = 0) : Reads w (.slice (some ⟨g, o, none⟩) n c) ((l.drop a).take n) := by
  have hn : ((l.drop a).take n).length = n := by rw [List.length_take, List.length_drop]; omega
  refine ⟨fun x hx => hb x (List.mem_of_mem_drop (List.mem_of_mem_take hx)), by omega, .inr ⟨g, o, c, by rw [hn], fun i hi => ?_⟩⟩
  rw [hn] at hi
  rcases ho with rfl | h0
  · have h1 := hrow.cells (g := g) rfl (o + i) _ (toCells_get l (o + i) (by omega))
    rw [addr_add, Nat.zero_add] at h1
    rw [h1]
    congr 3
    rw [List.getD_eq_getElem?_getD, List.getD_eq_getElem?_getD, List.getElem?_take, if_pos hi, List.getElem?_drop]
  · omega

/-- the end of a cut that succeeds -/
theorem cut_end {b g cap : Nat} {l : List Nat} {a n : Nat} {w : World} (h : RdIs w b (.slice (some ⟨g, 0, none⟩) l.length cap) l a 0) (hc : n ≤ l.length - a) (p q : Nat) (x : Int) (hx : x = ((a + n : Nat) : Int)) (o c : Nat) (ho : o = a ∨ n = 0) :
    ∃ y, Reads ((((w.drewN p).setCell ⟨b, 1, none⟩ (.int .i64 x))).drewN q) y (cutL l a n) ∧ Rd b (.slice (some ⟨g, 0, none⟩) l.length cap) l (cutA l a n) (cutF l a n) y w (.returned (.slice (some ⟨g, o, none⟩) n c)) ((((w.drewN p).setCell ⟨b, 1, none⟩ (.int .i64 x))).drewN q) := by
  subst hx
  have hin := h.in_
  have h2 := (set_at (h.drewN p) (a + n) (by omega)).drewN q
  refine ⟨_, ?_, rfl, ?_, ?_⟩
  · rw [cutL, if_pos hc]
    exact reads_sub h2.row h.byte h.len a n hc o c ho
  · rw [cutA, cutF, if_pos hc, if_pos hc]
    exact h2
  · exact (((Mod.refl _ _).drewN p).trans (mod_one _ _ _ _) (fun t ht => .inl ht)).drewN q

theorem cut_any (b : Nat) (v : Value) (l : List Nat) (a : Nat) (n : Nat) (w : World) (h : RdIs w b v l a 0) (hn : n ≤ 9223372036854775807) :
    Calls Tryd.prog 133 #[.pointer (some ⟨b, 0, none⟩), .int .i64 (n : Int)] w fun e w' => ∃ x, Reads w' x (cutL l a n) ∧
      Rd b v l (cutA l a n) (cutF l a n) x w e w' := by
  have h0 := h.c0
  have h1 := h.c1
  have hf := h.free 1
  have hin := h.in_
  have hlen := h.len
  by_cases hc : n ≤ l.length - a
  · have hrow := h.row
    rcases h.row.2 with ⟨rfl, hl0⟩ | ⟨g, cap, cur, rfl, -, hg, hcap, hmax, hcs, htk⟩
    · have hln : l = [] := List.eq_nil_of_length_eq_zero hl0
      subst hln
      obtain rfl : a = 0 := by simpa using hin
      obtain rfl : n = 0 := by simpa using hc
      go_enter Tryd.func133, Tryd.ntmps133
      go_wp2
      go_quiet (fail)
      go_wp2_with fail
      go_quiet (fail)
      go_wp2
      go_ret
      exact ⟨_, ⟨by simp [cutL], by simp [cutL], .inl ⟨_, _, rfl, by simp [cutL]⟩⟩, rfl, (set_at (h.drewN _) 0 (Nat.le_refl _)).drewN _, (((Mod.refl _ _).drewN _).trans (mod_one _ _ _ _) (fun t ht => .inl ht)).drewN _⟩
    · unfold maxLen at hmax
      go_enter Tryd.func133, Tryd.ntmps133
      go_wp2
      go_quiet (fail)
      go_wp2_with fail
      go_quiet (fail)
      clear hg hcs htk hrow
      go_wp2
      all_goals
        go_ret
        first
          | exact cut_end (by assumption) hc _ _ _ (by omega) _ _ (.inl rfl)
          | (have e : cap = a := by assumption
             subst e
             exact cut_end (by assumption) hc _ _ _ (by omega) _ _ (.inr (by omega)))
  · have hle : cutA l a n = a := by rw [cutA, if_neg hc]
    have hlf : cutF l a n = 10 := by rw [cutF, if_neg hc]
    have hll : cutL l a n = [] := by rw [cutL, if_neg hc]
    rw [hle, hlf, hll]
    clear hle hlf hll
    obtain ⟨a', c', rfl⟩ := owns_slice h.row
    go_enter Tryd.func133, Tryd.ntmps133
    go_wp2
    go_quiet (fail)
    go_wp2_with fail
    refine (fail_any b _ l a 0 10 _ (h.drewN _)).mono ?_
    rintro e w2 ⟨rfl, hr, hm⟩
    go_wp2
    go_ret
    exact ⟨_, ⟨by simp, by simp, .inl ⟨_, _, rfl, rfl⟩⟩, rfl, hr, ((Mod.refl _ _).drewN _).trans hm (fun t ht => .inl ht)⟩
end Go.Proofs.YthdkaoegegiheaaDoor
