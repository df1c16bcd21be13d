/- THE READER's METHODS (those that the value layer reaches). -/
import Derived.Test.YthdkaoegegiheaaDoorCodeN
import Derived.Test.YthdkaoegegiheaaDoorVaCode2
namespace Go.Proofs.YthdkaoegegiheaaDoor
open Go.RowKit
set_option linter.unusedVariables false
set_option maxRecDepth 100000

theorem Fault_any (b : Nat) (v : Value) (l : List Nat) (a f : Nat) (w : World) (h : RdIs w b v l a f) :
    Calls Tryd.prog 94 #[.pointer (some ⟨b, 0, none⟩)] w fun e w' => e = .returned (.int .i64 (f : Int)) ∧ w = w' := by
  have h1 := h.c2
  go_enter Tryd.func94, Tryd.ntmps94
  go_wp2
  go_ret
  exact ⟨rfl, rfl⟩
/-- the fault, or that bytes are left -/
def endF (l : List Nat) (a f : Nat) : Nat := if f = 0 ∧ a < l.length then 13 else f
theorem End_any (b : Nat) (v : Value) (l : List Nat) (a f : Nat) (w : World) (h : RdIs w b v l a f) :
    Calls Tryd.prog 97 #[.pointer (some ⟨b, 0, none⟩)] w fun e w' => e = .returned (.int .i64 (endF l a f : Nat)) ∧ Mod [] w w' := by
  have h0 := h.c0
  have h1 := h.c1
  have h2 := h.c2
  have hin := h.in_
  have hlen := h.len
  obtain ⟨a', c', rfl⟩ := owns_slice h.row
  by_cases hf : f = 0
  · subst hf
    by_cases ha : a < l.length
    · have he : Hid (endF l a 0 = 13) := Lib.hid (by simp [endF, ha])
      go_enter Tryd.func97, Tryd.ntmps97
      go_wp2
      go_quiet (fail)
      go_wp2
      go_ret
      exact ⟨ret_int (by rw [he.out]; rfl), (Mod.refl _ _).drewN _⟩
    · have he : Hid (endF l a 0 = 0) := Lib.hid (by simp [endF, ha])
      have hd : decide ((a : Int) < (l.length : Int)) = false := by simp; omega
      go_enter Tryd.func97, Tryd.ntmps97
      go_wp2
      go_quiet (fail)
      go_wp2
      go_ret
      exact ⟨ret_int (by rw [he.out]; rfl), (Mod.refl _ _).drewN _⟩
  · have he : Hid (endF l a f = f) := Lib.hid (by simp [endF, hf])
    have hz : ((f : Int) == 0) = false := by rw [beq_eq_false_iff_ne]; omega
    go_enter Tryd.func97, Tryd.ntmps97
    go_wp2
    go_quiet (fail)
    go_wp2
    go_ret
    exact ⟨ret_int (by rw [he.out]), (Mod.refl _ _).drewN _⟩
/-- a new reader -/
theorem Read_any (src : Value) (l : List Nat) (w : World) (h : Reads w src l) :
    Calls Tryd.prog 91 #[src] w fun e w' => ∃ b v, e = .returned (.pointer (some ⟨b, 0, none⟩)) ∧ RdIs w' b v l 0 0 ∧ Mod [] w w' ∧ w.heap.size ≤ b ∧ ∀ k ∈ fp v, w.heap.size ≤ k := by
  obtain ⟨i0, hi, hz0, hz1, hz2⟩ := info_parts Tryd.infoU8
  have hlen := h.2.1
  have hsrc := src_reads h
  go_enter Tryd.func91, Tryd.ntmps91
  go_wp2_with (at_builtin; refine wpList_append_src _ rfl _ _ 64 64 rfl 5 i0 (.int .u8 0) 1 1 Tryd.underlying64 hi hz0 hz1 hz2 rfl (.slice none 0 0) 0 [] rfl (World.ownsRow_nil _ _ _ _) _ l.length (toCells l) rfl hsrc (by unfold maxLen; omega) (by omega) ?_)
  intro v' w1 hown hmod hfresh hnil
  have HH : ∃ b v, (Ending.returned (.pointer (some ⟨w1.heap.size, 0, none⟩))) = .returned (.pointer (some ⟨b, 0, none⟩)) ∧ RdIs (w1.alloc (.cells #[v', .int .i64 0, .int .i64 0] 170)) b v l 0 0 ∧ Mod [] w (w1.alloc (.cells #[v', .int .i64 0, .int .i64 0] 170)) ∧ w.heap.size ≤ b ∧ ∀ k ∈ fp v, w.heap.size ≤ k := by
    refine ⟨_, v', rfl, ⟨heap_alloc_new w1 _, by simpa using hown.alloc _, ?_, h.1, hlen, Nat.zero_le _⟩, hmod.alloc _, hmod.size, fun k hk => by simpa [fp] using hfresh k hk⟩
    intro hb
    have := (hown.lt w1.heap.size (by
      obtain ⟨a', c', rfl⟩ := owns_slice hown
      cases a' with
      | none => simp [fp] at hb
      | some x => simp [fp] at hb; simp [Value.ownBlock, hb])).2
    omega
  obtain ⟨a', c', rfl⟩ := owns_slice hown
  clear hnil hfresh hown hmod
  go_wp2
  go_ret
  exact HH
end Go.Proofs.YthdkaoegegiheaaDoor
