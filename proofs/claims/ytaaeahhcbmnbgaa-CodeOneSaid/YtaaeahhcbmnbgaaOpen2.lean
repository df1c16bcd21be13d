/- HOW ARGUMENTS ARE OPENED: a slice of ints that came in. -/
import Derived.Test.YtaaeahhcbmnbgaaOpen
namespace Go.Proofs.Ytaaeahhcbmnbgaa
open Go.ChangeShapes Go.WideShapes Go.ChangeAt Go.RowKit
set_option linter.unusedVariables false

/-- the slice v reads as the ints zs -/
def Ints (w : World) (v : Value) (zs : List Int) : Prop :=
  (∀ z ∈ zs, -9223372036854775808 ≤ z ∧ z ≤ 9223372036854775807) ∧ zs.length ≤ 140737488355328 ∧
  ((∃ x c, v = .slice x 0 c ∧ zs = []) ∨
   ∃ b off cap, v = .slice (some ⟨b, off, none⟩) zs.length cap ∧ ∀ i, i < zs.length → w.cell? ⟨b, off + i, none⟩ = some (.int .i64 (zs.getD i 0)))

theorem i64_range {n : Int} (h : (Lit.int .i64 n).wf = true) : -9223372036854775808 ≤ n ∧ n ≤ 9223372036854775807 := by
  simp [Lit.wf, IntKind.min, IntKind.max, IntKind.signed, IntKind.bits] at h
  omega

theorem open_i64s {H : Type} {enc : TypeId × Value → H} {W : World} {a : Option Addr} {len cap : Nat} {d : DataW H} {p : List MemPlace}
    (h : DataW.Trod enc Try.prog W 0 (fun _ => true) true 30 (.slice a len cap) d p) :
    ∃ l, l.length = len ∧ (len ≤ 140737488355328 → Ints W (.slice a len cap) l) ∧ ((len = 0 ∧ cap = 0) ∨ ∃ els sp, d = .slice els sp ∧ els.length = len ∧ els.length + sp.length = cap) := by
  obtain ⟨fuel, hf⟩ := h
  rcases open_ints Try.underlying30 Try.underlying3 (by kernel_rfl) hf with ⟨hcs, _⟩ | ⟨x, l, c, zs, hcs, _, hl, hm, hz, hx, hcell, hwz⟩
  · simp [Value.cells] at hcs
    obtain ⟨rfl, rfl, rfl⟩ := hcs
    exact ⟨[], rfl, fun _ => ⟨by simp, by simp, .inl ⟨_, _, rfl, rfl⟩⟩, .inl ⟨rfl, rfl⟩⟩
  · simp [Value.cells] at hcs
    obtain ⟨rfl, rfl, rfl⟩ := hcs
    simp only [if_true] at hz
    simp only [Prod.mk.injEq] at hx
    obtain ⟨hd, -⟩ := hx
    have hll : (zs.take len).length = len := by simp; omega
    refine ⟨zs.take len, hll, fun hlen => ⟨?_, by omega, ?_⟩, .inr ⟨_, _, hd, by simp [lits]; omega, by simp [lits]; omega⟩⟩
    · intro n hn
      exact i64_range (hwz n (List.mem_of_mem_take hn))
    · rcases Nat.eq_zero_or_pos len with h0 | h0
      · subst h0
        exact .inl ⟨_, _, rfl, by simp⟩
      · obtain ⟨b, off, spot⟩ := x
        have hspot : spot = none := by simpa [Addr.add] using World.cell?_spot (hcell 0 (by omega))
        subst hspot
        refine .inr ⟨b, off, cap, by rw [hll], fun i hi => ?_⟩
        rw [hll] at hi
        have h1 := hcell i (by omega)
        rw [add_plain'] at h1
        rw [h1, List.getD_eq_getElem?_getD, List.getD_eq_getElem?_getD, List.getElem?_take, if_pos hi]

theorem Ints.past {w w' : World} {v : Value} {l : List Int} (h : Ints w v l) (hm : ∀ p u, w.cell? p = some u → w'.cell? p = some u) : Ints w' v l := by
  obtain ⟨h1, h2, h3 | ⟨b, off, cap, rfl, hc⟩⟩ := h
  · exact ⟨h1, h2, .inl h3⟩
  · exact ⟨h1, h2, .inr ⟨b, off, cap, rfl, fun i hi => hm _ _ (hc i hi)⟩⟩
end Go.Proofs.Ytaaeahhcbmnbgaa
