/- HOW ARGUMENTS ARE OPENED: a slice of bytes that came in, read as a list of numbers. -/
import Derived.Test.YthdkaoegegiheaaDoorBase
import Derived.ProofKit
import Derived.OpenShut
namespace Go.Proofs.YthdkaoegegiheaaDoor
open Go.ChangeShapes Go.WideShapes Go.ChangeAt Go.RowKit
set_option linter.unusedVariables false

theorem add_plain' (b o i : Nat) : (⟨b, o, none⟩ : Addr).add i = ⟨b, o + i, none⟩ := by
  unfold Addr.add; split <;> simp_all

theorem u8_range {n : Int} (h : (Lit.int .u8 n).wf = true) : 0 ≤ n ∧ n < 256 := by
  simp [Lit.wf, IntKind.min, IntKind.max, IntKind.signed, IntKind.bits] at h
  omega

/-- a slice of bytes that came in -/
theorem open_u8s {H : Type} {enc : TypeId × Value → H} {W : World} {a : Option Addr} {len cap : Nat} {d : DataW H} {p : List MemPlace}
    (h : DataW.Trod enc Tryd.prog W 0 (fun _ => true) true 64 (.slice a len cap) d p) :
    ∃ l, l.length = len ∧ (len ≤ 140737488355328 → Reads W (.slice a len cap) l) ∧ ((len = 0 ∧ cap = 0) ∨ ∃ els sp, d = .slice els sp ∧ els.length = len ∧ els.length + sp.length = cap) := by
  obtain ⟨fuel, hf⟩ := h
  rcases open_ints Tryd.underlying64 Tryd.underlying5 (by kernel_rfl) hf with ⟨hcs, _⟩ | ⟨x, l, c, zs, hcs, _, hl, hm, hz, hx, hcell, hwz⟩
  · simp [Value.cells] at hcs
    obtain ⟨rfl, rfl, rfl⟩ := hcs
    exact ⟨[], rfl, fun _ => ⟨by simp, by simp, .inl ⟨_, _, rfl, rfl⟩⟩, .inl ⟨rfl, rfl⟩⟩
  · simp [Value.cells] at hcs
    obtain ⟨rfl, rfl, rfl⟩ := hcs
    simp only [if_true] at hz
    simp only [Prod.mk.injEq] at hx
    obtain ⟨hd, -⟩ := hx
    refine ⟨(zs.take len).map Int.toNat, by simp; omega, fun hlen => ⟨?_, by simp; omega, ?_⟩, .inr ⟨_, _, hd, by simp [lits]; omega, by simp [lits]; omega⟩⟩
    · intro n hn
      obtain ⟨y, hy, rfl⟩ := List.mem_map.1 hn
      have := u8_range (hwz y (List.mem_of_mem_take hy))
      omega
    · rcases Nat.eq_zero_or_pos len with h0 | h0
      · subst h0
        exact .inl ⟨_, _, rfl, by simp⟩
      · obtain ⟨b, off, spot⟩ := x
        have hspot : spot = none := by simpa [Addr.add] using World.cell?_spot (hcell 0 (by omega))
        subst hspot
        have hll : ((zs.take len).map Int.toNat).length = len := by simp; omega
        refine .inr ⟨b, off, cap, by rw [hll], fun i hi => ?_⟩
        rw [hll] at hi
        have h1 := hcell i (by omega)
        rw [add_plain'] at h1
        rw [h1]
        have hw := u8_range (hwz (zs.getD i 0) (by
          rw [List.getD_eq_getElem?_getD, List.getElem?_eq_getElem (by omega)]
          exact List.getElem_mem _))
        congr 2
        have e : ((zs.take len).map Int.toNat).getD i 0 = (zs.getD i 0).toNat := by
          rw [List.getD_eq_getElem?_getD, List.getElem?_map, List.getElem?_take, if_pos (by omega), List.getD_eq_getElem?_getD, List.getElem?_eq_getElem (by omega)]
          rfl
        rw [e]
        omega
end Go.Proofs.YthdkaoegegiheaaDoor
