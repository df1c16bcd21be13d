/- HOW ARGUMENTS ARE OPENED: a slice of calls that came in. -/
import Derived.Test.YtobimhmllkfmfaaDoorLawTok
import Derived.ProofKit
import Derived.OpenShut
import Derived.Deep.Slices
import Derived.Deep.Fields
namespace Go.Proofs.YtobimhmllkfmfaaDoor
open Go.ChangeShapes Go.WideShapes Go.ChangeAt Go.RowKit
set_option linter.unusedVariables false
set_option maxRecDepth 100000

/-- a call as it lies: One, Kind -/
structure ROp where
  one : Bool
  kind : Int
structure OpAt (w : World) (b o : Nat) (x : ROp) : Prop where
  c0 : w.cell? ⟨b, o, none⟩ = some (.bool x.one)
  c1 : w.cell? ⟨b, o + 1, none⟩ = some (.int .i64 x.kind)
def Ops (w : World) (v : Value) (xs : List ROp) : Prop :=
  (∃ a c, v = .slice a 0 c ∧ xs = []) ∨
   ∃ b off cap, v = .slice (some ⟨b, off, none⟩) xs.length cap ∧ ∀ i (h : i < xs.length), OpAt w b (off + i * 2) xs[i]

theorem exists_list {α : Type} (P : Nat → α → Prop) : ∀ (n : Nat), (∀ i, i < n → ∃ x, P i x) → ∃ xs : List α, xs.length = n ∧ ∀ i (hi : i < xs.length), P i xs[i]
  | 0, _ => ⟨[], rfl, fun i hi => by simp at hi⟩
  | n + 1, h => by
    obtain ⟨xs, hl, hp⟩ := exists_list P n (fun i hi => h i (by omega))
    obtain ⟨x, hx⟩ := h n (by omega)
    refine ⟨xs ++ [x], by simp [hl], fun i hi => ?_⟩
    by_cases e : i < xs.length
    · rw [List.getElem_append_left e]; exact hp i e
    · have : i = n := by simp at hi; omega
      subst this
      have e2 : (xs ++ [x])[i] = x := by
        rw [List.getElem_append_right (by omega)]; simp [hl]
      rw [e2]; exact hx

theorem Tryd.underOp : ∃ fs f0 f1, Tryd.prog.underlying 39 = some (.struct fs) ∧ fs = #[f0, f1] ∧ f0.offset = 0 ∧ f1.offset = 1 ∧ f0.type = 4 ∧ f1.type = 3 :=
  ⟨_, _, _, Tryd.underlying39, rfl, rfl, rfl, rfl, rfl⟩

theorem open_op {H : Type} {enc : TypeId × Value → H} {W : World} {fuel : Nat} {cs : List Value} {x : DataW H × List MemPlace}
    (h : DataW.trod enc Tryd.prog W 0 (fun _ => true) true fuel 39 cs = some x) :
    ∃ r : ROp, cs = [.bool r.one, .int .i64 r.kind] := by
  obtain ⟨fs, f0, f1, hu, rfl, o0, o1, t0, t1⟩ := Tryd.underOp
  obtain ⟨ys, n, -, hx, hlen, hyl, hf⟩ := DataW.trod_struct hu h
  rw [show Tryd.prog.cellsOf 39 = 2 by kernel_rfl] at hlen
  match cs, hlen, ys, hyl with
  | [c0, c1], _, [y0, y1], _ =>
    have h0 := hf 0 f0 rfl
    have h1 := hf 1 f1 rfl
    rw [o0, t0, show Tryd.prog.cellsOf 4 = 1 by kernel_rfl] at h0
    rw [o1, t1, show Tryd.prog.cellsOf 3 = 1 by kernel_rfl] at h1
    simp at h0 h1
    obtain ⟨b, e0, e0'⟩ := DataW.trod_bool Tryd.underlying4 h0
    obtain ⟨m, e1, e1', w1⟩ := DataW.trod_int Tryd.underlying3 h1
    simp at e0 e1
    subst e0 e1
    exact ⟨⟨b, m⟩, rfl⟩

theorem add_plain' (b o k : Nat) : (⟨b, o, none⟩ : Addr).add k = ⟨b, o + k, none⟩ := by
  simp [Addr.add]
theorem open_ops {H : Type} {enc : TypeId × Value → H} {W : World} {a : Option Addr} {len cap : Nat} {d : DataW H} {p : List MemPlace}
    (h : DataW.Trod enc Tryd.prog W 0 (fun _ => true) true 33 (.slice a len cap) d p) :
    ∃ xs : List ROp, xs.length = len ∧ Ops W (.slice a len cap) xs ∧ (len = 0 ∨ ∃ els sp, d = .slice els sp ∧ els.length = len) := by
  obtain ⟨fuel, hf⟩ := h
  rcases Go.Deep.open_slice Tryd.underlying33 hf with ⟨hcs, hx⟩ | ⟨x, l, c, m, n, D, Pl, hcs, hb, hl, hm, hmm, hx, hi⟩
  · simp [Value.cells] at hcs
    obtain ⟨rfl, rfl, rfl⟩ := hcs
    exact ⟨[], rfl, .inl ⟨_, _, rfl, rfl⟩, .inl rfl⟩
  · simp [Value.cells] at hcs
    obtain ⟨rfl, rfl, rfl⟩ := hcs
    simp only [if_true] at hmm
    subst hmm
    have hC : Tryd.prog.cellsOf 39 = 2 := by kernel_rfl
    rw [hC] at hi
    obtain ⟨xs, hxl, hxp⟩ := exists_list (fun i (r : ROp) => W.cell? (x.add (i * 2)) = some (.bool r.one) ∧ W.cell? ((x.add (i * 2)).add 1) = some (.int .i64 r.kind)) len (fun i hil => by
      obtain ⟨cs', hc, ht⟩ := hi i (by omega)
      obtain ⟨r, rfl⟩ := open_op ht
      obtain ⟨-, -, hat⟩ := World.cells?_some hc
      have h0 := hat 0 (by omega)
      have h1 := hat 1 (by omega)
      refine ⟨r, ?_, by simpa using h1⟩
      simpa [Addr.add] using h0)
    simp only [Prod.mk.injEq] at hx
    refine ⟨xs, hxl, ?_, .inr ⟨_, _, hx.1, by simp⟩⟩
    rcases Nat.eq_zero_or_pos len with h0 | h0
    · subst h0
      exact .inl ⟨_, _, rfl, List.eq_nil_of_length_eq_zero hxl⟩
    · obtain ⟨b, off, spot⟩ := x
      have hspot : spot = none := by
        have := (hxp 0 (by omega)).1
        simp [Addr.add] at this
        simpa using World.cell?_spot this
      subst hspot
      refine .inr ⟨b, off, _, by rw [hxl], fun i hi => ?_⟩
      obtain ⟨h0, h1⟩ := hxp i hi
      rw [add_plain'] at h0
      rw [add_plain', add_plain'] at h1
      exact ⟨h0, h1⟩

theorem Ops.at {w w' : World} {a : Option Addr} {c : Nat} {xs : List ROp} (h : Ops w (.slice a xs.length c) xs) (hm : Mod [] w w') (i : Nat) (hi : i < xs.length) :
    ∃ b off, a = some ⟨b, off, none⟩ ∧ OpAt w' b (off + i * 2) xs[i] := by
  rcases h with ⟨a', c', e, rfl⟩ | ⟨b, off, cap, e, hc⟩
  · simp at hi
  · simp only [Value.slice.injEq, true_and] at e
    exact ⟨b, off, e.1, hm.cell (hc i hi).c0 (by simp), hm.cell (hc i hi).c1 (by simp)⟩
end Go.Proofs.YtobimhmllkfmfaaDoor
