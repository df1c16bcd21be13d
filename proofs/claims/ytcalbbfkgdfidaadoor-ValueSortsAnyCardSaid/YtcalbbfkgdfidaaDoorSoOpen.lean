/- ValueSorts, ValueSortsAny: WHAT THE ROWS' LISTS GIVE; HOW ARGUMENTS ARE OPENED: things that came in. -/
import Derived.Test.YtcalbbfkgdfidaaDoorSoAny
import Derived.Test.YtcalbbfkgdfidaaDoorVaUnq
import Derived.Test.YtcalbbfkgdfidaaDoorRows
import Derived.ProofKit
import Derived.OpenShut
import Derived.LaidMore
import Derived.Stop.LaidErr
import Derived.Stop.Joined
import Derived.Deep.Slices
import Derived.Deep.Fields
namespace Go.Proofs.YtcalbbfkgdfidaaDoor
open Go.ChangeShapes Go.WideShapes Go.ChangeAt Go.RowKit
set_option linter.unusedVariables false
set_option linter.unusedSimpArgs false
set_option maxRecDepth 100000

theorem gTabV : Tryd.prog.globalNamed "internal/strconv.uint64pow10" = some 2 := by kernel_rfl
theorem gRngV : Tryd.prog.globalNamed "strconv.ErrRange" = some 1 := by kernel_rfl
theorem gSynW : Tryd.prog.globalNamed "strconv.ErrSyntax" = some 0 := by kernel_rfl
theorem tRngV : (Tryd.prog.globals[1]?).map (·.type) = some 68 := by kernel_rfl
theorem tSynV : (Tryd.prog.globals[0]?).map (·.type) = some 68 := by kernel_rfl
theorem tTabV : (Tryd.prog.globals[2]?).map (·.type) = some 134 := by kernel_rfl
theorem starEV : "*" ++ "errors.errorString" = "*errors.errorString" := by decide
theorem rowEV (u : TypeId) (h : Tryd.prog.typeName? 3 u = some "*errors.errorString") : u = 129 :=
  typeName_ptr_named (nm := "errors.errorString") (by rw [starEV]; kernel_rfl) (by kernel_rfl) (by decide) u (by rw [starEV]; exact h)
theorem globS_of_laid {W : World} (h : laidMetH Tryd.prog Rows.valueSortsAnyRow.laid W) : GlobV W := by
  rw [MakeChecks.laidMetH_plain _ _ _ (by kernel_rfl)] at h
  have h2 := h.tail.tail
  have h3 := h2.tail
  obtain ⟨a0, s0, hv0, -⟩ := laid_sentinel h3 gRngV tRngV Tryd.underlying68 rowEV Tryd.underlying129 Tryd.underlying131 rfl rfl Tryd.underlying9 (by kernel_rfl) (by kernel_rfl)
  obtain ⟨a1, s1, hv1, -⟩ := laid_sentinel h3.tail gSynW tSynV Tryd.underlying68 rowEV Tryd.underlying129 Tryd.underlying131 rfl rfl Tryd.underlying9 (by kernel_rfl) (by kernel_rfl)
  exact ⟨Lib.tabIs_of_head (zs := Lib.pow10Tab) gTabV tTabV Tryd.underlying134 Tryd.underlying77 (by kernel_rfl) (by kernel_rfl) h2, ⟨_, _, hv1⟩, ⟨_, _, hv0⟩⟩
theorem exists_list {α : Type} (P : Nat → α → Prop) : ∀ (n : Nat), (∀ i, i < n → ∃ x, P i x) → ∃ xs : List α, xs.length = n ∧ ∀ i (hi : i < xs.length), P i xs[i]
  | 0, _ => ⟨[], rfl, fun i hi => by simp at hi⟩
  | n + 1, h => by
    obtain ⟨xs, hl, hp⟩ := exists_list P n (fun i hi => h i (by omega))
    obtain ⟨x, hx⟩ := h n (by omega)
    refine ⟨xs ++ [x], by simp [hl], fun i hi => ?_⟩
    by_cases e : i < xs.length
    · rw [List.getElem_append_left e]; exact hp i e
    · have : i = n := by simp at hi; omega
      subst this
      have e2 : (xs ++ [x])[i] = x := by
        rw [List.getElem_append_right (by omega)]; simp [hl]
      rw [e2]; exact hx
theorem add_plain (b o k : Nat) : (⟨b, o, none⟩ : Addr).add k = ⟨b, o + k, none⟩ := by
  simp [Addr.add]
/-- a list of things as it lies -/
def THs (w : World) (v : Value) (xs : List Thg) : Prop :=
  (∃ a c, v = .slice a 0 c ∧ xs = []) ∨
   ∃ b off cap, v = .slice (some ⟨b, off, none⟩) xs.length cap ∧ ∀ i (h : i < xs.length), w.cell? ⟨b, off + i * 2, none⟩ = some (.int .i64 xs[i].n) ∧ w.cell? ⟨b, off + i * 2 + 1, none⟩ = some (.bool xs[i].odd)
theorem Tryd.underThing : ∃ fs f0 f1, Tryd.prog.underlying 37 = some (.struct fs) ∧ fs = #[f0, f1] ∧ (f0.offset = 0 ∧ f1.offset = 1) ∧ f0.type = 3 ∧ f1.type = 4 :=
  ⟨_, _, _, Tryd.underlying37, rfl, ⟨rfl, rfl⟩, rfl, rfl⟩
theorem open_thing {H : Type} {enc : TypeId × Value → H} {W : World} {fuel : Nat} {cs : List Value} {x : DataW H × List MemPlace}
    (h : DataW.trod enc Tryd.prog W 0 (fun _ => true) true fuel 37 cs = some x) : ∃ r : Thg, cs = [.int .i64 r.n, .bool r.odd] := by
  obtain ⟨fs, f0, f1, hu, rfl, ⟨o0, o1⟩, t0, t1⟩ := Tryd.underThing
  obtain ⟨ys, n, -, hx, hlen, hyl, hf⟩ := DataW.trod_struct hu h
  rw [show Tryd.prog.cellsOf 37 = 2 by kernel_rfl] at hlen
  match cs, hlen, ys, hyl with
  | [c0, c1], _, [y0, y1], _ =>
    have h0 := hf 0 f0 rfl
    have h1 := hf 1 f1 rfl
    rw [o0, t0, show Tryd.prog.cellsOf 3 = 1 by kernel_rfl] at h0
    rw [o1, t1, show Tryd.prog.cellsOf 4 = 1 by kernel_rfl] at h1
    simp at h0 h1
    obtain ⟨m, e0, e0', w0⟩ := DataW.trod_int Tryd.underlying3 h0
    obtain ⟨b, e1, e1'⟩ := DataW.trod_bool Tryd.underlying4 h1
    simp at e0 e1
    subst e0 e1
    exact ⟨⟨m, b⟩, rfl⟩
theorem open_things {H : Type} {enc : TypeId × Value → H} {W : World} {a : Option Addr} {len cap : Nat} {d : DataW H} {p : List MemPlace}
    (h : DataW.Trod enc Tryd.prog W 0 (fun _ => true) true 35 (.slice a len cap) d p) :
    ∃ xs : List Thg, xs.length = len ∧ THs W (.slice a len cap) xs ∧ (len = 0 ∨ ∃ els sp, d = .slice els sp ∧ els.length = len) := by
  obtain ⟨fuel, hf⟩ := h
  rcases Go.Deep.open_slice Tryd.underlying35 hf with ⟨hcs, hx⟩ | ⟨x, l, c, m, n, D, Pl, hcs, hb, hl, hm, hmm, hx, hi⟩
  · simp [Value.cells] at hcs
    obtain ⟨rfl, rfl, rfl⟩ := hcs
    exact ⟨[], rfl, .inl ⟨_, _, rfl, rfl⟩, .inl rfl⟩
  · simp [Value.cells] at hcs
    obtain ⟨rfl, rfl, rfl⟩ := hcs
    simp only [if_true] at hmm
    subst hmm
    have hC : Tryd.prog.cellsOf 37 = 2 := by kernel_rfl
    rw [hC] at hi
    obtain ⟨xs, hxl, hxp⟩ := exists_list (fun i (r : Thg) => W.cell? (x.add (i * 2)) = some (.int .i64 r.n) ∧ W.cell? ((x.add (i * 2)).add 1) = some (.bool r.odd)) len (fun i hil => by
      obtain ⟨cs', hc, ht⟩ := hi i (by omega)
      obtain ⟨r, rfl⟩ := open_thing ht
      obtain ⟨-, -, hat⟩ := World.cells?_some hc
      have h0 := hat 0 (by omega)
      have h1 := hat 1 (by omega)
      exact ⟨r, by simpa [Addr.add] using h0, by simpa using h1⟩)
    simp only [Prod.mk.injEq] at hx
    refine ⟨xs, hxl, ?_, .inr ⟨_, _, hx.1, by simp⟩⟩
    rcases Nat.eq_zero_or_pos len with h0 | h0
    · subst h0
      exact .inl ⟨_, _, rfl, List.eq_nil_of_length_eq_zero hxl⟩
    · obtain ⟨b, off, spot⟩ := x
      have hspot : spot = none := by
        have := (hxp 0 (by omega)).1
        simp [Addr.add] at this
        simpa using World.cell?_spot this
      subst hspot
      refine .inr ⟨b, off, _, by rw [hxl], fun i hi => ?_⟩
      obtain ⟨h0, h1⟩ := hxp i hi
      rw [add_plain] at h0
      rw [add_plain, add_plain] at h1
      exact ⟨h0, h1⟩
theorem ValueSortsAny_card (o : Option Addr) (cap : Nat) (xs : List Thg) (hl : xs.length * 16 ≤ 140737488351232) (W : World) (h : THs W (.slice o xs.length cap) xs) (hG : GlobV W) :
    Calls Tryd.prog 4 #[.slice o xs.length cap] W fun e w' => e = .returned (.bool true) ∧ Mod [] W w' := by
  refine ValueSortsAny_any (fun i => if h : i < xs.length then xs[i] else if i = xs.length then ⟨-7, false⟩ else ⟨0, false⟩) xs.length hl (by simp) (fun i hi => ?_) _ W ?_ hG
  · rw [dif_neg (by omega)]
    split <;> rfl
  · rcases h with ⟨a, c, h, h0⟩ | ⟨b, off, c, h, hc⟩
    · subst h0; exact .inl ⟨_, _, rfl, rfl⟩
    · refine .inr ⟨b, off, c, h, fun i hi => ?_⟩
      simp only [dif_pos hi]
      exact hc i hi
end Go.Proofs.YtcalbbfkgdfidaaDoor
