/- WHAT THE ROW's LIST GIVES: the table of powers. HOW ARGUMENTS ARE OPENED: values, slices of anything, with the bulk. -/
import Derived.Test.YtbmmdficdeakfaaDoorPrProg2
import Derived.Test.YtbmmdficdeakfaaDoorRows
import Derived.ProofKit
import Derived.OpenShut
import Derived.LaidMore
import Derived.Stop.LaidErr
import Derived.Stop.Joined
import Derived.Deep.Slices
import Derived.Deep.Fields
namespace Go.Proofs.YtbmmdficdeakfaaDoor
open Go.ChangeShapes Go.WideShapes Go.ChangeAt Go.RowKit
set_option linter.unusedVariables false
set_option linter.unusedSimpArgs false
set_option maxRecDepth 100000

theorem gTabV : Tryd.prog.globalNamed "internal/strconv.uint64pow10" = some 0 := by kernel_rfl
theorem tTabV : (Tryd.prog.globals[0]?).map (·.type) = some 135 := by kernel_rfl
theorem globV_of_laid {W : World} (h : laidMetH Tryd.prog Rows.printLinesRow.laid W) : GlobV W := by
  rw [MakeChecks.laidMetH_plain _ _ _ (by kernel_rfl)] at h
  exact ⟨Lib.tabIs_of_head (zs := Lib.pow10Tab) gTabV tTabV Tryd.underlying135 Tryd.underlying129 (by kernel_rfl) (by kernel_rfl) h.tail.tail⟩

theorem exists_list {α : Type} (P : Nat → α → Prop) : ∀ (n : Nat), (∀ i, i < n → ∃ x, P i x) → ∃ xs : List α, xs.length = n ∧ ∀ i (hi : i < xs.length), P i xs[i]
  | 0, _ => ⟨[], rfl, fun i hi => by simp at hi⟩
  | n + 1, h => by
    obtain ⟨xs, hl, hp⟩ := exists_list P n (fun i hi => h i (by omega))
    obtain ⟨x, hx⟩ := h n (by omega)
    refine ⟨xs ++ [x], by simp [hl], fun i hi => ?_⟩
    by_cases e : i < xs.length
    · rw [List.getElem_append_left e]; exact hp i e
    · have : i = n := by simp at hi; omega
      subst this
      have e2 : (xs ++ [x])[i] = x := by
        rw [List.getElem_append_right (by omega)]; simp [hl]
      rw [e2]; exact hx
theorem add_plain (b o k : Nat) : (⟨b, o, none⟩ : Addr).add k = ⟨b, o + k, none⟩ := by
  simp [Addr.add]
theorem bulk_sum {α H : Type} (f : α → Nat) : ∀ (bs : List α) (ds : List (DataW H)), bs.length = ds.length → (∀ i (h : i < bs.length) (h2 : i < ds.length), f bs[i] ≤ 1000 * Rows.uptoBulk ds[i]) → (bs.map f).sum ≤ 1000 * Rows.uptoBulkAll ds
  | [], _, _, _ => by simp
  | a :: bs, d :: ds, hl, h => by
    have h0 := h 0 (by simp) (by simp)
    have ih := bulk_sum f bs ds (by simpa using hl) (fun i h1 h2 => by
      have := h (i + 1) (by simpa using h1) (by simpa using h2)
      simpa using this)
    simp only [List.map_cons, List.sum_cons, Rows.uptoBulkAll]
    simp only [List.getElem_cons_zero] at h0
    omega
/-- a slice of anything, out of its reading -/
theorem open_rows {α H : Type} {enc : TypeId × Value → H} {W : World} {T e : TypeId} {C fuel : Nat} {cs : List Value} {x : DataW H × List MemPlace} (ht : Tryd.prog.underlying T = some (.slice e)) (hC : Tryd.prog.cellsOf e = C) (hC0 : 0 < C) (Q : α → List Value → Prop) (f : α → Nat)
    (h : DataW.trod enc Tryd.prog W 0 (fun _ => true) true fuel T cs = some x)
    (each : ∀ n cs' y, fuel = n + 1 → DataW.trod enc Tryd.prog W 0 (fun _ => true) true n e cs' = some y → ∃ a : α, (Q a cs' ∧ cs'.length = C) ∧ f a ≤ 1000 * Rows.uptoBulk y.1) :
    ∃ (u : Value) (bs : List α), cs = [u] ∧ (bs.map f).sum + 1000 ≤ 1000 * Rows.uptoBulk x.1 ∧
      ((bs = [] ∧ ∃ a c, u = .slice a 0 c) ∨ ∃ b off c, u = .slice (some ⟨b, off, none⟩) bs.length c ∧ ∀ i (hi : i < bs.length), ∃ cs', (∀ (j : Nat) v, cs'[j]? = some v → W.cell? ⟨b, off + i * C + j, none⟩ = some v) ∧ Q bs[i] cs') := by
  rcases DataW.trod_slice ht h with ⟨hcs, hx⟩ | ⟨a, len, cap, elems, rest, n, hfu, hcs, hx, hb, hl, hm, hlen, hel, -, -⟩
  · exact ⟨_, [], hcs, by rw [hx]; simp [Rows.uptoBulk], .inl ⟨rfl, _, _, rfl⟩⟩
  · rw [hC] at hel
    obtain ⟨bs, hal, hap⟩ := exists_list (fun i (b : α) => ∃ cs', W.cells? 0 (a.add (i * C)) C = some cs' ∧ (Q b cs' ∧ cs'.length = C) ∧ ∀ h : i < elems.length, f b ≤ 1000 * Rows.uptoBulk elems[i].1) len (fun i hil => by
      have hb := hel i hil
      rw [List.getElem?_eq_getElem (by omega)] at hb
      obtain ⟨cs', h1, h2⟩ := Option.bind_eq_some_iff.1 hb
      obtain ⟨b, q1, q2⟩ := each n cs' _ hfu h2
      exact ⟨b, cs', h1, q1, fun _ => q2⟩)
    have hsum := bulk_sum f bs (elems.map (·.1)) (by simp [hal, hlen]) (fun i h1 h2 => by
      obtain ⟨cs', -, -, hw⟩ := hap i h1
      have := hw (by simpa using h2)
      simpa using this)
    subst hcs
    refine ⟨_, bs, rfl, ?_, ?_⟩
    · rw [hx]
      simp only [Rows.uptoBulk]
      omega
    · rcases Nat.eq_zero_or_pos len with h0 | h0
      · subst h0
        exact .inl ⟨List.eq_nil_of_length_eq_zero hal, _, _, rfl⟩
      · obtain ⟨b, off, spot⟩ := a
        have hspot : spot = none := by
          obtain ⟨cs', hc, ⟨-, hcl⟩, -⟩ := hap 0 (by omega)
          obtain ⟨-, -, hat⟩ := World.cells?_some hc
          have h00 := hat 0 (by omega)
          rw [List.getElem?_eq_getElem (by omega)] at h00
          simp [Addr.add] at h00
          simpa using World.cell?_spot h00
        subst hspot
        refine .inr ⟨b, off, cap, by rw [hal], fun i hi => ?_⟩
        obtain ⟨cs', hc, ⟨hq, hcl⟩, -⟩ := hap i hi
        obtain ⟨-, hl2, hat⟩ := World.cells?_some hc
        refine ⟨cs', fun j v hj => ?_, hq⟩
        have hjl : j < cs'.length := (List.getElem?_eq_some_iff.1 hj).1
        have := hat j (by omega)
        rw [hj, add_plain, add_plain] at this
        exact this

theorem str_map (s : ByteArray) : (Cod.str s).map UInt8.ofNat = s.data.toList := by
  unfold Cod.str
  rw [Va.map_back]
end Go.Proofs.YtbmmdficdeakfaaDoor
