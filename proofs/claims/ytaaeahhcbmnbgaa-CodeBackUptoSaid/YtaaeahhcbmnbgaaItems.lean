/- HOW ARGUMENTS ARE OPENED: a slice of items that came in. -/
import Derived.Test.YtaaeahhcbmnbgaaOpen
import Derived.Test.YtaaeahhcbmnbgaaBulk
import Derived.Test.YtaaeahhcbmnbgaaBackPlain
import Derived.Deep.Slices
import Derived.Deep.Fields
namespace Go.Proofs.Ytaaeahhcbmnbgaa
open Go.ChangeShapes Go.WideShapes Go.ChangeAt Go.RowKit
set_option linter.unusedVariables false

/-- an item as it lies: Kind, N, S -/
structure Raw where
  k : Int
  n : Nat
  s : ByteArray
structure Raw.Good (x : Raw) : Prop where
  k_lo : -9223372036854775808 ≤ x.k
  k_hi : x.k ≤ 9223372036854775807
  n_lt : x.n < Cod.U64
structure RawAt (w : World) (b o : Nat) (x : Raw) : Prop where
  c0 : w.cell? ⟨b, o, none⟩ = some (.int .i64 x.k)
  c1 : w.cell? ⟨b, o + 1, none⟩ = some (.int .u64 (x.n : Int))
  c2 : w.cell? ⟨b, o + 2, none⟩ = some (.string x.s)
def Items (w : World) (v : Value) (xs : List Raw) : Prop :=
  (∀ x ∈ xs, x.Good) ∧ ((∃ a c, v = .slice a 0 c ∧ xs = []) ∨
   ∃ b off cap, v = .slice (some ⟨b, off, none⟩) xs.length cap ∧ ∀ i (h : i < xs.length), RawAt w b (off + i * 3) xs[i])

theorem exists_list {α : Type} (P : Nat → α → Prop) : ∀ (n : Nat), (∀ i, i < n → ∃ x, P i x) → ∃ xs : List α, xs.length = n ∧ ∀ i (hi : i < xs.length), P i xs[i]
  | 0, _ => ⟨[], rfl, fun i hi => by simp at hi⟩
  | n + 1, h => by
    obtain ⟨xs, hl, hp⟩ := exists_list P n (fun i hi => h i (by omega))
    obtain ⟨x, hx⟩ := h n (by omega)
    refine ⟨xs ++ [x], by simp [hl], fun i hi => ?_⟩
    by_cases e : i < xs.length
    · rw [List.getElem_append_left e]; exact hp i e
    · have : i = n := by simp at hi; omega
      subst this
      have e2 : (xs ++ [x])[i] = x := by
        rw [List.getElem_append_right (by omega)]; simp [hl]
      rw [e2]; exact hx

theorem u64_range {n : Int} (h : (Lit.int .u64 n).wf = true) : 0 ≤ n ∧ n < 18446744073709551616 := by
  simp [Lit.wf, IntKind.min, IntKind.max, IntKind.signed, IntKind.bits] at h
  omega

theorem Try.underItem : ∃ fs f0 f1 f2, Try.prog.underlying 56 = some (.struct fs) ∧ fs = #[f0, f1, f2] ∧ f0.offset = 0 ∧ f1.offset = 1 ∧ f2.offset = 2 ∧ f0.type = 3 ∧ f1.type = 40 ∧ f2.type = 9 :=
  ⟨_, _, _, _, Try.underlying56, rfl, rfl, rfl, rfl, rfl, rfl, rfl⟩

/-- one item, out of its reading -/
theorem open_item {H : Type} {enc : TypeId × Value → H} {W : World} {fuel : Nat} {cs : List Value} {x : DataW H × List MemPlace}
    (h : DataW.trod enc Try.prog W 0 (fun _ => true) true fuel 56 cs = some x) :
    ∃ r : Raw, cs = [.int .i64 r.k, .int .u64 (r.n : Int), .string r.s] ∧ r.Good ∧ x.1 = .agg [.lit (.int .i64 r.k), .lit (.int .u64 (r.n : Int)), .lit (.string r.s.data.toList)] := by
  obtain ⟨fs, f0, f1, f2, hu, rfl, o0, o1, o2, t0, t1, t2⟩ := Try.underItem
  obtain ⟨ys, n, -, hx, hlen, hyl, hf⟩ := DataW.trod_struct hu h
  rw [show Try.prog.cellsOf 56 = 3 by kernel_rfl] at hlen
  match cs, hlen, ys, hyl with
  | [c0, c1, c2], _, [y0, y1, y2], _ =>
    have h0 := hf 0 f0 rfl
    have h1 := hf 1 f1 rfl
    have h2 := hf 2 f2 rfl
    rw [o0, t0, show Try.prog.cellsOf 3 = 1 by kernel_rfl] at h0
    rw [o1, t1, show Try.prog.cellsOf 40 = 1 by kernel_rfl] at h1
    rw [o2, t2, show Try.prog.cellsOf 9 = 1 by kernel_rfl] at h2
    simp at h0 h1 h2
    obtain ⟨k, e0, e0', w0⟩ := DataW.trod_int Try.underlying3 h0
    obtain ⟨m, e1, e1', w1⟩ := DataW.trod_int Try.underlying40 h1
    obtain ⟨s, e2, e2', w2⟩ := DataW.trod_string Try.underlying9 h2
    have r0 : -9223372036854775808 ≤ k ∧ k ≤ 9223372036854775807 := by
      simp [Lit.wf, IntKind.min, IntKind.max, IntKind.signed, IntKind.bits] at w0
      omega
    have r1 := u64_range w1
    have hm : ((m.toNat : Nat) : Int) = m := Int.toNat_of_nonneg r1.1
    simp at e0 e1 e2
    subst e0 e1 e2
    refine ⟨⟨k, m.toNat, s⟩, by simp only [hm], ⟨r0.1, r0.2, by unfold Cod.U64; simp only; omega⟩, ?_⟩
    rw [hx]
    simp [e0', e1', e2', hm]

def weight (xs : List Raw) : Nat := (xs.map fun x => x.s.size + 4).sum
theorem weight_le {H : Type} (D : Nat → DataW H) : ∀ (xs : List Raw) (f : Nat → Nat), (∀ i (h : i < xs.length), D (f i) = .agg [.lit (.int .i64 xs[i].k), .lit (.int .u64 (xs[i].n : Int)), .lit (.string xs[i].s.data.toList)]) →
    weight xs ≤ Rows.uptoBulkAll ((List.range xs.length).map fun i => D (f i))
  | [], _, _ => by simp [weight]
  | x :: r, f, h => by
    have h0 := h 0 (by simp)
    have ih := weight_le D r (fun i => f (i + 1)) (fun i hi => h (i + 1) (by simp; omega))
    rw [List.length_cons, List.range_succ_eq_map, List.map_cons, List.map_map]
    simp only [Rows.uptoBulkAll]
    rw [h0]
    have e : weight (x :: r) = x.s.size + 4 + weight r := by simp [weight]
    have e2 : Rows.uptoBulk (DataW.agg (H := H) [.lit (.int .i64 x.k), .lit (.int .u64 (x.n : Int)), .lit (.string x.s.data.toList)]) = x.s.size + 4 := by
      simp only [Rows.uptoBulk, Rows.uptoBulkAll]
      have : x.s.data.toList.length = x.s.size := by rw [Array.length_toList]; rfl
      omega
    rw [e]
    show _ ≤ Rows.uptoBulk (DataW.agg (H := H) [.lit (.int .i64 x.k), .lit (.int .u64 (x.n : Int)), .lit (.string x.s.data.toList)]) + _
    rw [e2]
    have e3 : (List.map ((fun i => D (f i)) ∘ Nat.succ) (List.range r.length)) = ((List.range r.length).map fun i => D (f (i + 1))) := rfl
    rw [e3]
    omega

theorem open_items {H : Type} {enc : TypeId × Value → H} {W : World} {a : Option Addr} {len cap : Nat} {d : DataW H} {p : List MemPlace}
    (h : DataW.Trod enc Try.prog W 0 (fun _ => true) true 52 (.slice a len cap) d p) :
    ∃ xs : List Raw, xs.length = len ∧ Items W (.slice a len cap) xs ∧ weight xs ≤ Rows.uptoBulk d := by
  obtain ⟨fuel, hf⟩ := h
  rcases Go.Deep.open_slice Try.underlying52 hf with ⟨hcs, hx⟩ | ⟨x, l, c, m, n, D, Pl, hcs, hb, hl, hm, hmm, hx, hi⟩
  · simp [Value.cells] at hcs
    obtain ⟨rfl, rfl, rfl⟩ := hcs
    exact ⟨[], rfl, ⟨by simp, .inl ⟨_, _, rfl, rfl⟩⟩, by simp [weight]⟩
  · simp [Value.cells] at hcs
    obtain ⟨rfl, rfl, rfl⟩ := hcs
    simp only [if_true] at hmm
    subst hmm
    simp only [Prod.mk.injEq] at hx
    obtain ⟨hd, -⟩ := hx
    have hC : Try.prog.cellsOf 56 = 3 := by kernel_rfl
    rw [hC] at hi
    obtain ⟨xs, hxl, hxp⟩ := exists_list (fun i (r : Raw) => W.cell? (x.add (i * 3)) = some (.int .i64 r.k) ∧ W.cell? ((x.add (i * 3)).add 1) = some (.int .u64 (r.n : Int)) ∧ W.cell? ((x.add (i * 3)).add 2) = some (.string r.s) ∧ r.Good ∧
        D i = .agg [.lit (.int .i64 r.k), .lit (.int .u64 (r.n : Int)), .lit (.string r.s.data.toList)]) len (fun i hil => by
      obtain ⟨cs', hc, ht⟩ := hi i (by omega)
      obtain ⟨r, rfl, hg, hD⟩ := open_item ht
      obtain ⟨-, -, hat⟩ := World.cells?_some hc
      have h0 := hat 0 (by omega)
      have h1 := hat 1 (by omega)
      have h2 := hat 2 (by omega)
      refine ⟨r, ?_, by simpa using h1, by simpa using h2, hg, hD⟩
      simpa [Addr.add] using h0)
    refine ⟨xs, hxl, ⟨fun r hr => ?_, ?_⟩, ?_⟩
    · obtain ⟨i, hi, rfl⟩ := List.getElem_of_mem hr
      exact (hxp i hi).2.2.2.1
    · rcases Nat.eq_zero_or_pos len with h0 | h0
      · subst h0
        exact .inl ⟨_, _, rfl, List.eq_nil_of_length_eq_zero hxl⟩
      · obtain ⟨b, off, spot⟩ := x
        have hspot : spot = none := by
          have := (hxp 0 (by omega)).1
          simp [Addr.add] at this
          simpa using World.cell?_spot this
        subst hspot
        refine .inr ⟨b, off, _, by rw [hxl], fun i hi => ?_⟩
        obtain ⟨h0, h1, h2, -⟩ := hxp i hi
        rw [add_plain'] at h0
        rw [add_plain', add_plain'] at h1 h2
        exact ⟨h0, h1, h2⟩
    · rw [hd]
      have := weight_le D xs (fun i => i) (fun i hi => (hxp i hi).2.2.2.2)
      rw [hxl] at this
      simp only [Rows.uptoBulk]
      have e : (List.map (fun i => D i) (List.range len)) = List.map D (List.range len) := rfl
      rw [e] at this
      omega

theorem Items.past {w w' : World} {v : Value} {l : List Raw} (h : Items w v l) (hm : ∀ p u, w.cell? p = some u → w'.cell? p = some u) : Items w' v l := by
  obtain ⟨h1, h3 | ⟨b, off, cap, rfl, hc⟩⟩ := h
  · exact ⟨h1, .inl h3⟩
  · exact ⟨h1, .inr ⟨b, off, cap, rfl, fun i hi => ⟨hm _ _ (hc i hi).c0, hm _ _ (hc i hi).c1, hm _ _ (hc i hi).c2⟩⟩⟩
end Go.Proofs.Ytaaeahhcbmnbgaa
