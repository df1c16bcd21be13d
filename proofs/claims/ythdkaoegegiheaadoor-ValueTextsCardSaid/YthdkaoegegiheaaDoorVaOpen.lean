/- HOW ARGUMENTS ARE OPENED: slices of values, facts. -/
import Derived.Test.YthdkaoegegiheaaDoorVaGlob
import Derived.Test.YthdkaoegegiheaaDoorVaPut
import Derived.SizedLaws
namespace Go.Proofs.YthdkaoegegiheaaDoor
open Go.ChangeShapes Go.WideShapes Go.ChangeAt Go.RowKit
set_option linter.unusedVariables false
set_option linter.unusedSimpArgs false
set_option maxRecDepth 100000

theorem exists_list {α : Type} (P : Nat → α → Prop) : ∀ (n : Nat), (∀ i, i < n → ∃ x, P i x) → ∃ xs : List α, xs.length = n ∧ ∀ i (hi : i < xs.length), P i xs[i]
  | 0, _ => ⟨[], rfl, fun i hi => by simp at hi⟩
  | n + 1, h => by
    obtain ⟨xs, hl, hp⟩ := exists_list P n (fun i hi => h i (by omega))
    obtain ⟨x, hx⟩ := h n (by omega)
    refine ⟨xs ++ [x], by simp [hl], fun i hi => ?_⟩
    by_cases e : i < xs.length
    · rw [List.getElem_append_left e]; exact hp i e
    · have : i = n := by simp at hi; omega
      subst this
      have e2 : (xs ++ [x])[i] = x := by
        rw [List.getElem_append_right (by omega)]; simp [hl]
      rw [e2]; exact hx
theorem add_plain (b o k : Nat) : (⟨b, o, none⟩ : Addr).add k = ⟨b, o + k, none⟩ := by
  simp [Addr.add]

/-- a slice of values, out of its reading -/
theorem open_row_cells {H : Type} {enc : TypeId × Value → H} {W : World} {fuel : Nat} {cs : List Value} {x : DataW H × List MemPlace}
    (h : DataW.trod enc Tryd.prog W 0 (fun _ => true) true fuel 32 cs = some x) :
    ∃ (u : Value) (ts : List Va.Val), cs = [u] ∧ VRow W u ts ∧ (∀ v ∈ ts, v.Ok ∧ v.s.length ≤ 9223372036854775807) ∧ (ts.length = 0 ∨ ∃ els sp, x.1 = .slice els sp ∧ els.length = ts.length) := by
  rcases Go.Deep.open_slice Tryd.underlying32 h with ⟨hcs, hx⟩ | ⟨a, len, c, m, n, D, Pl, hcs, hb, hl, hm, hmm, hx, hi⟩
  · exact ⟨_, [], hcs, .inl ⟨_, _, rfl, rfl⟩, by simp, .inl rfl⟩
  · simp only [if_true] at hmm
    subst hmm
    have hC : Tryd.prog.cellsOf 23 = 3 := by kernel_rfl
    rw [hC] at hi
    obtain ⟨ts, hxl, hxp⟩ := exists_list (fun i (v : Va.Val) => (W.cell? (a.add (i * 3)) = some (.int .i64 v.k) ∧ W.cell? ((a.add (i * 3)).add 1) = some (.int .i64 v.n) ∧ W.cell? ((a.add (i * 3)).add 2) = some (.string (Lx.ofS v.s))) ∧ v.Ok ∧ v.s.length ≤ 9223372036854775807) len (fun i hil => by
      obtain ⟨cs', hc, ht⟩ := hi i (by omega)
      obtain ⟨v, rfl, hok, -, hln⟩ := open_val_cells ht
      obtain ⟨-, -, hat⟩ := World.cells?_some hc
      have h0 := hat 0 (by omega)
      have h1 := hat 1 (by omega)
      have h2 := hat 2 (by omega)
      exact ⟨v, ⟨by simpa [Addr.add, valV] using h0, by simpa [valV] using h1, by simpa [valV] using h2⟩, hok, hln⟩)
    subst hx
    subst hcs
    refine ⟨_, ts, rfl, ?_, fun v hv => ?_, .inr ⟨_, _, rfl, by simp [hxl]⟩⟩
    · rcases Nat.eq_zero_or_pos len with h0 | h0
      · subst h0
        exact .inl ⟨_, _, rfl, List.eq_nil_of_length_eq_zero hxl⟩
      · obtain ⟨b, off, spot⟩ := a
        have hspot : spot = none := by
          have := (hxp 0 (by omega)).1.1
          simp [Addr.add] at this
          simpa using World.cell?_spot this
        subst hspot
        refine .inr ⟨b, off, _, by rw [hxl], fun i hi => ?_⟩
        obtain ⟨⟨h0, h1, h2⟩, -⟩ := hxp i hi
        rw [add_plain] at h0
        rw [add_plain, add_plain] at h1 h2
        exact ⟨h0, h1, h2⟩
    · obtain ⟨i, hi, rfl⟩ := List.mem_iff_getElem.1 hv
      exact (hxp i hi).2

theorem Tryd.underFact : ∃ fs f0 f1, Tryd.prog.underlying 34 = some (.struct fs) ∧ fs = #[f0, f1] ∧ f0.offset = 0 ∧ f1.offset = 1 ∧ f0.type = 9 ∧ f1.type = 32 :=
  ⟨_, _, _, Tryd.underlying34, rfl, rfl, rfl, rfl, rfl⟩
/-- a fact, out of its reading -/
theorem open_fact_cells {H : Type} {enc : TypeId × Value → H} {W : World} {fuel : Nat} {cs : List Value} {x : DataW H × List MemPlace}
    (h : DataW.trod enc Tryd.prog W 0 (fun _ => true) true fuel 34 cs = some x) :
    ∃ (r : ByteArray) (u : Value) (ts : List Va.Val), cs = [.string r, u] ∧ VRow W u ts ∧ (∀ v ∈ ts, v.Ok ∧ v.s.length ≤ 9223372036854775807) ∧ r.size ≤ maxLen ∧
      ∃ d1, x.1 = .agg [.lit (.string r.data.toList), d1] ∧ (ts.length = 0 ∨ ∃ els sp, d1 = .slice els sp ∧ els.length = ts.length) := by
  obtain ⟨fs, f0, f1, hu, rfl, o0, o1, t0, t1⟩ := Tryd.underFact
  obtain ⟨ys, n, -, hx, hlen, hyl, hf⟩ := DataW.trod_struct hu h
  rw [show Tryd.prog.cellsOf 34 = 2 by kernel_rfl] at hlen
  match cs, hlen, ys, hyl with
  | [c0, c1], _, [y0, y1], _ =>
    have h0 := hf 0 f0 rfl
    have h1 := hf 1 f1 rfl
    rw [o0, t0, show Tryd.prog.cellsOf 9 = 1 by kernel_rfl] at h0
    rw [o1, t1, show Tryd.prog.cellsOf 32 = 1 by kernel_rfl] at h1
    simp at h0 h1
    obtain ⟨r, e0, e0', w0⟩ := DataW.trod_string Tryd.underlying9 h0
    obtain ⟨u, ts, e1, hr, hok, hd⟩ := open_row_cells h1
    simp at e0 e1
    subst e0 e1
    refine ⟨r, c1, ts, rfl, hr, hok, w0, y1.1, ?_, hd⟩
    rw [hx]
    simp [e0']
theorem fact_sized {H : Type} {ts : List TypeId} {ds : List (DataW H)} (h : (DataW.weightsEach Tryd.prog ts ds).all (· ≤ reachBytes) = true) {j : Nat} {d : DataW H} {bytes : List UInt8} {d1 : DataW H} {n : Nat}
    (ht : ts[j]? = some 34) (hd : ds[j]? = some d) (hdd : d = .agg [.lit (.string bytes), d1]) (h1 : n = 0 ∨ ∃ els sp, d1 = .slice els sp ∧ els.length = n) : bytes.length ≤ 140737488351232 ∧ n ≤ 4398046511000 := by
  obtain ⟨fs, f0, f1, hu, rfl, o0, o1, t0, t1⟩ := Tryd.underFact
  have hall := List.all_eq_true.1 h
  have hw : ∀ m ∈ d.weights Tryd.prog 34, m ≤ reachBytes := fun m hm => by simpa using hall m (DataW.weights_mem_each ht hd m hm)
  subst hdd
  simp only [DataW.weights, hu, List.map_cons, List.map_nil, DataW.weightsEach, t0, t1] at hw
  have hb32 : Tryd.prog.bytesOf 23 = 32 := by kernel_rfl
  refine ⟨by have := hw bytes.length (by simp); simpa [reachBytes] using this, ?_⟩
  rcases h1 with rfl | ⟨els, sp, rfl, rfl⟩
  · omega
  · have := hw ((els.length + sp.length) * 32) (by simp [DataW.weights, Tryd.underlying32, hb32])
    simp only [reachBytes] at this
    omega
theorem open_fact {H : Type} {enc : TypeId × Value → H} {W : World} {v0 : Value} {d : DataW H} {p : List MemPlace}
    (hv : ∃ cs, v0 = .agg cs ∧ cs.size = Tryd.prog.cellsOf 34) (h : DataW.Trod enc Tryd.prog W 0 (fun _ => true) true 34 v0 d p) :
    ∃ (r : ByteArray) (u : Value) (ts : List Va.Val), v0 = .agg #[.string r, u] ∧ VRow W u ts ∧ (∀ v ∈ ts, v.Ok ∧ v.s.length ≤ 9223372036854775807) ∧ r.size ≤ maxLen ∧
      ∃ d1, d = .agg [.lit (.string r.data.toList), d1] ∧ (ts.length = 0 ∨ ∃ els sp, d1 = .slice els sp ∧ els.length = ts.length) := by
  obtain ⟨cs, rfl, -⟩ := hv
  obtain ⟨fuel, hf⟩ := h
  obtain ⟨r, u, ts, e, hr, hok, hsz, d1, hd⟩ := open_fact_cells hf
  refine ⟨r, u, ts, ?_, hr, hok, hsz, d1, hd⟩
  congr 1
  apply Array.ext'
  simpa [Value.cells] using e
end Go.Proofs.YthdkaoegegiheaaDoor
