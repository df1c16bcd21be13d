/- HOW ARGUMENTS ARE OPENED: values, terms, atoms, expressions, literals, rules, relations, programs, with the bulk. Printed by wip/gen_popen.py. -/
import Derived.Test.YtbmmdficdeakfaaDoorPrGlob
namespace Go.Proofs.YtbmmdficdeakfaaDoor
open Go.ChangeShapes Go.WideShapes Go.ChangeAt Go.RowKit
set_option linter.unusedVariables false
set_option linter.unusedSimpArgs false
set_option maxRecDepth 100000

theorem bulk_agg {H : Type} (l : List (DataW H)) : Rows.uptoBulk (.agg l) = Rows.uptoBulkAll l + 1 := rfl
theorem bulk_pos {H : Type} (d : DataW H) : 1 ≤ Rows.uptoBulk d := by
  cases d with
  | lit l => cases l <;> simp [Rows.uptoBulk]
  | nil => simp [Rows.uptoBulk]
  | ptr d => simp [Rows.uptoBulk]
  | slice elems spare => simp [Rows.uptoBulk]
  | agg parts => simp [Rows.uptoBulk]
  | iface t d => simp [Rows.uptoBulk]
  | map entries => simp [Rows.uptoBulk]
  | held h => simp [Rows.uptoBulk]
theorem Tryd.underVal : ∃ fs f0 f1 f2, Tryd.prog.underlying 41 = some (.struct fs) ∧ fs = #[f0, f1, f2] ∧ f0.offset = 0 ∧ f1.offset = 1 ∧ f2.offset = 2 ∧ f0.type = 3 ∧ f1.type = 3 ∧ f2.type = 9 :=
  ⟨_, _, _, _, Tryd.underlying41, rfl, rfl, rfl, rfl, rfl, rfl, rfl⟩
theorem Tryd.underTerm : ∃ fs f0 f1 f2, Tryd.prog.underlying 79 = some (.struct fs) ∧ fs = #[f0, f1, f2] ∧ f0.offset = 0 ∧ f1.offset = 1 ∧ f2.offset = 2 ∧ f0.type = 3 ∧ f1.type = 9 ∧ f2.type = 41 :=
  ⟨_, _, _, _, Tryd.underlying79, rfl, rfl, rfl, rfl, rfl, rfl, rfl⟩
theorem Tryd.underAtom : ∃ fs f0 f1, Tryd.prog.underlying 33 = some (.struct fs) ∧ fs = #[f0, f1] ∧ f0.offset = 0 ∧ f1.offset = 1 ∧ f0.type = 9 ∧ f1.type = 31 :=
  ⟨_, _, _, Tryd.underlying33, rfl, rfl, rfl, rfl, rfl⟩
theorem Tryd.underExpr : ∃ fs f0 f1 f2 f3 f4, Tryd.prog.underlying 44 = some (.struct fs) ∧ fs = #[f0, f1, f2, f3, f4] ∧ f0.offset = 0 ∧ f1.offset = 1 ∧ f2.offset = 2 ∧ f3.offset = 5 ∧ f4.offset = 6 ∧ f0.type = 3 ∧ f1.type = 9 ∧ f2.type = 41 ∧ f3.type = 3 ∧ f4.type = 42 :=
  ⟨_, _, _, _, _, _, Tryd.underlying44, rfl, rfl, rfl, rfl, rfl, rfl, rfl, rfl, rfl, rfl, rfl⟩
theorem Tryd.underAgg : ∃ fs f0 f1 f2 f3, Tryd.prog.underlying 46 = some (.struct fs) ∧ fs = #[f0, f1, f2, f3] ∧ f0.offset = 0 ∧ f1.offset = 1 ∧ f2.offset = 2 ∧ f3.offset = 9 ∧ f0.type = 3 ∧ f1.type = 9 ∧ f2.type = 44 ∧ f3.type = 34 :=
  ⟨_, _, _, _, _, Tryd.underlying46, rfl, rfl, rfl, rfl, rfl, rfl, rfl, rfl, rfl⟩
theorem Tryd.underPos : ∃ fs f0 f1, Tryd.prog.underlying 36 = some (.struct fs) ∧ fs = #[f0, f1] ∧ f0.offset = 0 ∧ f1.offset = 1 ∧ f0.type = 3 ∧ f1.type = 3 :=
  ⟨_, _, _, Tryd.underlying36, rfl, rfl, rfl, rfl, rfl⟩
theorem Tryd.underLit : ∃ fs f0 f1 f2 f3 f4 f5 f6, Tryd.prog.underlying 48 = some (.struct fs) ∧ fs = #[f0, f1, f2, f3, f4, f5, f6] ∧ f0.offset = 0 ∧ f1.offset = 1 ∧ f2.offset = 3 ∧ f3.offset = 4 ∧ f4.offset = 11 ∧ f5.offset = 18 ∧ f6.offset = 28 ∧ f0.type = 3 ∧ f1.type = 33 ∧ f2.type = 3 ∧ f3.type = 44 ∧ f4.type = 44 ∧ f5.type = 46 ∧ f6.type = 36 :=
  ⟨_, _, _, _, _, _, _, _, Tryd.underlying48, rfl, rfl, rfl, rfl, rfl, rfl, rfl, rfl, rfl, rfl, rfl, rfl, rfl, rfl, rfl⟩
theorem Tryd.underRule : ∃ fs f0 f1 f2, Tryd.prog.underlying 38 = some (.struct fs) ∧ fs = #[f0, f1, f2] ∧ f0.offset = 0 ∧ f1.offset = 2 ∧ f2.offset = 3 ∧ f0.type = 33 ∧ f1.type = 34 ∧ f2.type = 36 :=
  ⟨_, _, _, _, Tryd.underlying38, rfl, rfl, rfl, rfl, rfl, rfl, rfl⟩
theorem Tryd.underRel : ∃ fs f0 f1 f2, Tryd.prog.underlying 63 = some (.struct fs) ∧ fs = #[f0, f1, f2] ∧ f0.offset = 0 ∧ f1.offset = 1 ∧ f2.offset = 2 ∧ f0.type = 9 ∧ f1.type = 61 ∧ f2.type = 36 :=
  ⟨_, _, _, _, Tryd.underlying63, rfl, rfl, rfl, rfl, rfl, rfl, rfl⟩
theorem Tryd.underProg : ∃ fs f0 f1, Tryd.prog.underlying 25 = some (.struct fs) ∧ fs = #[f0, f1] ∧ f0.offset = 0 ∧ f1.offset = 1 ∧ f0.type = 22 ∧ f1.type = 23 :=
  ⟨_, _, _, Tryd.underlying25, rfl, rfl, rfl, rfl, rfl⟩
/-- one value, out of its reading -/
theorem open_val_cells {H : Type} {enc : TypeId × Value → H} {W : World} {fuel : Nat} {cs : List Value} {x : DataW H × List MemPlace}
    (h : DataW.trod enc Tryd.prog W 0 (fun _ => true) true fuel 41 cs = some x) :
    ∃ v : Va.Val, cs = (valV v).toList ∧ v.Ok := by
  obtain ⟨fs, f0, f1, f2, hu, rfl, o0, o1, o2, t0, t1, t2⟩ := Tryd.underVal
  obtain ⟨ys, n, hfu, hx, hlen, hyl, hf⟩ := DataW.trod_struct hu h
  rw [show Tryd.prog.cellsOf 41 = 3 by kernel_rfl] at hlen
  match cs, hlen, ys, hyl with
  | [c0, c1, c2], _, [y0, y1, y2], _ =>
    have h0 := hf 0 f0 rfl
    rw [o0, t0, show Tryd.prog.cellsOf 3 = 1 by kernel_rfl] at h0
    have h1 := hf 1 f1 rfl
    rw [o1, t1, show Tryd.prog.cellsOf 3 = 1 by kernel_rfl] at h1
    have h2 := hf 2 f2 rfl
    rw [o2, t2, show Tryd.prog.cellsOf 9 = 1 by kernel_rfl] at h2
    simp at h0 h1 h2
    obtain ⟨k, e0, e0', w0⟩ := DataW.trod_int Tryd.underlying3 h0
    obtain ⟨m, e1, e1', w1⟩ := DataW.trod_int Tryd.underlying3 h1
    obtain ⟨s, e2, e2', w2⟩ := DataW.trod_string Tryd.underlying9 h2
    have r1 : -9223372036854775808 ≤ m ∧ m ≤ 9223372036854775807 := by
      simp [Lit.wf, IntKind.min, IntKind.max, IntKind.signed, IntKind.bits] at w1
      omega
    simp at e0 e1 e2
    subst e0 e1 e2
    refine ⟨⟨k, m, Cod.str s⟩, ?_, ⟨Cod.str_lt s, r1.1, r1.2⟩⟩
    simp [valV, Lx.ofS_str]
def TmQ (t : Pr.Term) (cs : List Value) : Prop := cs = [.int .i64 t.k, .string t.v, .int .i64 t.x.k, .int .i64 t.x.n, .string (Lx.ofS t.x.s)] ∧ t.x.Ok
theorem open_term {H : Type} {enc : TypeId × Value → H} {W : World} {fuel : Nat} {cs : List Value} {x : DataW H × List MemPlace}
    (h : DataW.trod enc Tryd.prog W 0 (fun _ => true) true fuel 79 cs = some x) :
    ∃ t : Pr.Term, (TmQ t cs ∧ cs.length = 5) ∧ t.v.size + 300 ≤ 1000 * Rows.uptoBulk x.1 := by
  obtain ⟨fs, f0, f1, f2, hu, rfl, o0, o1, o2, t0, t1, t2⟩ := Tryd.underTerm
  obtain ⟨ys, n, hfu, hx, hlen, hyl, hf⟩ := DataW.trod_struct hu h
  rw [show Tryd.prog.cellsOf 79 = 5 by kernel_rfl] at hlen
  match cs, hlen, ys, hyl with
  | [c0, c1, c2, c3, c4], _, [y0, y1, y2], _ =>
    have h0 := hf 0 f0 rfl
    rw [o0, t0, show Tryd.prog.cellsOf 3 = 1 by kernel_rfl] at h0
    have h1 := hf 1 f1 rfl
    rw [o1, t1, show Tryd.prog.cellsOf 9 = 1 by kernel_rfl] at h1
    have h2 := hf 2 f2 rfl
    rw [o2, t2, show Tryd.prog.cellsOf 41 = 3 by kernel_rfl] at h2
    simp at h0 h1 h2
    obtain ⟨k, e0, e0', w0⟩ := DataW.trod_int Tryd.underlying3 h0
    obtain ⟨s, e1, e1', w1⟩ := DataW.trod_string Tryd.underlying9 h1
    obtain ⟨v, e2, hok⟩ := open_val_cells h2
    simp [valV] at e0 e1 e2
    obtain ⟨e2, e3, e4⟩ := e2
    subst e0 e1 e2 e3 e4
    refine ⟨⟨k, s, v⟩, ⟨⟨rfl, hok⟩, rfl⟩, ?_⟩
    rw [hx]
    have := bulk_pos y2.1
    simp only [List.map_cons, List.map_nil, bulk_agg, Rows.uptoBulkAll, e0', e1', Rows.uptoBulk]
    have hs : s.data.toList.length = s.size := by simp
    rw [hs]
    show s.size + 300 ≤ _
    omega
theorem open_atom {H : Type} {enc : TypeId × Value → H} {W : World} {fuel : Nat} {cs : List Value} {x : DataW H × List MemPlace}
    (h : DataW.trod enc Tryd.prog W 0 (fun _ => true) true fuel 33 cs = some x) :
    ∃ (a : Pr.Atom) (tu : Value), cs = [.string a.rel, tu] ∧ TOk W a.terms tu ∧ aWt a ≤ 1000 * Rows.uptoBulk x.1 := by
  obtain ⟨fs, f0, f1, hu, rfl, o0, o1, t0, t1⟩ := Tryd.underAtom
  obtain ⟨ys, n, hfu, hx, hlen, hyl, hf⟩ := DataW.trod_struct hu h
  rw [show Tryd.prog.cellsOf 33 = 2 by kernel_rfl] at hlen
  match cs, hlen, ys, hyl with
  | [c0, c1], _, [y0, y1], _ =>
    have h0 := hf 0 f0 rfl
    rw [o0, t0, show Tryd.prog.cellsOf 9 = 1 by kernel_rfl] at h0
    have h1 := hf 1 f1 rfl
    rw [o1, t1, show Tryd.prog.cellsOf 31 = 1 by kernel_rfl] at h1
    simp at h0 h1
    obtain ⟨s, e0, e0', w0⟩ := DataW.trod_string Tryd.underlying9 h0
    obtain ⟨u, ts, e1, hw, hr⟩ := open_rows Tryd.underlying31 (by kernel_rfl : Tryd.prog.cellsOf 79 = 5) (by decide) TmQ (fun t => t.v.size + 300) h1 (fun n cs' y _ h => open_term h)
    simp at e0 e1
    subst e0 e1
    refine ⟨⟨s, ts⟩, c1, rfl, ?_, ?_⟩
    · rcases hr with ⟨rfl, a, c, rfl⟩ | ⟨b, off, c, rfl, hi⟩
      · exact .nil
      · refine .row (ts := ts) (fun i hil => ?_) (fun i hil => ?_)
        · obtain ⟨cs', hc, rfl, -⟩ := hi i hil
          exact ⟨hc 0 _ rfl, hc 1 _ rfl, hc 2 _ rfl, hc 3 _ rfl, hc 4 _ rfl⟩
        · obtain ⟨cs', -, -, hok⟩ := hi i hil
          exact hok
    · rw [hx]
      simp only [List.map_cons, List.map_nil, bulk_agg, Rows.uptoBulkAll, e0', Rows.uptoBulk]
      have hs : s.data.toList.length = s.size := by simp
      rw [hs]
      show s.size + 300 + (ts.map fun t => t.v.size + 300).sum ≤ _
      omega
def ExQ (W : World) (p : Pr.Ex × Value) (cs : List Value) : Prop := cs = (exV p.1 p.2).toList ∧ EOk W p.1 p.2
theorem exWts_sum : ∀ l : List Pr.Ex, exWts l = (l.map exWt).sum
  | [] => by simp [exWts]
  | e :: r => by simp only [exWts, List.map_cons, List.sum_cons]; rw [exWts_sum r]
theorem open_expr {H : Type} {enc : TypeId × Value → H} {W : World} : ∀ (fuel : Nat) {cs : List Value} {x : DataW H × List MemPlace}
    (h : DataW.trod enc Tryd.prog W 0 (fun _ => true) true fuel 44 cs = some x),
    ∃ p : Pr.Ex × Value, (ExQ W p cs ∧ cs.length = 7) ∧ exWt p.1 ≤ 1000 * Rows.uptoBulk x.1 := by
  intro fuel
  induction fuel using Nat.strongRecOn with
  | ind fuel ih =>
  intro cs x h
  obtain ⟨fs, f0, f1, f2, f3, f4, hu, rfl, o0, o1, o2, o3, o4, t0, t1, t2, t3, t4⟩ := Tryd.underExpr
  obtain ⟨ys, n, hfu, hx, hlen, hyl, hf⟩ := DataW.trod_struct hu h
  rw [show Tryd.prog.cellsOf 44 = 7 by kernel_rfl] at hlen
  match cs, hlen, ys, hyl with
  | [c0, c1, c2, c3, c4, c5, c6], _, [y0, y1, y2, y3, y4], _ =>
    have h0 := hf 0 f0 rfl
    rw [o0, t0, show Tryd.prog.cellsOf 3 = 1 by kernel_rfl] at h0
    have h1 := hf 1 f1 rfl
    rw [o1, t1, show Tryd.prog.cellsOf 9 = 1 by kernel_rfl] at h1
    have h2 := hf 2 f2 rfl
    rw [o2, t2, show Tryd.prog.cellsOf 41 = 3 by kernel_rfl] at h2
    have h3 := hf 3 f3 rfl
    rw [o3, t3, show Tryd.prog.cellsOf 3 = 1 by kernel_rfl] at h3
    have h4 := hf 4 f4 rfl
    rw [o4, t4, show Tryd.prog.cellsOf 42 = 1 by kernel_rfl] at h4
    simp at h0 h1 h2 h3 h4
    obtain ⟨k, e0, e0', w0⟩ := DataW.trod_int Tryd.underlying3 h0
    obtain ⟨op, e3, e3', w3⟩ := DataW.trod_int Tryd.underlying3 h3
    obtain ⟨s, e1, e1', w1⟩ := DataW.trod_string Tryd.underlying9 h1
    obtain ⟨v, e2, hok⟩ := open_val_cells h2
    obtain ⟨u, bs, e4, hw, hr⟩ := open_rows Tryd.underlying42 (by kernel_rfl : Tryd.prog.cellsOf 44 = 7) (by decide) (ExQ W) (fun p => exWt p.1) h4 (fun n' cs' y hn h => ih n' (by omega) h)
    simp [valV] at e0 e1 e2 e3 e4
    obtain ⟨e2, e5, e6⟩ := e2
    subst e0 e1 e2 e3 e4 e5 e6
    refine ⟨(.mk k s v op (bs.map (·.1)), c6), ⟨⟨rfl, ?_⟩, rfl⟩, ?_⟩
    · rcases hr with ⟨rfl, a, c, rfl⟩ | ⟨b, off, c, rfl, hi⟩
      · exact .nil hok
      · have hR : EOk W (.mk k s v op (bs.map (·.1))) (.slice (some ⟨b, off, none⟩) (bs.map (·.1)).length c) := by
          refine .row (us := fun i => (bs[i]?.map (·.2)).getD .nilIface) hok (fun i hil => ?_) (fun i hil => ?_)
          · have hil' : i < bs.length := by simpa using hil
            obtain ⟨cs', hc, rfl, -⟩ := hi i hil'
            have e1 : (bs.map (·.1))[i] = bs[i].1 := by simp
            have e2 : (bs[i]?.map (·.2)).getD .nilIface = bs[i].2 := by simp [List.getElem?_eq_getElem hil']
            rw [e1, e2]
            exact ⟨hc 0 _ rfl, hc 1 _ rfl, hc 2 _ rfl, hc 3 _ rfl, hc 4 _ rfl, hc 5 _ rfl, hc 6 _ rfl⟩
          · have hil' : i < bs.length := by simpa using hil
            obtain ⟨cs', -, -, he⟩ := hi i hil'
            have e1 : (bs.map (·.1))[i] = bs[i].1 := by simp
            have e2 : (bs[i]?.map (·.2)).getD .nilIface = bs[i].2 := by simp [List.getElem?_eq_getElem hil']
            show EOk W (bs.map (·.1))[i] _
            rw [e1, e2]
            exact he
        rw [List.length_map] at hR
        exact hR
    · rw [hx]
      have := bulk_pos y2.1
      simp only [List.map_cons, List.map_nil, bulk_agg, Rows.uptoBulkAll, e0', e1', e3', Rows.uptoBulk]
      have hs : s.data.toList.length = s.size := by simp
      rw [hs]
      rw [exWt_eq]
      show s.size + 300 + exWts (bs.map (·.1)) ≤ _
      rw [exWts_sum, List.map_map]
      have e : (bs.map (exWt ∘ (·.1))).sum = (bs.map fun p => exWt p.1).sum := rfl
      rw [e]
      omega
theorem open_pos {H : Type} {enc : TypeId × Value → H} {W : World} {fuel : Nat} {cs : List Value} {x : DataW H × List MemPlace}
    (h : DataW.trod enc Tryd.prog W 0 (fun _ => true) true fuel 36 cs = some x) :
    ∃ ln cl : Int, cs = [.int .i64 ln, .int .i64 cl] := by
  obtain ⟨fs, f0, f1, hu, rfl, o0, o1, t0, t1⟩ := Tryd.underPos
  obtain ⟨ys, n, hfu, hx, hlen, hyl, hf⟩ := DataW.trod_struct hu h
  rw [show Tryd.prog.cellsOf 36 = 2 by kernel_rfl] at hlen
  match cs, hlen, ys, hyl with
  | [c0, c1], _, [y0, y1], _ =>
    have h0 := hf 0 f0 rfl
    rw [o0, t0, show Tryd.prog.cellsOf 3 = 1 by kernel_rfl] at h0
    have h1 := hf 1 f1 rfl
    rw [o1, t1, show Tryd.prog.cellsOf 3 = 1 by kernel_rfl] at h1
    simp at h0 h1
    obtain ⟨k, e0, e0', w0⟩ := DataW.trod_int Tryd.underlying3 h0
    obtain ⟨m, e1, e1', w1⟩ := DataW.trod_int Tryd.underlying3 h1
    simp at e0 e1
    subst e0 e1
    exact ⟨k, m, rfl⟩
theorem drop_split {α : Type} (l : List α) (a b : Nat) : l.drop a = (l.drop a).take b ++ l.drop (a + b) := by
  conv => lhs; rw [← List.take_append_drop b (l.drop a), List.drop_drop]
theorem seven {α : Type} (l : List α) (h : l.length = 30) {p0 p1 p2 p3 p4 p5 p6 : List α} (h0 : (l.drop 0).take 1 = p0) (h1 : (l.drop 1).take 2 = p1) (h2 : (l.drop 3).take 1 = p2) (h3 : (l.drop 4).take 7 = p3) (h4 : (l.drop 11).take 7 = p4) (h5 : (l.drop 18).take 10 = p5) (h6 : (l.drop 28).take 2 = p6) :
    l = p0 ++ (p1 ++ (p2 ++ (p3 ++ (p4 ++ (p5 ++ p6))))) := by
  subst h0 h1 h2 h3 h4 h5 h6
  have e6 : l.drop 28 = (l.drop 28).take 2 := by rw [List.take_of_length_le]; simp [h]
  rw [← e6, ← drop_split l 18 10, ← drop_split l 11 7, ← drop_split l 4 7, ← drop_split l 3 1, ← drop_split l 1 2, ← drop_split l 0 1]
  rfl
def LiQ (W : World) (p : Pr.Li × LU) (cs : List Value) : Prop := cs = (liV p.1 p.2).toList ∧ LOk W p.1 p.2
theorem lsWt_sum : ∀ l : List Pr.Li, lsWt l = (l.map lWt).sum
  | [] => by simp [lsWt]
  | e :: r => by simp only [lsWt, List.map_cons, List.sum_cons]; rw [lsWt_sum r]
/-- literals in a row -/
theorem lits_row {W : World} {u : Value} {bs : List (Pr.Li × LU)} (hr : (bs = [] ∧ ∃ a c, u = .slice a 0 c) ∨ ∃ b off c, u = .slice (some ⟨b, off, none⟩) bs.length c ∧ ∀ i (hi : i < bs.length), ∃ cs', (∀ (j : Nat) v, cs'[j]? = some v → W.cell? ⟨b, off + i * 30 + j, none⟩ = some v) ∧ LiQ W bs[i] cs') : BOk W (bs.map (·.1)) u := by
  rcases hr with ⟨rfl, a, c, rfl⟩ | ⟨b, off, c, rfl, hi⟩
  · exact .inl ⟨rfl, _, _, rfl⟩
  · refine .inr ⟨b, off, c, fun i => (bs[i]?.map (·.2)).getD ⟨.nilIface, .nilIface, .nilIface, .nilIface, .nilIface⟩, by rw [List.length_map], fun i hil => ?_, fun i hil => ?_⟩
    · have hil' : i < bs.length := by simpa using hil
      obtain ⟨cs', hc, rfl, -⟩ := hi i hil'
      have e1 : (bs.map (·.1))[i] = bs[i].1 := by simp
      have e2 : (bs[i]?.map (·.2)).getD ⟨.nilIface, .nilIface, .nilIface, .nilIface, .nilIface⟩ = bs[i].2 := by simp [List.getElem?_eq_getElem hil']
      show CellsAt W b _ (liV (bs.map (·.1))[i] ((bs[i]?.map (·.2)).getD ⟨.nilIface, .nilIface, .nilIface, .nilIface, .nilIface⟩))
      rw [e1, e2]
      exact fun j x hx => hc j x (by simpa using hx)
    · have hil' : i < bs.length := by simpa using hil
      obtain ⟨cs', -, -, he⟩ := hi i hil'
      have e1 : (bs.map (·.1))[i] = bs[i].1 := by simp
      have e2 : (bs[i]?.map (·.2)).getD ⟨.nilIface, .nilIface, .nilIface, .nilIface, .nilIface⟩ = bs[i].2 := by simp [List.getElem?_eq_getElem hil']
      show LOk W (bs.map (·.1))[i] ((bs[i]?.map (·.2)).getD ⟨.nilIface, .nilIface, .nilIface, .nilIface, .nilIface⟩)
      rw [e1, e2]
      exact he
theorem LOk.of {W : World} {k : Int} {a : Pr.Atom} {op : Int} {l r : Pr.Ex} {fn : Int} {av : ByteArray} {of : Pr.Ex} {body : List Pr.Li} {ln cl : Int} {U : LU} (ha : TOk W a.terms U.t) (hl : EOk W l U.l) (hr : EOk W r U.r) (ho : EOk W of U.o) (hb : BOk W body U.b) : LOk W (.mk k a op l r fn av of body ln cl) U := by
  rcases hb with ⟨rfl, a, c, h⟩ | ⟨b, off, c, us, h, h1, h2⟩
  · exact .nil ha hl hr ho h
  · exact .row ha hl hr ho h h1 h2
theorem open_lit {H : Type} {enc : TypeId × Value → H} {W : World} : ∀ (fuel : Nat) {cs : List Value} {x : DataW H × List MemPlace}
    (h : DataW.trod enc Tryd.prog W 0 (fun _ => true) true fuel 48 cs = some x),
    ∃ p : Pr.Li × LU, (LiQ W p cs ∧ cs.length = 30) ∧ lWt p.1 ≤ 1000 * Rows.uptoBulk x.1 := by
  intro fuel
  induction fuel using Nat.strongRecOn with
  | ind fuel ih =>
  intro cs x h
  obtain ⟨fs, f0, f1, f2, f3, f4, f5, f6, hu, rfl, o0, o1, o2, o3, o4, o5, o6, t0, t1, t2, t3, t4, t5, t6⟩ := Tryd.underLit
  obtain ⟨ys, n, hfu, hx, hlen, hyl, hf⟩ := DataW.trod_struct hu h
  rw [show Tryd.prog.cellsOf 48 = 30 by kernel_rfl] at hlen
  match ys, hyl with
  | [y0, y1, y2, y3, y4, y5, y6], _ =>
    have h0 := hf 0 f0 rfl
    rw [o0, t0, show Tryd.prog.cellsOf 3 = 1 by kernel_rfl] at h0
    have h1 := hf 1 f1 rfl
    rw [o1, t1, show Tryd.prog.cellsOf 33 = 2 by kernel_rfl] at h1
    have h2 := hf 2 f2 rfl
    rw [o2, t2, show Tryd.prog.cellsOf 3 = 1 by kernel_rfl] at h2
    have h3 := hf 3 f3 rfl
    rw [o3, t3, show Tryd.prog.cellsOf 44 = 7 by kernel_rfl] at h3
    have h4 := hf 4 f4 rfl
    rw [o4, t4, show Tryd.prog.cellsOf 44 = 7 by kernel_rfl] at h4
    have h5 := hf 5 f5 rfl
    rw [o5, t5, show Tryd.prog.cellsOf 46 = 10 by kernel_rfl] at h5
    have h6 := hf 6 f6 rfl
    rw [o6, t6, show Tryd.prog.cellsOf 36 = 2 by kernel_rfl] at h6
    change _ = some y0 at h0
    change _ = some y1 at h1
    change _ = some y2 at h2
    change _ = some y3 at h3
    change _ = some y4 at h4
    change _ = some y5 at h5
    change _ = some y6 at h6
    obtain ⟨k, e0, e0', w0⟩ := DataW.trod_int Tryd.underlying3 h0
    obtain ⟨op, e2, e2', w2⟩ := DataW.trod_int Tryd.underlying3 h2
    obtain ⟨a, tu, e1, hT, wa⟩ := open_atom h1
    obtain ⟨⟨le, lu⟩, ⟨⟨e3, hl⟩, -⟩, wl⟩ := open_expr _ h3
    obtain ⟨⟨re, ru⟩, ⟨⟨e4, hr⟩, -⟩, wr⟩ := open_expr _ h4
    obtain ⟨ln, cl, e6⟩ := open_pos h6
    have hh := h5
    clear h0 h1 h2 h3 h4 h6 hf hu
    have hxl := hx
    clear hx h h5
    have key : ∀ ys' : List (DataW H × List MemPlace), True := fun _ => trivial
    clear key
    obtain ⟨fn, av, of, ou, body, bu, e5, hO, hB, wg⟩ : ∃ (fn : Int) (av : ByteArray) (of : Pr.Ex) (ou : Value) (body : List Pr.Li) (bu : Value), (cs.drop 18).take 10 = (agV fn av of ou bu).toList ∧ EOk W of ou ∧ BOk W body bu ∧ exWt of + av.size + lsWt body + 1000 ≤ 1000 * Rows.uptoBulk y5.1 := by
      have h := hh
      generalize (cs.drop 18).take 10 = cs at h ⊢
      generalize y5 = x at h ⊢
      clear hyl hlen
      obtain ⟨fs, f0, f1, f2, f3, hu, rfl, o0, o1, o2, o3, t0, t1, t2, t3⟩ := Tryd.underAgg
      obtain ⟨ys, n, hfu2, hx, hlen, hyl, hf⟩ := DataW.trod_struct hu h
      rw [show Tryd.prog.cellsOf 46 = 10 by kernel_rfl] at hlen
      match cs, hlen, ys, hyl with
      | [c0, c1, c2, c3, c4, c5, c6, c7, c8, c9], _, [y0, y1, y2, y3], _ =>
        have h0 := hf 0 f0 rfl
        rw [o0, t0, show Tryd.prog.cellsOf 3 = 1 by kernel_rfl] at h0
        have h1 := hf 1 f1 rfl
        rw [o1, t1, show Tryd.prog.cellsOf 9 = 1 by kernel_rfl] at h1
        have h2 := hf 2 f2 rfl
        rw [o2, t2, show Tryd.prog.cellsOf 44 = 7 by kernel_rfl] at h2
        have h3 := hf 3 f3 rfl
        rw [o3, t3, show Tryd.prog.cellsOf 34 = 1 by kernel_rfl] at h3
        simp at h0 h1 h2 h3
        obtain ⟨fn, e0, e0', w0⟩ := DataW.trod_int Tryd.underlying3 h0
        obtain ⟨s, e1, e1', w1⟩ := DataW.trod_string Tryd.underlying9 h1
        obtain ⟨⟨of, ou⟩, ⟨⟨e2, hO⟩, -⟩, wo⟩ := open_expr _ h2
        obtain ⟨u, bs, e3, hw, hr⟩ := open_rows Tryd.underlying34 (by kernel_rfl : Tryd.prog.cellsOf 48 = 30) (by decide) (LiQ W) (fun p => lWt p.1) h3 (fun n' cs' y hn h => ih n' (by omega) h)
        simp at e0 e1 e3
        subst e0 e1 e3
        refine ⟨fn, s, of, ou, bs.map (·.1), c9, ?_, hO, lits_row hr, ?_⟩
        · simp only [exV] at e2
          simp only [List.cons.injEq, and_true] at e2
          obtain ⟨d0, d1, d2, d3, d4, d5, d6⟩ := e2
          subst d0 d1 d2 d3 d4 d5 d6
          rfl
        · rw [hx]
          simp only [List.map_cons, List.map_nil, bulk_agg, Rows.uptoBulkAll, e0', e1', Rows.uptoBulk]
          have hs : s.data.toList.length = s.size := by simp
          rw [hs]
          rw [lsWt_sum, List.map_map]
          have e : (bs.map (lWt ∘ (·.1))).sum = (bs.map fun p => lWt p.1).sum := rfl
          rw [e]
          dsimp only at wo
          omega
    have hcs := seven cs hlen e0 e1 e2 e3 e4 e5 e6
    refine ⟨(.mk k a op le re fn av of body ln cl, ⟨tu, lu, ru, ou, bu⟩), ⟨⟨hcs, LOk.of hT hl hr hO hB⟩, hlen⟩, ?_⟩
    rw [hxl]
    simp only [List.map_cons, List.map_nil, bulk_agg, Rows.uptoBulkAll]
    show aWt a + exWt le + exWt re + exWt of + av.size + 1000 + lsWt body ≤ _
    dsimp only at wl wr
    omega
def RuQ (W : World) (p : Pr.Rul × Value × Value) (cs : List Value) : Prop := cs = (ruV p.1 p.2.1 p.2.2).toList ∧ TOk W p.1.head.terms p.2.1 ∧ BOk W p.1.body p.2.2
theorem open_rule {H : Type} {enc : TypeId × Value → H} {W : World} {fuel : Nat} {cs : List Value} {x : DataW H × List MemPlace}
    (h : DataW.trod enc Tryd.prog W 0 (fun _ => true) true fuel 38 cs = some x) :
    ∃ p : Pr.Rul × Value × Value, (RuQ W p cs ∧ cs.length = 5) ∧ rWt p.1 + 2 ≤ 1000 * Rows.uptoBulk x.1 := by
  obtain ⟨fs, f0, f1, f2, hu, rfl, o0, o1, o2, t0, t1, t2⟩ := Tryd.underRule
  obtain ⟨ys, n, hfu, hx, hlen, hyl, hf⟩ := DataW.trod_struct hu h
  rw [show Tryd.prog.cellsOf 38 = 5 by kernel_rfl] at hlen
  match cs, hlen, ys, hyl with
  | [c0, c1, c2, c3, c4], _, [y0, y1, y2], _ =>
    have h0 := hf 0 f0 rfl
    rw [o0, t0, show Tryd.prog.cellsOf 33 = 2 by kernel_rfl] at h0
    have h1 := hf 1 f1 rfl
    rw [o1, t1, show Tryd.prog.cellsOf 34 = 1 by kernel_rfl] at h1
    have h2 := hf 2 f2 rfl
    rw [o2, t2, show Tryd.prog.cellsOf 36 = 2 by kernel_rfl] at h2
    simp at h0 h1 h2
    obtain ⟨a, tu, e0, hT, wa⟩ := open_atom h0
    obtain ⟨u, bs, e1, hw, hr⟩ := open_rows Tryd.underlying34 (by kernel_rfl : Tryd.prog.cellsOf 48 = 30) (by decide) (LiQ W) (fun p => lWt p.1) h1 (fun n' cs' y hn h => open_lit n' h)
    obtain ⟨ln, cl, e2⟩ := open_pos h2
    simp at e0 e1 e2
    obtain ⟨d0, d1⟩ := e0
    obtain ⟨d2, d3⟩ := e2
    subst d0 d1 d2 d3 e1
    refine ⟨(⟨a, bs.map (·.1), ln, cl⟩, c1, c2), ⟨⟨rfl, hT, lits_row hr⟩, rfl⟩, ?_⟩
    rw [hx]
    have := bulk_pos y2.1
    simp only [List.map_cons, List.map_nil, bulk_agg, Rows.uptoBulkAll]
    show aWt a + lsWt (bs.map (·.1)) + 10 + 2 ≤ _
    rw [lsWt_sum, List.map_map]
    have e : (bs.map (lWt ∘ (·.1))).sum = (bs.map fun p => lWt p.1).sum := rfl
    rw [e]
    omega
def InQ (t : Int) (cs : List Value) : Prop := cs = [.int .i64 t]
theorem open_ints {H : Type} {enc : TypeId × Value → H} {W : World} {fuel : Nat} {cs : List Value} {x : DataW H × List MemPlace}
    (h : DataW.trod enc Tryd.prog W 0 (fun _ => true) true fuel 61 cs = some x) :
    ∃ (u : Value) (ts : List Int), cs = [u] ∧ YOk W ts u ∧ 10 * ts.length + 1000 ≤ 1000 * Rows.uptoBulk x.1 := by
  obtain ⟨u, ts, e1, hw, hr⟩ := open_rows Tryd.underlying61 (by kernel_rfl : Tryd.prog.cellsOf 3 = 1) (by decide) InQ (fun _ => 10) h (fun n cs' y _ h => by
    obtain ⟨k, e0, e0', w0⟩ := DataW.trod_int Tryd.underlying3 h
    exact ⟨k, ⟨e0, by rw [e0]; rfl⟩, by have := bulk_pos y.1; omega⟩)
  refine ⟨u, ts, e1, ?_, ?_⟩
  · rcases hr with ⟨rfl, a, c, rfl⟩ | ⟨b, off, c, rfl, hi⟩
    · exact .nil
    · refine .row (ts := ts) (fun i hil => ?_)
      obtain ⟨cs', hc, rfl⟩ := hi i hil
      have := hc 0 _ rfl
      rw [Nat.mul_one] at this
      exact this
  · have e : (ts.map fun _ => 10).sum = 10 * ts.length := by
      clear hw hr e1
      induction ts with
      | nil => rfl
      | cons a r ih => rw [List.map_cons, List.sum_cons, ih, List.length_cons]; omega
    rw [e] at hw
    exact hw
def ReQ (W : World) (p : Pr.Rel × Value) (cs : List Value) : Prop := cs = (deV p.1 p.2).toList ∧ YOk W p.1.types p.2
theorem open_rel {H : Type} {enc : TypeId × Value → H} {W : World} {fuel : Nat} {cs : List Value} {x : DataW H × List MemPlace}
    (h : DataW.trod enc Tryd.prog W 0 (fun _ => true) true fuel 63 cs = some x) :
    ∃ p : Pr.Rel × Value, (ReQ W p cs ∧ cs.length = 4) ∧ dWt p.1 + 2 ≤ 1000 * Rows.uptoBulk x.1 := by
  obtain ⟨fs, f0, f1, f2, hu, rfl, o0, o1, o2, t0, t1, t2⟩ := Tryd.underRel
  obtain ⟨ys, n, hfu, hx, hlen, hyl, hf⟩ := DataW.trod_struct hu h
  rw [show Tryd.prog.cellsOf 63 = 4 by kernel_rfl] at hlen
  match cs, hlen, ys, hyl with
  | [c0, c1, c2, c3], _, [y0, y1, y2], _ =>
    have h0 := hf 0 f0 rfl
    rw [o0, t0, show Tryd.prog.cellsOf 9 = 1 by kernel_rfl] at h0
    have h1 := hf 1 f1 rfl
    rw [o1, t1, show Tryd.prog.cellsOf 61 = 1 by kernel_rfl] at h1
    have h2 := hf 2 f2 rfl
    rw [o2, t2, show Tryd.prog.cellsOf 36 = 2 by kernel_rfl] at h2
    simp at h0 h1 h2
    obtain ⟨s, e0, e0', w0⟩ := DataW.trod_string Tryd.underlying9 h0
    obtain ⟨u, ts, e1, hY, hw⟩ := open_ints h1
    obtain ⟨ln, cl, e2⟩ := open_pos h2
    simp at e0 e1 e2
    obtain ⟨d2, d3⟩ := e2
    subst e0 d2 d3 e1
    refine ⟨(⟨s, ts, ln, cl⟩, c1), ⟨⟨rfl, hY⟩, rfl⟩, ?_⟩
    rw [hx]
    have := bulk_pos y2.1
    simp only [List.map_cons, List.map_nil, bulk_agg, Rows.uptoBulkAll, e0', Rows.uptoBulk]
    have hs : s.data.toList.length = s.size := by simp
    rw [hs]
    show s.size + 30 + 10 * ts.length + 2 ≤ _
    omega
theorem open_prog {H : Type} {enc : TypeId × Value → H} {W : World} {fuel : Nat} {cs : List Value} {x : DataW H × List MemPlace}
    (h : DataW.trod enc Tryd.prog W 0 (fun _ => true) true fuel 25 cs = some x) :
    ∃ (P : Pr.Prog) (du ru : Value), cs = [du, ru] ∧ DsOk W P.rels du ∧ RsOk W P.rules ru ∧ dsWt P.rels + rsWt P.rules ≤ 1000 * Rows.uptoBulk x.1 := by
  obtain ⟨fs, f0, f1, hu, rfl, o0, o1, t0, t1⟩ := Tryd.underProg
  obtain ⟨ys, n, hfu, hx, hlen, hyl, hf⟩ := DataW.trod_struct hu h
  rw [show Tryd.prog.cellsOf 25 = 2 by kernel_rfl] at hlen
  match cs, hlen, ys, hyl with
  | [c0, c1], _, [y0, y1], _ =>
    have h0 := hf 0 f0 rfl
    rw [o0, t0, show Tryd.prog.cellsOf 22 = 1 by kernel_rfl] at h0
    have h1 := hf 1 f1 rfl
    rw [o1, t1, show Tryd.prog.cellsOf 23 = 1 by kernel_rfl] at h1
    simp at h0 h1
    obtain ⟨u, ds, e0, hw0, hr0⟩ := open_rows Tryd.underlying22 (by kernel_rfl : Tryd.prog.cellsOf 63 = 4) (by decide) (ReQ W) (fun p => dWt p.1 + 2) h0 (fun n' cs' y hn h => open_rel h)
    obtain ⟨u', rs, e1, hw1, hr1⟩ := open_rows Tryd.underlying23 (by kernel_rfl : Tryd.prog.cellsOf 38 = 5) (by decide) (RuQ W) (fun p => rWt p.1 + 2) h1 (fun n' cs' y hn h => open_rule h)
    simp at e0 e1
    subst e0 e1
    refine ⟨⟨ds.map (·.1), rs.map (·.1)⟩, c0, c1, rfl, ?_, ?_, ?_⟩
    · rcases hr0 with ⟨rfl, a, c, rfl⟩ | ⟨b, off, c, rfl, hi⟩
      · exact .nil
      · have hR : DsOk W (ds.map (·.1)) (.slice (some ⟨b, off, none⟩) (ds.map (·.1)).length c) := by
          refine .row (us := fun i => (ds[i]?.map (·.2)).getD .nilIface) (fun i hil => ?_) (fun i hil => ?_)
          · have hil' : i < ds.length := by simpa using hil
            obtain ⟨cs', hc, rfl, -⟩ := hi i hil'
            have e1 : (ds.map (·.1))[i] = ds[i].1 := by simp
            have e2 : (ds[i]?.map (·.2)).getD .nilIface = ds[i].2 := by simp [List.getElem?_eq_getElem hil']
            rw [e1, e2]
            exact fun j x hx => hc j x (by simpa using hx)
          · have hil' : i < ds.length := by simpa using hil
            obtain ⟨cs', -, -, he⟩ := hi i hil'
            have e1 : (ds.map (·.1))[i] = ds[i].1 := by simp
            have e2 : (ds[i]?.map (·.2)).getD .nilIface = ds[i].2 := by simp [List.getElem?_eq_getElem hil']
            rw [e1, e2]
            exact he
        rw [List.length_map] at hR
        exact hR
    · rcases hr1 with ⟨rfl, a, c, rfl⟩ | ⟨b, off, c, rfl, hi⟩
      · exact .nil
      · have hR : RsOk W (rs.map (·.1)) (.slice (some ⟨b, off, none⟩) (rs.map (·.1)).length c) := by
          refine .row (ts := fun i => (rs[i]?.map (·.2.1)).getD .nilIface) (us := fun i => (rs[i]?.map (·.2.2)).getD .nilIface) (fun i hil => ?_) (fun i hil => ?_) (fun i hil => ?_)
          all_goals (
            have hil' : i < rs.length := by simpa using hil
            obtain ⟨cs', hc, hq, ht, hb⟩ := hi i hil'
            have e1 : (rs.map (·.1))[i] = rs[i].1 := by simp
            have e2 : (rs[i]?.map (·.2.1)).getD .nilIface = rs[i].2.1 := by simp [List.getElem?_eq_getElem hil']
            have e3 : (rs[i]?.map (·.2.2)).getD .nilIface = rs[i].2.2 := by simp [List.getElem?_eq_getElem hil'])
          · rw [e1, e2, e3]
            subst hq
            exact fun j x hx => hc j x (by simpa using hx)
          · rw [e1, e2]
            exact ht
          · rw [e1, e3]
            exact hb
        rw [List.length_map] at hR
        exact hR
    · rw [hx]
      simp only [List.map_cons, List.map_nil, bulk_agg, Rows.uptoBulkAll]
      show ((ds.map (·.1)).map fun x => dWt x + 2).sum + ((rs.map (·.1)).map fun x => rWt x + 2).sum ≤ _
      rw [List.map_map, List.map_map]
      have e : (ds.map ((fun x => dWt x + 2) ∘ (·.1))).sum = (ds.map fun p => dWt p.1 + 2).sum := rfl
      have e' : (rs.map ((fun x => rWt x + 2) ∘ (·.1))).sum = (rs.map fun p => rWt p.1 + 2).sum := rfl
      rw [e, e']
      omega
theorem open_prog_arg {H : Type} {enc : TypeId × Value → H} {W : World} {v0 : Value} {d : DataW H} {p : List MemPlace}
    (hv : ∃ cs, v0 = .agg cs ∧ cs.size = Tryd.prog.cellsOf 25) (h : DataW.Trod enc Tryd.prog W 0 (fun _ => true) true 25 v0 d p) :
    ∃ (P : Pr.Prog) (du ru : Value), v0 = .agg #[du, ru] ∧ DsOk W P.rels du ∧ RsOk W P.rules ru ∧ dsWt P.rels + rsWt P.rules ≤ 1000 * Rows.uptoBulk d := by
  obtain ⟨cs, rfl, -⟩ := hv
  obtain ⟨fuel, hf⟩ := h
  obtain ⟨P, du, ru, e, hD, hR, hw⟩ := open_prog hf
  refine ⟨P, du, ru, ?_, hD, hR, hw⟩
  congr 1
  apply Array.ext'
  simpa [Value.cells] using e
theorem open_rule_arg {H : Type} {enc : TypeId × Value → H} {W : World} {v0 : Value} {d : DataW H} {p : List MemPlace}
    (hv : ∃ cs, v0 = .agg cs ∧ cs.size = Tryd.prog.cellsOf 38) (h : DataW.Trod enc Tryd.prog W 0 (fun _ => true) true 38 v0 d p) :
    ∃ (r : Pr.Rul) (tu bu : Value), v0 = .agg (ruV r tu bu) ∧ TOk W r.head.terms tu ∧ BOk W r.body bu ∧ rWt r + 2 ≤ 1000 * Rows.uptoBulk d := by
  obtain ⟨cs, rfl, -⟩ := hv
  obtain ⟨fuel, hf⟩ := h
  obtain ⟨⟨r, tu, bu⟩, ⟨⟨e, hT, hB⟩, -⟩, hw⟩ := open_rule hf
  refine ⟨r, tu, bu, ?_, hT, hB, hw⟩
  congr 1
  apply Array.ext'
  simpa [Value.cells] using e
theorem open_lit_arg {H : Type} {enc : TypeId × Value → H} {W : World} {v0 : Value} {d : DataW H} {p : List MemPlace}
    (hv : ∃ cs, v0 = .agg cs ∧ cs.size = Tryd.prog.cellsOf 48) (h : DataW.Trod enc Tryd.prog W 0 (fun _ => true) true 48 v0 d p) :
    ∃ (e : Pr.Li) (U : LU), v0 = .agg (liV e U) ∧ LOk W e U ∧ lWt e ≤ 1000 * Rows.uptoBulk d := by
  obtain ⟨cs, rfl, -⟩ := hv
  obtain ⟨fuel, hf⟩ := h
  obtain ⟨⟨l, U⟩, ⟨⟨e, hL⟩, -⟩, hw⟩ := open_lit _ hf
  refine ⟨l, U, ?_, hL, hw⟩
  congr 1
  apply Array.ext'
  simpa [Value.cells] using e
theorem open_expr_arg {H : Type} {enc : TypeId × Value → H} {W : World} {v0 : Value} {d : DataW H} {p : List MemPlace}
    (hv : ∃ cs, v0 = .agg cs ∧ cs.size = Tryd.prog.cellsOf 44) (h : DataW.Trod enc Tryd.prog W 0 (fun _ => true) true 44 v0 d p) :
    ∃ (e : Pr.Ex) (u : Value), v0 = .agg (exV e u) ∧ EOk W e u ∧ exWt e ≤ 1000 * Rows.uptoBulk d := by
  obtain ⟨cs, rfl, -⟩ := hv
  obtain ⟨fuel, hf⟩ := h
  obtain ⟨⟨x, u⟩, ⟨⟨e, hE⟩, -⟩, hw⟩ := open_expr _ hf
  refine ⟨x, u, ?_, hE, hw⟩
  congr 1
  apply Array.ext'
  simpa [Value.cells] using e
end Go.Proofs.YtbmmdficdeakfaaDoor
