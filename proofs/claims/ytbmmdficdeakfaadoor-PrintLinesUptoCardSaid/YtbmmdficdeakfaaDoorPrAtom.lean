/- THE WRITER: atom. -/
import Derived.Test.YtbmmdficdeakfaaDoorPrRun
namespace Go.Proofs.YtbmmdficdeakfaaDoor
open Go.RowKit
set_option linter.unusedVariables false
set_option linter.unusedSimpArgs false
set_option maxRecDepth 100000

structure TmAt (w : World) (b o : Nat) (t : Pr.Term) : Prop where
  c0 : w.cell? ⟨b, o, none⟩ = some (.int .i64 t.k)
  c1 : w.cell? ⟨b, o + 1, none⟩ = some (.string t.v)
  c2 : w.cell? ⟨b, o + 2, none⟩ = some (.int .i64 t.x.k)
  c3 : w.cell? ⟨b, o + 3, none⟩ = some (.int .i64 t.x.n)
  c4 : w.cell? ⟨b, o + 4, none⟩ = some (.string (Lx.ofS t.x.s))
theorem TmAt.past {w w' : World} {b o : Nat} {t : Pr.Term} (h : TmAt w b o t) (m : Mod [] w w') : TmAt w' b o t :=
  ⟨m.cell h.c0 (by simp), m.cell h.c1 (by simp), m.cell h.c2 (by simp), m.cell h.c3 (by simp), m.cell h.c4 (by simp)⟩
inductive TOk (w : World) : List Pr.Term → Value → Prop
  | nil {a : Option Addr} {c : Nat} : TOk w [] (.slice a 0 c)
  | row {ts : List Pr.Term} {b off c : Nat} (h1 : ∀ i (h : i < ts.length), TmAt w b (off + i * 5) ts[i]) (h2 : ∀ i (h : i < ts.length), ts[i].x.Ok) : TOk w ts (.slice (some ⟨b, off, none⟩) ts.length c)
theorem TOk.lit {w : World} {ts : List Pr.Term} {u : Value} (h : TOk w ts u) : ∃ a c, u = .slice a ts.length c := by
  cases h with
  | nil => exact ⟨_, _, rfl⟩
  | row h1 h2 => exact ⟨_, _, rfl⟩
theorem TOk.past {w w' : World} {ts : List Pr.Term} {u : Value} (h : TOk w ts u) (m : Mod [] w w') : TOk w' ts u := by
  cases h with
  | nil => exact .nil
  | row h1 h2 => exact .row (fun i h => (h1 i h).past m) h2
theorem TOk.at {w : World} {ts : List Pr.Term} {a : Option Addr} {c : Nat} (h : TOk w ts (.slice a ts.length c)) (i : Nat) (hi : i < ts.length) : ∃ b off, a = some ⟨b, off, none⟩ ∧ TmAt w b (off + i * 5) ts[i] ∧ ts[i].x.Ok := by
  generalize hu : Value.slice a ts.length c = u at h
  cases h with
  | nil => simp at hi
  | row h1 h2 =>
    simp only [Value.slice.injEq] at hu
    exact ⟨_, _, hu.1, h1 i hi, h2 i hi⟩
def tsWt (ts : List Pr.Term) : Nat := (ts.map fun t => t.v.size + 300).sum
def aWt (a : Pr.Atom) : Nat := a.rel.size + 300 + tsWt a.terms
theorem tsWt_take (ts : List Pr.Term) (i : Nat) (h : i < ts.length) : tsWt (ts.take (i + 1)) = tsWt (ts.take i) + (ts[i].v.size + 300) := by
  unfold tsWt
  rw [List.take_succ_eq_append_getElem h, List.map_append, List.sum_append]
  simp
theorem tsWt_le (ts : List Pr.Term) (i : Nat) : tsWt (ts.take i) ≤ tsWt ts := by
  unfold tsWt
  conv => rhs; rw [← List.take_append_drop i ts, List.map_append, List.sum_append]
  omega
theorem tsWt_len (ts : List Pr.Term) : ts.length ≤ tsWt ts := by
  unfold tsWt
  induction ts with
  | nil => simp
  | cons a r ih => rw [List.map_cons, List.sum_cons, List.length_cons]; omega
def headO (r : ByteArray) : Option (List Nat) := if Va.name (Cod.str r) = true then some (Cod.str r ++ [40]) else none
theorem pA_eq (a : Pr.Atom) : Pr.pA a = cat (cat (headO a.rel) (comO Pr.pT a.terms)) (some [41]) := by
  unfold Pr.pA headO comO
  by_cases h : Va.name (Cod.str a.rel) = true
  · rw [if_pos h, if_pos h]
    cases Pr.seqO (a.terms.map Pr.pT) <;> simp
  · rw [if_neg h, if_neg h]; rfl
theorem pT_var {t : Pr.Term} (h : t.k = 1) : Pr.pT t = cat (mustO (Va.variable_ (Cod.str t.v) && decide (t.x = Va.zero))) (some (Cod.str t.v)) := by
  unfold Pr.pT mustO
  rw [if_pos h]
  by_cases h1 : Va.variable_ (Cod.str t.v) = true <;> by_cases h2 : t.x = Va.zero <;> simp [h1, h2]
theorem pT_val {t : Pr.Term} (h : t.k = 2) : Pr.pT t = cat (mustO (decide (t.v.size = 0))) (if Va.may t.x = true then some (Va.text t.x) else none) := by
  unfold Pr.pT mustO
  rw [if_neg (by omega), if_pos h]
  by_cases h1 : t.v.size = 0 <;> by_cases h2 : Va.may t.x = true <;> simp [h1, h2]
theorem pT_any {t : Pr.Term} (h : t.k = 3) : Pr.pT t = cat (mustO (decide (t.v.size = 0) && decide (t.x = Va.zero))) (some [95]) := by
  unfold Pr.pT mustO
  rw [if_neg (by omega), if_neg (by omega), if_pos h]
  by_cases h1 : t.v.size = 0 <;> by_cases h2 : t.x = Va.zero <;> simp [h1, h2]
theorem pT_other {t : Pr.Term} (h1 : t.k ≠ 1) (h2 : t.k ≠ 2) (h3 : t.k ≠ 3) : Pr.pT t = none := by
  unfold Pr.pT
  rw [if_neg h1, if_neg h2, if_neg h3]

theorem fl_len (ss : List ByteArray) : (ss.flatMap Cod.str).length = (ss.map ByteArray.size).sum := by
  induction ss with
  | nil => rfl
  | cons a r ih => rw [List.flatMap_cons, List.length_append, ih, Cod.str_len, List.map_cons, List.sum_cons]
set_option maxHeartbeats 4000000 in
theorem atom_any (w0 : World) (a : Pr.Atom) (tu : Value) (p : Nat) (q v : Value) (l : List Nat) (bad : Bool) (br : Int) (w : World) (h : WAt w0 w p q v l bad br) (hT : TOk w0 a.terms tu) (hG : GlobV w0) (hlen : l.length + aWt a ≤ 140737488000000) :
    Calls Tryd.prog 28 #[.pointer (some ⟨p, 0, none⟩), .agg #[.string a.rel, tu]] w (WRes p v l bad br (Pr.pA a) (aWt a) w) := by
  rw [pA_eq]
  obtain ⟨rel, ts⟩ := a
  obtain ⟨ad, c, rfl⟩ := hT.lit
  have hTL := tsWt_len ts
  have hW : aWt ⟨rel, ts⟩ = rel.size + 300 + tsWt ts := rfl
  have MA := Lib.hid ((Mod.refl [] w).alloc (Obj.cells #[.string rel, .slice ad ts.length c] 33))
  have RA := Lib.hid ((Run.start h).fresh MA.out (by simp))
  have hcell := heap_alloc_new w (Obj.cells #[.string rel, .slice ad ts.length c] 33)
  have XA : Hid ((w.alloc (Obj.cells #[.string rel, .slice ad ts.length c] 33)).cell? ⟨w.heap.size, 0, none⟩ = some (.string rel) ∧ (w.alloc (Obj.cells #[.string rel, .slice ad ts.length c] 33)).cell? ⟨w.heap.size, 1, none⟩ = some (.slice ad ts.length c)) := Lib.hid ⟨by simp only [World.cell?, hcell]; rfl, by simp only [World.cell?, hcell]; rfl⟩
  have HN := Lib.hid (fun w => Name_any rel (by omega) w)
  have HT := Lib.hid hT
  have HG := Lib.hid hG
  clear hcell h hT hG
  go_enter Tryd.func28, Tryd.ntmps28
  go_upto_region 1 with fail
  generalize w.alloc (Obj.cells #[Value.string rel, Value.slice ad ts.length c] 33) = wA at *
  obtain ⟨x0, x1⟩ := XA.out
  go_wp2_with fail
  refine (HN.out _).mono ?_
  rintro e1 w1 ⟨rfl, m1⟩
  have R1 := Lib.hid (RA.out.new m1)
  have y0 := m1.cell x0 (by simp); have y1 := m1.cell x1 (by simp)
  clear x0 x1 m1
  go_wp2_with fail
  refine (R1.out.must (Va.name (Cod.str rel))).mono ?_
  rintro e2 w2 ⟨rfl, r2, k2⟩
  have R2 := Lib.hid r2
  have x0 := k2.cell y0 (by simp); have x1 := k2.cell y1 (by simp)
  clear y0 y1 k2 r2
  go_wp2_with fail
  refine (R2.out.put [rel, { data := #[40] }] rfl rfl (by simp) (by rw [fl_len]; show _ + (rel.size + (1 + 0)) ≤ _; omega)).mono ?_
  rintro e3 w3 ⟨rfl, r3, k3⟩
  have R3 := Lib.hid (r3.of (o' := headO rel) (n' := rel.size + 1) (by
    unfold headO mustO
    rw [cat_nil]
    by_cases hn : Va.name (Cod.str rel) = true
    · rw [if_pos hn, if_pos hn]
      simp only [List.flatMap_cons, List.flatMap_nil, List.append_nil, cat_some]
      rfl
    · rw [if_neg hn, if_neg hn]; rfl) (by rw [fl_len]; show _ + (rel.size + (1 + 0)) ≤ _; omega))
  have y0 := k3.cell x0 (by simp); have y1 := k3.cell x1 (by simp)
  clear x0 x1 k3 r3
  go_wp2_with fail
  have R3 := Lib.hid (R3.out.less (B' := []) (by simp))
  clear y0 y1
  go_loopw [19] (fun iv wr => ∃ k : Nat, k ≤ ts.length ∧ iv = .int .i64 (k : Nat) ∧ Run w0 w p v l bad br br [] (cat (headO rel) (comO Pr.pT (ts.take k))) (rel.size + 1 + tsWt (ts.take k)) wr) (fun iv _ => ts.length - (intOf iv).toNat)
  case atStart => exact ⟨0, Nat.zero_le _, rfl, R3.out.of (by simp [comO, Pr.seqO, Pr.commas, List.intercalate, List.intersperse, cat_nil']) (by simp)⟩
  case round =>
    obtain ⟨k, hk, rfl, hr⟩ := hrel
    by_cases hlt : k < ts.length
    · have hkI : (k : Int) < (ts.length : Int) := by omega
      have hk0 : (0 : Int) ≤ (k : Int) := by omega
      obtain ⟨b, off, rfl, ha, hok⟩ := HT.out.at k hlt
      have HSN := Lib.hid (comO_snoc Pr.pT (ts.take k) ts[k])
      have hsn := tsWt_take ts k hlt
      have hle := tsWt_le ts (k + 1)
      rw [← List.take_succ_eq_append_getElem hlt, List.length_take, Nat.min_eq_left hk] at HSN
      generalize ts[k] = t at *
      obtain ⟨tk, tv, tx⟩ := t
      obtain ⟨a0, a1, a2, a3, a4⟩ := ha.past hr.base
      dsimp only at a0 a1 a2 a3 a4 hsn
      have MT := Lib.hid ((Mod.refl [] wr).alloc (Obj.cells #[.int .i64 tk, .string tv, .int .i64 tx.k, .int .i64 tx.n, .string (Lx.ofS tx.s)] 79))
      have RT := Lib.hid (hr.fresh MT.out (by simp))
      have hcell := heap_alloc_new wr (Obj.cells #[.int .i64 tk, .string tv, .int .i64 tx.k, .int .i64 tx.n, .string (Lx.ofS tx.s)] 79)
      have XT : Hid (TmAt (wr.alloc (Obj.cells #[.int .i64 tk, .string tv, .int .i64 tx.k, .int .i64 tx.n, .string (Lx.ofS tx.s)] 79)) wr.heap.size 0 ⟨tk, tv, tx⟩) := Lib.hid (by constructor <;> simp only [World.cell?, hcell] <;> rfl)
      have HOK := Lib.hid hok
      clear hcell hr ha hok
      go_upto_region 6 with fail
      generalize wr.alloc (Obj.cells #[Value.int IntKind.i64 tk, Value.string tv, Value.int IntKind.i64 tx.k, Value.int IntKind.i64 tx.n, Value.string (Lx.ofS tx.s)] 79) = wT at *
      clear a0 a1 a2 a3 a4
      go_upto_if 25 with fail
      go_cut [] (fun wx => Run w0 w p v l bad br br [wr.heap.size] (cat (cat (headO rel) (comO Pr.pT (ts.take k))) (some (if k = 0 then [] else [44, 32]))) (rel.size + 1 + tsWt (ts.take k) + 2) wx ∧ Kept [wr.heap.size] wT wx)
      case first =>
        by_cases k0 : k = 0
        · subst k0
          go_wp2_with fail
          go_meet
          exact ⟨RT.out.of (by simp [cat_nil']) (by omega), Kept.refl _⟩
        · have kB : decide (0 < k) = true := by rw [decide_eq_true_eq]; omega
          have K0 := Lib.hid k0
          clear k0 kB
          go_wp2_with fail
          all_goals first
            | (exfalso; have := K0.out; omega)
            | skip
          refine (RT.out.put [{ data := #[44, 32] }] rfl rfl (by simp) (by rw [fl_len]; show _ + (2 + 0) ≤ _; omega)).mono ?_
          rintro e4 w4 ⟨rfl, r4, k4⟩
          have R4 := Lib.hid r4
          have K4 := Lib.hid k4
          clear r4 k4
          go_wp2_with fail
          go_meet
          exact ⟨R4.out.of (by rw [if_neg K0.out]; rfl) (by rw [fl_len]; exact Nat.le_of_eq rfl), K4.out⟩
      case rest =>
        obtain ⟨r4, k4⟩ := hcut
        have RT := Lib.hid r4
        obtain ⟨y0, y1, y2, y3, y4⟩ := XT.out
        dsimp only at y0 y1 y2 y3 y4
        have x0 := k4.cell y0 (by simp); have x1 := k4.cell y1 (by simp); have x2 := k4.cell y2 (by simp); have x3 := k4.cell y3 (by simp); have x4 := k4.cell y4 (by simp)
        simp only [Nat.zero_add] at x0 x1 x2 x3 x4
        clear r4 k4 y0 y1 y2 y3 y4 XT MT
        have hem : tv.toList.isEmpty = decide (tv.size = 0) := toList_isEmpty tv
        have hve := fun W => veq_run tx W
        by_cases t1 : tk = 1
        · have hpt := pT_var (t := ⟨tk, tv, tx⟩) t1
          subst t1
          dsimp only at hpt
          have hv := fun w => Variable_any tv (by omega) w
          generalize Va.variable_ (Cod.str tv) = bv at *
          generalize decide (tx = Va.zero) = bx at *
          have HPT := Lib.hid hpt
          have HV := Lib.hid hv
          clear hpt hv hem
          cases bv
          all_goals (
            go_wp2_with fail
            refine (HV.out _).mono ?_
            rintro e5 w5 ⟨rfl, m5⟩
            have R5 := Lib.hid (RT.out.new m5)
            have y1 := m5.cell x1 (by simp); have y2 := m5.cell x2 (by simp); have y3 := m5.cell x3 (by simp); have y4 := m5.cell x4 (by simp)
            clear m5 x0 x1 x2 x3 x4
            go_wp2_with fail
            refine (R5.out.must _).mono ?_
            rintro e6 w6 ⟨rfl, r6, k6⟩
            have R6 := Lib.hid r6
            have x1 := k6.cell y1 (by simp)
            clear k6 r6 y1 y2 y3 y4
            go_wp2_with fail
            refine (R6.out.put [tv] rfl rfl (by simp) (by rw [fl_len]; show _ + (tv.size + 0) ≤ _; omega)).mono ?_
            rintro e7 w7 ⟨rfl, r7, k7⟩
            have R7 := Lib.hid r7
            clear k7 r7
            go_wp2_with fail
            go_roundw
            case rel => exact ⟨k + 1, by omega, by go_num, (R7.out.less (by simp)).of (by rw [HSN.out, HPT.out]; simp only [cat_assoc, List.flatMap_cons, List.flatMap_nil, List.append_nil, Bool.true_and, Bool.false_and]) (by rw [fl_len]; show _ + (tv.size + 0) ≤ _; omega)⟩
            case measure => simp [intOf]; omega)
        · by_cases t2 : tk = 2
          · have hpt := pT_val (t := ⟨tk, tv, tx⟩) t2
            subst t2
            dsimp only at hpt
            generalize decide (tv.size = 0) = be at *
            have HPT := Lib.hid hpt
            clear hpt hve t1
            skip
            all_goals (
              go_wp2_with fail
              refine (RT.out.must _).mono ?_
              rintro e6 w6 ⟨rfl, r6, k6⟩
              have R6 := Lib.hid r6
              have y2 := k6.cell x2 (by simp); have y3 := k6.cell x3 (by simp); have y4 := k6.cell x4 (by simp)
              clear k6 r6 x0 x1 x2 x3 x4
              go_wp2_with fail
              refine (R6.out.value tx HOK.out HG.out (by omega)).mono ?_
              rintro e7 w7 ⟨rfl, r7, k7⟩
              have R7 := Lib.hid r7
              clear k7 r7
              go_wp2_with fail
              go_roundw
              case rel => exact ⟨k + 1, by omega, by go_num, (R7.out.less (by simp)).of (by rw [HSN.out, HPT.out]; simp only [cat_assoc, List.flatMap_cons, List.flatMap_nil, List.append_nil, Bool.true_and, Bool.false_and]) (by omega)⟩
              case measure => simp [intOf]; omega)
          · by_cases t3 : tk = 3
            · have hpt := pT_any (t := ⟨tk, tv, tx⟩) t3
              subst t3
              dsimp only at hpt
              generalize decide (tv.size = 0) = be at *
              generalize decide (tx = Va.zero) = bx at *
              have HPT := Lib.hid hpt
              clear hpt t1 t2
              cases be
              all_goals (
                go_wp2_with fail
                refine (RT.out.must _).mono ?_
                rintro e6 w6 ⟨rfl, r6, k6⟩
                have R6 := Lib.hid r6
                clear k6 r6 x0 x1 x2 x3 x4
                go_wp2_with fail
                refine (R6.out.put [{ data := #[95] }] rfl rfl (by simp) (by rw [fl_len]; show _ + (1 + 0) ≤ _; omega)).mono ?_
                rintro e7 w7 ⟨rfl, r7, k7⟩
                have R7 := Lib.hid r7
                clear k7 r7
                go_wp2_with fail
                go_roundw
                case rel => exact ⟨k + 1, by omega, by go_num, (R7.out.less (by simp)).of (by rw [HSN.out, HPT.out]; simp only [cat_assoc, List.flatMap_cons, List.flatMap_nil, List.append_nil, Bool.true_and, Bool.false_and]; rfl) (by rw [fl_len]; show _ + (1 + 0) ≤ _; omega)⟩
                case measure => simp [intOf]; omega)
            · have HPT := Lib.hid (pT_other (t := ⟨tk, tv, tx⟩) t1 t2 t3)
              have t1B : (tk == 1) = false := by rw [beq_eq_false_iff_ne]; exact t1
              have t2B : (tk == 2) = false := by rw [beq_eq_false_iff_ne]; exact t2
              have t3B : (tk == 3) = false := by rw [beq_eq_false_iff_ne]; exact t3
              obtain ⟨q', v', bad', c0, c1, c2, c3, fz, -, -⟩ := RT.out.cells
              have HS := Lib.hid (RT.out.setBad (cat (headO rel) (comO Pr.pT (ts.take (k + 1)))) (.inl (by rw [HSN.out, HPT.out]; simp)))
              clear t1 t2 t3 hve hem
              go_wp2_with fail
              go_roundw
              case rel => exact ⟨k + 1, by omega, by go_num, (HS.out.1.less (by simp)).of rfl (by omega)⟩
              case measure => simp [intOf]; omega
    · obtain rfl : k = ts.length := by omega
      have hkI : ¬ (ts.length : Int) < (ts.length : Int) := by omega
      rw [List.take_length] at hr
      have HR := Lib.hid hr
      clear hr
      go_wp2_with fail
      refine (HR.out.put [{ data := #[41] }] rfl rfl (by simp) (by rw [fl_len]; show _ + (1 + 0) ≤ _; omega)).mono ?_
      rintro e7 w7 ⟨rfl, r7, k7⟩
      have R7 := Lib.hid r7
      clear k7 r7
      go_wp2_with fail
      go_end0
      exact (R7.out.of rfl (by rw [fl_len]; show _ + (1 + 0) ≤ _; omega)).done
end Go.Proofs.YtbmmdficdeakfaaDoor
