/- THE WRITER: rule, relation. -/
import Derived.Test.YtbmmdficdeakfaaDoorPrLit4
namespace Go.Proofs.YtbmmdficdeakfaaDoor
open Go.RowKit
set_option linter.unusedVariables false
set_option linter.unusedSimpArgs false
set_option maxRecDepth 100000

def rWt (r : Pr.Rul) : Nat := aWt r.head + lsWt r.body + 10
def ruV (r : Pr.Rul) (tu ub : Value) : Array Value := #[.string r.head.rel, tu, ub, .int .i64 r.line, .int .i64 r.col]
theorem pR_eq (r : Pr.Rul) : Pr.pR r = cat (Pr.pA r.head) (if r.body.length = 0 then some [] else cat (some [32, 58, 45, 32]) (comO (Pr.pL 16) r.body)) := by
  unfold Pr.pR
  cases Pr.pA r.head with
  | none => rfl
  | some h =>
    simp only
    by_cases hb : r.body.length = 0
    · rw [if_pos hb, if_pos hb]; simp
    · rw [if_neg hb, if_neg hb]
      show (comO (Pr.pL 16) r.body).map _ = _
      cases comO (Pr.pL 16) r.body <;> simp
set_option maxHeartbeats 2000000 in
theorem rule_any (w0 : World) (r : Pr.Rul) (tu ub : Value) (p : Nat) (q v : Value) (l : List Nat) (bad : Bool) (w : World) (h : WAt w0 w p q v l bad 0) (hT : TOk w0 r.head.terms tu) (hB : BOk w0 r.body ub) (hG : GlobV w0) (hlen : l.length + rWt r ≤ 140737488000000) :
    Calls Tryd.prog 25 #[.pointer (some ⟨p, 0, none⟩), .agg (ruV r tu ub)] w (WRes p v l bad 0 (Pr.pR r) (rWt r) w) := by
  rw [pR_eq]
  obtain ⟨⟨rel, ts⟩, body, ln, cl⟩ := r
  obtain ⟨ta, tc, rfl⟩ := hT.lit
  obtain ⟨ba, bc, rfl⟩ := hB.lit
  obtain ⟨n, hn⟩ : ∃ n, body.length = n := ⟨_, rfl⟩
  dsimp only at hB
  simp only [hn] at hB ⊢
  clear hn
  generalize hTR : (if n = 0 then some [] else cat (some [32, 58, 45, 32]) (comO (Pr.pL 16) body)) = TR
  have HTR := Lib.hid hTR
  clear hTR
  have hW : rWt ⟨⟨rel, ts⟩, body, ln, cl⟩ = aWt ⟨rel, ts⟩ + lsWt body + 10 := rfl
  have HBC := Lib.hid (lits_all w0 16 (Nat.le_refl _)).2
  unfold BodyC at HBC
  have h0 : (16 - ((16 : Nat) : Int)) = 0 := by omega
  simp only [h0] at HBC
  clear h0
  rw [hW] at hlen ⊢
  clear hW
  have MA := Lib.hid ((Mod.refl [] w).alloc (Obj.cells #[.string rel, .slice ta ts.length tc, .slice ba n bc, .int .i64 ln, .int .i64 cl] 38))
  have RA := Lib.hid ((Run.start h).fresh MA.out (by simp))
  have XA : Hid (CellsAt _ w.heap.size 0 (ruV ⟨⟨rel, ts⟩, body, ln, cl⟩ (.slice ta ts.length tc) (.slice ba n bc))) := Lib.hid (CellsAt.of (heap_alloc_new w (Obj.cells #[.string rel, .slice ta ts.length tc, .slice ba n bc, .int .i64 ln, .int .i64 cl] 38)))
  have HT := Lib.hid hT
  have HB := Lib.hid hB
  have HG := Lib.hid hG
  clear h hT hB hG
  unfold ruV at *
  dsimp only at *
  go_enter Tryd.func25, Tryd.ntmps25
  go_upto_region 1 with fail
  generalize w.alloc (Obj.cells #[Value.string rel, Value.slice ta ts.length tc, Value.slice ba n bc, Value.int IntKind.i64 ln, Value.int IntKind.i64 cl] 38) = wA at *
  have c0 : wA.cell? ⟨w.heap.size, 0, none⟩ = some (.string rel) := XA.out.zero 0 _ rfl
  have c1 : wA.cell? ⟨w.heap.size, 1, none⟩ = some (.slice ta ts.length tc) := XA.out.zero 1 _ rfl
  have c2 : wA.cell? ⟨w.heap.size, 2, none⟩ = some (.slice ba n bc) := XA.out.zero 2 _ rfl
  go_wp2_with fail
  refine (RA.out.atom ⟨rel, ts⟩ _ HT.out HG.out (by omega)).mono ?_
  rintro e1 w1 ⟨rfl, r1, k1⟩
  have R1 := Lib.hid r1
  have c2 := k1.cell c2 (by simp)
  clear r1 k1 c0 c1
  cases n with
  | zero =>
    go_wp2_with fail
    go_end0
    exact (R1.out.of (by rw [← HTR.out, cat_nil]; simp [cat_nil']) (by omega)).done
  | succ n =>
    go_wp2_with fail
    refine (R1.out.put [{ data := #[32, 58, 45, 32] }] rfl rfl (by simp) (by rw [fl_len]; show _ + (4 + 0) ≤ _; omega)).mono ?_
    rintro e2 w2 ⟨rfl, r2, k2⟩
    have R2 := Lib.hid r2
    have c2 := k2.cell c2 (by simp)
    clear r2 k2
    go_wp2_with fail
    refine (R2.out.call (Nat.le_refl _) (fun q v l' bad h hl => HBC.out body _ p q v l' bad _ h HB.out HG.out (by rw [fl_len] at hl; have hl : l'.length ≤ l.length + (0 + aWt ⟨rel, ts⟩ + (4 + 0)) := hl; omega))).mono ?_
    rintro e3 w3 ⟨rfl, r3, k3⟩
    have R3 := Lib.hid r3
    clear r3 k3
    go_wp2_with fail
    go_end0
    exact (R3.out.of (by rw [← HTR.out, if_neg (by omega), cat_nil, cat_assoc]; rfl) (by rw [fl_len]; show _ + (4 + 0) + _ ≤ _; omega)).done

inductive YOk (w : World) : List Int → Value → Prop
  | nil {a : Option Addr} {c : Nat} : YOk w [] (.slice a 0 c)
  | row {ts : List Int} {b off c : Nat} (h1 : ∀ i (h : i < ts.length), w.cell? ⟨b, off + i, none⟩ = some (.int .i64 ts[i])) : YOk w ts (.slice (some ⟨b, off, none⟩) ts.length c)
theorem YOk.lit {w : World} {ts : List Int} {u : Value} (h : YOk w ts u) : ∃ a c, u = .slice a ts.length c := by
  cases h with
  | nil => exact ⟨_, _, rfl⟩
  | row h1 => exact ⟨_, _, rfl⟩
theorem YOk.past {w w' : World} {ts : List Int} {u : Value} (h : YOk w ts u) (m : Mod [] w w') : YOk w' ts u := by
  cases h with
  | nil => exact .nil
  | row h1 => exact .row (fun i h => m.cell (h1 i h) (by simp))
theorem YOk.at {w : World} {ts : List Int} {a : Option Addr} {c : Nat} (h : YOk w ts (.slice a ts.length c)) (i : Nat) (hi : i < ts.length) : ∃ b off, a = some ⟨b, off, none⟩ ∧ w.cell? ⟨b, off + i, none⟩ = some (.int .i64 ts[i]) := by
  generalize hu : Value.slice a ts.length c = u at h
  cases h with
  | nil => simp at hi
  | row h1 =>
    simp only [Value.slice.injEq] at hu
    exact ⟨_, _, hu.1, h1 i hi⟩
def dWt (x : Pr.Rel) : Nat := x.name.size + 30 + 10 * x.types.length
def deV (x : Pr.Rel) (yu : Value) : Array Value := #[.string x.name, yu, .int .i64 x.line, .int .i64 x.col]
def headD (r : ByteArray) : Option (List Nat) := if Va.name (Cod.str r) = true then some ([114, 101, 108, 97, 116, 105, 111, 110, 32] ++ (Cod.str r ++ [40])) else none
theorem pD_eq (x : Pr.Rel) : Pr.pD x = cat (cat (headD x.name) (comO Pr.pTy x.types)) (some [41]) := by
  unfold Pr.pD headD comO
  by_cases h : Va.name (Cod.str x.name) = true
  · rw [if_pos h, if_pos h]
    cases Pr.seqO (x.types.map Pr.pTy) <;> simp
  · rw [if_neg h, if_neg h]; rfl
theorem pTy_other {t : Int} (h1 : t ≠ 1) (h2 : t ≠ 2) : Pr.pTy t = none := by
  unfold Pr.pTy
  rw [if_neg h1, if_neg h2]
set_option maxHeartbeats 4000000 in
theorem relation_any (w0 : World) (x : Pr.Rel) (yu : Value) (p : Nat) (q v : Value) (l : List Nat) (bad : Bool) (w : World) (h : WAt w0 w p q v l bad 0) (hY : YOk w0 x.types yu) (hlen : l.length + dWt x ≤ 140737488000000) :
    Calls Tryd.prog 23 #[.pointer (some ⟨p, 0, none⟩), .agg (deV x yu)] w (WRes p v l bad 0 (Pr.pD x) (dWt x) w) := by
  rw [pD_eq]
  obtain ⟨rel, ts, ln, cl⟩ := x
  obtain ⟨ad, c, rfl⟩ := hY.lit
  have hW : dWt ⟨rel, ts, ln, cl⟩ = rel.size + 30 + 10 * ts.length := rfl
  rw [hW] at hlen ⊢
  clear hW
  have MA := Lib.hid ((Mod.refl [] w).alloc (Obj.cells #[.string rel, .slice ad ts.length c, .int .i64 ln, .int .i64 cl] 63))
  have RA := Lib.hid ((Run.start h).fresh MA.out (by simp))
  have XA : Hid (CellsAt _ w.heap.size 0 (deV ⟨rel, ts, ln, cl⟩ (.slice ad ts.length c))) := Lib.hid (CellsAt.of (heap_alloc_new w (Obj.cells #[.string rel, .slice ad ts.length c, .int .i64 ln, .int .i64 cl] 63)))
  have HN := Lib.hid (fun w => Name_any rel (by omega) w)
  have HY := Lib.hid hY
  clear h hY
  unfold deV at *
  dsimp only at *
  go_enter Tryd.func23, Tryd.ntmps23
  go_upto_region 1 with fail
  generalize w.alloc (Obj.cells #[Value.string rel, Value.slice ad ts.length c, Value.int IntKind.i64 ln, Value.int IntKind.i64 cl] 63) = wA at *
  have x0 : wA.cell? ⟨w.heap.size, 0, none⟩ = some (.string rel) := XA.out.zero 0 _ rfl
  have x1 : wA.cell? ⟨w.heap.size, 1, none⟩ = some (.slice ad ts.length c) := XA.out.zero 1 _ rfl
  go_wp2_with fail
  refine (HN.out _).mono ?_
  rintro e1 w1 ⟨rfl, m1⟩
  have R1 := Lib.hid (RA.out.new m1)
  have y0 := m1.cell x0 (by simp); have y1 := m1.cell x1 (by simp)
  clear x0 x1 m1
  go_wp2_with fail
  refine (R1.out.must (Va.name (Cod.str rel))).mono ?_
  rintro e2 w2 ⟨rfl, r2, k2⟩
  have R2 := Lib.hid r2
  have x0 := k2.cell y0 (by simp); have x1 := k2.cell y1 (by simp)
  clear y0 y1 k2 r2
  go_wp2_with fail
  refine (R2.out.put [{ data := #[114, 101, 108, 97, 116, 105, 111, 110, 32] }, rel, { data := #[40] }] rfl rfl (by simp) (by rw [fl_len]; show _ + (9 + (rel.size + (1 + 0))) ≤ _; omega)).mono ?_
  rintro e3 w3 ⟨rfl, r3, k3⟩
  have R3 := Lib.hid (r3.of (o' := headD rel) (n' := rel.size + 10) (by
    unfold headD mustO
    rw [cat_nil]
    by_cases hn : Va.name (Cod.str rel) = true
    · rw [if_pos hn, if_pos hn]
      simp only [List.flatMap_cons, List.flatMap_nil, List.append_nil, cat_some]
      rfl
    · rw [if_neg hn, if_neg hn]; rfl) (by rw [fl_len]; show _ + (9 + (rel.size + (1 + 0))) ≤ _; omega))
  have y1 := k3.cell x1 (by simp)
  clear x0 x1 k3 r3
  go_wp2_with fail
  have R3 := Lib.hid (R3.out.less (B' := []) (by simp))
  clear y1
  go_loopw [19] (fun iv wr => ∃ k : Nat, k ≤ ts.length ∧ iv = .int .i64 (k : Nat) ∧ Run w0 w p v l bad 0 0 [] (cat (headD rel) (comO Pr.pTy (ts.take k))) (rel.size + 10 + 10 * k) wr) (fun iv _ => ts.length - (intOf iv).toNat)
  case atStart => exact ⟨0, Nat.zero_le _, rfl, R3.out.of (by simp [comO, Pr.seqO, Pr.commas, List.intercalate, List.intersperse, cat_nil']) (by omega)⟩
  case round =>
    obtain ⟨k, hk, rfl, hr⟩ := hrel
    by_cases hlt : k < ts.length
    · have hkI : (k : Int) < (ts.length : Int) := by omega
      have hk0 : (0 : Int) ≤ (k : Int) := by omega
      obtain ⟨b, off, rfl, ha⟩ := HY.out.at k hlt
      have HSN := Lib.hid (comO_snoc Pr.pTy (ts.take k) ts[k])
      rw [← List.take_succ_eq_append_getElem hlt, List.length_take, Nat.min_eq_left hk] at HSN
      generalize ts[k] = t at *
      have a0 := hr.base.cell ha (by simp)
      have RT := Lib.hid hr
      clear hr ha
      go_upto_region 6 with fail
      clear a0
      go_upto_if 25 with fail
      go_cut [] (fun wx => Run w0 w p v l bad 0 0 [] (cat (cat (headD rel) (comO Pr.pTy (ts.take k))) (some (if k = 0 then [] else [44, 32]))) (rel.size + 10 + 10 * k + 2) wx)
      case first =>
        by_cases k0 : k = 0
        · subst k0
          go_wp2_with fail
          go_meet
          exact RT.out.of (by simp [cat_nil']) (by omega)
        · have kB : decide (0 < k) = true := by rw [decide_eq_true_eq]; omega
          have K0 := Lib.hid k0
          clear k0 kB
          go_wp2_with fail
          all_goals first
            | (exfalso; have := K0.out; omega)
            | skip
          refine (RT.out.put [{ data := #[44, 32] }] rfl rfl (by simp) (by rw [fl_len]; show _ + (2 + 0) ≤ _; omega)).mono ?_
          rintro e4 w4 ⟨rfl, r4, k4⟩
          have R4 := Lib.hid r4
          clear r4 k4
          go_wp2_with fail
          go_meet
          exact R4.out.of (by rw [if_neg K0.out]; rfl) (by rw [fl_len]; exact Nat.le_of_eq rfl)
      case rest =>
        have RT := Lib.hid hcut
        clear hcut
        by_cases t1 : t = 1
        · subst t1
          go_wp2_with fail
          refine (RT.out.put [{ data := #[110, 117, 109] }] rfl rfl (by simp) (by rw [fl_len]; show _ + (3 + 0) ≤ _; omega)).mono ?_
          rintro e7 w7 ⟨rfl, r7, k7⟩
          have R7 := Lib.hid r7
          clear k7 r7
          go_wp2_with fail
          go_roundw
          case rel => exact ⟨k + 1, by omega, by go_num, R7.out.of (by rw [HSN.out]; simp only [cat_assoc, List.flatMap_cons, List.flatMap_nil, List.append_nil]; rfl) (by rw [fl_len]; show _ + (3 + 0) ≤ _; omega)⟩
          case measure => simp [intOf]; omega
        · by_cases t2 : t = 2
          · subst t2
            clear t1
            go_wp2_with fail
            refine (RT.out.put [{ data := #[115, 121, 109] }] rfl rfl (by simp) (by rw [fl_len]; show _ + (3 + 0) ≤ _; omega)).mono ?_
            rintro e7 w7 ⟨rfl, r7, k7⟩
            have R7 := Lib.hid r7
            clear k7 r7
            go_wp2_with fail
            go_roundw
            case rel => exact ⟨k + 1, by omega, by go_num, R7.out.of (by rw [HSN.out]; simp only [cat_assoc, List.flatMap_cons, List.flatMap_nil, List.append_nil]; rfl) (by rw [fl_len]; show _ + (3 + 0) ≤ _; omega)⟩
            case measure => simp [intOf]; omega
          · have HPT := Lib.hid (pTy_other t1 t2)
            have t1B : (t == 1) = false := by rw [beq_eq_false_iff_ne]; exact t1
            have t2B : (t == 2) = false := by rw [beq_eq_false_iff_ne]; exact t2
            obtain ⟨q', v', bad', c0, c1, c2, c3, fz, -, -⟩ := RT.out.cells
            have HS := Lib.hid (RT.out.setBad (cat (headD rel) (comO Pr.pTy (ts.take (k + 1)))) (.inl (by rw [HSN.out, HPT.out]; simp)))
            clear t1 t2
            go_wp2_with fail
            go_roundw
            case rel => exact ⟨k + 1, by omega, by go_num, HS.out.1.of rfl (by omega)⟩
            case measure => simp [intOf]; omega
    · obtain rfl : k = ts.length := by omega
      have hkI : ¬ (ts.length : Int) < (ts.length : Int) := by omega
      rw [List.take_length] at hr
      have HR := Lib.hid hr
      clear hr
      go_wp2_with fail
      refine (HR.out.put [{ data := #[41] }] rfl rfl (by simp) (by rw [fl_len]; show _ + (1 + 0) ≤ _; omega)).mono ?_
      rintro e7 w7 ⟨rfl, r7, k7⟩
      have R7 := Lib.hid r7
      clear k7 r7
      go_wp2_with fail
      go_end0
      exact (R7.out.of rfl (by rw [fl_len]; show _ + (1 + 0) ≤ _; omega)).done
end Go.Proofs.YtbmmdficdeakfaaDoor
