/- THE WRITER's entry Program. -/
import Derived.Test.YtbmmdficdeakfaaDoorPrProg
namespace Go.Proofs.YtbmmdficdeakfaaDoor
open Go.RowKit
set_option linter.unusedVariables false
set_option linter.unusedSimpArgs false
set_option maxRecDepth 100000

def dsWt (l : List Pr.Rel) : Nat := (l.map fun x => dWt x + 2).sum
def rsWt (l : List Pr.Rul) : Nat := (l.map fun x => rWt x + 2).sum
theorem sum_take {α : Type} (f : α → Nat) (l : List α) (i : Nat) (h : i < l.length) : ((l.take (i + 1)).map f).sum = ((l.take i).map f).sum + f l[i] := by
  rw [List.take_succ_eq_append_getElem h, List.map_append, List.sum_append]
  simp
theorem sum_take_le {α : Type} (f : α → Nat) (l : List α) (i : Nat) : ((l.take i).map f).sum ≤ (l.map f).sum := by
  conv => rhs; rw [← List.take_append_drop i l, List.map_append, List.sum_append]
  omega
theorem sum_len {α : Type} (f : α → Nat) (hf : ∀ x, 1 ≤ f x) (l : List α) : l.length ≤ (l.map f).sum := by
  induction l with
  | nil => simp
  | cons a r ih => rw [List.map_cons, List.sum_cons, List.length_cons]; have := hf a; omega
def linO {α : Type} (f : α → Option (List Nat)) (l : List α) : Option (List Nat) := (Pr.seqO (l.map f)).map Pr.lines
theorem linO_snoc {α : Type} (f : α → Option (List Nat)) (l : List α) (t : α) : linO f (l ++ [t]) = cat (cat (linO f l) (f t)) (some [46, 10]) := by
  unfold linO
  rw [List.map_append, List.map_cons, List.map_nil, Pr.seqO_snoc]
  cases Pr.seqO (l.map f) <;> cases f t <;> simp [Pr.lines]
theorem pP_eq (p : Pr.Prog) : Pr.pP p = cat (linO Pr.pD p.rels) (linO Pr.pR p.rules) := by
  unfold Pr.pP linO
  cases Pr.seqO (p.rels.map Pr.pD) <;> cases Pr.seqO (p.rules.map Pr.pR) <;> simp
inductive DsOk (w : World) : List Pr.Rel → Value → Prop
  | nil {a : Option Addr} {c : Nat} : DsOk w [] (.slice a 0 c)
  | row {ds : List Pr.Rel} {b off c : Nat} {us : Nat → Value} (h1 : ∀ i (h : i < ds.length), CellsAt w b (off + i * 4) (deV ds[i] (us i))) (h2 : ∀ i (h : i < ds.length), YOk w ds[i].types (us i)) : DsOk w ds (.slice (some ⟨b, off, none⟩) ds.length c)
theorem DsOk.lit {w : World} {ds : List Pr.Rel} {u : Value} (h : DsOk w ds u) : ∃ a c, u = .slice a ds.length c := by
  cases h with
  | nil => exact ⟨_, _, rfl⟩
  | row h1 h2 => exact ⟨_, _, rfl⟩
theorem DsOk.past {w w' : World} {ds : List Pr.Rel} {u : Value} (h : DsOk w ds u) (m : Mod [] w w') : DsOk w' ds u := by
  cases h with
  | nil => exact .nil
  | row h1 h2 => exact .row (fun i h => (h1 i h).past m) (fun i h => (h2 i h).past m)
theorem DsOk.at {w : World} {ds : List Pr.Rel} {a : Option Addr} {c : Nat} (h : DsOk w ds (.slice a ds.length c)) (i : Nat) (hi : i < ds.length) : ∃ b off u, a = some ⟨b, off, none⟩ ∧ CellsAt w b (off + i * 4) (deV ds[i] u) ∧ YOk w ds[i].types u := by
  generalize hu : Value.slice a ds.length c = u at h
  cases h with
  | nil => simp at hi
  | row h1 h2 =>
    simp only [Value.slice.injEq] at hu
    exact ⟨_, _, _, hu.1, h1 i hi, h2 i hi⟩
inductive RsOk (w : World) : List Pr.Rul → Value → Prop
  | nil {a : Option Addr} {c : Nat} : RsOk w [] (.slice a 0 c)
  | row {rs : List Pr.Rul} {b off c : Nat} {ts us : Nat → Value} (h1 : ∀ i (h : i < rs.length), CellsAt w b (off + i * 5) (ruV rs[i] (ts i) (us i))) (h2 : ∀ i (h : i < rs.length), TOk w rs[i].head.terms (ts i)) (h3 : ∀ i (h : i < rs.length), BOk w rs[i].body (us i)) : RsOk w rs (.slice (some ⟨b, off, none⟩) rs.length c)
theorem RsOk.lit {w : World} {rs : List Pr.Rul} {u : Value} (h : RsOk w rs u) : ∃ a c, u = .slice a rs.length c := by
  cases h with
  | nil => exact ⟨_, _, rfl⟩
  | row h1 h2 h3 => exact ⟨_, _, rfl⟩
theorem RsOk.past {w w' : World} {rs : List Pr.Rul} {u : Value} (h : RsOk w rs u) (m : Mod [] w w') : RsOk w' rs u := by
  cases h with
  | nil => exact .nil
  | row h1 h2 h3 => exact .row (fun i h => (h1 i h).past m) (fun i h => (h2 i h).past m) (fun i h => (h3 i h).past m)
theorem RsOk.at {w : World} {rs : List Pr.Rul} {a : Option Addr} {c : Nat} (h : RsOk w rs (.slice a rs.length c)) (i : Nat) (hi : i < rs.length) : ∃ b off t u, a = some ⟨b, off, none⟩ ∧ CellsAt w b (off + i * 5) (ruV rs[i] t u) ∧ TOk w rs[i].head.terms t ∧ BOk w rs[i].body u := by
  generalize hu : Value.slice a rs.length c = u at h
  cases h with
  | nil => simp at hi
  | row h1 h2 h3 =>
    simp only [Value.slice.injEq] at hu
    exact ⟨_, _, _, _, hu.1, h1 i hi, h2 i hi, h3 i hi⟩

set_option maxHeartbeats 8000000 in
theorem Program_any (P : Pr.Prog) (du ru : Value) (w : World) (hD : DsOk w P.rels du) (hR : RsOk w P.rules ru) (hG : GlobV w) (hlen : dsWt P.rels + rsWt P.rules ≤ 140737488000000) :
    Calls Tryd.prog 6 #[.agg #[du, ru]] w (Told (Pr.pP P) (dsWt P.rels + rsWt P.rules) w) := by
  rw [pP_eq]
  obtain ⟨ds, rs⟩ := P
  dsimp only at *
  obtain ⟨da, dc, rfl⟩ := hD.lit
  obtain ⟨ra, rc, rfl⟩ := hR.lit
  have hdl : ds.length ≤ dsWt ds := sum_len _ (fun x => by omega) ds
  have hrl : rs.length ≤ rsWt rs := sum_len _ (fun x => by omega) rs
  have HD := Lib.hid hD
  have HR := Lib.hid hR
  have HG := Lib.hid hG
  clear hD hR hG
  have MA := Lib.hid ((Mod.refl [] w).alloc (Obj.cells #[.slice da ds.length dc, .slice ra rs.length rc] 25))
  have XA : Hid (CellsAt _ w.heap.size 0 #[.slice da ds.length dc, .slice ra rs.length rc]) := Lib.hid (CellsAt.of (heap_alloc_new w (Obj.cells #[.slice da ds.length dc, .slice ra rs.length rc] 25)))
  have hsz : Hid (w.heap.size < (w.alloc (Obj.cells #[.slice da ds.length dc, .slice ra rs.length rc] 25)).heap.size) := Lib.hid (by simp)
  go_enter Tryd.func6, Tryd.ntmps6
  go_upto_region 1 with fail
  generalize w.alloc (Obj.cells #[Value.slice da ds.length dc, Value.slice ra rs.length rc] 25) = wA at *
  have R0 := Lib.hid (Run.startB (B := [w.heap.size]) (fresh_at MA.out) (by simp; have := hsz.out; omega))
  have X0 := Lib.hid (XA.out.past ((Mod.refl [] wA).alloc (Obj.cells #[.pointer none, .slice none 0 0, .bool false, .int .i64 0] 70)))
  go_upto_region 2 with fail
  generalize wA.alloc (Obj.cells #[Value.pointer none, Value.slice none 0 0, Value.bool false, Value.int IntKind.i64 0] 70) = wS at *
  have x0 : wS.cell? ⟨w.heap.size, 0, none⟩ = some (.slice da ds.length dc) := X0.out.zero 0 _ rfl
  clear XA MA hsz
  go_wp2_with fail
  clear x0
  go_loopw [14] (fun iv wr => ∃ k : Nat, k ≤ ds.length ∧ iv = .int .i64 (k : Nat) ∧ Run w wS wA.heap.size (.slice none 0 0) [] false 0 0 [w.heap.size] (linO Pr.pD (ds.take k)) (dsWt (ds.take k)) wr ∧ CellsAt wr w.heap.size 0 #[.slice da ds.length dc, .slice ra rs.length rc]) (fun iv _ => ds.length - (intOf iv).toNat)
  case atStart => exact ⟨0, Nat.zero_le _, rfl, R0.out.of (by simp [linO, Pr.seqO, Pr.lines]) (by simp), X0.out⟩
  case round =>
    obtain ⟨k, hk, rfl, hr, hx⟩ := hrel
    clear R0 X0
    by_cases hlt : k < ds.length
    · have hkI : (k : Int) < (ds.length : Int) := by omega
      have hk0 : (0 : Int) ≤ (k : Int) := by omega
      obtain ⟨b, off, yu, rfl, ha, hy⟩ := HD.out.at k hlt
      have HSN := Lib.hid (linO_snoc Pr.pD (ds.take k) ds[k])
      have hsn := sum_take (fun x => dWt x + 2) ds k hlt
      have hle := sum_take_le (fun x => dWt x + 2) ds (k + 1)
      have e1 : dsWt (ds.take (k + 1)) = ((ds.take (k + 1)).map fun x => dWt x + 2).sum := rfl
      have e2 : dsWt (ds.take k) = ((ds.take k).map fun x => dWt x + 2).sum := rfl
      have e3 : dsWt ds = (ds.map fun x => dWt x + 2).sum := rfl
      rw [← e1, ← e2] at hsn
      rw [← e1, ← e3] at hle
      clear e1 e2 e3
      rw [← List.take_succ_eq_append_getElem hlt] at HSN
      generalize ds[k] = t at *
      have HC := Lib.hid (fun p q v l bad w' (h : WAt w w' p q v l bad 0) hl => relation_any w t yu p q v l bad w' h hy hl)
      obtain ⟨nm, ty, ln, cl⟩ := t
      obtain ⟨ya, yc, rfl⟩ := hy.lit
      clear hy
      unfold deV at *
      dsimp only at *
      have hc := ha.past hr.base
      have a0 : wr.cell? ⟨b, off + k * 4, none⟩ = some (.string nm) := hc 0 _ rfl
      have a1 : wr.cell? ⟨b, off + k * 4 + 1, none⟩ = some (.slice ya ty.length yc) := hc 1 _ rfl
      have a2 : wr.cell? ⟨b, off + k * 4 + 2, none⟩ = some (.int .i64 ln) := hc 2 _ rfl
      have a3 : wr.cell? ⟨b, off + k * 4 + 3, none⟩ = some (.int .i64 cl) := hc 3 _ rfl
      have MT := Lib.hid ((Mod.refl [] wr).alloc (Obj.cells #[.string nm, .slice ya ty.length yc, .int .i64 ln, .int .i64 cl] 63))
      have RT := Lib.hid (hr.fresh MT.out (by simp))
      have XT : Hid (CellsAt _ wr.heap.size 0 #[.string nm, .slice ya ty.length yc, .int .i64 ln, .int .i64 cl]) := Lib.hid (CellsAt.of (heap_alloc_new wr (Obj.cells #[.string nm, .slice ya ty.length yc, .int .i64 ln, .int .i64 cl] 63)))
      have XP := Lib.hid (hx.past MT.out)
      clear hr ha hc hx
      go_upto_region 5 with fail
      generalize wr.alloc (Obj.cells #[Value.string nm, Value.slice ya ty.length yc, Value.int IntKind.i64 ln, Value.int IntKind.i64 cl] 63) = wT at *
      clear a0 a1 a2 a3 MT
      have b0 : wT.cell? ⟨wr.heap.size, 0, none⟩ = some (.string nm) := XT.out.zero 0 _ rfl
      have b1 : wT.cell? ⟨wr.heap.size, 1, none⟩ = some (.slice ya ty.length yc) := XT.out.zero 1 _ rfl
      have b2 : wT.cell? ⟨wr.heap.size, 2, none⟩ = some (.int .i64 ln) := XT.out.zero 2 _ rfl
      have b3 : wT.cell? ⟨wr.heap.size, 3, none⟩ = some (.int .i64 cl) := XT.out.zero 3 _ rfl
      go_wp2_with fail
      refine (RT.out.call (Nat.le_refl _) (fun q v l' bad h hl => HC.out _ q v l' bad _ h (by rw [List.length_nil] at hl; omega))).mono ?_
      rintro e4 w4 ⟨rfl, r4, k4⟩
      have R4 := Lib.hid r4
      have XP4 := Lib.hid (XP.out.kept k4 (by simp))
      clear r4 k4 b0 b1 b2 b3 XT XP
      go_wp2_with fail
      refine (R4.out.put [{ data := #[46, 10] }] rfl rfl (by simp) (by rw [fl_len, List.length_nil]; show _ + (2 + 0) ≤ _; omega)).mono ?_
      rintro e5 w5 ⟨rfl, r5, k5⟩
      have R5 := Lib.hid r5
      have XP5 := Lib.hid (XP4.out.kept k5 (by simp))
      clear r5 k5
      go_wp2_with fail
      go_roundw
      case rel => exact ⟨k + 1, by omega, by go_num, (R5.out.less (by simp)).of (by rw [HSN.out]; rfl) (by rw [fl_len]; show _ + (2 + 0) ≤ _; omega), XP5.out⟩
      case measure => simp [intOf]; omega
    · obtain rfl : k = ds.length := by omega
      have hkI : ¬ (ds.length : Int) < (ds.length : Int) := by omega
      rw [List.take_length] at hr
      have R0 := Lib.hid hr
      have X0 := Lib.hid hx
      have x1 : wr.cell? ⟨w.heap.size, 1, none⟩ = some (.slice ra rs.length rc) := hx.zero 1 _ rfl
      clear hr hx hk
      go_wp2_with fail
      clear x1
      go_loopw [28] (fun iv wr => ∃ k : Nat, k ≤ rs.length ∧ iv = .int .i64 (k : Nat) ∧ Run w wS wA.heap.size (.slice none 0 0) [] false 0 0 [] (cat (linO Pr.pD ds) (linO Pr.pR (rs.take k))) (dsWt ds + rsWt (rs.take k)) wr) (fun iv _ => rs.length - (intOf iv).toNat)
      case atStart => exact ⟨0, Nat.zero_le _, rfl, (R0.out.less (by simp)).of (by simp [linO, Pr.seqO, Pr.lines, cat_nil']) (by simp)⟩
      case round =>
        obtain ⟨k, hk, rfl, hr⟩ := hrel
        clear R0 X0
        by_cases hlt : k < rs.length
        · have hkI2 : (k : Int) < (rs.length : Int) := by omega
          have hk0 : (0 : Int) ≤ (k : Int) := by omega
          obtain ⟨b, off, tu, bu, rfl, ha, ht, hb⟩ := HR.out.at k hlt
          have HSN := Lib.hid (linO_snoc Pr.pR (rs.take k) rs[k])
          have hsn := sum_take (fun x => rWt x + 2) rs k hlt
          have hle := sum_take_le (fun x => rWt x + 2) rs (k + 1)
          have e1 : rsWt (rs.take (k + 1)) = ((rs.take (k + 1)).map fun x => rWt x + 2).sum := rfl
          have e2 : rsWt (rs.take k) = ((rs.take k).map fun x => rWt x + 2).sum := rfl
          have e3 : rsWt rs = (rs.map fun x => rWt x + 2).sum := rfl
          rw [← e1, ← e2] at hsn
          rw [← e1, ← e3] at hle
          clear e1 e2 e3
          rw [← List.take_succ_eq_append_getElem hlt] at HSN
          generalize rs[k] = t at *
          have HC := Lib.hid (fun p q v l bad w' (h : WAt w w' p q v l bad 0) hl => rule_any w t tu bu p q v l bad w' h ht hb HG.out hl)
          obtain ⟨⟨nm, ty⟩, bd, ln, cl⟩ := t
          obtain ⟨ya, yc, rfl⟩ := ht.lit
          obtain ⟨za, zc, rfl⟩ := hb.lit
          clear ht hb
          unfold ruV at *
          dsimp only at *
          have hc := ha.past hr.base
          have a0 : wr.cell? ⟨b, off + k * 5, none⟩ = some (.string nm) := hc 0 _ rfl
          have a1 : wr.cell? ⟨b, off + k * 5 + 1, none⟩ = some (.slice ya ty.length yc) := hc 1 _ rfl
          have a2 : wr.cell? ⟨b, off + k * 5 + 2, none⟩ = some (.slice za bd.length zc) := hc 2 _ rfl
          have a3 : wr.cell? ⟨b, off + k * 5 + 3, none⟩ = some (.int .i64 ln) := hc 3 _ rfl
          have a4 : wr.cell? ⟨b, off + k * 5 + 4, none⟩ = some (.int .i64 cl) := hc 4 _ rfl
          have MT := Lib.hid ((Mod.refl [] wr).alloc (Obj.cells #[.string nm, .slice ya ty.length yc, .slice za bd.length zc, .int .i64 ln, .int .i64 cl] 38))
          have RT := Lib.hid (hr.fresh MT.out (by simp))
          have XT : Hid (CellsAt _ wr.heap.size 0 #[.string nm, .slice ya ty.length yc, .slice za bd.length zc, .int .i64 ln, .int .i64 cl]) := Lib.hid (CellsAt.of (heap_alloc_new wr (Obj.cells #[.string nm, .slice ya ty.length yc, .slice za bd.length zc, .int .i64 ln, .int .i64 cl] 38)))
          clear hr ha hc
          go_upto_region 11 with fail
          generalize wr.alloc (Obj.cells #[Value.string nm, Value.slice ya ty.length yc, Value.slice za bd.length zc, Value.int IntKind.i64 ln, Value.int IntKind.i64 cl] 38) = wT at *
          clear a0 a1 a2 a3 a4 MT
          have b0 : wT.cell? ⟨wr.heap.size, 0, none⟩ = some (.string nm) := XT.out.zero 0 _ rfl
          have b1 : wT.cell? ⟨wr.heap.size, 1, none⟩ = some (.slice ya ty.length yc) := XT.out.zero 1 _ rfl
          have b2 : wT.cell? ⟨wr.heap.size, 2, none⟩ = some (.slice za bd.length zc) := XT.out.zero 2 _ rfl
          have b3 : wT.cell? ⟨wr.heap.size, 3, none⟩ = some (.int .i64 ln) := XT.out.zero 3 _ rfl
          have b4 : wT.cell? ⟨wr.heap.size, 4, none⟩ = some (.int .i64 cl) := XT.out.zero 4 _ rfl
          go_wp2_with fail
          refine (RT.out.call (Nat.le_refl _) (fun q v l' bad h hl => HC.out _ q v l' bad _ h (by rw [List.length_nil] at hl; omega))).mono ?_
          rintro e4 w4 ⟨rfl, r4, k4⟩
          have R4 := Lib.hid r4
          clear r4 k4 b0 b1 b2 b3 b4 XT
          go_wp2_with fail
          refine (R4.out.put [{ data := #[46, 10] }] rfl rfl (by simp) (by rw [fl_len, List.length_nil]; show _ + (2 + 0) ≤ _; omega)).mono ?_
          rintro e5 w5 ⟨rfl, r5, k5⟩
          have R5 := Lib.hid r5
          clear r5 k5
          go_wp2_with fail
          go_roundw
          case rel => exact ⟨k + 1, by omega, by go_num, (R5.out.less (by simp)).of (by rw [HSN.out]; simp only [cat_assoc]; rfl) (by rw [fl_len]; show _ + (2 + 0) ≤ _; omega)⟩
          case measure => simp [intOf]; omega
        · obtain rfl : k = rs.length := by omega
          have hkI2 : ¬ (rs.length : Int) < (rs.length : Int) := by omega
          rw [List.take_length] at hr
          have R1 := Lib.hid hr
          clear hr
          go_wp2_with fail
          refine (R1.out.told hlen).mono ?_
          rintro e2 w2 ⟨rfl, m2, hl2⟩
          have M2 := Lib.hid m2
          have HL2 := Lib.hid hl2
          clear m2 hl2
          generalize cat (linO Pr.pD ds) (linO Pr.pR rs) = o at *
          cases o
          all_goals (
            unfold tv
            go_wp2_with fail
            go_ret2
            exact ⟨rfl, M2.out, HL2.out⟩)
end Go.Proofs.YtbmmdficdeakfaaDoor
