/- THE WRITER: a walk's state; expr at all depths. -/
import Derived.Test.YtbmmdficdeakfaaDoorPrOper
namespace Go.Proofs.YtbmmdficdeakfaaDoor
open Go.RowKit
set_option linter.unusedVariables false
set_option linter.unusedSimpArgs false
set_option maxRecDepth 100000

theorem expr_all (w0 : World) : ∀ k, k ≤ 100 → ExprC w0 k ∧ OperC w0 k
  | 0, _ => ⟨expr_zero w0, oper_zero w0⟩
  | k + 1, h => by
    have ⟨i1, i2⟩ := expr_all w0 k (by omega)
    have h1 : ExprC w0 (k + 1) := expr_of (by omega) i2
    exact ⟨h1, oper_of (by omega) i1 h1⟩

def cat (a b : Option (List Nat)) : Option (List Nat) := a.bind fun x => b.map fun y => x ++ y
@[simp] theorem cat_none (b : Option (List Nat)) : cat none b = none := rfl
@[simp] theorem cat_none' (a : Option (List Nat)) : cat a none = none := by cases a <;> rfl
@[simp] theorem cat_some (a b : List Nat) : cat (some a) (some b) = some (a ++ b) := rfl
theorem cat_assoc (a b c : Option (List Nat)) : cat (cat a b) c = cat a (cat b c) := by
  cases a <;> cases b <;> cases c <;> simp
theorem cat_nil (a : Option (List Nat)) : cat (some []) a = a := by cases a <;> simp
theorem cat_nil' (a : Option (List Nat)) : cat a (some []) = a := by cases a <;> simp
def mustO (b : Bool) : Option (List Nat) := if b then some [] else none
def Kept (B : List Nat) (w1 w2 : World) : Prop := w1.heap.size ≤ w2.heap.size ∧ ∀ b ∈ B, ∀ (o : Nat) (x : Value), w1.cell? ⟨b, o, none⟩ = some x → w2.cell? ⟨b, o, none⟩ = some x
structure Run (w0 w : World) (p : Nat) (v0 : Value) (l0 : List Nat) (b0 : Bool) (br br' : Int) (B : List Nat) (o : Option (List Nat)) (n : Nat) (w' : World) : Prop where
  ex : ∃ q v l bad, WAt w0 w' p q v l bad br' ∧ WMod p v0 v w w' ∧ Res b0 l0 o n l bad ∧ (∀ b ∈ B, b ≠ p ∧ b ∉ fp v ∧ b < w'.heap.size) ∧ w.heap.size ≤ w'.heap.size
section
variable {w0 w w' : World} {p : Nat} {q v v0 : Value} {l l0 : List Nat} {bad b0 : Bool} {br br' : Int} {B : List Nat} {o o2 : Option (List Nat)} {n n2 : Nat}
theorem Run.start (h : WAt w0 w p q v l bad br) : Run w0 w p v l bad br br [] (some []) 0 w :=
  ⟨q, v, l, bad, h, WMod.refl _ _ _, ⟨by omega, fun h => h, fun h => ⟨h, fun x hx => by cases hx; simp⟩⟩, by simp, Nat.le_refl _⟩
theorem Run.base (H : Run w0 w p v0 l0 b0 br br' B o n w') : Mod [] w0 w' := by
  obtain ⟨q, v, l, bad, h, -⟩ := H.ex
  exact h.base
theorem Run.new {w2 : World} (H : Run w0 w p v0 l0 b0 br br' B o n w') (m : Mod [] w' w2) : Run w0 w p v0 l0 b0 br br' B o n w2 := by
  obtain ⟨q, v, l, bad, h, hm, hr, hB, hs⟩ := H.ex
  have := m.size
  exact ⟨q, v, l, bad, h.new m, hm.trans (WMod.of m), hr, fun b hb => ⟨(hB b hb).1, (hB b hb).2.1, by have := (hB b hb).2.2; omega⟩, by omega⟩
theorem Run.fresh {w2 : World} (H : Run w0 w p v0 l0 b0 br br' B o n w') (m : Mod [] w' w2) (hs : w'.heap.size < w2.heap.size) : Run w0 w p v0 l0 b0 br br' (w'.heap.size :: B) o n w2 := by
  obtain ⟨q, v, l, bad, h, hm, hr, hB, hz⟩ := (H.new m).ex
  obtain ⟨q', v', l', bad', h', hm', hr', hB', hz'⟩ := H.ex
  refine ⟨q', v', l', bad', h'.new m, hm'.trans (WMod.of m), hr', fun b hb => ?_, by omega⟩
  rcases List.mem_cons.1 hb with rfl | hb
  · exact ⟨by have := h'.wr.lt; omega, fun hk => by have := fp_lt h'.wr.row _ hk; omega, hs⟩
  · exact ⟨(hB' b hb).1, (hB' b hb).2.1, by have := (hB' b hb).2.2; omega⟩
theorem Run.less {B' : List Nat} (H : Run w0 w p v0 l0 b0 br br' B o n w') (h : ∀ b ∈ B', b ∈ B) : Run w0 w p v0 l0 b0 br br' B' o n w' := by
  obtain ⟨q, v, l, bad, h1, hm, hr, hB, hz⟩ := H.ex
  exact ⟨q, v, l, bad, h1, hm, hr, fun b hb => hB b (h b hb), hz⟩
theorem Run.of {o' : Option (List Nat)} {n' : Nat} (H : Run w0 w p v0 l0 b0 br br' B o n w') (ho : o = o') (hn : n ≤ n') : Run w0 w p v0 l0 b0 br br' B o' n' w' := by
  obtain ⟨q, v, l, bad, h1, hm, hr, hB⟩ := H.ex
  exact ⟨q, v, l, bad, h1, hm, hr.of ho hn, hB⟩
theorem Run.done (H : Run w0 w p v0 l0 b0 br br B o n w') : WRes p v0 l0 b0 br o n w (.returned (.tuple #[])) w' := by
  obtain ⟨q, v, l, bad, h1, hm, hr, -⟩ := H.ex
  exact ⟨rfl, q, v, l, bad, h1.wr, hm, hr⟩
theorem Kept.cell {w1 w2 : World} (h : Kept B w1 w2) {b k : Nat} {x : Value} (hc : w1.cell? ⟨b, k, none⟩ = some x) (hb : b ∈ B) : w2.cell? ⟨b, k, none⟩ = some x := h.2 b hb k x hc
theorem Kept.trans {w1 w2 w3 : World} (h : Kept B w1 w2) (g : Kept B w2 w3) : Kept B w1 w3 := ⟨Nat.le_trans h.1 g.1, fun b hb k x hx => g.2 b hb k x (h.2 b hb k x hx)⟩
theorem Kept.of {w1 w2 : World} (h : Mod [] w1 w2) : Kept B w1 w2 := ⟨h.size, fun b hb k x hx => h.cell hx (by simp)⟩
theorem Kept.refl (w : World) : Kept B w w := ⟨Nat.le_refl _, fun b hb k x hx => hx⟩
/-- what a sub-call leaves -/
def RunTo (w0 w : World) (p : Nat) (v0 : Value) (l0 : List Nat) (b0 : Bool) (br br' : Int) (B : List Nat) (o : Option (List Nat)) (n : Nat) (w' : World) (e : Ending) (w2 : World) : Prop :=
  e = .returned (.tuple #[]) ∧ Run w0 w p v0 l0 b0 br br' B o n w2 ∧ Kept B w' w2
theorem Run.call {f : FuncId} {args : Array Value} {wa : World} (H : Run w0 w p v0 l0 b0 br br' B o n w') (hsz : w'.heap.size ≤ wa.heap.size)
    (C : ∀ q v l bad, WAt w0 w' p q v l bad br' → l.length ≤ l0.length + n → Calls Tryd.prog f args wa (WRes p v l bad br' o2 n2 w')) :
    Calls Tryd.prog f args wa (RunTo w0 w p v0 l0 b0 br br' B (cat o o2) (n + n2) w') := by
  obtain ⟨q, v, l, bad, h, hm, hr, hB, hz⟩ := H.ex
  refine (C q v l bad h hr.1).mono ?_
  rintro e w2 ⟨rfl, q2, v2, l2, bad2, h2, m2, r2⟩
  have hs := m2.size
  exact ⟨rfl, ⟨q2, v2, l2, bad2, h.step h2 m2, hm.trans m2, hr.seq r2, fun b hb => ⟨(hB b hb).1, m2.beside (hB b hb).2.2 (hB b hb).2.1, by have := (hB b hb).2.2; omega⟩, by omega⟩,
    hs, fun b hb k x hx => m2.cell hx (hB b hb).1 (hB b hb).2.1⟩
theorem Run.must (H : Run w0 w p v0 l0 b0 br br' B o n w') (b : Bool) :
    Calls Tryd.prog 35 #[.pointer (some ⟨p, 0, none⟩), .bool b] w' (RunTo w0 w p v0 l0 b0 br br' B (cat o (mustO b)) n w') :=
  H.call (n2 := 0) (Nat.le_refl _) (fun q v l bad h hl => (must_any p q v l bad br' b w' h.wr).mono (by
    rintro e w2 ⟨rfl, q2, v2, h2, m2⟩
    refine ⟨rfl, q2, v2, l, _, h2, m2, by omega, fun hb => by rw [hb]; rfl, fun hb => ?_⟩
    subst hb
    cases b
    · exact ⟨rfl, fun x hx => by cases hx⟩
    · exact ⟨rfl, fun x hx => by cases hx; simp⟩))
theorem Run.put (H : Run w0 w p v0 l0 b0 br br' B o n w') (ss : List ByteArray) {g m : Nat} {T : TypeId} (hg : w'.heap.size = g) (hm : ss.length = m) (h1000 : ss.length ≤ 1000) (hlen : l0.length + n + (ss.flatMap Cod.str).length ≤ 140737488355328) :
    Calls Tryd.prog 24 #[.pointer (some ⟨p, 0, none⟩), .slice (some ⟨g, 0, none⟩) m m] (w'.alloc (Obj.cells (ss.map Value.string).toArray T)) (RunTo w0 w p v0 l0 b0 br br' B (cat o (some (ss.flatMap Cod.str))) (n + (ss.flatMap Cod.str).length) w') :=
  H.call (by simp) (fun q v l bad h hl => (putS h ss hg hm h1000 (by omega)).mono (by
    rintro e w2 ⟨rfl, q2, v2, h2, m2⟩
    exact ⟨rfl, q2, v2, _, _, h2, m2, Res.put l bad _⟩))
theorem Run.value (H : Run w0 w p v0 l0 b0 br br' B o n w') (x : Va.Val) (hx : x.Ok) (hG : GlobV w0) (hlen : l0.length + n ≤ 140737488354000) :
    Calls Tryd.prog 43 #[.pointer (some ⟨p, 0, none⟩), .agg (valV x)] w' (RunTo w0 w p v0 l0 b0 br br' B (cat o (if Va.may x = true then some (Va.text x) else none)) (n + 258) w') :=
  H.call (Nat.le_refl _) (fun q v l bad h hl => (wvalue_any p q v l bad br' x hx w' h.wr (hG.past h.base (by simp)) (by omega)).mono (by
    rintro e w2 ⟨rfl, q2, v2, h2, m2⟩
    refine ⟨rfl, q2, v2, _, _, h2, m2, ?_⟩
    by_cases hm : Va.may x = true
    · rw [if_pos hm, if_pos hm, hm]
      have : (bad || !true) = bad := by simp
      rw [this]
      exact (Res.put l bad _).of rfl ((Va.rguess_text hx.byte hm).2.1)
    · rw [if_neg hm, if_neg hm]
      have : Va.may x = false := by simpa using hm
      rw [this, List.append_nil]
      refine ⟨by omega, fun _ => by simp, fun _ => ⟨by simp, fun y hy => by cases hy⟩⟩))
theorem Run.expr (H : Run w0 w p v0 l0 b0 br br' B o n w') (e : Pr.Ex) (u : Value) (hE : EOk w0 e u) (hG : GlobV w0) (hlen : l0.length + n + exWt e ≤ 140737488000000) :
    Calls Tryd.prog 29 #[.pointer (some ⟨p, 0, none⟩), .agg (exV e u), .int .i64 16] w' (RunTo w0 w p v0 l0 b0 br br' B (cat o (Pr.pE 17 e)) (n + exWt e) w') :=
  H.call (Nat.le_refl _) (fun q v l bad h hl => (expr_all w0 17 (by omega)).1 e u p q v l bad br' w' h hE hG (by omega))
/-- bad is said -/
theorem Run.setBad (H : Run w0 w p v0 l0 b0 br br' B o n w') (o' : Option (List Nat)) (ho : o' = none ∨ b0 = true) :
    Run w0 w p v0 l0 b0 br br' B o' n (w'.setCell ⟨p, 2, none⟩ (.bool true)) ∧ Kept B w' (w'.setCell ⟨p, 2, none⟩ (.bool true)) := by
  obtain ⟨q, v, l, bad, h, hm, hr, hB, hz⟩ := H.ex
  obtain ⟨h2, m2⟩ := h.wr.setBad
  have hs := m2.size
  exact ⟨⟨q, v, l, true, h.step h2 m2, hm.trans m2, res_bad hr.1 (fun hb => by rcases ho with h | h; exact h; rw [h] at hb; cases hb), fun b hb => ⟨(hB b hb).1, m2.beside (hB b hb).2.2 (hB b hb).2.1, by have := (hB b hb).2.2; omega⟩, by omega⟩,
    hs, fun b hb k x hx => m2.cell hx (hB b hb).1 (hB b hb).2.1⟩
theorem Run.cells (H : Run w0 w p v0 l0 b0 br br' B o n w') : ∃ q v bad, w'.cell? ⟨p, 0, none⟩ = some q ∧ w'.cell? ⟨p, 1, none⟩ = some v ∧ w'.cell? ⟨p, 2, none⟩ = some (.bool bad) ∧ w'.cell? ⟨p, 3, none⟩ = some (.int .i64 br') ∧ (∀ j, w'.frozen? ⟨p, j, none⟩ = false) ∧ (b0 = false → bad = o.isNone) ∧ (b0 = true → bad = true) := by
  obtain ⟨q, v, l, bad, h, hm, hr, hB, hz⟩ := H.ex
  obtain ⟨c0, c1, c2, c3, fz⟩ := h.wr.cells
  exact ⟨q, v, bad, c0, c1, c2, c3, fz, fun hb => (hr.2.2 hb).1, hr.2.1⟩
end

/- plain: a row with commas -/
theorem seqO_none_take {α : Type} (f : α → Option (List Nat)) (l : List α) (i : Nat) (h : Pr.seqO ((l.take i).map f) = none) : Pr.seqO (l.map f) = none := by
  rw [← List.take_append_drop i l, List.map_append, Pr.seqO_app, h]
def comO {α : Type} (f : α → Option (List Nat)) (l : List α) : Option (List Nat) := (Pr.seqO (l.map f)).map Pr.commas
theorem inter_snoc (s : List Nat) : ∀ (ls : List (List Nat)) (t : List Nat), ls ≠ [] → s.intercalate (ls ++ [t]) = s.intercalate ls ++ (s ++ t)
  | [], _, h => absurd rfl h
  | [a], t, _ => by simp [List.intercalate, List.intersperse]
  | a :: b :: r, t, _ => by
    have := inter_snoc s (b :: r) t (by simp)
    simp only [List.intercalate, List.cons_append, List.intersperse_cons_cons, List.flatten_cons] at this ⊢
    rw [this]
    simp
theorem seqO_len {α : Type} : ∀ (l : List (Option α)) (r : List α), Pr.seqO l = some r → r.length = l.length
  | [], r, h => by cases h; rfl
  | o :: l, r, h => by
    simp only [Pr.seqO] at h
    cases o with
    | none => cases h
    | some a =>
      cases hs : Pr.seqO l with
      | none => rw [hs] at h; cases h
      | some x =>
        rw [hs] at h
        cases h
        simp [seqO_len l x hs]
theorem comO_snoc {α : Type} (f : α → Option (List Nat)) (l : List α) (t : α) : comO f (l ++ [t]) = cat (cat (comO f l) (some (if l.length = 0 then [] else [44, 32]))) (f t) := by
  unfold comO
  rw [List.map_append, List.map_cons, List.map_nil, Pr.seqO_snoc]
  cases hs : Pr.seqO (l.map f) with
  | none => simp
  | some x =>
    have hl := seqO_len _ _ hs
    rw [List.length_map] at hl
    cases f t with
    | none => simp
    | some y =>
      simp only [Option.map_some, cat_some, Option.some.injEq]
      by_cases h0 : l.length = 0
      · have : x = [] := List.length_eq_zero_iff.1 (by omega)
        subst this
        rw [if_pos h0]
        simp [Pr.commas, List.intercalate, List.intersperse]
      · rw [if_neg h0]
        have hx : x ≠ [] := fun e => by rw [e] at hl; simp at hl; omega
        unfold Pr.commas
        rw [inter_snoc _ _ _ hx]
        simp
end Go.Proofs.YtbmmdficdeakfaaDoor
