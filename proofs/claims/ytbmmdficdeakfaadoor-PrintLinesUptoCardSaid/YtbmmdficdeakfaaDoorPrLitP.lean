/- PLAIN: a literal's text in the order in which it is written. -/
import Derived.Test.YtbmmdficdeakfaaDoorPrAtom
namespace Go.Proofs.YtbmmdficdeakfaaDoor
open Go.RowKit
set_option linter.unusedVariables false
set_option linter.unusedSimpArgs false
set_option maxRecDepth 100000

def cmpO (op : Int) : Option (List Nat) := if 1 ≤ op ∧ op ≤ 6 then some (Pr.cmp op) else none
def ofO (fn : Int) (of : Pr.Ex) : Option (List Nat) := if fn = 1 then mustO (Pr.noExpr of) else cat (Pr.pE 17 of) (some [32, 58, 32])
def pG (b : Nat) (fn : Int) (av : ByteArray) (of : Pr.Ex) (body : List Pr.Li) : Option (List Nat) :=
  match b with
  | 0 => none
  | c + 1 =>
    if 1 ≤ fn ∧ fn ≤ 4 ∧ body.length ≠ 0 then
      cat (cat (cat (cat (mustO (Va.variable_ (Cod.str av))) (some (Cod.str av ++ ([32, 61, 32] ++ (Pr.word fn ++ [32, 123, 32]))))) (ofO fn of)) (comO (Pr.pL c) body)) (some [32, 125])
    else none
def tailO (b : Nat) (k : Int) (a : Pr.Atom) (op : Int) (l r : Pr.Ex) (fn : Int) (av : ByteArray) (of : Pr.Ex) (body : List Pr.Li) : Option (List Nat) :=
  if k = 1 then Pr.pA a
  else if k = 2 then cat (some [110, 111, 116, 32]) (Pr.pA a)
  else if k = 3 then cat (cat (Pr.pE 17 l) (cmpO op)) (Pr.pE 17 r)
  else if k = 4 then pG b fn av of body
  else none
theorem pL_eq (b : Nat) (k : Int) (a : Pr.Atom) (op : Int) (l r : Pr.Ex) (fn : Int) (av : ByteArray) (of : Pr.Ex) (body : List Pr.Li) (ln cl : Int) :
    Pr.pL b (.mk k a op l r fn av of body ln cl) = cat (mustO (Pr.lacks k a op l r fn av of body.length)) (tailO b k a op l r fn av of body) := by
  rw [Pr.pL.eq_def]
  simp only
  unfold mustO tailO
  by_cases hl : Pr.lacks k a op l r fn av of body.length = true
  · rw [if_pos hl, if_pos hl, cat_nil]
    by_cases k1 : k = 1
    · rw [if_pos k1, if_pos k1]
    rw [if_neg k1, if_neg k1]
    by_cases k2 : k = 2
    · rw [if_pos k2, if_pos k2]; cases Pr.pA a <;> rfl
    rw [if_neg k2, if_neg k2]
    by_cases k3 : k = 3
    · rw [if_pos k3, if_pos k3]
      unfold cmpO
      by_cases ho : 1 ≤ op ∧ op ≤ 6
      · rw [if_pos ho, if_pos ho]
        cases Pr.pE 17 l <;> cases Pr.pE 17 r <;> simp
      · rw [if_neg ho, if_neg ho]; simp
    rw [if_neg k3, if_neg k3]
    by_cases k4 : k = 4
    · rw [if_pos k4, if_pos k4]
      unfold pG
      cases b with
      | zero => rfl
      | succ c =>
        simp only
        by_cases hg : 1 ≤ fn ∧ fn ≤ 4 ∧ body.length ≠ 0
        · rw [if_pos hg]
          by_cases hv : Va.variable_ (Cod.str av) = true
          · rw [if_pos ⟨hg.1, hg.2.1, hg.2.2, hv⟩]
            unfold ofO comO mustO
            rw [if_pos hv, cat_nil]
            by_cases hf : fn = 1
            · rw [if_pos hf, if_pos hf]
              by_cases hn : Pr.noExpr of = true
              · rw [if_pos hn]
                cases Pr.seqO (body.map (Pr.pL c)) <;> simp
              · rw [if_neg hn]; simp
            · rw [if_neg hf, if_neg hf]
              cases Pr.pE 17 of <;> cases Pr.seqO (body.map (Pr.pL c)) <;> simp
          · rw [if_neg (fun h => hv h.2.2.2)]
            unfold mustO
            rw [if_neg hv]; simp
        · rw [if_neg hg, if_neg (fun h => hg ⟨h.1, h.2.1, h.2.2.1⟩)]
    rw [if_neg k4, if_neg k4]
  · rw [if_neg hl, if_neg hl]; rfl
section
variable {w0 w w' : World} {p : Nat} {q v v0 : Value} {l l0 : List Nat} {bad b0 : Bool} {br br' : Int} {B : List Nat} {o o2 : Option (List Nat)} {n n2 : Nat}
/-- bad was said before: any text is as good -/
theorem Run.early {o' : Option (List Nat)} {n' : Nat} (H : Run w0 w p v0 l0 b0 br br' B o n w') (ho : b0 = true ∨ o = o') (hn : n ≤ n') : Run w0 w p v0 l0 b0 br br' B o' n' w' := by
  obtain ⟨q, v, l, bad, h1, hm, hr, hB⟩ := H.ex
  refine ⟨q, v, l, bad, h1, hm, ?_, hB⟩
  rcases ho with hb | rfl
  · exact ⟨by have := hr.1; omega, hr.2.1, fun h => by rw [hb] at h; cases h⟩
  · exact hr.of rfl hn
theorem WrIs.setBr {w : World} {p : Nat} {q v : Value} {l : List Nat} {bad : Bool} {br : Int} (h : WrIs w p q v l bad br) (br2 : Int) :
    WrIs (w.setCell ⟨p, 3, none⟩ (.int .i64 br2)) p q v l bad br2 ∧ WMod p v v w (w.setCell ⟨p, 3, none⟩ (.int .i64 br2)) := by
  refine ⟨⟨?_, h.adr, ownsRow_setCell_other h.row (fun e => h.out (ownBlock_fp _ _ e)) _, h.out, h.byte, h.nil_⟩, Mod.setCell (p := ⟨p, 3, none⟩) (Mod.refl _ _) (.inl List.mem_cons_self) _, fun k hk => .inl hk⟩
  have := setCell_at h.at_ 3 (.int .i64 br2)
  simpa using this
/-- braces turn -/
theorem Run.setBr (H : Run w0 w p v0 l0 b0 br br' B o n w') (br2 : Int) :
    Run w0 w p v0 l0 b0 br br2 B o n (w'.setCell ⟨p, 3, none⟩ (.int .i64 br2)) ∧ Kept B w' (w'.setCell ⟨p, 3, none⟩ (.int .i64 br2)) := by
  obtain ⟨q, v, l, bad, h, hm, hr, hB, hz⟩ := H.ex
  obtain ⟨h2, m2⟩ := h.wr.setBr br2
  have hs := m2.size
  exact ⟨⟨q, v, l, bad, h.step h2 m2, hm.trans m2, hr, fun b hb => ⟨(hB b hb).1, m2.beside (hB b hb).2.2 (hB b hb).2.1, by have := (hB b hb).2.2; omega⟩, by omega⟩,
    hs, fun b hb k x hx => m2.cell hx (hB b hb).1 (hB b hb).2.1⟩
theorem Run.atom (H : Run w0 w p v0 l0 b0 br br' B o n w') (a : Pr.Atom) (tu : Value) (hT : TOk w0 a.terms tu) (hG : GlobV w0) (hlen : l0.length + n + aWt a ≤ 140737488000000) :
    Calls Tryd.prog 28 #[.pointer (some ⟨p, 0, none⟩), .agg #[.string a.rel, tu]] w' (RunTo w0 w p v0 l0 b0 br br' B (cat o (Pr.pA a)) (n + aWt a) w') :=
  H.call (Nat.le_refl _) (fun q v l bad h hl => atom_any w0 a tu p q v l bad br' w' h hT hG (by omega))
theorem Run.noMem (H : Run w0 w p v0 l0 b0 br br' B o n w') : Mod [] w0 w' := H.base
end
end Go.Proofs.YtbmmdficdeakfaaDoor
