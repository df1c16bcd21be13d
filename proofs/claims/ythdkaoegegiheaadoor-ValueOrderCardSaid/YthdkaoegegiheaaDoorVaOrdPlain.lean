/- PLAIN: the order of numbers, texts, values, tuples, facts: one order. No program in sight. -/
import Derived.Test.YthdkaoegegiheaaDoorVaPlain
import Derived.Lib.Bytealg
namespace Go.Proofs.YthdkaoegegiheaaDoor.Va
set_option linter.unusedSimpArgs false
set_option linter.unusedVariables false

/-- a comparison that is an order -/
structure Ord3 {α : Type} (f : α → α → Int) : Prop where
  rng : ∀ a b, f a b = -1 ∨ f a b = 0 ∨ f a b = 1
  anti : ∀ a b, f b a = - f a b
  zero : ∀ a b, f a b = 0 ↔ a = b
  trans : ∀ a b c, f a b ≤ 0 → f b c ≤ 0 → f a c ≤ 0
def orI (a b : Int) : Int := if a = 0 then b else a
theorem Ord3.self {α : Type} {f : α → α → Int} (h : Ord3 f) (a : α) : f a a = 0 := (h.zero a a).2 rfl
/-- two in a row -/
theorem Ord3.strict {α : Type} {f : α → α → Int} (h : Ord3 f) {a b c : α} (h1 : f a b = -1) (h2 : f b c ≤ 0) : f a c = -1 := by
  have h3 := h.trans a b c (by omega) h2
  rcases h.rng a c with e | e | e
  · exact e
  · obtain rfl := (h.zero a c).1 e
    have := h.anti a b
    omega
  · omega
theorem Ord3.prod {α β : Type} {f : α → α → Int} {g : β → β → Int} (hf : Ord3 f) (hg : Ord3 g) : Ord3 (fun (x y : α × β) => orI (f x.1 y.1) (g x.2 y.2)) where
  rng a b := by
    unfold orI; split
    · exact hg.rng _ _
    · exact hf.rng _ _
  anti a b := by
    have h1 := hf.anti a.1 b.1
    have h2 := hg.anti a.2 b.2
    simp only [orI]
    by_cases e : f a.1 b.1 = 0
    · rw [if_pos e, if_pos (by omega), h2]
    · rw [if_neg e, if_neg (by omega), h1]
  zero a b := by
    simp only [orI]
    by_cases e : f a.1 b.1 = 0
    · rw [if_pos e, hg.zero]
      have := (hf.zero _ _).1 e
      constructor
      · intro h; exact Prod.ext this h
      · rintro rfl; rfl
    · rw [if_neg e]
      constructor
      · intro h; exact absurd h e
      · rintro rfl; exact absurd (hf.self _) e
  trans a b c := by
    simp only [orI]
    intro h1 h2
    by_cases e1 : f a.1 b.1 = 0
    · rw [if_pos e1] at h1
      have e := (hf.zero _ _).1 e1
      rw [e]
      by_cases e2 : f b.1 c.1 = 0
      · rw [if_pos e2] at h2 ⊢
        exact hg.trans _ _ _ h1 h2
      · rw [if_neg e2] at h2 ⊢
        exact h2
    · rw [if_neg e1] at h1
      have e1' : f a.1 b.1 = -1 := by rcases hf.rng a.1 b.1 with h | h | h <;> omega
      have e3 : f a.1 c.1 = -1 := by
        by_cases e2 : f b.1 c.1 = 0
        · rw [← (hf.zero _ _).1 e2]; exact e1'
        · rw [if_neg e2] at h2
          exact hf.strict e1' h2
      rw [e3, if_neg (by decide)]; decide
/-- lists, by their first difference -/
def lexi {α : Type} (f : α → α → Int) : List α → List α → Int
  | [], [] => 0
  | [], _ :: _ => -1
  | _ :: _, [] => 1
  | x :: xs, y :: ys => orI (f x y) (lexi f xs ys)
theorem Ord3.lexi {α : Type} {f : α → α → Int} (hf : Ord3 f) : Ord3 (lexi f) where
  rng := by
    intro a
    induction a with
    | nil => intro b; cases b <;> simp [Va.lexi]
    | cons x xs ih =>
      intro b
      cases b with
      | nil => simp [Va.lexi]
      | cons y ys =>
        simp only [Va.lexi, orI]; split
        · exact ih ys
        · exact hf.rng _ _
  anti := by
    intro a
    induction a with
    | nil => intro b; cases b <;> simp [Va.lexi]
    | cons x xs ih =>
      intro b
      cases b with
      | nil => simp [Va.lexi]
      | cons y ys =>
        have h1 := hf.anti x y
        simp only [Va.lexi, orI]
        by_cases e : f x y = 0
        · rw [if_pos e, if_pos (by omega), ih]
        · rw [if_neg e, if_neg (by omega), h1]
  zero := by
    intro a
    induction a with
    | nil => intro b; cases b <;> simp [Va.lexi]
    | cons x xs ih =>
      intro b
      cases b with
      | nil => simp [Va.lexi]
      | cons y ys =>
        simp only [Va.lexi, orI, List.cons.injEq]
        by_cases e : f x y = 0
        · rw [if_pos e, ih]
          exact ⟨fun h => ⟨(hf.zero _ _).1 e, h⟩, fun h => h.2⟩
        · rw [if_neg e]
          exact ⟨fun h => absurd h e, fun h => (hf.zero _ _).2 h.1⟩
  trans := by
    intro a
    induction a with
    | nil => intro b c; cases b <;> cases c <;> simp [Va.lexi]
    | cons x xs ih =>
      intro b c
      cases b with
      | nil => simp [Va.lexi]
      | cons y ys =>
        cases c with
        | nil => simp [Va.lexi]
        | cons z zs =>
          simp only [Va.lexi, orI]
          intro h1 h2
          by_cases e1 : f x y = 0
          · rw [if_pos e1] at h1
            have e := (hf.zero _ _).1 e1
            rw [e]
            by_cases e2 : f y z = 0
            · rw [if_pos e2] at h2 ⊢
              exact ih _ _ h1 h2
            · rw [if_neg e2] at h2 ⊢
              exact h2
          · rw [if_neg e1] at h1
            have e1' : f x y = -1 := by rcases hf.rng x y with h | h | h <;> omega
            have e3 : f x z = -1 := by
              by_cases e2 : f y z = 0
              · rw [← (hf.zero _ _).1 e2]; exact e1'
              · rw [if_neg e2] at h2
                exact hf.strict e1' h2
            rw [e3, if_neg (by decide)]; decide

def cmpI (a b : Int) : Int := if a < b then -1 else if b < a then 1 else 0
theorem ordI : Ord3 cmpI where
  rng a b := by unfold cmpI; split; simp; split <;> simp
  anti a b := by unfold cmpI; split <;> split <;> simp <;> omega
  zero a b := by unfold cmpI; split; simp; omega; split; simp; omega; simp; omega
  trans a b c := by unfold cmpI; intro h1 h2; split; decide; split; (exfalso; split at h1 <;> split at h2 <;> simp_all <;> omega); decide
def cmpN (a b : Nat) : Int := cmpI a b
theorem ordN : Ord3 cmpN where
  rng a b := ordI.rng _ _
  anti a b := ordI.anti _ _
  zero a b := (ordI.zero _ _).trans (by omega)
  trans a b c := ordI.trans _ _ _
/-- texts -/
def cmpS : List Nat → List Nat → Int := lexi cmpN
theorem ordS : Ord3 cmpS := ordN.lexi
/-- values -/
def cmpV (x y : Val) : Int := orI (cmpI x.k y.k) (orI (cmpI x.n y.n) (cmpS x.s y.s))
theorem ordV : Ord3 cmpV := by
  have h := ordI.prod (ordI.prod ordS)
  constructor
  · intro a b; exact h.rng (a.k, a.n, a.s) (b.k, b.n, b.s)
  · intro a b; exact h.anti (a.k, a.n, a.s) (b.k, b.n, b.s)
  · intro a b
    refine (h.zero (a.k, a.n, a.s) (b.k, b.n, b.s)).trans ?_
    obtain ⟨a1, a2, a3⟩ := a; obtain ⟨b1, b2, b3⟩ := b
    simp
  · intro a b c; exact h.trans (a.k, a.n, a.s) (b.k, b.n, b.s) (c.k, c.n, c.s)
/-- tuples, facts -/
def cmpT : List Val → List Val → Int := lexi cmpV
theorem ordT : Ord3 cmpT := ordV.lexi
def cmpF (x y : List Nat × List Val) : Int := orI (cmpS x.1 y.1) (cmpT x.2 y.2)
theorem ordF : Ord3 cmpF := ordS.prod ordT

/-- what the loops know: the first k places agree -/
theorem lexi_drop {α : Type} {f : α → α → Int} (h0 : ∀ x, f x x = 0) : ∀ (k : Nat) (a b : List α), k ≤ a.length → k ≤ b.length → a.take k = b.take k → lexi f a b = lexi f (a.drop k) (b.drop k)
  | 0, a, b, _, _, _ => rfl
  | k + 1, x :: a, y :: b, h1, h2, h => by
    simp only [List.take_succ_cons, List.cons.injEq] at h
    obtain ⟨rfl, h⟩ := h
    simp only [lexi, orI, List.drop_succ_cons]
    rw [if_pos (h0 x)]
    exact lexi_drop h0 k a b (by simpa using h1) (by simpa using h2) h
  | k + 1, [], b, h1, _, _ => by simp at h1
  | k + 1, x :: a, [], _, h2, _ => by simp at h2
theorem lexi_at {α : Type} {f : α → α → Int} (h0 : ∀ x, f x x = 0) (k : Nat) (a b : List α) (h1 : k < a.length) (h2 : k < b.length) (h : a.take k = b.take k) (hne : f a[k] b[k] ≠ 0) : lexi f a b = f a[k] b[k] := by
  rw [lexi_drop h0 k a b (by omega) (by omega) h, List.drop_eq_getElem_cons h1, List.drop_eq_getElem_cons h2]
  simp only [lexi, orI]
  rw [if_neg hne]
theorem lexi_end {α : Type} {f : α → α → Int} (h0 : ∀ x, f x x = 0) (k : Nat) (a b : List α) (h1 : k ≤ a.length) (h2 : k ≤ b.length) (h : a.take k = b.take k) (he : k = a.length ∨ k = b.length) : lexi f a b = cmpI a.length b.length := by
  rw [lexi_drop h0 k a b h1 h2 h]
  rcases he with he | he
  · rw [List.drop_of_length_le (by omega : a.length ≤ k)]
    cases hb : b.drop k with
    | nil =>
      have : b.length ≤ k := by simpa using hb
      simp [lexi, cmpI]; omega
    | cons y ys =>
      have : k < b.length := by
        have := congrArg List.length hb
        simp at this; omega
      simp [lexi, cmpI]; omega
  · rw [List.drop_of_length_le (by omega : b.length ≤ k)]
    cases hb : a.drop k with
    | nil =>
      have : a.length ≤ k := by simpa using hb
      simp [lexi, cmpI]; omega
    | cons y ys =>
      have : k < a.length := by
        have := congrArg List.length hb
        simp at this; omega
      simp [lexi, cmpI]; omega
/-- the library's order of bytes -/
theorem compareBytes_eq : ∀ (a b : List UInt8), Lib.compareBytes a b = cmpS (a.map UInt8.toNat) (b.map UInt8.toNat)
  | [], [] => rfl
  | [], _ :: _ => rfl
  | _ :: _, [] => rfl
  | x :: xs, y :: ys => by
    have ih := compareBytes_eq xs ys
    simp only [Lib.compareBytes, List.map_cons]
    rw [ih]
    show _ = orI (cmpI (x.toNat : Int) (y.toNat : Int)) (cmpS _ _)
    unfold orI cmpI
    by_cases h1 : x < y
    · have : (x.toNat : Int) < (y.toNat : Int) := by have := UInt8.lt_iff_toNat_lt.1 h1; omega
      simp [h1, this]
    · by_cases h2 : y < x
      · have h3 : (y.toNat : Int) < (x.toNat : Int) := by have := UInt8.lt_iff_toNat_lt.1 h2; omega
        have h4 : ¬ (x.toNat : Int) < (y.toNat : Int) := by omega
        simp [h1, h2, h3, h4]
      · have h3 : ¬ (y.toNat : Int) < (x.toNat : Int) := fun h => h2 (UInt8.lt_iff_toNat_lt.2 (by omega))
        have h4 : ¬ (x.toNat : Int) < (y.toNat : Int) := fun h => h1 (UInt8.lt_iff_toNat_lt.2 (by omega))
        simp [h1, h2, h3, h4]
end Go.Proofs.YthdkaoegegiheaaDoor.Va
