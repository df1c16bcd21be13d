/- THE STABLE SORT, PLAIN: of a sorted row each kind once, its first; how many kinds there are. -/
import Derived.Test.YtcalbbfkgdfidaaDoorSoPl
namespace Go.Proofs.YtcalbbfkgdfidaaDoor.So
set_option linter.unusedVariables false
set_option linter.unusedSimpArgs false
variable {f : Nat → Nat → Int}
/-- what is kept behind p -/
def cptG (f : Nat → Nat → Int) : Nat → List Nat → List Nat
  | _, [] => []
  | p, y :: l => if f y p = 0 then cptG f y l else y :: cptG f y l
def cpt (f : Nat → Nat → Int) : List Nat → List Nat
  | [] => []
  | x :: l => x :: cptG f x l
theorem cptG_snoc (p : Nat) (l : List Nat) (y : Nat) : cptG f p (l ++ [y]) = cptG f p l ++ (if f y ((p :: l).getLast (by simp)) = 0 then [] else [y]) := by
  induction l generalizing p with
  | nil =>
    by_cases h : f y p = 0
    · simp [cptG, h]
    · simp [cptG, h]
  | cons z l ih =>
    rw [List.cons_append, cptG, cptG, ih z]
    by_cases h : f z p = 0
    · rw [if_pos h, if_pos h]; rfl
    · rw [if_neg h, if_neg h]; rfl
theorem cpt_snoc (l : List Nat) (y : Nat) (p : Nat) (hp : l.getLast? = some p) : cpt f (l ++ [y]) = cpt f l ++ (if f y p = 0 then [] else [y]) := by
  cases l with
  | nil => simp at hp
  | cons x l =>
    rw [List.getLast?_eq_some_getLast (by simp)] at hp
    have hp := Option.some.inj hp
    rw [List.cons_append, cpt, cpt, cptG_snoc, hp]
    rfl
theorem cptG_len (p : Nat) (l : List Nat) : (cptG f p l).length ≤ l.length := by
  induction l generalizing p with
  | nil => simp [cptG]
  | cons z l ih =>
    rw [cptG]
    have := ih z
    by_cases h : f z p = 0
    · rw [if_pos h]; simp; omega
    · rw [if_neg h]; simp; omega
theorem cpt_len (l : List Nat) : (cpt f l).length ≤ l.length := by
  cases l with
  | nil => simp [cpt]
  | cons x l => have := cptG_len (f := f) x l; simp [cpt]; omega
theorem cptG_mem (p : Nat) (l : List Nat) : ∀ y ∈ cptG f p l, y ∈ l := by
  induction l generalizing p with
  | nil => simp [cptG]
  | cons z l ih =>
    rw [cptG]
    intro y hy
    by_cases h : f z p = 0
    · rw [if_pos h] at hy; exact List.mem_cons_of_mem _ (ih z y hy)
    · rw [if_neg h] at hy
      rcases List.mem_cons.1 hy with rfl | hy
      · simp
      · exact List.mem_cons_of_mem _ (ih z y hy)
theorem cpt_mem (l : List Nat) : ∀ y ∈ cpt f l, y ∈ l := by
  cases l with
  | nil => simp [cpt]
  | cons x l =>
    intro y hy
    rcases List.mem_cons.1 hy with rfl | hy
    · simp
    · exact List.mem_cons_of_mem _ (cptG_mem x l y hy)
theorem cptG_pw (ho : Ord f) (p : Nat) (l : List Nat) (h : (p :: l).Pairwise (Lt f)) : (∀ y ∈ cptG f p l, f p y < 0) ∧ (cptG f p l).Pairwise (fun x y => f x y < 0) := by
  induction l generalizing p with
  | nil => simp [cptG]
  | cons z l ih =>
    obtain ⟨h1, h2⟩ := List.pairwise_cons.1 h
    have hz := (h1 z (by simp)).le
    obtain ⟨i1, i2⟩ := ih z h2
    rw [cptG]
    by_cases e : f z p = 0
    · rw [if_pos e]
      exact ⟨fun y hy => ho.lel hz (i1 y hy), i2⟩
    · rw [if_neg e]
      have hpz : f p z < 0 := by
        rcases Int.lt_or_eq_of_le hz with h | h
        · exact h
        · exact absurd (ho.zero h) e
      refine ⟨fun y hy => ?_, List.pairwise_cons.2 ⟨i1, i2⟩⟩
      rcases List.mem_cons.1 hy with rfl | hy
      · exact hpz
      · exact ho.lel hz (i1 y hy)
theorem cpt_pw (ho : Ord f) (l : List Nat) (h : l.Pairwise (Lt f)) : (cpt f l).Pairwise (fun x y => f x y < 0) := by
  cases l with
  | nil => simp [cpt]
  | cons x l => exact List.pairwise_cons.2 (cptG_pw ho x l h)
theorem Ord.refl (ho : Ord f) (x : Nat) : f x x = 0 := by have := ho.anti x x; omega
theorem Ord.zz (ho : Ord f) {x y z : Nat} (h1 : f x y = 0) (h2 : f y z = 0) : f x z = 0 := by
  have a := ho.tran x y z (by omega) (by omega)
  have b := ho.tran z y x (by have := ho.zero h2; omega) (by have := ho.zero h1; omega)
  have c := ho.anti x z; have d := ho.anti z x
  omega
theorem cptG_rep (ho : Ord f) (p : Nat) (l : List Nat) (h : (p :: l).Pairwise (Lt f)) : ∀ j ∈ l, (f p j = 0 ∧ p < j) ∨ ∃ r ∈ cptG f p l, f r j = 0 ∧ r ≤ j := by
  induction l generalizing p with
  | nil => simp
  | cons z l ih =>
    obtain ⟨h1, h2⟩ := List.pairwise_cons.1 h
    have hz := h1 z (by simp)
    intro j hj
    rw [cptG]
    by_cases e : f z p = 0
    · have e' := ho.zero e
      have hlt : p < z := by rcases hz with h | ⟨-, h⟩ <;> omega
      rw [if_pos e]
      rcases List.mem_cons.1 hj with rfl | hj
      · exact .inl ⟨e', hlt⟩
      · rcases ih z h2 j hj with ⟨a, b⟩ | h
        · exact .inl ⟨ho.zz e' a, by omega⟩
        · exact .inr h
    · rw [if_neg e]
      rcases List.mem_cons.1 hj with rfl | hj
      · exact .inr ⟨j, by simp, ho.refl j, Nat.le_refl _⟩
      · rcases ih z h2 j hj with ⟨a, b⟩ | ⟨r, hr, a, b⟩
        · exact .inr ⟨z, by simp, a, by omega⟩
        · exact .inr ⟨r, by simp [hr], a, b⟩
theorem cpt_rep (ho : Ord f) (l : List Nat) (h : l.Pairwise (Lt f)) : ∀ j ∈ l, ∃ r ∈ cpt f l, f r j = 0 ∧ r ≤ j := by
  cases l with
  | nil => simp
  | cons x l =>
    intro j hj
    rw [cpt]
    rcases List.mem_cons.1 hj with rfl | hj
    · exact ⟨j, by simp, ho.refl j, Nat.le_refl _⟩
    · rcases cptG_rep ho x l h j hj with ⟨a, b⟩ | ⟨r, hr, a, b⟩
      · exact ⟨x, by simp, a, by omega⟩
      · exact ⟨r, by simp [hr], a, b⟩
/-- what a row's kinds are: rising, each thing of the row has one of its kind at or ahead of it -/
structure Kinds (f : Nat → Nat → Int) (n : Nat) (K : List Nat) : Prop where
  lt : ∀ x ∈ K, x < n
  pw : K.Pairwise (fun x y => f x y < 0)
  rep : ∀ j, j < n → ∃ r ∈ K, f r j = 0 ∧ r ≤ j
theorem Kinds.of (ho : Ord f) {n : Nat} {C : List Nat} (hp : C.Perm (List.range n)) (hs : C.Pairwise (Lt f)) : Kinds f n (cpt f C) where
  lt := fun x hx => List.mem_range.1 (hp.mem_iff.1 (cpt_mem C x hx))
  pw := cpt_pw ho C hs
  rep := fun j hj => cpt_rep ho C hs j (hp.mem_iff.2 (List.mem_range.2 hj))
theorem pw_inj (ho : Ord f) {K : List Nat} (h : K.Pairwise (fun x y => f x y < 0)) {x y : Nat} (hx : x ∈ K) (hy : y ∈ K) (e : f x y = 0) : x = y := by
  obtain ⟨i, hi, rfl⟩ := List.mem_iff_getElem.1 hx
  obtain ⟨j, hj, rfl⟩ := List.mem_iff_getElem.1 hy
  rcases Nat.lt_trichotomy i j with h1 | h1 | h1
  · have := List.pairwise_iff_getElem.1 h i j hi hj h1; omega
  · subst h1; rfl
  · have := List.pairwise_iff_getElem.1 h j i hj hi h1
    have := ho.zero e; omega
/-- each is the first of its kind -/
theorem Kinds.first (ho : Ord f) {n : Nat} {K : List Nat} (h : Kinds f n K) {x : Nat} (hx : x ∈ K) : ∀ j, f j x = 0 → x ≤ j := by
  intro j e
  rcases Nat.lt_or_ge j n with hj | hj
  · obtain ⟨r, hr, a, b⟩ := h.rep j hj
    have := pw_inj ho h.pw hr hx (ho.zz a e)
    omega
  · have := h.lt x hx; omega
theorem Kinds.mem (ho : Ord f) {n : Nat} {K : List Nat} (h : Kinds f n K) {i : Nat} (hi : i < n) (hf : ∀ k, k < i → f k i ≠ 0) : i ∈ K := by
  obtain ⟨r, hr, a, b⟩ := h.rep i hi
  rcases Nat.lt_or_ge r i with h1 | h1
  · exact absurd a (hf r h1)
  · have : r = i := by omega
    exact this ▸ hr
theorem Kinds.nodup (ho : Ord f) {n : Nat} {K : List Nat} (h : Kinds f n K) : K.Nodup := by
  refine h.pw.imp (fun {x y} h1 h2 => ?_)
  subst h2
  have := ho.refl x; omega
theorem Kinds.len (ho : Ord f) {n : Nat} {K K' : List Nat} (h : Kinds f n K) (h' : Kinds f n K') : K.length = K'.length := by
  refine (List.Perm.length_eq ((List.perm_ext_iff_of_nodup (h.nodup ho) (h'.nodup ho)).2 (fun a => ⟨fun ha => ?_, fun ha => ?_⟩)))
  · exact h'.mem ho (h.lt a ha) (fun k hk e => by have := h.first ho ha k e; omega)
  · exact h.mem ho (h'.lt a ha) (fun k hk e => by have := h'.first ho ha k e; omega)
/-- those that are first of their kind -/
def fst? (f : Nat → Nat → Int) (i : Nat) : Bool := (List.range i).all fun k => f k i ≠ 0
theorem fst?_iff {i : Nat} : fst? f i = true ↔ ∀ k, k < i → f k i ≠ 0 := by simp [fst?]
theorem Kinds.count (ho : Ord f) {n : Nat} {K : List Nat} (h : Kinds f n K) : ((List.range n).filter (fst? f)).length = K.length := by
  refine (List.Perm.length_eq ((List.perm_ext_iff_of_nodup (List.nodup_range.filter _) (h.nodup ho)).2 (fun a => ?_)))
  rw [List.mem_filter, List.mem_range, fst?_iff]
  exact ⟨fun ⟨h1, h2⟩ => h.mem ho h1 h2, fun ha => ⟨h.lt a ha, fun k hk e => by have := h.first ho ha k e; omega⟩⟩
end Go.Proofs.YtcalbbfkgdfidaaDoor.So
