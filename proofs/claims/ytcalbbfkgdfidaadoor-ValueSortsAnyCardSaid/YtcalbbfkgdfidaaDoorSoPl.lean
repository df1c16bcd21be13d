/- THE STABLE SORT, PLAIN: things are the numbers of their places; an order among them; rows that are sorted, merged, cut to chunks, made each once. -/
import Derived.Tactics
namespace Go.Proofs.YtcalbbfkgdfidaaDoor.So
set_option linter.unusedVariables false
set_option linter.unusedSimpArgs false

/-- by the order, and of those that it takes for one by the place -/
def Lt (f : Nat → Nat → Int) (x y : Nat) : Prop := f x y < 0 ∨ f x y = 0 ∧ x < y
structure Ord (f : Nat → Nat → Int) : Prop where
  anti : ∀ x y, f x y < 0 ↔ 0 < f y x
  tran : ∀ x y z, f x y ≤ 0 → f y z ≤ 0 → f x z ≤ 0
variable {f : Nat → Nat → Int}
theorem Ord.zero (h : Ord f) {x y : Nat} (e : f x y = 0) : f y x = 0 := by
  have h1 := h.anti x y; have h2 := h.anti y x
  omega
theorem Ord.le (h : Ord f) {x y : Nat} (e : ¬ f y x < 0) : f x y ≤ 0 := by
  have h1 := h.anti y x
  omega
theorem Ord.not (h : Ord f) {x y : Nat} (e : f x y ≤ 0) : ¬ f y x < 0 := by
  have h1 := h.anti y x
  omega
theorem Ord.lel (h : Ord f) {x y z : Nat} (a : f x y ≤ 0) (b : f y z < 0) : f x z < 0 := by
  have h1 := h.tran x y z a (by omega)
  rcases Int.lt_or_eq_of_le h1 with h2 | h2
  · exact h2
  · have h3 := h.zero h2
    have h4 := h.tran z x y (by omega) a
    have h5 := h.anti y z
    omega
theorem Ord.ltl (h : Ord f) {x y z : Nat} (a : f x y < 0) (b : f y z ≤ 0) : f x z < 0 := by
  have h1 := h.tran x y z (by omega) b
  rcases Int.lt_or_eq_of_le h1 with h2 | h2
  · exact h2
  · have h3 := h.zero h2
    have h4 := h.tran y z x b (by omega)
    have h5 := h.anti x y
    omega
theorem Lt.le {x y : Nat} (h : Lt f x y) : f x y ≤ 0 := by rcases h with h | h <;> omega
theorem Lt.trans (h : Ord f) {x y z : Nat} (a : Lt f x y) (b : Lt f y z) : Lt f x z := by
  rcases a with a | ⟨a, a'⟩
  · exact .inl (h.ltl a b.le)
  · rcases b with b | ⟨b, b'⟩
    · exact .inl (h.lel (by omega) b)
    · refine .inr ⟨?_, by omega⟩
      have h1 := h.tran x y z (by omega) (by omega)
      have h2 := h.tran z y x (by have := h.zero b; omega) (by have := h.zero a; omega)
      have h3 := h.anti x z; have h4 := h.anti z x
      omega
/-- what stands ahead is below what stands behind -/
def Below (f : Nat → Nat → Int) (A B : List Nat) : Prop := ∀ x ∈ A, ∀ y ∈ B, Lt f x y
/-- of those that the order takes for one, those of the one list come ahead -/
def Cross (f : Nat → Nat → Int) (A B : List Nat) : Prop := ∀ x ∈ A, ∀ y ∈ B, f x y = 0 → x < y
/-- what a merge of A and B leaves -/
def Merged (f : Nat → Nat → Int) (A B C : List Nat) : Prop :=
  C.Perm (A ++ B) ∧ (Ord f → A.Pairwise (Lt f) → B.Pairwise (Lt f) → Cross f A B → C.Pairwise (Lt f))
theorem below_pw {A B : List Nat} : (A ++ B).Pairwise (Lt f) ↔ A.Pairwise (Lt f) ∧ B.Pairwise (Lt f) ∧ Below f A B := List.pairwise_append
theorem Cross.lt {A B : List Nat} (h : Ord f) (hc : Cross f A B) {x y : Nat} (hx : x ∈ A) (hy : y ∈ B) (hn : ¬ f y x < 0) : Lt f x y := by
  have := h.le hn
  rcases Int.lt_or_eq_of_le this with h2 | h2
  · exact .inl h2
  · exact .inr ⟨h2, hc x hx y hy h2⟩
/-- merging one thing into a row: behind those that are not above it -/
theorem merged_one {x : Nat} {B1 B2 : List Nat} (h : Ord f → (B1 ++ B2).Pairwise (Lt f) → (∀ y ∈ B1, f y x < 0) ∧ (∀ y ∈ B2, ¬ f y x < 0)) : Merged f [x] (B1 ++ B2) (B1 ++ x :: B2) := by
  refine ⟨?_, fun ho ha hb hc => ?_⟩
  · exact List.perm_middle
  · obtain ⟨h1, h2⟩ := h ho hb
    obtain ⟨p1, p2, p3⟩ := below_pw.1 hb
    refine below_pw.2 ⟨p1, List.pairwise_cons.2 ⟨fun y hy => ?_, p2⟩, fun a ha' y hy => ?_⟩
    · exact hc.lt ho (by simp) (by simp [hy]) (h2 y hy)
    · rcases List.mem_cons.1 hy with rfl | hy
      · exact .inl (h1 a ha')
      · exact p3 a ha' y hy
theorem merged_one' {y : Nat} {A1 A2 : List Nat} (h : Ord f → (A1 ++ A2).Pairwise (Lt f) → (∀ x ∈ A1, ¬ f y x < 0) ∧ (∀ x ∈ A2, f y x < 0)) : Merged f (A1 ++ A2) [y] (A1 ++ y :: A2) := by
  refine ⟨?_, fun ho ha hb hc => ?_⟩
  · refine (List.perm_middle).trans ?_
    exact (List.perm_append_singleton y (A1 ++ A2)).symm
  · obtain ⟨h1, h2⟩ := h ho ha
    obtain ⟨p1, p2, p3⟩ := below_pw.1 ha
    refine below_pw.2 ⟨p1, List.pairwise_cons.2 ⟨fun z hz => .inl (h2 z hz), p2⟩, fun a ha' z hz => ?_⟩
    rcases List.mem_cons.1 hz with rfl | hz
    · exact hc.lt ho (by simp [ha']) (by simp) (h1 a ha')
    · exact p3 a ha' z hz
theorem merged_nil {A : List Nat} : Merged f A [] A := ⟨by simp, fun _ h _ _ => h⟩
theorem merged_nil' {A : List Nat} : Merged f [] A A := ⟨by simp, fun _ _ h _ => h⟩
/-- both halves merged -/
theorem merged_two {A1 A2 B1 B2 C1 C2 : List Nat} (h1 : Merged f A1 B1 C1) (h2 : Merged f A2 B2 C2)
    (h : Ord f → (A1 ++ A2).Pairwise (Lt f) → (B1 ++ B2).Pairwise (Lt f) → Cross f (A1 ++ A2) (B1 ++ B2) → Below f A1 B2 ∧ Below f B1 A2) : Merged f (A1 ++ A2) (B1 ++ B2) (C1 ++ C2) := by
  refine ⟨?_, fun ho ha hb hc => ?_⟩
  · refine (h1.1.append h2.1).trans ?_
    rw [List.append_assoc, List.append_assoc]
    refine List.Perm.append_left _ ?_
    rw [← List.append_assoc, ← List.append_assoc]
    exact List.Perm.append_right _ List.perm_append_comm
  · obtain ⟨x1, x2⟩ := h ho ha hb hc
    obtain ⟨a1, a2, a3⟩ := below_pw.1 ha
    obtain ⟨b1, b2, b3⟩ := below_pw.1 hb
    refine below_pw.2 ⟨h1.2 ho a1 b1 (fun x hx y hy => hc x (by simp [hx]) y (by simp [hy])), h2.2 ho a2 b2 (fun x hx y hy => hc x (by simp [hx]) y (by simp [hy])), fun x hx y hy => ?_⟩
    have hx := h1.1.mem_iff.1 hx; have hy := h2.1.mem_iff.1 hy
    rcases List.mem_append.1 hx with hx | hx <;> rcases List.mem_append.1 hy with hy | hy
    · exact a3 x hx y hy
    · exact x1 x hx y hy
    · exact x2 x hx y hy
    · exact b3 x hx y hy
theorem pw_get {A : List Nat} (h : A.Pairwise (Lt f)) {i j : Nat} (hij : i < j) (hj : j < A.length) : Lt f (A[i]'(by omega)) A[j] := List.pairwise_iff_getElem.1 h i j (by omega) hj hij
theorem mem_take_get {A : List Nat} {i x : Nat} (h : x ∈ A.take i) : ∃ j, ∃ (hj : j < A.length), j < i ∧ A[j] = x := by
  obtain ⟨j, hj, e⟩ := List.mem_iff_getElem.1 h
  rw [List.length_take] at hj
  exact ⟨j, by omega, by omega, by rw [← e, List.getElem_take]⟩
theorem mem_drop_get {A : List Nat} {i x : Nat} (h : x ∈ A.drop i) : ∃ j, ∃ (hj : j < A.length), i ≤ j ∧ A[j] = x := by
  obtain ⟨j, hj, e⟩ := List.mem_iff_getElem.1 h
  rw [List.length_drop] at hj
  exact ⟨i + j, by omega, by omega, by rw [← e, List.getElem_drop]⟩
/-- halving the row behind one thing -/
def Bs1 (f : Nat → Nat → Int) (B : List Nat) (x i j : Nat) : Prop := Ord f → B.Pairwise (Lt f) → (∀ q, (h : q < B.length) → q < i → f B[q] x < 0) ∧ (∀ q, (h : q < B.length) → j ≤ q → ¬ f B[q] x < 0)
theorem Bs1.start (B : List Nat) (x : Nat) : Bs1 f B x 0 B.length := fun _ _ => ⟨fun q h hq => by omega, fun q h hq => by omega⟩
theorem Bs1.up {B : List Nat} {x i j h : Nat} (s : Bs1 f B x i j) (hl : h < B.length) (hx : f B[h] x < 0) : Bs1 f B x (h + 1) j := fun ho hp => by
  refine ⟨fun q hq hqh => ?_, (s ho hp).2⟩
  rcases Nat.lt_or_ge q h with h1 | h1
  · exact ho.lel (pw_get hp h1 hl).le hx
  · obtain rfl : q = h := by omega
    exact hx
theorem Bs1.down {B : List Nat} {x i j h : Nat} (s : Bs1 f B x i j) (hl : h < B.length) (hx : ¬ f B[h] x < 0) : Bs1 f B x i h := fun ho hp => by
  refine ⟨(s ho hp).1, fun q hq hqh hn => hx ?_⟩
  rcases Nat.lt_or_ge h q with h1 | h1
  · exact ho.lel (pw_get hp h1 hq).le hn
  · obtain rfl : q = h := by omega
    exact hn
theorem Bs1.fin {B : List Nat} {x i : Nat} (s : Bs1 f B x i i) : Merged f [x] B (B.take i ++ x :: B.drop i) := by
  have := merged_one (f := f) (x := x) (B1 := B.take i) (B2 := B.drop i) (fun ho hp => by
    rw [List.take_append_drop] at hp
    obtain ⟨h1, h2⟩ := s ho hp
    refine ⟨fun y hy => ?_, fun y hy => ?_⟩
    · obtain ⟨j, hj, hji, rfl⟩ := mem_take_get hy; exact h1 j hj hji
    · obtain ⟨j, hj, hji, rfl⟩ := mem_drop_get hy; exact h2 j hj hji)
  rwa [List.take_append_drop] at this
/-- halving the row ahead of one thing -/
def Bs2 (f : Nat → Nat → Int) (A : List Nat) (y i j : Nat) : Prop := Ord f → A.Pairwise (Lt f) → (∀ q, (h : q < A.length) → q < i → ¬ f y A[q] < 0) ∧ (∀ q, (h : q < A.length) → j ≤ q → f y A[q] < 0)
theorem Bs2.start (A : List Nat) (y : Nat) : Bs2 f A y 0 A.length := fun _ _ => ⟨fun q h hq => by omega, fun q h hq => by omega⟩
theorem Bs2.up {A : List Nat} {y i j h : Nat} (s : Bs2 f A y i j) (hl : h < A.length) (hx : ¬ f y A[h] < 0) : Bs2 f A y (h + 1) j := fun ho hp => by
  refine ⟨fun q hq hqh hn => hx ?_, (s ho hp).2⟩
  rcases Nat.lt_or_ge q h with h1 | h1
  · exact ho.ltl hn (pw_get hp h1 hl).le
  · obtain rfl : q = h := by omega
    exact hn
theorem Bs2.down {A : List Nat} {y i j h : Nat} (s : Bs2 f A y i j) (hl : h < A.length) (hx : f y A[h] < 0) : Bs2 f A y i h := fun ho hp => by
  refine ⟨(s ho hp).1, fun q hq hqh => ?_⟩
  rcases Nat.lt_or_ge h q with h1 | h1
  · exact ho.ltl hx (pw_get hp h1 hq).le
  · obtain rfl : q = h := by omega
    exact hx
theorem Bs2.fin {A : List Nat} {y i : Nat} (s : Bs2 f A y i i) : Merged f A [y] (A.take i ++ y :: A.drop i) := by
  have := merged_one' (f := f) (y := y) (A1 := A.take i) (A2 := A.drop i) (fun ho hp => by
    rw [List.take_append_drop] at hp
    obtain ⟨h1, h2⟩ := s ho hp
    refine ⟨fun y hy => ?_, fun y hy => ?_⟩
    · obtain ⟨j, hj, hji, rfl⟩ := mem_take_get hy; exact h1 j hj hji
    · obtain ⟨j, hj, hji, rfl⟩ := mem_drop_get hy; exact h2 j hj hji)
  rwa [List.take_append_drop] at this
/-- halving both rows at once: c things of A, d - c of B -/
def Bs3 (f : Nat → Nat → Int) (A B : List Nat) (d s0 r0 s r : Nat) : Prop := Ord f → A.Pairwise (Lt f) → B.Pairwise (Lt f) →
  (∀ c, (ha : c < A.length) → (hb : d - 1 - c < B.length) → s0 ≤ c → c < s → ¬ f B[d - 1 - c] A[c] < 0) ∧ (∀ c, (ha : c < A.length) → (hb : d - 1 - c < B.length) → r ≤ c → c < r0 → f B[d - 1 - c] A[c] < 0)
theorem Bs3.start (A B : List Nat) (d s0 r0 : Nat) : Bs3 f A B d s0 r0 s0 r0 := fun _ _ _ => ⟨fun q h h' hq => by omega, fun q h h' hq => by omega⟩
theorem Bs3.up {A B : List Nat} {d s0 r0 s r c : Nat} (h : Bs3 f A B d s0 r0 s r) (hd : c + 1 ≤ d) (ha : c < A.length) (hb : d - 1 - c < B.length) (hx : ¬ f B[d - 1 - c] A[c] < 0) : Bs3 f A B d s0 r0 (c + 1) r := fun ho hp hq => by
  refine ⟨fun q h1 h2 h3 h4 hn => hx ?_, (h ho hp hq).2⟩
  rcases Nat.lt_or_ge q c with h5 | h5
  · have e1 := (pw_get hp h5 ha).le
    have e2 := (pw_get hq (i := d - 1 - c) (j := d - 1 - q) (by omega) h2).le
    exact ho.ltl (ho.lel e2 hn) e1
  · obtain rfl : q = c := by omega
    exact hn
theorem Bs3.down {A B : List Nat} {d s0 r0 s r c : Nat} (h : Bs3 f A B d s0 r0 s r) (hr : r0 ≤ d) (ha : c < A.length) (hb : d - 1 - c < B.length) (hx : f B[d - 1 - c] A[c] < 0) : Bs3 f A B d s0 r0 s c := fun ho hp hq => by
  refine ⟨(h ho hp hq).1, fun q h1 h2 h3 h4 => ?_⟩
  rcases Nat.lt_or_ge c q with h5 | h5
  · have e1 := (pw_get hp h5 h1).le
    have e2 := (pw_get hq (i := d - 1 - q) (j := d - 1 - c) (by omega) hb).le
    exact ho.ltl (ho.lel e2 hx) e1
  · obtain rfl : q = c := by omega
    exact hx
/-- the end of it: the parts that go ahead are below those that go behind -/
theorem Bs3.fin {A B : List Nat} {d s0 r0 s : Nat} (h : Bs3 f A B d s0 r0 s s) (hs0 : s0 ≤ s) (hr0 : s ≤ r0) (hA : r0 ≤ A.length) (hd : r0 ≤ d) (hdB : d ≤ B.length + s0) (hL : s0 = 0 ∨ d = B.length + s0) (hR : r0 = A.length ∨ r0 = d)
    (ho : Ord f) (hp : A.Pairwise (Lt f)) (hq : B.Pairwise (Lt f)) (hc : Cross f A B) : Below f (A.take s) (B.drop (d - s)) ∧ Below f (B.take (d - s)) (A.drop s) := by
  obtain ⟨h1, h2⟩ := h ho hp hq
  refine ⟨fun x hx y hy => ?_, fun y hy x hx => ?_⟩
  · obtain ⟨i, hi, his, rfl⟩ := mem_take_get hx
    obtain ⟨j, hj, hjs, rfl⟩ := mem_drop_get hy
    have hlt : s0 < s := by
      rcases hL with h | h
      · omega
      · omega
    have hb : d - 1 - (s - 1) < B.length := by omega
    have k := h1 (s - 1) (by omega) hb (by omega) (by omega)
    refine hc.lt ho (List.getElem_mem hi) (List.getElem_mem hj) (fun hn => k ?_)
    have e1 : f A[i] A[s - 1] ≤ 0 := by
      rcases Nat.lt_or_ge i (s - 1) with h5 | h5
      · exact (pw_get hp h5 (by omega)).le
      · have : i = s - 1 := by omega
        subst this
        have := ho.anti A[s - 1] A[s - 1]
        omega
    have e2 : f B[d - 1 - (s - 1)] B[j] ≤ 0 := by
      rcases Nat.lt_or_ge (d - 1 - (s - 1)) j with h5 | h5
      · exact (pw_get hq h5 hj).le
      · have : j = d - 1 - (s - 1) := by omega
        subst this
        have := ho.anti B[d - 1 - (s - 1)] B[d - 1 - (s - 1)]
        omega
    exact ho.ltl (ho.lel e2 hn) e1
  · obtain ⟨i, hi, his, rfl⟩ := mem_drop_get hx
    obtain ⟨j, hj, hjs, rfl⟩ := mem_take_get hy
    have hlt : s < r0 := by
      rcases hR with h | h
      · omega
      · omega
    have hb : d - 1 - s < B.length := by omega
    have k := h2 s (by omega) hb (by omega) hlt
    have e1 : f A[s] A[i] ≤ 0 := by
      rcases Nat.lt_or_ge s i with h5 | h5
      · exact (pw_get hp h5 hi).le
      · have : i = s := by omega
        subst this
        have := ho.anti A[i] A[i]
        omega
    have e2 : f B[j] B[d - 1 - s] ≤ 0 := by
      rcases Nat.lt_or_ge j (d - 1 - s) with h5 | h5
      · exact (pw_get hq h5 hb).le
      · have : j = d - 1 - s := by omega
        subst this
        have := ho.anti B[d - 1 - s] B[d - 1 - s]
        omega
    exact .inl (ho.ltl (ho.lel e2 k) e1)
/-! ### Sorting by putting in -/
/-- a row that was in order of places, sorted -/
def Sorted (f : Nat → Nat → Int) (A C : List Nat) : Prop := C.Perm A ∧ (Ord f → A.Pairwise (· < ·) → C.Pairwise (Lt f))
theorem Sorted.nil : Sorted f [] [] := ⟨List.Perm.refl _, fun _ _ => List.Pairwise.nil⟩
/-- the next one is put in: it stands behind P, ahead of Q, which are above it -/
theorem Sorted.put {A P Q : List Nat} {x : Nat} (h : Sorted f A (P ++ Q)) (hQ : ∀ q ∈ Q, f x q < 0) (hP : ∀ p, P.getLast? = some p → ¬ f x p < 0) : Sorted f (A ++ [x]) (P ++ x :: Q) := by
  refine ⟨?_, fun ho ha => ?_⟩
  · refine List.perm_middle.trans ?_
    refine (h.1.cons x).trans ?_
    exact (List.perm_append_singleton x A).symm
  · obtain ⟨a1, -, a3⟩ := List.pairwise_append.1 ha
    obtain ⟨p1, p2, p3⟩ := below_pw.1 (h.2 ho a1)
    have hPx : ∀ p ∈ P, Lt f p x := by
      intro p hp
      have hm : p ∈ A := h.1.mem_iff.1 (by simp [hp])
      have hlt : p < x := a3 p hm x (by simp)
      have hn : ¬ f x p < 0 := by
        rcases List.eq_nil_or_concat P with rfl | ⟨P', l, rfl⟩
        · cases hp
        · have hl := hP l (by simp)
          rw [List.concat_eq_append] at hp p1
          rcases List.mem_append.1 hp with hp | hp
          · have := (below_pw.1 p1).2.2 p hp l (by simp)
            intro hn
            exact hl (ho.ltl hn this.le)
          · rw [List.mem_singleton] at hp; subst hp; exact hl
      rcases Int.lt_or_eq_of_le (ho.le hn) with h2 | h2
      · exact .inl h2
      · exact .inr ⟨h2, hlt⟩
    refine below_pw.2 ⟨p1, List.pairwise_cons.2 ⟨fun q hq => .inl (hQ q hq), p2⟩, fun p hp y hy => ?_⟩
    rcases List.mem_cons.1 hy with rfl | hy
    · exact hPx p hp
    · exact p3 p hp y hy
/-! ### Chunks -/
/-- a chunk from place a on -/
def Chunk (f : Nat → Nat → Int) (a : Nat) (C : List Nat) : Prop := C.Perm (List.range' a C.length) ∧ (Ord f → C.Pairwise (Lt f))
inductive Ch (f : Nat → Nat → Int) (s : Nat) : Nat → List Nat → Prop
  | last {a : Nat} {C : List Nat} (hl : C.length ≤ s) (h : Chunk f a C) : Ch f s a C
  | cons {a : Nat} {C R : List Nat} (hl : C.length = s) (h : Chunk f a C) (hr : Ch f s (a + s) R) : Ch f s a (C ++ R)
theorem Chunk.nil (a : Nat) : Chunk f a [] := ⟨by simp, fun _ => List.Pairwise.nil⟩
theorem Chunk.sorted {a n : Nat} {C : List Nat} (h : Sorted f (List.range' a n) C) : Chunk f a C := by
  have hl : C.length = n := by rw [h.1.length_eq, List.length_range']
  exact ⟨by rw [hl]; exact h.1, fun ho => h.2 ho List.pairwise_lt_range'⟩
theorem Chunk.merge {a : Nat} {A B C : List Nat} (hA : Chunk f a A) (hB : Chunk f (a + A.length) B) (h : Merged f A B C) : Chunk f a C := by
  have hl : C.length = A.length + B.length := by rw [h.1.length_eq, List.length_append]
  refine ⟨?_, fun ho => h.2 ho (hA.2 ho) (hB.2 ho) (fun x hx y hy _ => ?_)⟩
  · rw [hl]
    refine h.1.trans ?_
    rw [← List.range'_append_1]
    exact hA.1.append hB.1
  · have h1 := hA.1.mem_iff.1 hx; have h2 := hB.1.mem_iff.1 hy
    rw [List.mem_range'_1] at h1 h2
    omega
theorem Ch.two {s a : Nat} {l : List Nat} (hs : 0 < s) (h : Ch f s a l) (hl : 2 * s ≤ l.length) : ∃ A B R, l = A ++ (B ++ R) ∧ A.length = s ∧ B.length = s ∧ Chunk f a A ∧ Chunk f (a + s) B ∧ Ch f s (a + 2 * s) R := by
  cases h with
  | last h1 h2 => omega
  | cons h1 h2 h3 =>
    rename_i C R
    rw [List.length_append] at hl
    cases h3 with
    | last h4 h5 =>
      have : R.length = s := by omega
      exact ⟨C, R, [], by simp, h1, this, h2, h5, .last (by simp) (.nil _)⟩
    | cons h4 h5 h6 =>
      rename_i C' R'
      refine ⟨C, C', R', rfl, h1, h4, h2, h5, ?_⟩
      rwa [show a + 2 * s = a + s + s by omega]
theorem Ch.one {s a : Nat} {l : List Nat} (hs : 0 < s) (h : Ch f s a l) (hl : l.length ≤ s) : Chunk f a l := by
  cases h with
  | last h1 h2 => exact h2
  | cons h1 h2 h3 =>
    rename_i C R
    rw [List.length_append] at hl
    have : R = [] := List.length_eq_zero_iff.1 (by omega)
    subst this
    rwa [List.append_nil]
theorem Ch.split {s a : Nat} {l : List Nat} (hs : 0 < s) (h : Ch f s a l) (hl : s < l.length) (hl2 : l.length < 2 * s) : ∃ A B, l = A ++ B ∧ A.length = s ∧ Chunk f a A ∧ Chunk f (a + s) B := by
  cases h with
  | last h1 h2 => omega
  | cons h1 h2 h3 =>
    rename_i C R
    rw [List.length_append] at hl2
    exact ⟨C, R, rfl, h1, h2, h3.one hs (by omega)⟩
/-- what is done: chunks ahead of the rest -/
def Hd (f : Nat → Nat → Int) (s a : Nat) (D : List Nat) : Prop := D.length = a ∧ ∀ R, Ch f s a R → Ch f s 0 (D ++ R)
theorem Hd.nil (s : Nat) : Hd f s 0 [] := ⟨rfl, fun R h => h⟩
theorem Hd.snoc {s a : Nat} {D C : List Nat} (h : Hd f s a D) (hl : C.length = s) (hc : Chunk f a C) : Hd f s (a + s) (D ++ C) :=
  ⟨by rw [List.length_append, h.1, hl], fun R hR => by rw [List.append_assoc]; exact h.2 _ (.cons hl hc hR)⟩
theorem Hd.end {s a : Nat} {D C : List Nat} (h : Hd f s a D) (hl : C.length ≤ s) (hc : Chunk f a C) : Ch f s 0 (D ++ C) := h.2 _ (.last hl hc)
end Go.Proofs.YtcalbbfkgdfidaaDoor.So
