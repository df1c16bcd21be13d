/- PLAIN: SyntaxCut: a beginning of a text that is read, cut off behind a word, is read too, or the end is told at its place. No program (of the machine) in sight. -/
import Derived.Test.YtppigckioalhhaaGreatDoorRKB1
import Derived.Test.YtppigckioalhhaaGreatDoorRKB10
import Derived.Test.YtppigckioalhhaaGreatDoorRKB3
/- PLAIN: two texts with a line's end between; a word by itself; what stands between words. No program in sight. -/
namespace Go.Proofs.YtppigckioalhhaaGreatDoorR.Lx
set_option linter.unusedSimpArgs false
set_option linter.unusedVariables false

theorem run_join (p : Nat → Bool) (hp : p 10 = false) (a r : List Nat) : run p (a ++ 10 :: r) = run p a := by
  induction a with
  | nil => simp [run_cons, hp, run_nil]
  | cons c t ih => rw [List.cons_append, run_cons, run_cons, ih]
theorem two_ten (a : Nat) : two a 10 = false := by simp [two]
theorem mark_join (a r : List Nat) (h : a ≠ []) : mark (a ++ 10 :: r) = mark a := by
  match a, h with
  | [x], _ => simp [mark, two_ten]
  | x :: y :: t, _ => simp [mark]
theorem esc_join {s : List Nat} {b j : Nat} (h : esc s = some (b, j)) (t : List Nat) : esc (s ++ t) = some (b, j) := by
  match s with
  | [] => simp [esc] at h
  | [c] =>
    unfold esc at h ⊢
    simp only [List.cons_append, List.nil_append] at h ⊢
    by_cases h1 : c = 34 ∨ c = 92
    · rw [if_pos h1] at h ⊢; exact h
    · rw [if_neg h1] at h ⊢
      by_cases h2 : c = 110
      · rw [if_pos h2] at h ⊢; exact h
      · rw [if_neg h2] at h
        by_cases h3 : c = 120 <;> simp [h3] at h
  | [c, x] =>
    unfold esc at h ⊢
    simp only [List.cons_append, List.nil_append] at h ⊢
    by_cases h1 : c = 34 ∨ c = 92
    · rw [if_pos h1] at h ⊢; exact h
    · rw [if_neg h1] at h ⊢
      by_cases h2 : c = 110
      · rw [if_pos h2] at h ⊢; exact h
      · rw [if_neg h2] at h
        by_cases h3 : c = 120 <;> simp [h3] at h
  | c :: x :: y :: u => simpa [esc] using h
theorem quoF_join : ∀ (k : Nat) (s acc : List Nat) (n : Nat) (l : List Nat) (m : Nat), (∀ c ∈ s, c < 256) → quoF k s acc n = some (l, m) → ∀ (t : List Nat) (j : Nat), quoF (k + j) (s ++ t) acc n = some (l, m)
  | 0, _, _, _, _, _, _, h => by simp [quoF] at h
  | k + 1, [], _, _, _, _, _, h => by simp [quoF] at h
  | k + 1, c :: r, acc, n, l, m, hs, h => fun t j => by
    have hr : ∀ c ∈ r, c < 256 := fun x hx => hs x (by simp [hx])
    rw [show k + 1 + j = (k + j) + 1 by omega, List.cons_append]
    unfold quoF at h ⊢
    by_cases h1 : c = 34
    · rw [if_pos h1] at h ⊢; exact h
    · rw [if_neg h1] at h ⊢
      by_cases h2 : c = 10
      · rw [if_pos h2] at h; simp at h
      · rw [if_neg h2] at h ⊢
        by_cases h3 : c = 92
        · rw [if_pos h3] at h ⊢
          cases he : esc r with
          | none => rw [he] at h; simp at h
          | some p =>
            obtain ⟨b, m'⟩ := p
            rw [he] at h
            rw [esc_join he t]
            obtain ⟨e1, e2, -⟩ := esc_len hr he
            simp only at h ⊢
            rw [List.drop_append_of_le_length e2]
            exact quoF_join k _ _ _ l m (fun c hc => hr c (List.mem_of_mem_drop hc)) h t j
        · rw [if_neg h3] at h ⊢
          exact quoF_join k _ _ _ l m hr h t j
theorem quo_join {s l : List Nat} {m : Nat} (hs : ∀ c ∈ s, c < 256) (h : quo s = some (l, m)) (t : List Nat) : quo (s ++ t) = some (l, m) := by
  cases s with
  | nil => simp [quo, quoF] at h
  | cons c r =>
    unfold quo at h ⊢
    have := quoF_join _ _ _ _ l m (fun c hc => hs c (List.mem_of_mem_drop hc)) h t t.length
    rw [show (c :: r).length + t.length = (c :: r ++ t).length by simp; omega] at this
    exact this
/-- a word does not go on behind a line's end -/
theorem word_join {a : List Nat} {w : Wd} (hb : ∀ c ∈ a, c < 256) (h0 : a ≠ []) (h : word a = .ok w) (r : List Nat) : word (a ++ 10 :: r) = .ok w := by
  have e1 : (a ++ 10 :: r).headD 0 = a.headD 0 := by cases a with
    | nil => simp at h0
    | cons c t => rfl
  have e2 : run goes (a ++ 10 :: r) = run goes a := run_join _ rfl _ _
  have e3 : run digit (a ++ 10 :: r) = run digit a := run_join _ rfl _ _
  have e4 : (a ++ 10 :: r).take (run digit a) = a.take (run digit a) := List.take_append_of_le_length (run_le _ _)
  have e5 : mark (a ++ 10 :: r) = mark a := mark_join a r h0
  unfold word at h ⊢
  rw [e1, e2, e3, e4, e5]
  by_cases c1 : (small (a.headD 0) || capital (a.headD 0)) = true
  · rw [if_pos c1] at h ⊢; exact h
  · rw [if_neg c1] at h ⊢
    by_cases c2 : digit (a.headD 0) = true
    · rw [if_pos c2] at h ⊢; exact h
    · rw [if_neg c2] at h ⊢
      by_cases c3 : a.headD 0 = 34
      · rw [if_pos c3] at h ⊢
        cases hq : quo a with
        | none => rw [hq] at h; simp at h
        | some p =>
          obtain ⟨l, m⟩ := p
          rw [hq] at h
          rw [quo_join hb hq]
          exact h
      · rw [if_neg c3] at h ⊢; exact h

theorem skip_join (r : List Nat) : ∀ (a : List Nat) (b : Bool), (skipN b a < a.length → skipN b (a ++ 10 :: r) = skipN b a) ∧ (skipN b a = a.length → skipN b (a ++ 10 :: r) = a.length + 1 + skipN false r)
  | [], b => by
    refine ⟨fun h => by simp at h, fun _ => ?_⟩
    simp [skipN, blank]
    omega
  | c :: t, b => by
    obtain ⟨h1, h2⟩ := skip_join r t (if c = 35 then true else if c = 10 then false else b)
    have e1 : skipN b (c :: t) = if (!(if c = 35 then true else if c = 10 then false else b) && !blank c) = true then 0 else skipN (if c = 35 then true else if c = 10 then false else b) t + 1 := rfl
    have e2 : skipN b (c :: t ++ 10 :: r) = if (!(if c = 35 then true else if c = 10 then false else b) && !blank c) = true then 0 else skipN (if c = 35 then true else if c = 10 then false else b) (t ++ 10 :: r) + 1 := rfl
    rw [e1, e2]
    generalize (if c = 35 then true else if c = 10 then false else b) = b' at *
    by_cases h : (!b' && !blank c) = true
    · rw [if_pos h, if_pos h]
      exact ⟨fun _ => rfl, fun h => by simp at h⟩
    · rw [if_neg h, if_neg h, List.length_cons]
      exact ⟨fun h => by rw [h1 (by omega)], fun h => by rw [h2 (by omega)]; omega⟩

def St.join (x : St) (r : List Nat) : St := { x with s := x.s ++ 10 :: r }
/-- behind the first text and the line's end -/
def St.over (x : St) (r : List Nat) : St := { x with s := r, pos := (x.pos.1 + 1, 1) }

theorem next_join {x y : St} {t : Tok} (hb : ∀ c ∈ x.s, c < 256) (h : next x = (y, some t)) (r : List Nat) : next (x.join r) = (y.join r, some t) ∧ (∀ c ∈ y.s, c < 256) ∧ y.s.length < x.s.length ∧ y.code = 0 ∧ x.code = 0 ∧ x.long = false ∧ y.long = false := by
  unfold next at h
  by_cases h1 : x.code ≠ 0
  · rw [if_pos h1] at h; simp at h
  · rw [if_neg h1] at h
    cases h2 : x.long with
    | true => rw [h2] at h; simp at h
    | false =>
      rw [h2] at h
      simp only [Bool.false_eq_true, if_false] at h
      by_cases h3 : x.skip.s = []
      · rw [if_pos h3] at h; simp at h
      · rw [if_neg h3] at h
        have hbs : ∀ c ∈ x.skip.s, c < 256 := fun c hc => hb c (List.mem_of_mem_drop hc)
        cases hw : word x.skip.s with
        | bad er => rw [hw] at h; simp at h
        | ok w =>
          rw [hw] at h
          simp only [Prod.mk.injEq, Option.some.injEq] at h
          obtain ⟨rfl, rfl⟩ := h
          obtain ⟨l1, l2, -⟩ := word_len hbs h3 hw
          have hlt : skipN false x.s < x.s.length := by
            refine Nat.lt_of_not_le fun hle => h3 ?_
            exact List.drop_eq_nil_of_le hle
          have hsk : (x.join r).skip = x.skip.join r := by
            unfold St.skip St.join
            simp only
            rw [(skip_join r x.s false).1 hlt, List.drop_append_of_le_length (by omega), List.take_append_of_le_length (by omega)]
          have hsl : x.skip.s.length ≤ x.s.length := by simp [St.skip]
          have hx0 : x.code = 0 := by omega
          refine ⟨?_, fun c hc => hbs c (List.mem_of_mem_drop hc), ?_, ?_, hx0, rfl, ?_⟩
          · unfold next
            have c0 : (x.join r).code = x.code := rfl
            have c1 : (x.join r).long = x.long := rfl
            rw [c0, if_neg h1, c1, h2]
            simp only [Bool.false_eq_true, if_false]
            rw [hsk]
            have c2 : (x.skip.join r).s = x.skip.s ++ 10 :: r := rfl
            have c3 : (x.skip.join r).pos = x.skip.pos := rfl
            rw [c2, if_neg (by simp), word_join hbs h3 hw r]
            simp only [c3]
            rw [List.drop_append_of_le_length (by omega), List.take_append_of_le_length (by omega)]
            rfl
          · simp only [List.length_drop]; omega
          · exact hx0
          · exact h2
theorem next_end {x y : St} (h : next x = (y, none)) (hy : y.code = 0) (r : List Nat) : next (x.join r) = next (y.over r) ∧ x.long = y.long := by
  unfold next at h
  by_cases h1 : x.code ≠ 0
  · rw [if_pos h1] at h
    simp only [Prod.mk.injEq, and_true] at h
    subst h
    omega
  · rw [if_neg h1] at h
    cases h2 : x.long with
    | true => rw [h2] at h; simp at h; subst h; simp at hy
    | false =>
      rw [h2] at h
      simp only [Bool.false_eq_true, if_false] at h
      by_cases h3 : x.skip.s = []
      · rw [if_pos h3] at h
        simp only [Prod.mk.injEq, and_true] at h
        subst h
        have hlen : skipN false x.s = x.s.length := by
          have h4 := skipN_le false x.s
          have h5 : (x.s.drop (skipN false x.s)).length = 0 := by
            have : x.s.drop (skipN false x.s) = [] := h3
            rw [this]; rfl
          rw [List.length_drop] at h5
          omega
        have hsk : (x.join r).skip = (x.skip.over r).skip := by
          unfold St.skip St.join St.over
          simp only
          rw [(skip_join r x.s false).2 hlen, hlen]
          have e1 : (x.s ++ 10 :: r).drop (x.s.length + 1 + skipN false r) = r.drop (skipN false r) := by
            rw [show x.s.length + 1 + skipN false r = x.s.length + (1 + skipN false r) by omega, ← List.drop_drop, List.drop_left, Nat.add_comm 1, List.drop_succ_cons]
          have e2 : (x.s ++ 10 :: r).take (x.s.length + 1 + skipN false r) = x.s ++ 10 :: r.take (skipN false r) := by
            rw [show x.s.length + 1 + skipN false r = x.s.length + (skipN false r + 1) by omega, List.take_append, List.take_of_length_le (by omega)]
            simp
          rw [e1, e2, adv_append]
          simp [adv]
        refine ⟨?_, h2 ▸ rfl⟩
        unfold next
        have c0 : (x.join r).code = x.code := rfl
        have c1 : (x.join r).long = x.long := rfl
        have c4 : (x.skip.over r).code = x.code := rfl
        have c5 : (x.skip.over r).long = x.long := rfl
        rw [c0, c1, c4, c5, if_neg h1, h2, hsk]
        simp only [h1, if_false, Bool.false_eq_true]
      · rw [if_neg h3] at h
        cases hw : word x.skip.s with
        | bad er =>
          rw [hw] at h
          simp only [Prod.mk.injEq, and_true] at h
          subst h
          exfalso
          have : 30 ≤ er := by
            unfold word at hw
            repeat' (split at hw)
            all_goals first | (simp at hw; omega) | simp at hw
          simp at hy; omega
        | ok w => rw [hw] at h; simp at h

/-- more steps than bytes are enough -/
theorem allF_more : ∀ (k : Nat) (x : St) (j : Nat), (∀ c ∈ x.s, c < 256) → x.s.length < k → allF (k + j) x = allF k x
  | 0, x, j, _, h => by omega
  | k + 1, x, j, hb, h => by
    rw [show k + 1 + j = (k + j) + 1 by omega]
    unfold allF
    cases hn : next x with
    | mk y o =>
      cases o with
      | none => rfl
      | some t =>
        obtain ⟨-, h2, h3, -⟩ := next_join hb hn []
        simp only
        rw [allF_more k y j h2 (by omega)]
theorem all_join : ∀ (k : Nat) (x : St) (r : List Nat), (∀ c ∈ x.s, c < 256) → (∀ c ∈ r, c < 256) → x.s.length < k → (allF k x).2.code = 0 → allF (k + r.length + 1) (x.join r) = ((allF k x).1 ++ (allF (r.length + 1) ((allF k x).2.over r)).1, (allF (r.length + 1) ((allF k x).2.over r)).2)
  | 0, x, r, _, _, h, _ => by omega
  | k + 1, x, r, hb, hr, h, hc => by
    rw [show k + 1 + r.length + 1 = (k + r.length + 1) + 1 by omega]
    cases hn : next x with
    | mk y o =>
      cases o with
      | none =>
        have e : allF (k + 1) x = ([], y) := by unfold allF; rw [hn]
        rw [e] at hc ⊢
        obtain ⟨h1, -⟩ := next_end hn hc r
        have e2 : allF (k + r.length + 1 + 1) (x.join r) = allF (k + r.length + 1 + 1) (y.over r) := by
          rw [allF, allF, h1]
        rw [e2, show k + r.length + 1 + 1 = (r.length + 1) + (k + 1) by omega, allF_more (r.length + 1) (y.over r) (k + 1) hr (by show r.length < r.length + 1; omega)]
        simp
      | some t =>
        obtain ⟨h1, h2, h3, -⟩ := next_join hb hn r
        have e : allF (k + 1) x = (t :: (allF k y).1, (allF k y).2) := by rw [allF, hn]
        rw [e] at hc ⊢
        have ih := all_join k y r h2 hr (by omega) hc
        rw [allF, h1]
        simp only
        rw [ih]
        rfl

/-- a scanner some lines further down -/
structure Down (d : Nat) (x y : St) : Prop where
  s : y.s = x.s
  pos : y.pos = (x.pos.1 + d, x.pos.2)
  code : y.code = x.code
  long : y.long = x.long
def Tok.down (d : Nat) (t : Tok) : Tok := { t with line := t.line + d }
theorem adv_down (d : Nat) : ∀ (l : List Nat) (p : Nat × Nat), adv (p.1 + d, p.2) l = ((adv p l).1 + d, (adv p l).2)
  | [], p => rfl
  | c :: t, p => by
    unfold adv
    by_cases h : c = 10
    · rw [if_pos h, if_pos h]
      have := adv_down d t (p.1 + 1, 1)
      simp only at this
      rw [← this]
      congr 2
      omega
    · rw [if_neg h, if_neg h]
      exact adv_down d t (p.1, p.2 + 1)
theorem Down.skip {d : Nat} {x y : St} (h : Down d x y) : Down d x.skip y.skip := by
  obtain ⟨h1, h2, h3, h4⟩ := h
  refine ⟨?_, ?_, h3, h4⟩
  · simp [St.skip, h1]
  · simp only [St.skip, h1, h2]
    exact adv_down d _ _
theorem Down.next {d : Nat} {x y : St} (h : Down d x y) : Down d (next x).1 (next y).1 ∧ (next y).2 = (next x).2.map (Tok.down d) := by
  have hs := h.skip
  have hb := hs
  obtain ⟨h1, h2, h3, h4⟩ := h
  obtain ⟨s1, s2, s3, s4⟩ := hs
  unfold Lx.next
  rw [h3, h4, s1]
  by_cases c1 : x.code ≠ 0
  · rw [if_pos c1, if_pos c1]; exact ⟨⟨h1, h2, h3, h4⟩, rfl⟩
  · rw [if_neg c1, if_neg c1]
    cases c2 : x.long with
    | true => simp only [if_true]; exact ⟨⟨h1, h2, rfl, by simp [h4, c2]⟩, rfl⟩
    | false =>
      simp only [Bool.false_eq_true, if_false]
      by_cases c3 : x.skip.s = []
      · rw [if_pos c3, if_pos c3]; exact ⟨hb, rfl⟩
      · rw [if_neg c3, if_neg c3]
        cases hw : word x.skip.s with
        | bad er => exact ⟨⟨s1, s2, rfl, s4⟩, rfl⟩
        | ok w =>
          simp only
          refine ⟨⟨rfl, ?_, s3, s4⟩, ?_⟩
          · simp only [s2]; exact adv_down d _ _
          · simp [Tok.down, s2]
theorem all_down (d : Nat) : ∀ (k : Nat) (x y : St), Down d x y → (allF k y).1 = (allF k x).1.map (Tok.down d) ∧ (allF k y).2.code = (allF k x).2.code
  | 0, x, y, h => ⟨rfl, h.code⟩
  | k + 1, x, y, h => by
    obtain ⟨h1, h2⟩ := h.next
    unfold allF
    cases hx : Lx.next x with
    | mk x' o =>
      cases hy : Lx.next y with
      | mk y' o' =>
        rw [hx, hy] at h1 h2
        simp only at h1 h2
        subst h2
        cases o with
        | none => exact ⟨rfl, h1.code⟩
        | some t =>
          obtain ⟨i1, i2⟩ := all_down d k x' y' h1
          simp only [Option.map_some]
          exact ⟨by rw [i1]; rfl, i2⟩

theorem all_pos : ∀ (k : Nat) (x : St), (∀ c ∈ x.s, c < 256) → x.s.length < k → (allF k x).2.code = 0 → (allF k x).2.pos = adv x.pos x.s ∧ (allF k x).2.long = false
  | 0, x, _, h, _ => by omega
  | k + 1, x, hb, h, hc => by
    cases hn : next x with
    | mk y o =>
      cases o with
      | none =>
        have e : allF (k + 1) x = ([], y) := by unfold allF; rw [hn]
        rw [e] at hc ⊢
        simp only at hc ⊢
        unfold next at hn
        by_cases h1 : x.code ≠ 0
        · rw [if_pos h1] at hn
          simp only [Prod.mk.injEq, and_true] at hn
          subst hn; omega
        · rw [if_neg h1] at hn
          cases h2 : x.long with
          | true => rw [h2] at hn; simp at hn; subst hn; simp at hc
          | false =>
            rw [h2] at hn
            simp only [Bool.false_eq_true, if_false] at hn
            by_cases h3 : x.skip.s = []
            · rw [if_pos h3] at hn
              simp only [Prod.mk.injEq, and_true] at hn
              subst hn
              refine ⟨?_, h2⟩
              show adv x.pos (x.s.take (skipN false x.s)) = _
              rw [List.take_of_length_le]
              have h5 : (x.s.drop (skipN false x.s)).length = 0 := by
                have : x.s.drop (skipN false x.s) = [] := h3
                rw [this]; rfl
              rw [List.length_drop] at h5
              omega
            · rw [if_neg h3] at hn
              cases hw : word x.skip.s with
              | bad er =>
                rw [hw] at hn
                simp only [Prod.mk.injEq, and_true] at hn
                subst hn
                exfalso
                have : 30 ≤ er := by
                  unfold word at hw
                  repeat' (split at hw)
                  all_goals first | (simp at hw; omega) | simp at hw
                simp at hc; omega
              | ok w => rw [hw] at hn; simp at hn
      | some t =>
        obtain ⟨-, h2, h3, -⟩ := next_join hb hn []
        have e : allF (k + 1) x = (t :: (allF k y).1, (allF k y).2) := by rw [allF, hn]
        rw [e] at hc ⊢
        have ih := all_pos k y h2 (by omega) hc
        refine ⟨ih.1.trans ?_, ih.2⟩
        unfold next at hn
        by_cases h1 : x.code ≠ 0
        · rw [if_pos h1] at hn; simp at hn
        · rw [if_neg h1] at hn
          cases h2 : x.long with
          | true => rw [h2] at hn; simp at hn
          | false =>
            rw [h2] at hn
            simp only [Bool.false_eq_true, if_false] at hn
            by_cases h3 : x.skip.s = []
            · rw [if_pos h3] at hn; simp at hn
            · rw [if_neg h3] at hn
              cases hw : word x.skip.s with
              | bad er => rw [hw] at hn; simp at hn
              | ok w =>
                rw [hw] at hn
                simp only [Prod.mk.injEq, Option.some.injEq] at hn
                obtain ⟨rfl, -⟩ := hn
                simp only [St.skip]
                rw [← adv_append, ← adv_append, List.take_append_drop, List.take_append_drop]

/-- THE LAW: two texts with a line's end between have the words of both -/
theorem tokens_join (a b : List Nat) (ha : ∀ c ∈ a, c < 256) (hb : ∀ c ∈ b, c < 256) (hl : a.length + 1 + b.length ≤ 65536) (h1 : (fault a).1 = 0) (h2 : (fault b).1 = 0) :
    fault (a ++ 10 :: b) = (0, 0, 0) ∧ tokens (a ++ 10 :: b) = tokens a ++ (tokens b).map (Tok.down (adv (1, 1) a).1) := by
  have g1 : (given a).2.code = 0 := by
    unfold fault at h1
    by_cases h : (given a).2.code = 0
    · exact h
    · rw [if_neg h] at h1; exact absurd h1 h
  have g2 : (given b).2.code = 0 := by
    unfold fault at h2
    by_cases h : (given b).2.code = 0
    · exact h
    · rw [if_neg h] at h2; exact absurd h2 h
  have hst : start (a ++ 10 :: b) = (start a).join b := by
    unfold start St.join
    simp only [List.length_append, List.length_cons]
    congr 1
    rw [decide_eq_false (by omega), decide_eq_false (by omega)]
  have hlen : (a ++ 10 :: b).length + 1 = (a.length + 1) + b.length + 1 := by simp; omega
  have hp := all_pos (a.length + 1) (start a) ha (by show a.length < _; omega) g1
  have hd : Down (adv (1, 1) a).1 (start b) ((given a).2.over b) := by
    refine ⟨rfl, ?_, g1, ?_⟩
    · show ((given a).2.pos.1 + 1, 1) = _
      rw [show (given a).2.pos = adv (1, 1) a from hp.1]
      simp [start]; omega
    · show (given a).2.long = _
      rw [show (given a).2.long = false from hp.2]
      symm
      simp [start]; omega
  obtain ⟨d1, d2⟩ := all_down _ (b.length + 1) _ _ hd
  have hg : given (a ++ 10 :: b) = ((given a).1 ++ (allF (b.length + 1) ((given a).2.over b)).1, (allF (b.length + 1) ((given a).2.over b)).2) := by
    unfold given
    rw [hst, hlen]
    exact all_join (a.length + 1) (start a) b ha hb (by show a.length < _; omega) g1
  have hc : (given (a ++ 10 :: b)).2.code = 0 := by rw [hg]; exact d2.trans g2
  refine ⟨by unfold fault; rw [if_pos hc], ?_⟩
  unfold tokens
  rw [if_pos hc, if_pos g1, if_pos g2, hg]
  simp only
  rw [d1]
  rfl
end Go.Proofs.YtppigckioalhhaaGreatDoorR.Lx
/- PLAIN: a word by itself; what stands between words; each word at its place. No program in sight. -/
namespace Go.Proofs.YtppigckioalhhaaGreatDoorR.Lx
set_option linter.unusedSimpArgs false
set_option linter.unusedVariables false

theorem skip_stop : ∀ (s : List Nat) (b : Bool), skipN false (s.drop (skipN b s)) = 0
  | [], b => by simp [skipN]
  | c :: t, b => by
    have ih := skip_stop t (if c = 35 then true else if c = 10 then false else b)
    have e : skipN b (c :: t) = if !(if c = 35 then true else if c = 10 then false else b) && !blank c then 0 else skipN (if c = 35 then true else if c = 10 then false else b) t + 1 := rfl
    by_cases h : (!(if c = 35 then true else if c = 10 then false else b) && !blank c) = true
    · rw [e, if_pos h, List.drop_zero]
      simp only [Bool.and_eq_true, Bool.not_eq_true'] at h
      have h35 : c ≠ 35 := fun h0 => by rw [if_pos h0] at h; simp at h
      exact skip_none h.2 h35
    · rw [e, if_neg h, List.drop_succ_cons]
      exact ih
theorem skip_done' (s : List Nat) : skipN false (s.drop (skipN false s)) = 0 := skip_stop s false
theorem run_take (p : Nat → Bool) (s : List Nat) (k : Nat) : run p (s.take k) = min k (run p s) := by
  induction s generalizing k with
  | nil => simp [run_nil]
  | cons c t ih =>
    cases k with
    | zero => simp [run_nil]
    | succ k =>
      rw [List.take_succ_cons, run_cons, run_cons, ih]
      split <;> omega
theorem esc_take {s : List Nat} {b j : Nat} (h : esc s = some (b, j)) (q : Nat) (hq : j ≤ q) : esc (s.take q) = some (b, j) := by
  match s with
  | [] => simp [esc] at h
  | [c] =>
    unfold esc at h
    simp only at h
    by_cases h1 : c = 34 ∨ c = 92
    · rw [if_pos h1] at h
      simp only [Option.some.injEq, Prod.mk.injEq] at h
      obtain ⟨rfl, rfl⟩ := h
      rw [List.take_of_length_le (by simpa using hq)]
      unfold esc; simp only; rw [if_pos h1]
    · rw [if_neg h1] at h
      by_cases h2 : c = 110
      · rw [if_pos h2] at h
        simp only [Option.some.injEq, Prod.mk.injEq] at h
        obtain ⟨rfl, rfl⟩ := h
        rw [List.take_of_length_le (by simpa using hq)]
        unfold esc; simp only; rw [if_neg h1, if_pos h2]
      · rw [if_neg h2] at h
        by_cases h3 : c = 120 <;> simp [h3] at h
  | c :: x :: t =>
    unfold esc at h
    simp only at h
    by_cases h1 : c = 34 ∨ c = 92
    · rw [if_pos h1] at h
      simp only [Option.some.injEq, Prod.mk.injEq] at h
      obtain ⟨rfl, rfl⟩ := h
      obtain ⟨q', rfl⟩ : ∃ q', q = q' + 1 := ⟨q - 1, by omega⟩
      rw [List.take_succ_cons]
      unfold esc; simp only; rw [if_pos h1]
    · rw [if_neg h1] at h
      by_cases h2 : c = 110
      · rw [if_pos h2] at h
        simp only [Option.some.injEq, Prod.mk.injEq] at h
        obtain ⟨rfl, rfl⟩ := h
        obtain ⟨q', rfl⟩ : ∃ q', q = q' + 1 := ⟨q - 1, by omega⟩
        rw [List.take_succ_cons]
        unfold esc; simp only; rw [if_neg h1, if_pos h2]
      · rw [if_neg h2] at h
        by_cases h3 : c = 120
        · rw [if_pos h3] at h
          cases t with
          | nil => simp at h
          | cons y u =>
            have hj : j = 3 := by
              simp only at h
              cases hx : hexv x with
              | none => rw [hx] at h; simp at h
              | some u1 =>
                cases hy : hexv y with
                | none => rw [hx, hy] at h; simp at h
                | some u2 => rw [hx, hy] at h; simp at h; omega
            subst hj
            obtain ⟨q', rfl⟩ : ∃ q', q = q' + 3 := ⟨q - 3, by omega⟩
            simp only [List.take_succ_cons]
            unfold esc
            simp only
            rw [if_neg h1, if_neg h2, if_pos h3]
            exact h
        · simp [h3] at h
theorem quoF_take : ∀ (k : Nat) (s acc : List Nat) (n : Nat) (l : List Nat) (m : Nat), (∀ c ∈ s, c < 256) → (∀ c ∈ acc, c < 256) → quoF k s acc n = some (l, m) → ∀ k', m - n ≤ k' → quoF k' (s.take (m - n)) acc n = some (l, m)
  | 0, _, _, _, _, _, _, _, h => by simp [quoF] at h
  | k + 1, [], _, _, _, _, _, _, h => by simp [quoF] at h
  | k + 1, c :: r, acc, n, l, m, hs, ha, h => fun k' hk => by
    have hr : ∀ c ∈ r, c < 256 := fun x hx => hs x (by simp [hx])
    have hl := quoF_len (k + 1) (c :: r) acc n l m hs ha h
    obtain ⟨q, hq⟩ : ∃ q, m - n = q + 1 := ⟨m - n - 1, by omega⟩
    obtain ⟨k'', rfl⟩ : ∃ k'', k' = k'' + 1 := ⟨k' - 1, by omega⟩
    rw [hq, List.take_succ_cons]
    unfold quoF at h ⊢
    by_cases h1 : c = 34
    · rw [if_pos h1] at h ⊢; exact h
    · rw [if_neg h1] at h ⊢
      by_cases h2 : c = 10
      · rw [if_pos h2] at h; simp at h
      · rw [if_neg h2] at h ⊢
        by_cases h3 : c = 92
        · rw [if_pos h3] at h ⊢
          cases he : esc r with
          | none => rw [he] at h; simp at h
          | some p =>
            obtain ⟨b, j⟩ := p
            rw [he] at h
            simp only at h
            obtain ⟨e1, e2, e3⟩ := esc_len hr he
            have ha' : ∀ c ∈ acc ++ [b], c < 256 := fun x hx => by
              rcases List.mem_append.1 hx with hx | hx
              · exact ha x hx
              · simp at hx; omega
            have hl2 := quoF_len k (r.drop j) (acc ++ [b]) (n + 1 + j) l m (fun c hc => hr c (List.mem_of_mem_drop hc)) ha' h
            rw [esc_take he q (by omega)]
            simp only
            have := quoF_take k (r.drop j) (acc ++ [b]) (n + 1 + j) l m (fun c hc => hr c (List.mem_of_mem_drop hc)) ha' h k'' (by omega)
            rw [List.drop_take, show q - j = m - (n + 1 + j) by omega]
            exact this
        · rw [if_neg h3] at h ⊢
          have ha' : ∀ x ∈ acc ++ [c], x < 256 := fun x hx => by
            rcases List.mem_append.1 hx with hx | hx
            · exact ha x hx
            · simp at hx; have := hs c (by simp); omega
          have := quoF_take k r (acc ++ [c]) (n + 1) l m hr ha' h k'' (by omega)
          rw [show q = m - (n + 1) by omega]
          exact this
theorem quo_take {s l : List Nat} {m : Nat} (hs : ∀ c ∈ s, c < 256) (h : quo s = some (l, m)) : quo (s.take m) = some (l, m) := by
  cases s with
  | nil => simp [quo, quoF] at h
  | cons c r =>
    obtain ⟨l1, l2, -⟩ := quo_len hs h
    unfold quo at h ⊢
    obtain ⟨q, rfl⟩ : ∃ q, m = q + 1 := ⟨m - 1, by omega⟩
    have := quoF_take _ _ _ _ l (q + 1) (fun c hc => hs c (List.mem_of_mem_drop hc)) (by simp) h (q + 1) (by omega)
    simp only [List.take_succ_cons, List.drop_succ_cons, List.drop_zero, List.length_cons, List.length_take, Nat.add_sub_cancel] at this ⊢
    have hle : min q r.length = q := by simp at l2; omega
    rw [hle]
    exact this
theorem mark_take (s : List Nat) : mark (s.take (mark s)) = mark s := by
  match s with
  | [] => rfl
  | [a] =>
    by_cases h : ones.contains a = true
    · have e : mark [a] = 1 := by simp only [mark]; rw [if_pos h]
      rw [e]; exact e
    · have e : mark [a] = 0 := by simp only [mark]; rw [if_neg h]
      rw [e]; rfl
  | a :: b :: t =>
    by_cases h1 : two a b = true
    · have e : ∀ u, mark (a :: b :: u) = 2 := fun u => by simp only [mark]; rw [if_pos h1]
      rw [e]; exact e []
    · by_cases h : ones.contains a = true
      · have e : mark (a :: b :: t) = 1 := by simp only [mark]; rw [if_neg h1, if_pos h]
        rw [e]
        show mark [a] = 1
        simp only [mark]; rw [if_pos h]
      · have e : mark (a :: b :: t) = 0 := by simp only [mark]; rw [if_neg h1, if_neg h]
        rw [e]; rfl
theorem headD_take {s : List Nat} {n : Nat} (h : 1 ≤ n) : (s.take n).headD 0 = s.headD 0 := by
  cases s with
  | nil => simp
  | cons c t =>
    obtain ⟨q, rfl⟩ : ∃ q, n = q + 1 := ⟨n - 1, by omega⟩
    rfl
/-- a word by itself is that word -/
theorem word_take {s : List Nat} {w : Wd} (hb : ∀ c ∈ s, c < 256) (h0 : s ≠ []) (h : word s = .ok w) : word (s.take w.n) = .ok w := by
  obtain ⟨l1, l2, -⟩ := word_len hb h0 h
  have e1 := headD_take (s := s) l1
  unfold word at h ⊢
  rw [e1]
  by_cases c1 : (small (s.headD 0) || capital (s.headD 0)) = true
  · rw [if_pos c1] at h ⊢
    by_cases c2 : 32 < run goes s
    · rw [if_pos c2] at h; simp at h
    · rw [if_neg c2] at h
      simp only [Rw.ok.injEq] at h
      subst h
      simp only
      have e2 : run goes (s.take (run goes s)) = run goes s := by rw [run_take]; omega
      rw [e2, if_neg c2]
  · rw [if_neg c1] at h ⊢
    by_cases c2 : digit (s.headD 0) = true
    · rw [if_pos c2] at h ⊢
      by_cases c3 : (1 < run digit s ∧ s.headD 0 = 48) ∨ 2147483647 < numv (s.take (run digit s)) ∨ run digit s < run goes s
      · rw [if_pos c3] at h; simp at h
      · rw [if_neg c3] at h
        simp only [Rw.ok.injEq] at h
        subst h
        simp only
        have e2 : run digit (s.take (run digit s)) = run digit s := by rw [run_take]; omega
        have e3 : run goes (s.take (run digit s)) = min (run digit s) (run goes s) := run_take _ _ _
        rw [e2, e3, List.take_take, Nat.min_self, if_neg (by omega)]
    · rw [if_neg c2] at h ⊢
      by_cases c3 : s.headD 0 = 34
      · rw [if_pos c3] at h ⊢
        cases hq : quo s with
        | none => rw [hq] at h; simp at h
        | some p =>
          obtain ⟨l, m⟩ := p
          rw [hq] at h
          simp only [Rw.ok.injEq] at h
          subst h
          simp only
          rw [quo_take hb hq]
      · rw [if_neg c3] at h ⊢
        by_cases c4 : mark s = 0
        · rw [if_pos c4] at h; simp at h
        · rw [if_neg c4] at h
          simp only [Rw.ok.injEq] at h
          subst h
          simp only
          rw [mark_take, if_neg c4]
/-- a word of a text by itself -/
theorem alone {s : List Nat} {w : Wd} (hb : ∀ c ∈ s, c < 256) (h0 : s ≠ []) (hsk : skipN false s = 0) (hl : s.length ≤ 65536) (h : word s = .ok w) :
    tokens (s.take w.n) = [⟨w.kind, s.take w.n, w.vk, w.num, w.sym, 1, 1⟩] ∧ fault (s.take w.n) = (0, 0, 0) := by
  obtain ⟨l1, l2, -⟩ := word_len hb h0 h
  have hw := word_take hb h0 h
  have hlen : (s.take w.n).length = w.n := by rw [List.length_take]; omega
  generalize hu : s.take w.n = u at *
  have hu0 : u ≠ [] := by rintro rfl; simp at hlen; omega
  have hsu : skipN false u = 0 := by
    cases s with
    | nil => simp at h0
    | cons c t =>
      obtain ⟨q, hq⟩ : ∃ q, w.n = q + 1 := ⟨w.n - 1, by omega⟩
      rw [hq, List.take_succ_cons] at hu
      subst hu
      unfold skipN at hsk ⊢
      simp only at hsk ⊢
      by_cases hh : (!(if c = 35 then true else if c = 10 then false else false) && !blank c) = true
      · rw [if_pos hh]
      · rw [if_neg hh] at hsk; simp at hsk
  have hks : (start u).skip = start u := by
    unfold St.skip
    rw [show (start u).s = u from rfl, hsu]
    rfl
  have n1 : next (start u) = ({ start u with s := [], pos := adv (1, 1) u, fin := adv (1, 1) u }, some ⟨w.kind, u, w.vk, w.num, w.sym, 1, 1⟩) := by
    unfold next
    have c1 : (start u).long = false := by simp [start]; omega
    rw [if_neg (by simp [start]), c1]
    simp only [Bool.false_eq_true, if_false]
    rw [hks, show (start u).s = u from rfl, if_neg hu0, hw]
    simp only
    rw [← hlen, List.drop_length, List.take_length]
    rfl
  have n2 : ∀ x : St, x.s = [] → x.code = 0 → x.long = false → next x = (x, none) := by
    intro x hx hc hl
    have hk : x.skip = x := by
      unfold St.skip
      rw [hx]
      simp only [skipN, List.drop_nil, List.take_nil, adv]
      cases x; simp at hx; subst hx; rfl
    unfold next
    rw [if_neg (by omega), hl]
    simp only [Bool.false_eq_true, if_false]
    rw [hk, if_pos hx]
  have hg : given u = ([⟨w.kind, u, w.vk, w.num, w.sym, 1, 1⟩], { start u with s := [], pos := adv (1, 1) u, fin := adv (1, 1) u }) := by
    unfold given
    obtain ⟨q, hq⟩ : ∃ q, u.length = q + 1 := ⟨u.length - 1, by omega⟩
    rw [hq, allF, n1]
    simp only
    rw [allF, n2 _ rfl rfl (by simp [start]; omega)]
  unfold tokens fault
  rw [hg]
  exact ⟨rfl, rfl⟩

/-- is nothing there but blanks and remarks? -/
def bare : Bool → List Nat → Bool
  | _, [] => true
  | r, c :: t => if c = 10 then bare false t else if c = 35 then bare true t else if !r && (c != 32 && (c != 9 && c != 13)) then false else bare r t
theorem bare_skip : ∀ (s : List Nat) (r : Bool), bare r (s.take (skipN r s)) = true
  | [], r => by simp [skipN, bare]
  | c :: t, r => by
    unfold skipN
    simp only
    by_cases h10 : c = 10
    · subst h10
      have := bare_skip t false
      simp [blank, bare, this]
    · by_cases h35 : c = 35
      · subst h35
        have := bare_skip t true
        simp [bare, this]
      · simp only [if_neg h10, if_neg h35]
        have ih := bare_skip t r
        by_cases hb : (!r && !blank c) = true
        · rw [if_pos hb]; rfl
        · rw [if_neg hb, List.take_succ_cons]
          unfold bare
          rw [if_neg h10, if_neg h35, if_neg ?_]
          · exact ih
          · intro h
            apply hb
            simp only [Bool.and_eq_true, Bool.not_eq_true', bne_iff_ne] at h ⊢
            refine ⟨h.1, ?_⟩
            simp [blank, h.2, h10]

/-- the place goes on with every byte -/
theorem adv_past : ∀ (l : List Nat) (p : Nat × Nat), l ≠ [] → p.1 < (adv p l).1 ∨ (p.1 = (adv p l).1 ∧ p.2 < (adv p l).2)
  | [], p, h => by simp at h
  | c :: t, p, _ => by
    unfold adv
    have key : ∀ q : Nat × Nat, (p.1 < q.1 ∨ (p.1 = q.1 ∧ p.2 < q.2)) → p.1 < (adv q t).1 ∨ (p.1 = (adv q t).1 ∧ p.2 < (adv q t).2) := by
      intro q hq
      cases t with
      | nil => exact hq
      | cons d u =>
        have := adv_past (d :: u) q (by simp)
        omega
    by_cases h : c = 10
    · rw [if_pos h]; exact key _ (by simp)
    · rw [if_neg h]; exact key _ (by simp)
theorem adv_ne (s : List Nat) (p : Nat × Nat) {j g : Nat} (hj : j < g) (hg : g ≤ s.length) : adv p (s.take j) ≠ adv p (s.take g) := by
  have e : s.take g = s.take j ++ (s.drop j).take (g - j) := by
    rw [← List.take_add]
    congr 1; omega
  rw [e, adv_append]
  intro h
  have hne : (s.drop j).take (g - j) ≠ [] := by
    intro h0
    have := congrArg List.length h0
    simp at this
    omega
  have := adv_past _ (adv p (s.take j)) hne
  rw [← h] at this
  omega

/-- what is left of a text that has its words: either blanks and remarks, or blanks and remarks, a word, and what is left behind it -/
theorem stands {k : Nat} {x : St} (hb : ∀ c ∈ x.s, c < 256) (hl : x.s.length ≤ 65536) (hk : x.s.length < k + 1) (hc : (allF (k + 1) x).2.code = 0) :
    ((allF (k + 1) x).1 = [] ∧ bare false x.s = true) ∨
    ∃ (g n : Nat) (t : Tok) (y : St), (allF (k + 1) x).1 = t :: (allF k y).1 ∧ (allF k y).2.code = 0 ∧ y.s.length < k ∧ (∀ c ∈ y.s, c < 256) ∧
      g + n ≤ x.s.length ∧ 1 ≤ n ∧ bare false (x.s.take g) = true ∧ t.text = (x.s.drop g).take n ∧ t.text.length = n ∧ y.s = x.s.drop (g + n) ∧ (t.line, t.col) = adv x.pos (x.s.take g) ∧ y.pos = adv (adv x.pos (x.s.take g)) t.text ∧
      tokens t.text = [{ t with line := 1, col := 1 }] ∧ fault t.text = (0, 0, 0) := by
  rw [allF] at hc ⊢
  cases hn : next x with
  | mk y o =>
    rw [hn] at hc
    unfold next at hn
    by_cases h1 : x.code ≠ 0
    · rw [if_pos h1] at hn
      simp only [Prod.mk.injEq] at hn
      obtain ⟨rfl, rfl⟩ := hn
      exact absurd hc h1
    · rw [if_neg h1] at hn
      cases h2 : x.long with
      | true =>
        rw [h2] at hn
        simp only [if_true, Prod.mk.injEq] at hn
        obtain ⟨rfl, rfl⟩ := hn
        simp at hc
      | false =>
        rw [h2] at hn
        simp only [Bool.false_eq_true, if_false] at hn
        have hsl := skipN_le false x.s
        by_cases h3 : x.skip.s = []
        · rw [if_pos h3] at hn
          simp only [Prod.mk.injEq] at hn
          obtain ⟨rfl, rfl⟩ := hn
          refine .inl ⟨rfl, ?_⟩
          have h5 : (x.s.drop (skipN false x.s)).length = 0 := by
            have : x.s.drop (skipN false x.s) = [] := h3
            rw [this]; rfl
          rw [List.length_drop] at h5
          have := bare_skip x.s false
          rwa [List.take_of_length_le (by omega)] at this
        · rw [if_neg h3] at hn
          have hbs : ∀ c ∈ x.skip.s, c < 256 := fun c hc => hb c (List.mem_of_mem_drop hc)
          cases hw : word x.skip.s with
          | bad e =>
            rw [hw] at hn
            simp only [Prod.mk.injEq] at hn
            obtain ⟨rfl, rfl⟩ := hn
            exfalso
            have : 30 ≤ e := by
              unfold word at hw
              repeat' (split at hw)
              all_goals first | (simp at hw; omega) | simp at hw
            simp at hc; omega
          | ok w =>
            rw [hw] at hn
            simp only [Prod.mk.injEq] at hn
            obtain ⟨rfl, rfl⟩ := hn
            obtain ⟨l1, l2, -⟩ := word_len hbs h3 hw
            have hll : x.skip.s.length = x.s.length - skipN false x.s := by simp [St.skip]
            have hal := alone hbs h3 (skip_done' x.s) (by omega) hw
            refine .inr ⟨skipN false x.s, w.n, _, _, rfl, hc, ?_, fun c hc => hbs c (List.mem_of_mem_drop hc), by omega, l1, bare_skip _ _, rfl, ?_, ?_, rfl, rfl, hal.1, hal.2⟩
            · simp only [List.length_drop]; omega
            · simp only [List.length_take]; omega
            · simp only [St.skip, List.drop_drop]
end Go.Proofs.YtppigckioalhhaaGreatDoorR.Lx
/- PLAIN: a text's words with their places; a text that is cut off. No program (of the machine) in sight. -/
namespace Go.Proofs.YtppigckioalhhaaGreatDoorR.Lx
set_option linter.unusedSimpArgs false
set_option linter.unusedVariables false

theorem skip_take : ∀ (s : List Nat) (b : Bool) (k : Nat), skipN b (s.take k) = min k (skipN b s)
  | [], b, k => by simp [skipN]
  | c :: t, b, 0 => by simp [skipN]
  | c :: t, b, k + 1 => by
    rw [List.take_succ_cons]
    unfold skipN
    simp only
    rw [skip_take t _ k]
    generalize (if c = 35 then true else if c = 10 then false else b) = b'
    by_cases h : (!b' && !blank c) = true
    · rw [if_pos h, if_pos h]; omega
    · rw [if_neg h, if_neg h]; omega
theorem word_takeN {s : List Nat} {w : Wd} (hb : ∀ c ∈ s, c < 256) (h0 : s ≠ []) (h : word s = .ok w) (k : Nat) (hk : w.n ≤ k) : word (s.take k) = .ok w := by
  obtain ⟨l1, l2, -⟩ := word_len hb h0 h
  have e1 := headD_take (s := s) (n := k) (by omega)
  unfold word at h ⊢
  rw [e1]
  by_cases c1 : (small (s.headD 0) || capital (s.headD 0)) = true
  · rw [if_pos c1] at h ⊢
    by_cases c2 : 32 < run goes s
    · rw [if_pos c2] at h; simp at h
    · rw [if_neg c2] at h
      simp only [Rw.ok.injEq] at h
      subst h
      simp only at hk
      have e2 : run goes (s.take k) = run goes s := by rw [run_take]; omega
      rw [e2, if_neg c2]
  · rw [if_neg c1] at h ⊢
    by_cases c2 : digit (s.headD 0) = true
    · rw [if_pos c2] at h ⊢
      by_cases c3 : (1 < run digit s ∧ s.headD 0 = 48) ∨ 2147483647 < numv (s.take (run digit s)) ∨ run digit s < run goes s
      · rw [if_pos c3] at h; simp at h
      · rw [if_neg c3] at h
        simp only [Rw.ok.injEq] at h
        subst h
        simp only at hk
        have e2 : run digit (s.take k) = run digit s := by rw [run_take]; omega
        have e3 : run goes (s.take k) = min k (run goes s) := run_take _ _ _
        rw [e2, e3, List.take_take, show min (run digit s) k = run digit s by omega, if_neg (by omega)]
    · rw [if_neg c2] at h ⊢
      by_cases c3 : s.headD 0 = 34
      · rw [if_pos c3] at h ⊢
        cases hq : quo s with
        | none => rw [hq] at h; simp at h
        | some p =>
          obtain ⟨l, m⟩ := p
          rw [hq] at h
          simp only [Rw.ok.injEq] at h
          subst h
          simp only at hk l2
          have h1 := quo_take hb hq
          have h2 := quo_join (fun c hc => hb c (List.mem_of_mem_take hc)) h1 ((s.drop m).take (k - m))
          rw [← List.take_add, show m + (k - m) = k by omega] at h2
          rw [h2]
      · rw [if_neg c3] at h ⊢
        by_cases c4 : mark s = 0
        · rw [if_pos c4] at h; simp at h
        · rw [if_neg c4] at h
          simp only [Rw.ok.injEq] at h
          subst h
          simp only at hk
          have : mark (s.take k) = mark s := by
            match s, h0, k, hk with
            | [a], _, k, hk =>
              rw [List.take_of_length_le (by simp; simp at l1; omega)]
            | a :: b :: t, _, 0, hk => simp at l1; omega
            | a :: b :: t, _, 1, hk =>
              have : mark (a :: b :: t) = 1 := by omega
              have h1 : two a b = false := by
                cases ht : two a b with
                | false => rfl
                | true => simp [mark, ht] at this
              simp only [mark, h1] at this
              have h2 : ones.contains a = true := by
                cases ho : ones.contains a with
                | true => rfl
                | false => rw [ho] at this; simp at this
              simp only [List.take_succ_cons, List.take_zero, mark, h1, h2]
              rfl
            | a :: b :: t, _, k + 2, hk => simp [mark]
          rw [this, if_neg c4]
/-- s, that begins at place p, begins with the words l; what is left, and its place -/
inductive Sq : List Nat → Nat × Nat → List Tok → List Nat → Nat × Nat → Prop
  | nil (s : List Nat) (p : Nat × Nat) : Sq s p [] s p
  | word {s : List Nat} {p : Nat × Nat} {u : List Nat} {w : Wd} {l : List Tok} {r : List Nat} {q : Nat × Nat} (hs : s.drop (skipN false s) = u) (h0 : u ≠ []) (hw : word u = .ok w)
      (h : Sq (u.drop w.n) (adv (adv p (s.take (skipN false s))) (u.take w.n)) l r q) :
      Sq s p (⟨w.kind, u.take w.n, w.vk, w.num, w.sym, (adv p (s.take (skipN false s))).1, (adv p (s.take (skipN false s))).2⟩ :: l) r q
theorem Sq.trans {a b c : List Nat} {p q o : Nat × Nat} {l m : List Tok} (h : Sq a p l b q) (k : Sq b q m c o) : Sq a p (l ++ m) c o := by
  induction h with
  | nil s p => exact k
  | word hs h0 hw h ih => exact .word hs h0 hw (ih k)
theorem Sq.split {c : List Nat} {o : Nat × Nat} (m : List Tok) : ∀ {l : List Tok} {a : List Nat} {p : Nat × Nat}, Sq a p (l ++ m) c o → ∃ b q, Sq a p l b q ∧ Sq b q m c o
  | [], a, p, h => ⟨a, p, .nil a p, h⟩
  | t :: l, a, p, h => by
    rw [List.cons_append] at h
    generalize hx : t :: (l ++ m) = x at h
    cases h with
    | nil => cases hx
    | word hs h0 hw h =>
      simp only [List.cons.injEq] at hx
      obtain ⟨rfl, hx⟩ := hx
      subst hx
      obtain ⟨b, q, h1, h2⟩ := Sq.split m h
      exact ⟨b, q, .word hs h0 hw h1, h2⟩
theorem Sq.suf {s r : List Nat} {p q : Nat × Nat} {l : List Tok} (h : Sq s p l r q) : ∃ a, s = a ++ r ∧ q = adv p a := by
  induction h with
  | nil s p => exact ⟨[], rfl, rfl⟩
  | @word s p u w l r q hs h0 hw h ih =>
    obtain ⟨a, h1, h2⟩ := ih
    refine ⟨s.take (skipN false s) ++ (u.take w.n ++ a), ?_, ?_⟩
    · rw [List.append_assoc, List.append_assoc, ← h1, List.take_append_drop, ← hs, List.take_append_drop]
    · rw [adv_append, adv_append, h2]
/-- nothing but blanks and remarks -/
def Bl (s : List Nat) : Prop := s.drop (skipN false s) = []
theorem sq_of_all : ∀ (k : Nat) (x : St), (∀ c ∈ x.s, c < 256) → x.s.length < k → (allF k x).2.code = 0 → ∃ r q, Sq x.s x.pos (allF k x).1 r q ∧ Bl r
  | 0, x, _, h, _ => by omega
  | k + 1, x, hb, hk, hc => by
    rw [allF] at hc ⊢
    cases hn : next x with
    | mk y o =>
      rw [hn] at hc
      unfold next at hn
      by_cases h1 : x.code ≠ 0
      · rw [if_pos h1] at hn
        simp only [Prod.mk.injEq] at hn
        obtain ⟨rfl, rfl⟩ := hn
        exact absurd hc h1
      · rw [if_neg h1] at hn
        cases h2 : x.long with
        | true =>
          rw [h2] at hn
          simp only [if_true, Prod.mk.injEq] at hn
          obtain ⟨rfl, rfl⟩ := hn
          simp at hc
        | false =>
          rw [h2] at hn
          simp only [Bool.false_eq_true, if_false] at hn
          by_cases h3 : x.skip.s = []
          · rw [if_pos h3] at hn
            simp only [Prod.mk.injEq] at hn
            obtain ⟨rfl, rfl⟩ := hn
            exact ⟨x.s, x.pos, .nil _ _, h3⟩
          · rw [if_neg h3] at hn
            have hbs : ∀ c ∈ x.skip.s, c < 256 := fun c hc => hb c (List.mem_of_mem_drop hc)
            cases hw : word x.skip.s with
            | bad e =>
              rw [hw] at hn
              simp only [Prod.mk.injEq] at hn
              obtain ⟨rfl, rfl⟩ := hn
              exfalso
              have : 30 ≤ e := by
                unfold word at hw
                repeat' (split at hw)
                all_goals first | (simp at hw; omega) | simp at hw
              simp at hc; omega
            | ok w =>
              rw [hw] at hn
              simp only [Prod.mk.injEq] at hn
              obtain ⟨rfl, rfl⟩ := hn
              obtain ⟨l1, l2, -⟩ := word_len hbs h3 hw
              have hll : x.skip.s.length = x.s.length - skipN false x.s := by simp [St.skip]
              obtain ⟨r, q, h4, h5⟩ := sq_of_all k _ (fun c hc => hbs c (List.mem_of_mem_drop hc)) (by simp only [List.length_drop]; omega) hc
              exact ⟨r, q, Sq.word (s := x.s) (p := x.pos) (u := x.skip.s) rfl h3 hw h4, h5⟩
theorem all_of_sq {s r : List Nat} {p q : Nat × Nat} {l : List Tok} (h : Sq s p l r q) : ∀ (x : St) (k : Nat), x.s = s → x.pos = p → x.code = 0 → x.long = false → l.length < k → Bl r → ∃ y, allF k x = (l, y) ∧ y.code = 0 := by
  induction h with
  | nil s p =>
    intro x k hx hp hc hl hk hb
    obtain ⟨k, rfl⟩ : ∃ m, k = m + 1 := ⟨k - 1, by omega⟩
    have hn : next x = (x.skip, none) := by
      unfold next
      rw [if_neg (by omega), hl]
      have : x.skip.s = [] := by unfold St.skip; rw [hx]; exact hb
      rw [if_pos this]
      rfl
    exact ⟨x.skip, by rw [allF, hn], hc⟩
  | @word s p u w l r q hs h0 hw h ih =>
    intro x k hx hp hc hl hk hb
    obtain ⟨k, rfl⟩ : ∃ m, k = m + 1 := ⟨k - 1, by rw [List.length_cons] at hk; omega⟩
    have e1 : x.skip.s = u := by unfold St.skip; rw [hx]; exact hs
    have e2 : x.skip.pos = adv p (s.take (skipN false s)) := by unfold St.skip; rw [hx, hp]
    have hn : next x = ({ x.skip with s := u.drop w.n, pos := adv x.skip.pos (u.take w.n), fin := adv x.skip.pos (u.take w.n) }, some ⟨w.kind, u.take w.n, w.vk, w.num, w.sym, x.skip.pos.1, x.skip.pos.2⟩) := by
      unfold next
      rw [if_neg (by omega), hl, e1, if_neg h0, hw]
      rfl
    obtain ⟨y, h1, h2⟩ := ih { x.skip with s := u.drop w.n, pos := adv x.skip.pos (u.take w.n), fin := adv x.skip.pos (u.take w.n) } k rfl (by rw [e2]) hc hl (by simpa using hk) hb
    refine ⟨y, ?_, h2⟩
    rw [allF, hn]
    simp only
    rw [h1, e2]
theorem Sq.len {s r : List Nat} {p q : Nat × Nat} {l : List Tok} (h : Sq s p l r q) (hb : ∀ c ∈ s, c < 256) : l.length + r.length ≤ s.length := by
  induction h with
  | nil s p => simp
  | @word s p u w l r q hs h0 hw h ih =>
    have hu : ∀ c ∈ u, c < 256 := fun c hc => hb c (by rw [← hs] at hc; exact List.mem_of_mem_drop hc)
    obtain ⟨l1, l2, -⟩ := word_len hu h0 hw
    have := ih (fun c hc => hu c (List.mem_of_mem_drop hc))
    have hul : u.length ≤ s.length := by rw [← hs, List.length_drop]; omega
    rw [List.length_drop] at this
    rw [List.length_cons]
    omega
theorem given_of_sq {s r : List Nat} {q : Nat × Nat} {l : List Tok} (h : Sq s (1, 1) l r q) (hb : ∀ c ∈ s, c < 256) (hr : Bl r) (hl : s.length ≤ 65536) : (given s).1 = l ∧ (given s).2.code = 0 := by
  have := h.len hb
  obtain ⟨y, h1, h2⟩ := all_of_sq h (start s) (s.length + 1) rfl rfl rfl (by simp [start]; omega) (by omega) hr
  unfold given
  rw [h1]
  exact ⟨rfl, h2⟩
theorem sq_of_given {s : List Nat} (hb : ∀ c ∈ s, c < 256) (hc : (given s).2.code = 0) : ∃ r q, Sq s (1, 1) (given s).1 r q ∧ Bl r :=
  sq_of_all (s.length + 1) (start s) hb (by simp [start]) hc
theorem given_long {s : List Nat} (hc : (given s).2.code = 0) : s.length ≤ 65536 := by
  refine Nat.le_of_not_lt fun h => ?_
  have : (given s).2.code = 2 := by
    unfold given
    have hn : next (start s) = ({ start s with code := 2 }, none) := by
      unfold next
      rw [if_neg (by simp [start]), if_pos (by simp [start]; omega)]
    rw [allF, hn]
  omega
/-- cut off behind the words -/
theorem Sq.take {s r : List Nat} {p q : Nat × Nat} {l : List Tok} (h : Sq s p l r q) : ∀ (hb : ∀ c ∈ s, c < 256) (j : Nat), Sq (s.take (s.length - r.length + j)) p l (r.take j) q := by
  induction h with
  | nil s p =>
    intro hb j
    rw [show s.length - s.length + j = j by omega]
    exact .nil _ _
  | @word s p u w l r q hs h0 hw h ih =>
    intro hb j
    have hu : ∀ c ∈ u, c < 256 := fun c hc => hb c (by rw [← hs] at hc; exact List.mem_of_mem_drop hc)
    obtain ⟨l1, l2, -⟩ := word_len hu h0 hw
    have hd : ∀ c ∈ u.drop w.n, c < 256 := fun c hc => hu c (List.mem_of_mem_drop hc)
    have ih := ih hd j
    have hlen := h.len hd
    rw [List.length_drop] at hlen
    have hul : u.length = s.length - skipN false s := by rw [← hs, List.length_drop]
    have hsk := skipN_le false s
    have hul0 : 0 < u.length := List.length_pos_iff.2 h0
    generalize hJ : s.length - r.length + j = J
    have hJ2 : skipN false s + w.n ≤ J := by omega
    have hsk2 : skipN false (s.take J) = skipN false s := by rw [skip_take]; omega
    have e1 : (s.take J).drop (skipN false (s.take J)) = u.take (J - skipN false s) := by rw [hsk2, List.drop_take, hs]
    have e2 : (s.take J).take (skipN false (s.take J)) = s.take (skipN false s) := by rw [hsk2, List.take_take, show min (skipN false s) J = skipN false s by omega]
    have e3 : (u.take (J - skipN false s)).take w.n = u.take w.n := by rw [List.take_take, show min w.n (J - skipN false s) = w.n by omega]
    have e4 : (u.take (J - skipN false s)).drop w.n = (u.drop w.n).take ((u.drop w.n).length - r.length + j) := by
      rw [List.drop_take, List.length_drop]
      congr 1
      omega
    have := Sq.word (s := s.take J) (p := p) (l := l) (r := r.take j) (q := q) e1 (by
      intro h5
      have := congrArg List.length h5
      rw [List.length_take, List.length_nil] at this
      omega) (word_takeN hu h0 hw _ (by omega)) (by rw [e2, e3, e4]; exact ih)
    rw [e2, e3] at this
    exact this
/-- at another place the words are the same but for their places -/
theorem Sq.place {s r : List Nat} {p q : Nat × Nat} {l : List Tok} (h : Sq s p l r q) : ∀ p', ∃ l' q', Sq s p' l' r q' ∧ l'.map (fun t => (t.kind, t.text, t.vk, t.num, t.sym)) = l.map (fun t => (t.kind, t.text, t.vk, t.num, t.sym)) := by
  induction h with
  | nil s p => exact fun p' => ⟨[], p', .nil _ _, rfl⟩
  | word hs h0 hw h ih =>
    intro p'
    obtain ⟨l', q', h1, h2⟩ := ih (adv (adv p' _) _)
    exact ⟨_, q', .word hs h0 hw h1, by simp [h2]⟩

theorem quoF_line : ∀ (k : Nat) (s acc : List Nat) (n : Nat) (l : List Nat) (m : Nat), (∀ c ∈ s, c < 256) → quoF k s acc n = some (l, m) → 10 ∉ s.take (m - n) ∧ n ≤ m
  | 0, _, _, _, _, _, _, h => by simp [quoF] at h
  | k + 1, [], _, _, _, _, _, h => by simp [quoF] at h
  | k + 1, c :: r, acc, n, l, m, hs, h => by
    have hr : ∀ c ∈ r, c < 256 := fun x hx => hs x (by simp [hx])
    unfold quoF at h
    by_cases h1 : c = 34
    · rw [if_pos h1] at h
      split at h
      · simp at h
      · simp at h
        obtain ⟨rfl, rfl⟩ := h
        rw [show n + 1 - n = 1 by omega]
        subst h1
        simp
    · rw [if_neg h1] at h
      by_cases h2 : c = 10
      · rw [if_pos h2] at h; simp at h
      · rw [if_neg h2] at h
        by_cases h3 : c = 92
        · rw [if_pos h3] at h
          cases he : esc r with
          | none => rw [he] at h; simp at h
          | some p =>
            obtain ⟨b, m'⟩ := p
            rw [he] at h
            simp only at h
            obtain ⟨e1, e2, -⟩ := esc_len hr he
            obtain ⟨i1, i2⟩ := quoF_line k _ _ _ l m (fun c hc => hr c (List.mem_of_mem_drop hc)) h
            have he10 : 10 ∉ r.take m' := by
              unfold esc at he
              split at he
              · simp at he
              · rename_i d t
                split at he
                · simp at he
                  obtain ⟨-, rfl⟩ := he
                  simp; omega
                · split at he
                  · simp at he
                    obtain ⟨-, rfl⟩ := he
                    simp; omega
                  · split at he
                    · split at he
                      · rename_i a b' t'
                        split at he
                        · rename_i x y hx hy
                          simp at he
                          obtain ⟨-, rfl⟩ := he
                          have ha : a ≠ 10 := by rintro rfl; simp [hexv] at hx
                          have hb' : b' ≠ 10 := by rintro rfl; simp [hexv] at hy
                          simp; omega
                        · simp at he
                      · simp at he
                    · simp at he
            refine ⟨?_, by omega⟩
            rw [show m - n = (m' + (m - (n + 1 + m'))) + 1 by omega, List.take_succ_cons, List.take_add]
            simp only [List.mem_cons, List.mem_append, not_or]
            exact ⟨by omega, he10, i1⟩
        · rw [if_neg h3] at h
          obtain ⟨i1, i2⟩ := quoF_line k _ _ _ l m hr h
          refine ⟨?_, by omega⟩
          rw [show m - n = (m - (n + 1)) + 1 by omega, List.take_succ_cons]
          simp only [List.mem_cons, not_or]
          exact ⟨by omega, i1⟩
theorem run_all (p : Nat → Bool) (s : List Nat) : ∀ c ∈ s.take (run p s), p c = true := by
  unfold run
  induction s with
  | nil => simp
  | cons c t ih =>
    rw [List.takeWhile_cons]
    split
    · rename_i hc
      intro d hd
      simp only [List.length_cons, List.take_succ_cons, List.mem_cons] at hd
      rcases hd with rfl | hd
      · exact hc
      · exact ih d hd
    · simp
/-- no line ends within a word -/
theorem word_line {s : List Nat} {w : Wd} (hb : ∀ c ∈ s, c < 256) (h0 : s ≠ []) (h : word s = .ok w) : 10 ∉ s.take w.n := by
  unfold word at h
  split at h
  · split at h
    · simp at h
    · simp at h; subst h
      intro hc
      exact absurd (run_all goes s 10 hc) (by decide)
  · split at h
    · split at h
      · simp at h
      · simp at h; subst h
        intro hc
        exact absurd (run_all digit s 10 hc) (by decide)
    · split at h
      · split at h
        · simp at h
        · rename_i sym n hq
          simp at h; subst h
          simp only
          cases s with
          | nil => simp at h0
          | cons c r =>
            rename_i h34
            simp at h34
            have := quoF_line _ _ _ _ _ _ (fun c hc => hb c (List.mem_of_mem_drop hc)) hq
            simp only [List.drop_succ_cons, List.drop_zero] at this
            rw [show n = (n - 1) + 1 by omega, List.take_succ_cons]
            simp only [List.mem_cons, not_or]
            exact ⟨by omega, this.1⟩
      · split at h
        · simp at h
        · rename_i hm
          simp at h; subst h
          simp only
          match s, h0, hm with
          | [a], _, hm =>
            by_cases ho : ones.contains a = true
            · have e : mark [a] = 1 := by simp only [mark]; rw [if_pos ho]
              rw [e]
              simp only [List.take_succ_cons, List.take_nil, List.mem_singleton]
              rintro rfl
              exact absurd ho (by decide)
            · exact absurd (by simp only [mark]; rw [if_neg ho]) hm
          | a :: b :: t, _, hm =>
            by_cases ht : two a b = true
            · have e : mark (a :: b :: t) = 2 := by simp only [mark]; rw [if_pos ht]
              rw [e]
              simp only [List.take_succ_cons, List.take_zero]
              simp only [two, Bool.or_eq_true, Bool.and_eq_true, beq_iff_eq] at ht
              simp
              omega
            · by_cases ho : ones.contains a = true
              · have e : mark (a :: b :: t) = 1 := by simp only [mark]; rw [if_neg ht, if_pos ho]
                rw [e]
                simp only [List.take_succ_cons, List.take_zero, List.mem_singleton]
                rintro rfl
                exact absurd ho (by decide)
              · exact absurd (by simp only [mark]; rw [if_neg ht, if_neg ho]) hm
theorem adv_flat : ∀ (l : List Nat) (p : Nat × Nat), 10 ∉ l → adv p l = (p.1, p.2 + l.length)
  | [], p, _ => rfl
  | c :: t, p, h => by
    simp only [List.mem_cons, not_or] at h
    rw [adv, if_neg (fun e => h.1 e.symm), adv_flat t _ h.2, List.length_cons]
    simp
    omega
/-- a name begins with a small letter -/
theorem word_name {s : List Nat} {w : Wd} (h : word s = .ok w) (hk : w.kind = 1) : small (s.headD 0) = true := by
  unfold word at h
  split at h
  · rename_i hc
    split at h
    · simp at h
    · simp at h; subst h
      simp only at hk
      rw [Bool.or_eq_true] at hc
      rcases hc with hc | hc
      · exact hc
      · simp at hk hc; simp [hc] at hk
  · split at h
    · split at h <;> simp at h
      subst h; simp at hk
    · split at h
      · split at h <;> simp at h
        subst h; simp at hk
      · split at h <;> simp at h
        subst h; simp at hk

/-- how many bytes stand ahead of a line, so many lines on -/
def offF : List Nat → Nat → Nat
  | [], _ => 0
  | _, 0 => 0
  | c :: r, m + 1 => 1 + offF r (if c = 10 then m else m + 1)
theorem offF_zero (s : List Nat) : offF s 0 = 0 := by cases s <;> rfl
theorem adv_line : ∀ (s : List Nat) (p : Nat × Nat), p.1 ≤ (adv p s).1
  | [], p => Nat.le_refl _
  | c :: t, p => by
    unfold adv
    split
    · have := adv_line t (p.1 + 1, 1); simp at this; omega
    · have := adv_line t (p.1, p.2 + 1); simpa using this
theorem off_adv : ∀ (s : List Nat) (p : Nat × Nat) (g : Nat), g ≤ s.length → 1 ≤ p.2 →
    (p.1 = (adv p (s.take g)).1 → (adv p (s.take g)).2 = p.2 + g) ∧ (p.1 < (adv p (s.take g)).1 → offF s ((adv p (s.take g)).1 - p.1) + (adv p (s.take g)).2 = g + 1)
  | s, p, 0, _, _ => by simp [adv]
  | [], p, g + 1, h, _ => by simp at h
  | c :: t, p, g + 1, h, hp => by
    rw [List.take_succ_cons]
    unfold adv
    by_cases hc : c = 10
    · rw [if_pos hc]
      obtain ⟨h1, h2⟩ := off_adv t (p.1 + 1, 1) g (by simpa using h) (Nat.le_refl _)
      have h3 := adv_line (t.take g) (p.1 + 1, 1)
      simp only at h1 h2 h3
      refine ⟨fun e => by omega, fun e => ?_⟩
      obtain ⟨d, hd⟩ : ∃ d, (adv (p.1 + 1, 1) (t.take g)).1 - p.1 = d + 1 := ⟨(adv (p.1 + 1, 1) (t.take g)).1 - p.1 - 1, by omega⟩
      rw [hd, offF, if_pos hc]
      by_cases h4 : p.1 + 1 = (adv (p.1 + 1, 1) (t.take g)).1
      · have := h1 h4
        have hd0 : d = 0 := by omega
        rw [hd0, offF_zero]
        omega
      · have := h2 (by omega)
        rw [show (adv (p.1 + 1, 1) (t.take g)).1 - (p.1 + 1) = d by omega] at this
        omega
    · rw [if_neg hc]
      obtain ⟨h1, h2⟩ := off_adv t (p.1, p.2 + 1) g (by simpa using h) (by simp)
      simp only at h1 h2
      refine ⟨fun e => by rw [h1 e]; omega, fun e => ?_⟩
      have := h2 e
      obtain ⟨d, hd⟩ : ∃ d, (adv (p.1, p.2 + 1) (t.take g)).1 - p.1 = d + 1 := ⟨(adv (p.1, p.2 + 1) (t.take g)).1 - p.1 - 1, by omega⟩
      rw [hd] at this ⊢
      rw [offF, if_neg hc]
      omega
/-- where a place is -/
theorem off_place (s : List Nat) (g : Nat) (h : g ≤ s.length) : offF s ((adv (1, 1) (s.take g)).1 - 1) + (adv (1, 1) (s.take g)).2 = g + 1 := by
  obtain ⟨h1, h2⟩ := off_adv s (1, 1) g h (Nat.le_refl _)
  have h3 := adv_line (s.take g) (1, 1)
  simp only at h1 h2 h3
  by_cases e : 1 = (adv (1, 1) (s.take g)).1
  · rw [← e, Nat.sub_self, offF_zero, h1 e]; omega
  · exact h2 (by omega)
end Go.Proofs.YtppigckioalhhaaGreatDoorR.Lx
/- THE LAWS: where a place lies in a text. -/
namespace Go.Proofs.YtppigckioalhhaaGreatDoorR
open Go.RowKit
set_option linter.unusedVariables false
set_option linter.unusedSimpArgs false
set_option maxRecDepth 100000

theorem offF_le : ∀ (l : List Nat) (m : Nat), Lx.offF l m ≤ l.length
  | [], m => by simp [Lx.offF]
  | c :: r, 0 => by simp [Lx.offF]
  | c :: r, m + 1 => by
    rw [Lx.offF, List.length_cons]
    have := offF_le r (if c = 10 then m else m + 1)
    omega
set_option maxHeartbeats 1000000 in
theorem offset_any (s : ByteArray) (hs : s.size ≤ 140737488355328) (ln cl : Nat) (h1 : 1 ≤ ln) (h2 : ln ≤ 140737488355328) (h3 : cl ≤ 140737488355328) (w : World) :
    Calls Tryz.prog 28 #[.string s, .agg #[.int .i64 (ln : Nat), .int .i64 (cl : Nat)]] w fun e w' => e = .returned (.int .i64 (((Lx.offF (Cod.str s) (ln - 1) : Nat) : Int) + (cl : Nat) - 1)) ∧ Mod [] w w' := by
  have hle := offF_le (Cod.str s) (ln - 1)
  rw [Cod.str_len] at hle
  generalize hQ : Lx.offF (Cod.str s) (ln - 1) = Q at *
  have HQ := Lib.hid hQ
  clear hQ
  have eA := heap_alloc_new w (Obj.cells #[.int .i64 (ln : Nat), .int .i64 (cl : Nat)] 29)
  have mA := Lib.hid ((Mod.refl [] w).alloc (Obj.cells #[.int .i64 (ln : Nat), .int .i64 (cl : Nat)] 29))
  go_enter Tryz.func28, Tryz.ntmps28
  go_upto_region 3 with fail
  generalize w.alloc (Obj.cells _ 29) = wA at *
  have c0 := cell_at eA 0
  have c1 := cell_at eA 1
  simp only [List.getElem?_toArray, List.getElem?_cons_zero, List.getElem?_cons_succ] at c0 c1
  clear eA
  go_loopw [5, 6] (fun lv iv wr => ∃ (m k : Nat), 1 ≤ m ∧ m ≤ ln ∧ k ≤ s.size ∧ lv = .int .i64 (m : Nat) ∧ iv = .int .i64 (k : Nat) ∧ Q = k + Lx.offF ((Cod.str s).drop k) (ln - m) ∧ wr = wA) (fun lv iv wr => s.size - (intOf iv).toNat)
  case atStart => exact ⟨1, 0, by omega, by omega, by omega, rfl, rfl, by rw [List.drop_zero, Nat.zero_add]; exact HQ.out.symm, rfl⟩
  case round =>
    obtain ⟨m, k, hm1, hm, hk, rfl, rfl, hq, rfl⟩ := hrel
    by_cases hlt : k < s.size
    · have hkI : (k : Int) < (s.size : Int) := by omega
      have hk0 : (0 : Int) ≤ (k : Int) := by omega
      by_cases hml : m < ln
      · have hmI : (m : Int) < (ln : Int) := by omega
        have hk2 : k < (Cod.str s).length := by rw [Cod.str_len]; exact hlt
        have hy0 : s[k].toNat = (Cod.str s)[k] := by
          have := Lx.get_str s k hlt
          rw [List.getD_eq_getElem?_getD, List.getElem?_eq_getElem hk2] at this
          exact this.symm
        obtain ⟨d, hd⟩ : ∃ d, ln - m = d + 1 := ⟨ln - m - 1, by omega⟩
        have e3 : (Cod.str s).drop k = (Cod.str s)[k] :: (Cod.str s).drop (k + 1) := List.drop_eq_getElem_cons hk2
        rw [e3, hd, Lx.offF] at hq
        by_cases hy : (Cod.str s)[k] = 10
        · have hyb : ((s[k].toNat : Int) == 10) = true := by rw [beq_iff_eq, hy0, hy]; rfl
          rw [if_pos hy] at hq
          have HH := Lib.hid hq
          have hd2 : ln - (m + 1) = d := by omega
          clear hq hy hy0 e3
          go_wp2_with fail
          go_roundw
          case rel => exact ⟨m + 1, k + 1, by omega, by omega, by omega, by go_num, by go_num, by rw [hd2]; have := HH.out; omega, trivial⟩
          case measure => simp [intOf]; omega
        · have hyb : ((s[k].toNat : Int) == 10) = false := by rw [beq_eq_false_iff_ne, hy0]; omega
          rw [if_neg hy] at hq
          have HH := Lib.hid hq
          clear hq hy hy0 e3
          go_wp2_with fail
          go_roundw
          case rel => exact ⟨m, k + 1, by omega, by omega, by omega, rfl, by go_num, by rw [hd]; have := HH.out; omega, trivial⟩
          case measure => simp [intOf]; omega
      · have hmI : ¬ (m : Int) < (ln : Int) := by omega
        rw [show ln - m = 0 by omega, Lx.offF_zero] at hq
        obtain rfl : Q = k := by omega
        clear hq
        go_wp2_with fail
        go_ret
        exact ⟨rfl, mA.out⟩
    · have hkI : ¬ (k : Int) < (s.size : Int) := by omega
      rw [List.drop_eq_nil_of_le (by rw [Cod.str_len]; omega), Lx.offF] at hq
      obtain rfl : Q = k := by omega
      clear hq
      go_wp2_with fail
      go_ret
      exact ⟨rfl, mA.out⟩
end Go.Proofs.YtppigckioalhhaaGreatDoorR
/- PLAIN: the parser on the first words of a text alone. No program (of the machine) in sight. -/
namespace Go.Proofs.YtppigckioalhhaaGreatDoorR.Sy
open Lx (Tok)
open Pr (Term Atom Ex Li Rul Rel Prog)
set_option linter.unusedVariables false
set_option linter.unusedSimpArgs false

/-- v' has v's first m words -/
structure Cut (v v' : Env) (m : Nat) : Prop where
  ws : v'.ws = v.ws.take m
  le : m ≤ v.ws.length
theorem Cut.len {v v' : Env} {m : Nat} (h : Cut v v' m) : v'.ws.length = m := by rw [h.ws, List.length_take]; have := h.le; omega
theorem Cut.tk {v v' : Env} {m : Nat} (h : Cut v v' m) {i : Nat} (hi : i < m) : v'.tk i = v.tk i := by
  unfold Env.tk
  rw [h.ws, List.getD_eq_getElem?_getD, List.getD_eq_getElem?_getD, List.getElem?_take, if_pos hi]
theorem Cut.out {v v' : Env} {m : Nat} (h : Cut v v' m) {i : Nat} (hi : m ≤ i) : v'.tk i = zT := by
  unfold Env.tk
  rw [List.getD_eq_getElem?_getD, List.getElem?_eq_none (by rw [h.len]; exact hi)]
  rfl
theorem Cut.give {v v' : Env} {m : Nat} (h : Cut v v' m) {i c : Nat} (hi : m ≤ i) : v'.give c i = v'.last := by
  unfold Env.give
  rw [if_neg (by rw [h.len]; omega)]
/-- at the end: it reads no more, or tells the end -/
def End {α : Type} (v' : Env) (m : Nat) (p : PR α) : Prop := (∃ a, p = .ok a m) ∨ p = .err v'.last
/-- what was read is read, or the end is told -/
def Pre {α : Type} (v' : Env) (m : Nat) (p p' : PR α) : Prop := ∀ a j, p = .ok a j → (p' = .ok a j ∧ j ≤ m) ∨ End v' m p'
section
variable {α β : Type} {v v' : Env} {m : Nat}
theorem End.bind {p : PR α} {f : α → Nat → PR β} (h : End v' m p) (hf : ∀ a, End v' m (f a m)) : End v' m (p.bind f) := by
  rcases h with ⟨a, rfl⟩ | rfl
  · exact hf a
  · exact .inr rfl
theorem Pre.bind {p p' : PR α} {f f' : α → Nat → PR β} (h : Pre v' m p p') (hf : ∀ a j, j ≤ m → Pre v' m (f a j) (f' a j)) (he : ∀ a, End v' m (f' a m)) : Pre v' m (p.bind f) (p'.bind f') := by
  intro b k hb
  obtain ⟨a, j, h1, h2⟩ := bind_ok hb
  rcases h a j h1 with ⟨h3, h4⟩ | h3
  · rw [h3, PR.bind_ok]
    exact hf a j h4 b k h2
  · exact .inr (h3.bind he)
theorem Pre.of_end {p p' : PR α} (h : End v' m p') : Pre v' m p p' := fun _ _ _ => .inr h
theorem Pre.same {p : PR α} (h : ∀ a j, p = .ok a j → j ≤ m) : Pre v' m p p := fun a j e => .inl ⟨e, h a j e⟩
theorem Pre.err {f : Flt} {p' : PR α} : Pre v' m (.err f) p' := fun a j e => by cases e
theorem end_ok (a : α) : End v' m (.ok a m) := .inl ⟨a, rfl⟩
theorem end_last : End v' m (.err v'.last : PR α) := .inr rfl
theorem end_give (h : Cut v v' m) {i c : Nat} (hi : m ≤ i) : End v' m (.err (v'.give c i) : PR α) := .inr (by rw [h.give hi])
theorem sign_z (s : List Nat) : sign zT s = false := by unfold sign; simp [zT]
theorem plain_z : plain zT = false := rfl
theorem const_z (h : Cut v v' m) {i : Nat} (hi : m ≤ i) : constant v' i = none := by
  unfold constant
  rw [h.out hi]
  rfl
theorem end_must (h : Cut v v' m) (s : List Nat) : End v' m (must v' s m) := by
  unfold must
  rw [h.out (Nat.le_refl m), if_neg (by rw [sign_z]; simp)]
  exact end_give h (Nat.le_refl m)
theorem pre_must (h : Cut v v' m) (s : List Nat) {i : Nat} (hi : i ≤ m) : Pre v' m (must v s i) (must v' s i) := by
  by_cases hl : i < m
  · unfold must
    rw [h.tk hl]
    intro a j e
    split at e
    · rename_i hs
      rw [if_pos hs]
      exact .inl ⟨e, by cases e; omega⟩
    · cases e
  · obtain rfl : i = m := by omega
    exact .of_end (end_must h s)
theorem end_name (h : Cut v v' m) : End v' m (name v' m) := by
  unfold name
  rw [h.out (Nat.le_refl m), if_neg (by rw [plain_z]; simp)]
  exact end_give h (Nat.le_refl m)
theorem pre_name (h : Cut v v' m) {i : Nat} (hi : i ≤ m) : Pre v' m (name v i) (name v' i) := by
  by_cases hl : i < m
  · unfold name
    rw [h.tk hl]
    intro a j e
    split at e
    · rename_i hs
      rw [if_pos hs]
      exact .inl ⟨e, by cases e; omega⟩
    · cases e
  · obtain rfl : i = m := by omega
    exact .of_end (end_name h)
/-- a constant: it is read, or it is a - at the end -/
theorem pre_const (h : Cut v v' m) {i : Nat} (hi : i < m) : (constant v' i = constant v i ∧ ∀ c n, constant v i = some (c, n) → i + n ≤ m) ∨ (constant v' i = none ∧ i + 1 = m ∧ sign (v.tk i) [45] = true ∧ plain (v.tk i) = false ∧ (v.tk i).kind ≠ 2) := by
  unfold constant
  rw [h.tk hi]
  by_cases c1 : (v.tk i).kind = 3 ∨ (v.tk i).kind = 4
  · rw [if_pos c1, if_pos c1]
    exact .inl ⟨rfl, fun c n e => by cases e; omega⟩
  · rw [if_neg c1, if_neg c1]
    by_cases c2 : plain (v.tk i) = true
    · rw [if_pos c2, if_pos c2]
      exact .inl ⟨rfl, fun c n e => by cases e; omega⟩
    · rw [if_neg c2, if_neg c2]
      by_cases hl : i + 1 < m
      · rw [h.tk hl]
        refine .inl ⟨rfl, fun c n e => ?_⟩
        split at e
        · cases e; omega
        · cases e
      · rw [h.out (by omega : m ≤ i + 1)]
        by_cases c3 : sign (v.tk i) [45] = true ∧ (v.tk (i + 1)).kind = 3
        · refine .inr ⟨by rw [if_neg (by simp [zT])], by omega, c3.1, by simpa using c2, fun hk => ?_⟩
          have := c3.1
          unfold sign at this
          rw [hk] at this
          simp at this
        · rw [if_neg c3]
          exact .inl ⟨by rw [if_neg (by simp [zT])], fun c n e => by cases e⟩
theorem end_value (h : Cut v v' m) : End v' m (value v' m) := by
  unfold value
  rw [const_z h (Nat.le_refl m), h.out (Nat.le_refl m)]
  simp only
  rw [sign_z]
  exact end_give h (by simp)
theorem pre_value (h : Cut v v' m) {i : Nat} (hi : i ≤ m) : Pre v' m (value v i) (value v' i) := by
  by_cases hl : i < m
  · unfold value
    rcases pre_const h hl with ⟨h1, h2⟩ | ⟨h1, h2, h3, -⟩
    · rw [h1]
      cases hc : constant v i with
      | none => exact .err
      | some p =>
        obtain ⟨c, n⟩ := p
        exact .same fun a j e => by cases e; exact h2 c n hc
    · rw [h1, h.tk hl, h3]
      exact .of_end (end_give h (by simp; omega))
  · obtain rfl : i = m := by omega
    exact .of_end (end_value h)
theorem end_term (h : Cut v v' m) : End v' m (term v' m) := by
  unfold term
  rw [h.out (Nat.le_refl m), if_neg (by simp [zT]), if_neg (by rw [sign_z]; simp)]
  exact (end_value h).bind fun a => end_ok _
theorem pre_term (h : Cut v v' m) {i : Nat} (hi : i ≤ m) : Pre v' m (term v i) (term v' i) := by
  by_cases hl : i < m
  · unfold term
    rw [h.tk hl]
    by_cases c1 : (v.tk i).kind = 2
    · rw [if_pos c1, if_pos c1]
      exact .same fun a j e => by cases e; omega
    · rw [if_neg c1, if_neg c1]
      by_cases c2 : sign (v.tk i) [95] = true
      · rw [if_pos c2, if_pos c2]
        exact .same fun a j e => by cases e; omega
      · rw [if_neg c2, if_neg c2]
        exact (pre_value h hi).bind (fun a j hj => .same fun a j e => by cases e; exact hj) (fun a => end_ok _)
  · obtain rfl : i = m := by omega
    exact .of_end (end_term h)
theorem end_listF (h : Cut v v' m) (fin : List Nat) (one : Nat → PR α) : ∀ (n : Nat) (acc : List α), End v' m (listF v' fin one n acc m)
  | 0, acc => end_last
  | n + 1, acc => by
    rw [listF, h.out (Nat.le_refl m), if_neg (by rw [sign_z]; simp)]
    exact (end_must h fin).bind fun a => end_ok _
theorem pre_listF (h : Cut v v' m) (fin : List Nat) {one one' : Nat → PR α} (h1 : ∀ i, i ≤ m → Pre v' m (one i) (one' i)) (h2 : End v' m (one' m)) : ∀ (n n' : Nat) (acc : List α) (i : Nat), i ≤ m → Pre v' m (listF v fin one n acc i) (listF v' fin one' n' acc i)
  | 0, n', acc, i, hi => .err
  | n + 1, 0, acc, i, hi => .of_end end_last
  | n + 1, n' + 1, acc, i, hi => by
    by_cases hl : i < m
    · rw [listF, listF, h.tk hl]
      by_cases c : sign (v.tk i) [44] = true
      · rw [if_pos c, if_pos c]
        exact (h1 (i + 1) (by omega)).bind (fun a j hj => pre_listF h fin h1 h2 n n' _ j hj) (fun a => end_listF h fin one' n' _)
      · rw [if_neg c, if_neg c]
        exact (pre_must h fin hi).bind (fun a j hj => .same fun a j e => by cases e; exact hj) (fun a => end_ok _)
    · obtain rfl : i = m := by omega
      exact .of_end (end_listF h fin one' (n' + 1) acc)
theorem end_list (h : Cut v v' m) (fin : List Nat) {one' : Nat → PR α} (h2 : End v' m (one' m)) : End v' m (list v' fin one' m) := by
  unfold list
  rw [h.out (Nat.le_refl m), if_neg (by rw [sign_z]; simp)]
  exact h2.bind fun a => end_listF h fin one' _ _
theorem pre_list (h : Cut v v' m) (fin : List Nat) {one one' : Nat → PR α} (h1 : ∀ i, i ≤ m → Pre v' m (one i) (one' i)) (h2 : End v' m (one' m)) {i : Nat} (hi : i ≤ m) : Pre v' m (list v fin one i) (list v' fin one' i) := by
  by_cases hl : i < m
  · unfold list
    rw [h.tk hl]
    by_cases c : sign (v.tk i) fin = true
    · rw [if_pos c, if_pos c]
      exact .same fun a j e => by cases e; omega
    · rw [if_neg c, if_neg c]
      exact (h1 i hi).bind (fun a j hj => pre_listF h fin h1 h2 _ _ _ j hj) (fun a => end_listF h fin one' _ _)
  · obtain rfl : i = m := by omega
    exact .of_end (end_list h fin h2)
theorem end_atom (h : Cut v v' m) : End v' m (atom v' m) := (end_name h).bind fun t => (end_must h [40]).bind fun _ => (end_list h [41] (end_term h)).bind fun l => end_ok _
theorem pre_atom (h : Cut v v' m) {i : Nat} (hi : i ≤ m) : Pre v' m (atom v i) (atom v' i) :=
  (pre_name h hi).bind (fun t j hj => (pre_must h [40] hj).bind (fun _ j hj => (pre_list h [41] (fun i hi => pre_term h hi) (end_term h) hj).bind (fun l j hj => .same fun a j e => by cases e; exact hj) (fun l => end_ok _)) (fun _ => (end_list h [41] (end_term h)).bind fun l => end_ok _))
    (fun t => (end_must h [40]).bind fun _ => (end_list h [41] (end_term h)).bind fun l => end_ok _)
theorem lev_z : level zT = (0, 0) := rfl
theorem end_chain (h : Cut v v' m) {line : Nat} (h0 : line ≠ 0) {sub : Nat → Nat → PR (Ex × Nat)} {above : Nat} : ∀ (n : Nat) (e : Ex) (d : Nat), End v' m (chainF v' line sub above n e d m)
  | 0, e, d => end_last
  | n + 1, e, d => by
    rw [chainF, h.out (Nat.le_refl m), lev_z, if_pos (by simpa using h0.symm)]
    exact end_ok _
theorem pre_chain (h : Cut v v' m) {line : Nat} (h0 : line ≠ 0) {sub sub' : Nat → Nat → PR (Ex × Nat)} (h1 : ∀ ab i, i ≤ m → Pre v' m (sub ab i) (sub' ab i)) {above : Nat} : ∀ (n n' : Nat) (e : Ex) (d i : Nat), i ≤ m → Pre v' m (chainF v line sub above n e d i) (chainF v' line sub' above n' e d i)
  | 0, n', e, d, i, hi => .err
  | n + 1, 0, e, d, i, hi => .of_end end_last
  | n + 1, n' + 1, e, d, i, hi => by
    by_cases hl : i < m
    · rw [chainF, chainF, h.tk hl]
      by_cases c : (level (v.tk i)).1 ≠ line
      · rw [if_pos c, if_pos c]
        exact .same fun a j e => by cases e; exact hi
      · rw [if_neg c, if_neg c]
        by_cases c2 : 16 < above + d + 1
        · rw [if_pos c2]
          exact .err
        · rw [if_neg c2, if_neg c2]
          exact (h1 _ _ (by omega)).bind (fun r j hj => pre_chain h h0 h1 n n' _ _ j hj) (fun r => end_chain h h0 n' _ _)
    · obtain rfl : i = m := by omega
      exact .of_end (end_chain h h0 (n' + 1) e d)
theorem opd_z : operand zT = false := rfl
theorem end_expr (h : Cut v v' m) : ∀ (k line above : Nat), line ≠ 0 → End v' m (exprF v' k line above m)
  | 0, line, above, _ => end_last
  | k + 1, line, above, h0 => by
    rw [exprF]
    by_cases h3 : line = 3
    · rw [if_pos h3, h.out (Nat.le_refl m), if_neg (by simp [zT]), const_z h (Nat.le_refl m)]
      simp only
      rw [if_neg (by rw [sign_z]; simp), if_neg (by rw [sign_z]; simp)]
      rcases end_must h [40] with ⟨a, ha⟩ | ha
      · exfalso
        unfold must at ha
        rw [h.out (Nat.le_refl m), if_neg (by rw [sign_z]; simp)] at ha
        cases ha
      · rw [ha]
        exact end_last
    · rw [if_neg h3]
      exact (end_expr h k (line + 1) above (by omega)).bind fun r => end_chain h h0 _ _ _
theorem pre_expr (h : Cut v v' m) : ∀ (k line above i : Nat), line ≠ 0 → i ≤ m → Pre v' m (exprF v k line above i) (exprF v' k line above i)
  | 0, line, above, i, _, hi => .err
  | k + 1, line, above, i, h0, hi => by
    by_cases hl : i < m
    · rw [exprF, exprF]
      by_cases h3 : line = 3
      · rw [if_pos h3, if_pos h3, h.tk hl]
        by_cases c1 : (v.tk i).kind = 2
        · rw [if_pos c1, if_pos c1]
          exact .same fun a j e => by cases e; omega
        · rw [if_neg c1, if_neg c1]
          rcases pre_const h hl with ⟨e1, e2⟩ | ⟨e1, e2, e3, -⟩
          · rw [e1]
            cases hc : constant v i with
            | some p =>
              obtain ⟨c, n⟩ := p
              exact .same fun a j e => by cases e; exact e2 c n hc
            | none =>
              simp only
              by_cases c2 : sign (v.tk i) [45] = true
              · rw [if_pos c2, if_pos c2]
                by_cases c3 : 16 ≤ above ∧ operand (v.tk (i + 1)) = true
                · rw [if_pos c3]; exact .err
                · rw [if_neg c3]
                  by_cases hl2 : i + 1 < m
                  · rw [h.tk hl2, if_neg c3]
                    exact (pre_expr h k 3 (above + 1) (i + 1) (by decide) (by omega)).bind (fun r j hj => .same fun a j e => by cases e; exact hj) (fun r => end_ok _)
                  · obtain rfl : i + 1 = m := by omega
                    rw [h.out (Nat.le_refl _), if_neg (by rw [opd_z]; simp)]
                    exact .of_end ((end_expr h k 3 (above + 1) (by decide)).bind fun r => end_ok _)
              · rw [if_neg c2, if_neg c2]
                by_cases c3 : sign (v.tk i) [40] = true ∧ 16 ≤ above
                · rw [if_pos c3]; exact .err
                · rw [if_neg c3, if_neg c3]
                  exact (pre_must h [40] hi).bind (fun _ j hj => (pre_expr h k 1 (above + 1) j (by decide) hj).bind (fun r j hj => (pre_must h [41] hj).bind (fun _ j hj => .same fun a j e => by cases e; exact hj) (fun _ => end_ok _)) (fun r => (end_must h [41]).bind fun _ => end_ok _))
                    (fun _ => (end_expr h k 1 (above + 1) (by decide)).bind fun r => (end_must h [41]).bind fun _ => end_ok _)
          · rw [e1]
            refine .of_end ?_
            simp only
            rw [if_pos e3, h.out (by omega : m ≤ i + 1), if_neg (by rw [opd_z]; simp), e2]
            exact (end_expr h k 3 (above + 1) (by decide)).bind fun r => end_ok _
      · rw [if_neg h3, if_neg h3]
        exact (pre_expr h k (line + 1) above i (by omega) hi).bind (fun r j hj => pre_chain h h0 (fun ab i hi => pre_expr h k (line + 1) ab i (by omega) hi) _ _ _ _ j hj) (fun r => end_chain h h0 _ _ _)
    · obtain rfl : i = m := by omega
      exact .of_end (end_expr h (k + 1) line above h0)
theorem end_ex (h : Cut v v' m) : End v' m (expr v' m) := (end_expr h 60 1 0 (by decide)).bind fun r => end_ok _
theorem pre_ex (h : Cut v v' m) {i : Nat} (hi : i ≤ m) : Pre v' m (expr v i) (expr v' i) := (pre_expr h 60 1 0 i (by decide) hi).bind (fun r j hj => .same fun a j e => by cases e; exact hj) (fun r => end_ok _)
theorem placeF_z : ∀ (l : List (List Nat)) (k : Nat), placeF zT l k = 0
  | [], k => rfl
  | s :: r, k => by rw [placeF, if_neg (by rw [sign_z]; simp), placeF_z r (k + 1)]
theorem place_z (l : List (List Nat)) : place zT l = 0 := placeF_z l 0
theorem end_bodyF (h : Cut v v' m) (one : Nat → PR Li) : ∀ (n : Nat) (acc : List Li), End v' m (bodyF v' one n acc m)
  | 0, acc => end_last
  | n + 1, acc => by
    rw [bodyF, h.out (Nat.le_refl m), if_neg (by rw [sign_z]; simp)]
    exact end_ok _
theorem pre_bodyF (h : Cut v v' m) {one one' : Nat → PR Li} (h1 : ∀ i, i ≤ m → Pre v' m (one i) (one' i)) : ∀ (n n' : Nat) (acc : List Li) (i : Nat), i ≤ m → Pre v' m (bodyF v one n acc i) (bodyF v' one' n' acc i)
  | 0, n', acc, i, hi => .err
  | n + 1, 0, acc, i, hi => .of_end end_last
  | n + 1, n' + 1, acc, i, hi => by
    by_cases hl : i < m
    · rw [bodyF, bodyF, h.tk hl]
      by_cases c : sign (v.tk i) [44] = true
      · rw [if_pos c, if_pos c]
        exact (h1 (i + 1) (by omega)).bind (fun a j hj => pre_bodyF h h1 n n' _ j hj) (fun a => end_bodyF h one' n' _)
      · rw [if_neg c, if_neg c]
        exact .same fun a j e => by cases e; exact hi
    · obtain rfl : i = m := by omega
      exact .of_end (end_bodyF h one' (n' + 1) acc)
theorem end_body (h : Cut v v' m) {one' : Nat → PR Li} (h2 : End v' m (one' m)) : End v' m (bodyOf v' one' m) := h2.bind fun a => end_bodyF h one' _ _
theorem pre_body (h : Cut v v' m) {one one' : Nat → PR Li} (h1 : ∀ i, i ≤ m → Pre v' m (one i) (one' i)) {i : Nat} (hi : i ≤ m) : Pre v' m (bodyOf v one i) (bodyOf v' one' i) :=
  (h1 i hi).bind (fun a j hj => pre_bodyF h h1 _ _ _ j hj) (fun a => end_bodyF h one' _ _)
theorem pre_agg (h : Cut v v' m) {one one' : Nat → PR Li} (h1 : ∀ i, i ≤ m → Pre v' m (one i) (one' i)) (h2 : End v' m (one' m)) {br i : Nat} (hi : i + 3 ≤ m) : Pre v' m (aggOf v one br i) (aggOf v' one' br i) := by
  unfold aggOf
  rw [h.tk (by omega : i < m), h.tk (by omega : i + 2 < m)]
  have hr : Pre v' m ((must v [123] (i + 3)).bind fun _ j =>
    (if fnOf (v.tk (i + 2)) ≠ 1 then (expr v j).bind fun e j => (must v [58] j).bind fun _ j => .ok e j else .ok ex0 j).bind fun o j =>
      (bodyOf v one j).bind fun b j => (must v [125] j).bind fun _ j => .ok (⟨(fnOf (v.tk (i + 2)) : Nat), txt (v.tk i).text, o, b⟩ : Ag) j) ((must v' [123] (i + 3)).bind fun _ j =>
    (if fnOf (v.tk (i + 2)) ≠ 1 then (expr v' j).bind fun e j => (must v' [58] j).bind fun _ j => .ok e j else .ok ex0 j).bind fun o j =>
      (bodyOf v' one' j).bind fun b j => (must v' [125] j).bind fun _ j => .ok (⟨(fnOf (v.tk (i + 2)) : Nat), txt (v.tk i).text, o, b⟩ : Ag) j) := by
    have he : ∀ o, End v' m ((bodyOf v' one' m).bind fun b j => (must v' [125] j).bind fun _ j => .ok (⟨(fnOf (v.tk (i + 2)) : Nat), txt (v.tk i).text, o, b⟩ : Ag) j) := fun o => (end_body h h2).bind fun b => (end_must h [125]).bind fun _ => end_ok _
    refine (pre_must h [123] hi).bind (fun _ j hj => ?_) (fun _ => ?_)
    · refine Pre.bind ?_ (fun o j hj => (pre_body h h1 hj).bind (fun b j hj => (pre_must h [125] hj).bind (fun _ j hj => .same fun a j e => by cases e; exact hj) (fun _ => end_ok _)) (fun b => (end_must h [125]).bind fun _ => end_ok _)) he
      by_cases c : fnOf (v.tk (i + 2)) ≠ 1
      · rw [if_pos c, if_pos c]
        exact (pre_ex h hj).bind (fun e j hj => (pre_must h [58] hj).bind (fun _ j hj => .same fun a j e => by cases e; exact hj) (fun _ => end_ok _)) (fun e => (end_must h [58]).bind fun _ => end_ok _)
      · rw [if_neg c, if_neg c]
        exact .same fun a j e => by cases e; exact hj
    · refine End.bind ?_ he
      by_cases c : fnOf (v.tk (i + 2)) ≠ 1
      · rw [if_pos c]
        exact (end_ex h).bind fun e => (end_must h [58]).bind fun _ => end_ok _
      · rw [if_neg c]
        exact end_ok _
  by_cases c : sign (v.tk (i + 3)) [123] = true ∧ 16 ≤ br
  · rw [if_pos c]; exact .err
  · rw [if_neg c]
    by_cases hl : i + 3 < m
    · rw [h.tk hl, if_neg c]
      exact hr
    · rw [h.out (by omega : m ≤ i + 3), if_neg (by rw [sign_z]; simp)]
      exact hr
theorem end_cmp (h : Cut v v' m) {i : Nat} (he : End v' m (expr v' i)) (g : Nat → Ex → Ex → Li) : End v' m ((expr v' i).bind fun l j => if cmpOf (v'.tk j) = 0 then .err (v'.give 40 j) else (expr v' (j + 1)).bind fun r j2 => .ok (g (cmpOf (v'.tk j)) l r) j2) := by
  refine he.bind fun a => ?_
  have : cmpOf (v'.tk m) = 0 := by unfold cmpOf; rw [h.out (Nat.le_refl m), place_z]
  rw [if_pos this]
  exact end_give h (Nat.le_refl m)
theorem end_lit (h : Cut v v' m) : ∀ (k br : Nat), End v' m (litF v' k br m)
  | 0, br => end_last
  | k + 1, br => by
    rw [litF, h.out (Nat.le_refl m), if_neg (by rw [sign_z]; simp), if_neg (by rw [plain_z]; simp), if_neg (by simp [zT])]
    exact end_cmp h (end_ex h) (fun c l r => .mk 3 at0 (c : Nat) l r 0 (txt []) ex0 [] zT.line zT.col)
/-- an expression of one word, at the end -/
theorem end_one (h : Cut v v' m) {i : Nat} (hi : i + 1 = m) (hk : (v.tk i).kind = 2 ∨ plain (v.tk i) = true) : End v' m (expr v' i) := by
  have hu : ∀ k ab, End v' m (exprF v' k 3 ab i) := fun k ab => by
    cases k with
    | zero => exact end_last
    | succ k =>
      rw [exprF, if_pos rfl, h.tk (by omega)]
      by_cases c : (v.tk i).kind = 2
      · rw [if_pos c, hi]; exact end_ok _
      · rw [if_neg c]
        have hp : plain (v.tk i) = true := hk.resolve_left c
        have hc : constant v' i = some (⟨2, 0, (v.tk i).text⟩, 1) ∨ ∃ x, constant v' i = some (x, 1) := by
          unfold constant
          rw [h.tk (by omega)]
          by_cases c1 : (v.tk i).kind = 3 ∨ (v.tk i).kind = 4
          · rw [if_pos c1]; exact .inr ⟨_, rfl⟩
          · rw [if_neg c1, if_pos hp]; exact .inl rfl
        obtain ⟨x, hx⟩ : ∃ x, constant v' i = some (x, 1) := by
          rcases hc with hc | hc
          · exact ⟨_, hc⟩
          · exact hc
        rw [hx]
        simp only
        rw [hi]
        exact end_ok _
  have h2 : ∀ k ab, End v' m (exprF v' k 2 ab i) := fun k ab => by
    cases k with
    | zero => exact end_last
    | succ k =>
      rw [exprF, if_neg (by decide)]
      exact (hu k ab).bind fun r => end_chain h (by decide) _ _ _
  have h1 : End v' m (exprF v' 60 1 0 i) := by
    rw [exprF, if_neg (by decide)]
    exact (h2 59 0).bind fun r => end_chain h (by decide) _ _ _
  exact h1.bind fun r => end_ok _
theorem pre_lit (h : Cut v v' m) : ∀ (k br i : Nat), i ≤ m → Pre v' m (litF v k br i) (litF v' k br i)
  | 0, br, i, hi => .err
  | k + 1, br, i, hi => by
    by_cases hl : i < m
    · rw [litF, litF, h.tk hl]
      by_cases c1 : sign (v.tk i) [110, 111, 116] = true
      · rw [if_pos c1, if_pos c1]
        exact (pre_atom h (by omega)).bind (fun a j hj => .same fun a j e => by cases e; exact hj) (fun a => end_ok _)
      · rw [if_neg c1, if_neg c1]
        by_cases c2 : plain (v.tk i) = true ∧ sign (v.tk (i + 1)) [40] = true
        · rw [if_pos c2]
          by_cases hl1 : i + 1 < m
          · rw [h.tk hl1, if_pos c2]
            exact (pre_atom h hi).bind (fun a j hj => .same fun a j e => by cases e; exact hj) (fun a => end_ok _)
          · refine .of_end ?_
            have hk : (v.tk i).kind ≠ 2 := fun hk => by
              have := c2.1
              unfold plain at this
              rw [hk] at this
              simp at this
            rw [if_neg (by rw [h.out (by omega : m ≤ i + 1), sign_z]; simp), if_neg (fun hh => hk hh.1)]
            exact end_cmp h (end_one h (by omega) (.inr c2.1)) (fun c l r => .mk 3 at0 (c : Nat) l r 0 (txt []) ex0 [] (v.tk i).line (v.tk i).col)
        · rw [if_neg c2]
          have c2' : ¬ (plain (v.tk i) = true ∧ sign (v'.tk (i + 1)) [40] = true) := fun hh => by
            by_cases hl1 : i + 1 < m
            · rw [h.tk hl1] at hh; exact c2 hh
            · rw [h.out (by omega : m ≤ i + 1), sign_z] at hh; exact absurd hh.2 (by simp)
          rw [if_neg c2']
          by_cases c3 : (v.tk i).kind = 2 ∧ sign (v.tk (i + 1)) [61] = true ∧ 0 < fnOf (v.tk (i + 2))
          · rw [if_pos c3]
            by_cases hl2 : i + 2 < m
            · rw [h.tk (by omega : i + 1 < m), h.tk hl2, if_pos c3]
              exact (pre_agg h (fun i hi => pre_lit h k (br + 1) i hi) (end_lit h k (br + 1)) (by omega)).bind (fun a j hj => .same fun a j e => by cases e; exact hj) (fun a => end_ok _)
            · refine .of_end ?_
              rw [if_neg (fun hh => by rw [h.out (by omega : m ≤ i + 2)] at hh; unfold fnOf at hh; rw [place_z] at hh; exact absurd hh.2.2 (by simp))]
              by_cases hl1 : i + 1 < m
              · have he : expr v' i = .ok (.mk 1 (txt (v.tk i).text) Va.zero 0 []) (i + 1) := by
                  have h61 : level (v'.tk (i + 1)) = (0, 0) := by
                    rw [h.tk hl1]
                    have := c3.2.1
                    unfold sign at this
                    simp only [Bool.and_eq_true, decide_eq_true_eq] at this
                    unfold level sign
                    rw [this.1]
                    rfl
                  have hwl : 1 ≤ v'.ws.length := by rw [h.len]; omega
                  obtain ⟨q, hq⟩ : ∃ q, v'.ws.length = q + 1 := ⟨v'.ws.length - 1, by omega⟩
                  unfold expr
                  rw [exprF, if_neg (by decide), exprF, if_neg (by decide), exprF, if_pos rfl, h.tk hl, if_pos c3.1, PR.bind_ok, hq, chainF, h61, if_pos (by decide), PR.bind_ok, chainF, h61, if_pos (by decide), PR.bind_ok]
                rw [he, PR.bind_ok]
                have hc : cmpOf (v'.tk (i + 1)) ≠ 0 := by
                  rw [h.tk hl1]
                  unfold cmpOf place
                  rw [placeF, if_pos c3.2.1]
                  decide
                rw [if_neg hc, show i + 1 + 1 = m by omega]
                exact (end_ex h).bind fun r => end_ok _
              · exact end_cmp h (end_one h (by omega) (.inl c3.1)) (fun c l r => .mk 3 at0 (c : Nat) l r 0 (txt []) ex0 [] (v.tk i).line (v.tk i).col)
          · rw [if_neg c3]
            have c3' : ¬ ((v.tk i).kind = 2 ∧ sign (v'.tk (i + 1)) [61] = true ∧ 0 < fnOf (v'.tk (i + 2))) := fun hh => by
              by_cases hl2 : i + 2 < m
              · rw [h.tk (by omega : i + 1 < m), h.tk hl2] at hh; exact c3 hh
              · rw [h.out (by omega : m ≤ i + 2)] at hh; unfold fnOf at hh; rw [place_z] at hh; exact absurd hh.2.2 (by simp)
            rw [if_neg c3']
            refine (pre_ex h hi).bind (fun l j hj => ?_) (fun l => ?_)
            · by_cases hlj : j < m
              · rw [h.tk hlj]
                by_cases c4 : cmpOf (v.tk j) = 0
                · rw [if_pos c4]; exact .err
                · rw [if_neg c4, if_neg c4]
                  exact (pre_ex h (by omega)).bind (fun a j hj => .same fun a j e => by cases e; exact hj) (fun a => end_ok _)
              · obtain rfl : j = m := by omega
                refine .of_end ?_
                rw [if_pos (by unfold cmpOf; rw [h.out (Nat.le_refl _), place_z])]
                exact end_give h (Nat.le_refl _)
            · rw [if_pos (by unfold cmpOf; rw [h.out (Nat.le_refl m), place_z])]
              exact end_give h (Nat.le_refl m)
    · obtain rfl : i = m := by omega
      exact .of_end (end_lit h (k + 1) br)
theorem end_rule (h : Cut v v' m) : End v' m (rule v' m) := by
  refine (end_atom h).bind fun a => ?_
  rw [h.out (Nat.le_refl m), if_neg (by rw [sign_z]; simp)]
  exact end_ok _
theorem pre_rule (h : Cut v v' m) {i : Nat} (hi : i ≤ m) : Pre v' m (rule v i) (rule v' i) := by
  by_cases hl : i < m
  · unfold rule
    rw [h.tk hl]
    refine (pre_atom h hi).bind (fun a j hj => ?_) (fun a => ?_)
    · refine Pre.bind ?_ (fun b j hj => .same fun a j e => by cases e; exact hj) (fun b => end_ok _)
      by_cases hlj : j < m
      · rw [h.tk hlj]
        by_cases c : sign (v.tk j) [58, 45] = true
        · rw [if_pos c, if_pos c]
          exact pre_body h (fun i hi => pre_lit h 18 0 i hi) (by omega)
        · rw [if_neg c, if_neg c]
          exact .same fun a j e => by cases e; exact hj
      · obtain rfl : j = m := by omega
        refine .of_end ?_
        rw [h.out (Nat.le_refl _), if_neg (by rw [sign_z]; simp)]
        exact end_ok _
    · rw [h.out (Nat.le_refl m), if_neg (by rw [sign_z]; simp)]
      exact end_ok _
  · obtain rfl : i = m := by omega
    exact .of_end (end_rule h)
theorem end_ty (h : Cut v v' m) : End v' m (ty v' m) := by
  unfold ty tyOf
  rw [h.out (Nat.le_refl m), place_z, if_pos rfl]
  exact end_give h (Nat.le_refl m)
theorem pre_ty (h : Cut v v' m) {i : Nat} (hi : i ≤ m) : Pre v' m (ty v i) (ty v' i) := by
  by_cases hl : i < m
  · unfold ty
    rw [h.tk hl]
    by_cases c : tyOf (v.tk i) = 0
    · rw [if_pos c]; exact .err
    · rw [if_neg c, if_neg c]
      exact .same fun a j e => by cases e; omega
  · obtain rfl : i = m := by omega
    exact .of_end (end_ty h)
theorem end_relation (h : Cut v v' m) : End v' m (relation v' m) := (end_name h).bind fun t => (end_must h [40]).bind fun _ => (end_list h [41] (end_ty h)).bind fun l => end_ok _
theorem pre_relation (h : Cut v v' m) {i : Nat} (hi : i ≤ m) : Pre v' m (relation v i) (relation v' i) :=
  (pre_name h hi).bind (fun t j hj => (pre_must h [40] hj).bind (fun _ j hj => (pre_list h [41] (fun i hi => pre_ty h hi) (end_ty h) hj).bind (fun l j hj => .same fun a j e => by cases e; exact hj) (fun l => end_ok _)) (fun _ => (end_list h [41] (end_ty h)).bind fun l => end_ok _))
    (fun t => (end_must h [40]).bind fun _ => (end_list h [41] (end_ty h)).bind fun l => end_ok _)
theorem end_progF (h : Cut v v' m) (n : Nat) (p : Prog) : End v' m (progF v' n p m) := by
  cases n with
  | zero => exact end_last
  | succ n =>
    rw [progF, if_neg (by rw [h.len]; omega)]
    exact end_ok _
theorem pre_progF (h : Cut v v' m) : ∀ (n n' : Nat) (p : Prog) (i : Nat), i ≤ m → Pre v' m (progF v n p i) (progF v' n' p i)
  | 0, n', p, i, hi => .err
  | n + 1, 0, p, i, hi => .of_end end_last
  | n + 1, n' + 1, p, i, hi => by
    by_cases hl : i < m
    · have := h.le
      rw [progF, progF, if_pos (show i < v.ws.length by omega), if_pos (show i < v'.ws.length by rw [h.len]; exact hl), h.tk hl]
      by_cases c : sign (v.tk i) [114, 101, 108, 97, 116, 105, 111, 110] = true
      · rw [if_pos c, if_pos c]
        exact (pre_relation h (by omega)).bind (fun x j hj => (pre_must h [46] hj).bind (fun _ j hj => pre_progF h n n' _ j hj) (fun _ => end_progF h n' _)) (fun x => (end_must h [46]).bind fun _ => end_progF h n' _)
      · rw [if_neg c, if_neg c]
        exact (pre_rule h hi).bind (fun x j hj => (pre_must h [46] hj).bind (fun _ j hj => pre_progF h n n' _ j hj) (fun _ => end_progF h n' _)) (fun x => (end_must h [46]).bind fun _ => end_progF h n' _)
    · obtain rfl : i = m := by omega
      exact .of_end (end_progF h (n' + 1) p)
theorem must_sign {s : List Nat} {i j : Nat} {u : Unit} (h : must v s i = .ok u j) : j = i + 1 ∧ sign (v.tk i) s = true := by
  unfold must at h
  split at h
  · rename_i hs
    cases h
    exact ⟨rfl, hs⟩
  · cases h
/-- a program ends with a dot -/
theorem prog_dot : ∀ (n : Nat) (p : Prog) (i : Nat) (q : Prog) (j : Nat), progF v n p i = .ok q j → j = i ∨ ∃ k, j = k + 1 ∧ sign (v.tk k) [46] = true
  | 0, p, i, q, j, h => by cases h
  | n + 1, p, i, q, j, h => by
    rw [progF] at h
    split at h
    · split at h
      · obtain ⟨x, j1, h1, h2⟩ := bind_ok h
        obtain ⟨_, j2, h3, h4⟩ := bind_ok h2
        obtain ⟨rfl, hs⟩ := must_sign h3
        rcases prog_dot n _ _ q j h4 with rfl | hh
        · exact .inr ⟨_, rfl, hs⟩
        · exact .inr hh
      · obtain ⟨x, j1, h1, h2⟩ := bind_ok h
        obtain ⟨_, j2, h3, h4⟩ := bind_ok h2
        obtain ⟨rfl, hs⟩ := must_sign h3
        rcases prog_dot n _ _ q j h4 with rfl | hh
        · exact .inr ⟨_, rfl, hs⟩
        · exact .inr hh
    · cases h
      exact .inl rfl
end
/-- the first words of a text that is read: read too, and the last of them is a dot; or the end is told -/
theorem cut_prog {v v' : Env} {m : Nat} (h : Cut v v' m) (hm : 1 ≤ m) {p : Prog} {j : Nat} (hp : whole v (prog v) = .ok p j) (hl : v'.last.1 = 42) :
    (∃ q k, whole v' (prog v') = .ok q k ∧ sign (v.tk (m - 1)) [46] = true) ∨ whole v' (prog v') = .err v'.last := by
  unfold whole at hp
  obtain ⟨a, i, h1, h2⟩ := bind_ok hp
  have hlen := h.len
  have hx : (∃ q k, prog v' 0 = .ok q k ∧ k ≤ m) ∨ prog v' 0 = .err v'.last := by
    rcases pre_progF h (v.ws.length + 1) (v'.ws.length + 1) ⟨[], []⟩ 0 (Nat.zero_le _) a i h1 with ⟨h3, h4⟩ | ⟨q, h3⟩ | h3
    · exact .inl ⟨a, i, h3, h4⟩
    · exact .inl ⟨q, m, h3, Nat.le_refl _⟩
    · exact .inr h3
  rcases hx with ⟨q, k, hq, hk⟩ | hq
  · unfold whole
    rw [hq, PR.bind_ok]
    by_cases hkm : k < m
    · exfalso
      rcases pre_progF h (v.ws.length + 1) (v'.ws.length + 1) ⟨[], []⟩ 0 (Nat.zero_le _) a i h1 with ⟨h3, h4⟩ | ⟨q2, h3⟩ | h3
      · have : prog v' 0 = .ok a i := h3
        rw [hq] at this
        cases this
        split at h2
        · cases h2
        · rename_i hn
          have := h.le
          omega
      · have : prog v' 0 = .ok q2 m := h3
        rw [hq] at this
        cases this
        omega
      · have : prog v' 0 = .err v'.last := h3
        rw [hq] at this
        cases this
    · refine .inl ⟨q, k, by rw [if_neg (by omega)], ?_⟩
      rcases prog_dot _ _ _ _ _ hq with h5 | ⟨d, h5, h6⟩
      · omega
      · rw [h.tk (by omega)] at h6
        rw [show m - 1 = d by omega]
        exact h6
  · refine .inr ?_
    unfold whole
    rw [hq]
    rfl
end Go.Proofs.YtppigckioalhhaaGreatDoorR.Sy
namespace Go.Proofs.YtppigckioalhhaaGreatDoorR.Sy
open Lx (Tok adv)
set_option linter.unusedVariables false
set_option linter.unusedSimpArgs false

theorem list_rev {P : List Nat → Prop} (h0 : P []) (h1 : ∀ l c, P l → P (l ++ [c])) (l : List Nat) : P l := by
  have : ∀ (r : List Nat), P r.reverse := by
    intro r
    induction r with
    | nil => exact h0
    | cons c t ih => rw [List.reverse_cons]; exact h1 _ _ ih
  have h := this l.reverse
  rwa [List.reverse_reverse] at h
theorem eot_adv (s : List Nat) : eot s = adv (1, 1) s := by
  refine list_rev (P := fun s => eot s = adv (1, 1) s) rfl (fun l c ih => ?_) s
  rw [Lx.adv_append, ← ih]
  unfold eot
  by_cases hc : c = 10
  · subst hc
    simp [adv]
    omega
  · simp [adv, hc]
    omega
/-- the word k of a text: where it begins, where the text is cut off behind it -/
theorem word_at {s : List Nat} (hb : ∀ c ∈ s, c < 256) (hc : (Lx.given s).2.code = 0) {k : Nat} (hk : k < (Lx.given s).1.length) :
    ∃ g, g + (Lx.given s).1[k].text.length ≤ s.length ∧ (Lx.given s).1[k].text = (s.drop g).take (Lx.given s).1[k].text.length ∧ ((Lx.given s).1[k].line, (Lx.given s).1[k].col) = adv (1, 1) (s.take g) ∧ 10 ∉ (Lx.given s).1[k].text ∧
      ((Lx.given s).1[k].kind = 1 → Lx.small ((Lx.given s).1[k].text.headD 0) = true) ∧ 1 ≤ (Lx.given s).1[k].text.length ∧
      envOf (s.take (g + (Lx.given s).1[k].text.length)) = ⟨(Lx.given s).1.take (k + 1), (42, (Lx.given s).1[k].line, (Lx.given s).1[k].col + (Lx.given s).1[k].text.length)⟩ := by
  obtain ⟨r, q, h, hr⟩ := Lx.sq_of_given hb hc
  have hlong := Lx.given_long hc
  generalize hws : (Lx.given s).1 = ws at *
  have hsp : ws = ws.take k ++ (ws[k] :: ws.drop (k + 1)) := by
    rw [← List.drop_eq_getElem_cons hk, List.take_append_drop]
  generalize hw : ws[k] = w at *
  rw [hsp] at h
  obtain ⟨m0, q0, h1, h2⟩ := h.split
  obtain ⟨a, ha, hq0⟩ := h1.suf
  generalize hx : w :: ws.drop (k + 1) = x at h2
  cases h2 with
  | nil => cases hx
  | @word _ _ u wd l _ _ hs h0 hwd h3 =>
    simp only [List.cons.injEq] at hx
    obtain ⟨hx1, hx2⟩ := hx
    have hbm : ∀ c ∈ m0, c < 256 := fun c hc => hb c (by rw [ha]; simp [hc])
    have hbu : ∀ c ∈ u, c < 256 := fun c hc => hbm c (by rw [← hs] at hc; exact List.mem_of_mem_drop hc)
    obtain ⟨l1, l2, -⟩ := Lx.word_len hbu h0 hwd
    have hsk := Lx.skipN_le false m0
    have hul : u.length = m0.length - Lx.skipN false m0 := by rw [← hs, List.length_drop]
    have hul0 : 0 < u.length := List.length_pos_iff.2 h0
    have hsl : s.length = a.length + m0.length := by rw [ha, List.length_append]
    have htl : w.text.length = wd.n := by rw [hx1]; simp only [List.length_take]; omega
    have htx : w.text = u.take wd.n := by rw [hx1]
    have hg : s.take (a.length + Lx.skipN false m0) = a ++ m0.take (Lx.skipN false m0) := by rw [ha, List.take_append, List.take_of_length_le (by omega), Nat.add_sub_cancel_left]
    have hpl : (w.line, w.col) = adv (1, 1) (s.take (a.length + Lx.skipN false m0)) := by rw [hg, Lx.adv_append, ← hq0, hx1]
    have h10 : 10 ∉ w.text := by rw [htx]; exact Lx.word_line hbu h0 hwd
    refine ⟨a.length + Lx.skipN false m0, by omega, ?_, hpl, h10, ?_, by omega, ?_⟩
    · rw [htl, htx]
      congr 1
      rw [ha, List.drop_append, ← hs, show a.drop (a.length + Lx.skipN false m0) = [] from List.drop_eq_nil_of_le (by omega), Nat.add_sub_cancel_left]
      rfl
    · intro hk1
      have : Lx.small (u.headD 0) = true := Lx.word_name hwd (by rw [hx1] at hk1; exact hk1)
      rw [htx, Lx.headD_take l1]
      exact this
    · have h4 := h1.trans (Lx.Sq.word (s := m0) (p := q0) hs h0 hwd (Lx.Sq.nil _ _))
      have h5 := h4.take hb 0
      rw [Nat.add_zero, List.take_zero, List.length_drop] at h5
      have hn : s.length - (u.length - wd.n) = a.length + Lx.skipN false m0 + w.text.length := by omega
      rw [hn] at h5
      obtain ⟨g1, g2⟩ := Lx.given_of_sq h5 (fun c hc => hb c (List.mem_of_mem_take hc)) rfl (by rw [List.length_take]; omega)
      unfold envOf
      rw [g1, g2, if_pos rfl, ← hx1, eot_adv]
      have e1 : ws.take k ++ [w] = ws.take (k + 1) := by rw [List.take_succ_eq_append_getElem hk, hw]
      rw [e1]
      have e2 : s.take (a.length + Lx.skipN false m0 + w.text.length) = s.take (a.length + Lx.skipN false m0) ++ w.text := by
        rw [List.take_add]
        congr 1
        rw [htl, htx]
        congr 1
        rw [ha, List.drop_append, ← hs, show a.drop (a.length + Lx.skipN false m0) = [] from List.drop_eq_nil_of_le (by omega), Nat.add_sub_cancel_left]
        rfl
      rw [e2, Lx.adv_append, ← hpl, Lx.adv_flat _ _ h10]
theorem cut_law {s : List Nat} (hb : ∀ c ∈ s, c < 256) {p : Pr.Prog} {j : Nat} (hp : whole (envOf s) (prog (envOf s)) = .ok p j) (hc : (Lx.given s).2.code = 0) {k : Nat} (hk : k < (Lx.given s).1.length) :
    ∃ n, n ≤ s.length ∧ Lx.offF s ((Lx.given s).1[k].line - 1) + (Lx.given s).1[k].col + (Lx.given s).1[k].text.length = n + 1 ∧ 1 ≤ (Lx.given s).1[k].line ∧ (Lx.given s).1[k].line ≤ s.length + 1 ∧ 1 ≤ (Lx.given s).1[k].col ∧ (Lx.given s).1[k].text.length ≤ s.length ∧
      ((∃ q i, whole (envOf (s.take n)) (prog (envOf (s.take n))) = .ok q i ∧ (Lx.given s).1[k].text = [46] ∧ (Lx.given s).1[k].kind = 5) ∨
        whole (envOf (s.take n)) (prog (envOf (s.take n))) = .err (42, (Lx.given s).1[k].line, (Lx.given s).1[k].col + (Lx.given s).1[k].text.length)) := by
  obtain ⟨g, h1, h2, h3, h4, h5, h6, h7⟩ := word_at hb hc hk
  have hcut : Cut (envOf s) ⟨(Lx.given s).1.take (k + 1), (42, (Lx.given s).1[k].line, (Lx.given s).1[k].col + (Lx.given s).1[k].text.length)⟩ (k + 1) := ⟨rfl, hk⟩
  have htk : (envOf s).tk k = (Lx.given s).1[k] := by
    unfold Env.tk
    rw [List.getD_eq_getElem?_getD]
    show (((Lx.given s).1)[k]?).getD zT = _
    rw [List.getElem?_eq_getElem hk]
    rfl
  have hpr := cut_prog hcut (by omega) hp rfl
  have ho := Lx.off_place s g (by omega)
  rw [← h3] at ho
  simp only at ho
  have hL := Lx.adv_line (s.take g) (1, 1)
  rw [← h3] at hL
  simp only at hL
  have hC : 1 ≤ (Lx.given s).1[k].col := by
    have : ∀ (l : List Nat) (p : Nat × Nat), 1 ≤ p.2 → 1 ≤ (adv p l).2 := by
      intro l
      induction l with
      | nil => exact fun p h => h
      | cons c t ih =>
        intro p h
        rw [adv]
        split
        · exact ih _ (Nat.le_refl _)
        · exact ih _ (by simp)
    have := this (s.take g) (1, 1) (Nat.le_refl _)
    rw [← h3] at this
    exact this
  have hU := (Lx.adv_le (1, 1) (s.take g)).1
  rw [← h3, List.length_take] at hU
  simp only at hU
  refine ⟨g + (Lx.given s).1[k].text.length, h1, by omega, hL, by omega, hC, by omega, ?_⟩
  rw [h7]
  rcases hpr with ⟨q, i, h8, h9⟩ | h8
  · refine .inl ⟨q, i, h8, ?_⟩
    rw [show k + 1 - 1 = k by omega, htk] at h9
    unfold sign at h9
    simp only [Bool.and_eq_true, Bool.or_eq_true, decide_eq_true_eq] at h9
    refine ⟨h9.1, ?_⟩
    rcases h9.2 with hk5 | hk1
    · exact hk5
    · have := h5 hk1
      rw [h9.1] at this
      exact absurd this (by decide)
  · exact .inr h8
end Go.Proofs.YtppigckioalhhaaGreatDoorR.Sy
