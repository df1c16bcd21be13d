/- PLAIN: two texts with a line's end between; a word by itself; what stands between words. No program in sight. -/
import Derived.Test.YtobimhmllkfmfaaDoorLxPlain
namespace Go.Proofs.YtobimhmllkfmfaaDoor.Lx
set_option linter.unusedSimpArgs false
set_option linter.unusedVariables false

theorem run_join (p : Nat → Bool) (hp : p 10 = false) (a r : List Nat) : run p (a ++ 10 :: r) = run p a := by
  induction a with
  | nil => simp [run_cons, hp, run_nil]
  | cons c t ih => rw [List.cons_append, run_cons, run_cons, ih]
theorem two_ten (a : Nat) : two a 10 = false := by simp [two]
theorem mark_join (a r : List Nat) (h : a ≠ []) : mark (a ++ 10 :: r) = mark a := by
  match a, h with
  | [x], _ => simp [mark, two_ten]
  | x :: y :: t, _ => simp [mark]
theorem esc_join {s : List Nat} {b j : Nat} (h : esc s = some (b, j)) (t : List Nat) : esc (s ++ t) = some (b, j) := by
  match s with
  | [] => simp [esc] at h
  | [c] =>
    unfold esc at h ⊢
    simp only [List.cons_append, List.nil_append] at h ⊢
    by_cases h1 : c = 34 ∨ c = 92
    · rw [if_pos h1] at h ⊢; exact h
    · rw [if_neg h1] at h ⊢
      by_cases h2 : c = 110
      · rw [if_pos h2] at h ⊢; exact h
      · rw [if_neg h2] at h
        by_cases h3 : c = 120 <;> simp [h3] at h
  | [c, x] =>
    unfold esc at h ⊢
    simp only [List.cons_append, List.nil_append] at h ⊢
    by_cases h1 : c = 34 ∨ c = 92
    · rw [if_pos h1] at h ⊢; exact h
    · rw [if_neg h1] at h ⊢
      by_cases h2 : c = 110
      · rw [if_pos h2] at h ⊢; exact h
      · rw [if_neg h2] at h
        by_cases h3 : c = 120 <;> simp [h3] at h
  | c :: x :: y :: u => simpa [esc] using h
theorem quoF_join : ∀ (k : Nat) (s acc : List Nat) (n : Nat) (l : List Nat) (m : Nat), (∀ c ∈ s, c < 256) → quoF k s acc n = some (l, m) → ∀ (t : List Nat) (j : Nat), quoF (k + j) (s ++ t) acc n = some (l, m)
  | 0, _, _, _, _, _, _, h => by simp [quoF] at h
  | k + 1, [], _, _, _, _, _, h => by simp [quoF] at h
  | k + 1, c :: r, acc, n, l, m, hs, h => fun t j => by
    have hr : ∀ c ∈ r, c < 256 := fun x hx => hs x (by simp [hx])
    rw [show k + 1 + j = (k + j) + 1 by omega, List.cons_append]
    unfold quoF at h ⊢
    by_cases h1 : c = 34
    · rw [if_pos h1] at h ⊢; exact h
    · rw [if_neg h1] at h ⊢
      by_cases h2 : c = 10
      · rw [if_pos h2] at h; simp at h
      · rw [if_neg h2] at h ⊢
        by_cases h3 : c = 92
        · rw [if_pos h3] at h ⊢
          cases he : esc r with
          | none => rw [he] at h; simp at h
          | some p =>
            obtain ⟨b, m'⟩ := p
            rw [he] at h
            rw [esc_join he t]
            obtain ⟨e1, e2, -⟩ := esc_len hr he
            simp only at h ⊢
            rw [List.drop_append_of_le_length e2]
            exact quoF_join k _ _ _ l m (fun c hc => hr c (List.mem_of_mem_drop hc)) h t j
        · rw [if_neg h3] at h ⊢
          exact quoF_join k _ _ _ l m hr h t j
theorem quo_join {s l : List Nat} {m : Nat} (hs : ∀ c ∈ s, c < 256) (h : quo s = some (l, m)) (t : List Nat) : quo (s ++ t) = some (l, m) := by
  cases s with
  | nil => simp [quo, quoF] at h
  | cons c r =>
    unfold quo at h ⊢
    have := quoF_join _ _ _ _ l m (fun c hc => hs c (List.mem_of_mem_drop hc)) h t t.length
    rw [show (c :: r).length + t.length = (c :: r ++ t).length by simp; omega] at this
    exact this
/-- a word does not go on behind a line's end -/
theorem word_join {a : List Nat} {w : Wd} (hb : ∀ c ∈ a, c < 256) (h0 : a ≠ []) (h : word a = .ok w) (r : List Nat) : word (a ++ 10 :: r) = .ok w := by
  have e1 : (a ++ 10 :: r).headD 0 = a.headD 0 := by cases a with
    | nil => simp at h0
    | cons c t => rfl
  have e2 : run goes (a ++ 10 :: r) = run goes a := run_join _ rfl _ _
  have e3 : run digit (a ++ 10 :: r) = run digit a := run_join _ rfl _ _
  have e4 : (a ++ 10 :: r).take (run digit a) = a.take (run digit a) := List.take_append_of_le_length (run_le _ _)
  have e5 : mark (a ++ 10 :: r) = mark a := mark_join a r h0
  unfold word at h ⊢
  rw [e1, e2, e3, e4, e5]
  by_cases c1 : (small (a.headD 0) || capital (a.headD 0)) = true
  · rw [if_pos c1] at h ⊢; exact h
  · rw [if_neg c1] at h ⊢
    by_cases c2 : digit (a.headD 0) = true
    · rw [if_pos c2] at h ⊢; exact h
    · rw [if_neg c2] at h ⊢
      by_cases c3 : a.headD 0 = 34
      · rw [if_pos c3] at h ⊢
        cases hq : quo a with
        | none => rw [hq] at h; simp at h
        | some p =>
          obtain ⟨l, m⟩ := p
          rw [hq] at h
          rw [quo_join hb hq]
          exact h
      · rw [if_neg c3] at h ⊢; exact h

theorem skip_join (r : List Nat) : ∀ (a : List Nat) (b : Bool), (skipN b a < a.length → skipN b (a ++ 10 :: r) = skipN b a) ∧ (skipN b a = a.length → skipN b (a ++ 10 :: r) = a.length + 1 + skipN false r)
  | [], b => by
    refine ⟨fun h => by simp at h, fun _ => ?_⟩
    simp [skipN, blank]
    omega
  | c :: t, b => by
    obtain ⟨h1, h2⟩ := skip_join r t (if c = 35 then true else if c = 10 then false else b)
    have e1 : skipN b (c :: t) = if (!(if c = 35 then true else if c = 10 then false else b) && !blank c) = true then 0 else skipN (if c = 35 then true else if c = 10 then false else b) t + 1 := rfl
    have e2 : skipN b (c :: t ++ 10 :: r) = if (!(if c = 35 then true else if c = 10 then false else b) && !blank c) = true then 0 else skipN (if c = 35 then true else if c = 10 then false else b) (t ++ 10 :: r) + 1 := rfl
    rw [e1, e2]
    generalize (if c = 35 then true else if c = 10 then false else b) = b' at *
    by_cases h : (!b' && !blank c) = true
    · rw [if_pos h, if_pos h]
      exact ⟨fun _ => rfl, fun h => by simp at h⟩
    · rw [if_neg h, if_neg h, List.length_cons]
      exact ⟨fun h => by rw [h1 (by omega)], fun h => by rw [h2 (by omega)]; omega⟩

def St.join (x : St) (r : List Nat) : St := { x with s := x.s ++ 10 :: r }
/-- behind the first text and the line's end -/
def St.over (x : St) (r : List Nat) : St := { x with s := r, pos := (x.pos.1 + 1, 1) }

theorem next_join {x y : St} {t : Tok} (hb : ∀ c ∈ x.s, c < 256) (h : next x = (y, some t)) (r : List Nat) : next (x.join r) = (y.join r, some t) ∧ (∀ c ∈ y.s, c < 256) ∧ y.s.length < x.s.length ∧ y.code = 0 ∧ x.code = 0 ∧ x.long = false ∧ y.long = false := by
  unfold next at h
  by_cases h1 : x.code ≠ 0
  · rw [if_pos h1] at h; simp at h
  · rw [if_neg h1] at h
    cases h2 : x.long with
    | true => rw [h2] at h; simp at h
    | false =>
      rw [h2] at h
      simp only [Bool.false_eq_true, if_false] at h
      by_cases h3 : x.skip.s = []
      · rw [if_pos h3] at h; simp at h
      · rw [if_neg h3] at h
        have hbs : ∀ c ∈ x.skip.s, c < 256 := fun c hc => hb c (List.mem_of_mem_drop hc)
        cases hw : word x.skip.s with
        | bad er => rw [hw] at h; simp at h
        | ok w =>
          rw [hw] at h
          simp only [Prod.mk.injEq, Option.some.injEq] at h
          obtain ⟨rfl, rfl⟩ := h
          obtain ⟨l1, l2, -⟩ := word_len hbs h3 hw
          have hlt : skipN false x.s < x.s.length := by
            refine Nat.lt_of_not_le fun hle => h3 ?_
            exact List.drop_eq_nil_of_le hle
          have hsk : (x.join r).skip = x.skip.join r := by
            unfold St.skip St.join
            simp only
            rw [(skip_join r x.s false).1 hlt, List.drop_append_of_le_length (by omega), List.take_append_of_le_length (by omega)]
          have hsl : x.skip.s.length ≤ x.s.length := by simp [St.skip]
          have hx0 : x.code = 0 := by omega
          refine ⟨?_, fun c hc => hbs c (List.mem_of_mem_drop hc), ?_, ?_, hx0, rfl, ?_⟩
          · unfold next
            have c0 : (x.join r).code = x.code := rfl
            have c1 : (x.join r).long = x.long := rfl
            rw [c0, if_neg h1, c1, h2]
            simp only [Bool.false_eq_true, if_false]
            rw [hsk]
            have c2 : (x.skip.join r).s = x.skip.s ++ 10 :: r := rfl
            have c3 : (x.skip.join r).pos = x.skip.pos := rfl
            rw [c2, if_neg (by simp), word_join hbs h3 hw r]
            simp only [c3]
            rw [List.drop_append_of_le_length (by omega), List.take_append_of_le_length (by omega)]
            rfl
          · simp only [List.length_drop]; omega
          · exact hx0
          · exact h2
theorem next_end {x y : St} (h : next x = (y, none)) (hy : y.code = 0) (r : List Nat) : next (x.join r) = next (y.over r) ∧ x.long = y.long := by
  unfold next at h
  by_cases h1 : x.code ≠ 0
  · rw [if_pos h1] at h
    simp only [Prod.mk.injEq, and_true] at h
    subst h
    omega
  · rw [if_neg h1] at h
    cases h2 : x.long with
    | true => rw [h2] at h; simp at h; subst h; simp at hy
    | false =>
      rw [h2] at h
      simp only [Bool.false_eq_true, if_false] at h
      by_cases h3 : x.skip.s = []
      · rw [if_pos h3] at h
        simp only [Prod.mk.injEq, and_true] at h
        subst h
        have hlen : skipN false x.s = x.s.length := by
          have h4 := skipN_le false x.s
          have h5 : (x.s.drop (skipN false x.s)).length = 0 := by
            have : x.s.drop (skipN false x.s) = [] := h3
            rw [this]; rfl
          rw [List.length_drop] at h5
          omega
        have hsk : (x.join r).skip = (x.skip.over r).skip := by
          unfold St.skip St.join St.over
          simp only
          rw [(skip_join r x.s false).2 hlen, hlen]
          have e1 : (x.s ++ 10 :: r).drop (x.s.length + 1 + skipN false r) = r.drop (skipN false r) := by
            rw [show x.s.length + 1 + skipN false r = x.s.length + (1 + skipN false r) by omega, ← List.drop_drop, List.drop_left, Nat.add_comm 1, List.drop_succ_cons]
          have e2 : (x.s ++ 10 :: r).take (x.s.length + 1 + skipN false r) = x.s ++ 10 :: r.take (skipN false r) := by
            rw [show x.s.length + 1 + skipN false r = x.s.length + (skipN false r + 1) by omega, List.take_append, List.take_of_length_le (by omega)]
            simp
          rw [e1, e2, adv_append]
          simp [adv]
        refine ⟨?_, h2 ▸ rfl⟩
        unfold next
        have c0 : (x.join r).code = x.code := rfl
        have c1 : (x.join r).long = x.long := rfl
        have c4 : (x.skip.over r).code = x.code := rfl
        have c5 : (x.skip.over r).long = x.long := rfl
        rw [c0, c1, c4, c5, if_neg h1, h2, hsk]
        simp only [h1, if_false, Bool.false_eq_true]
      · rw [if_neg h3] at h
        cases hw : word x.skip.s with
        | bad er =>
          rw [hw] at h
          simp only [Prod.mk.injEq, and_true] at h
          subst h
          exfalso
          have : 30 ≤ er := by
            unfold word at hw
            repeat' (split at hw)
            all_goals first | (simp at hw; omega) | simp at hw
          simp at hy; omega
        | ok w => rw [hw] at h; simp at h

/-- more steps than bytes are enough -/
theorem allF_more : ∀ (k : Nat) (x : St) (j : Nat), (∀ c ∈ x.s, c < 256) → x.s.length < k → allF (k + j) x = allF k x
  | 0, x, j, _, h => by omega
  | k + 1, x, j, hb, h => by
    rw [show k + 1 + j = (k + j) + 1 by omega]
    unfold allF
    cases hn : next x with
    | mk y o =>
      cases o with
      | none => rfl
      | some t =>
        obtain ⟨-, h2, h3, -⟩ := next_join hb hn []
        simp only
        rw [allF_more k y j h2 (by omega)]
theorem all_join : ∀ (k : Nat) (x : St) (r : List Nat), (∀ c ∈ x.s, c < 256) → (∀ c ∈ r, c < 256) → x.s.length < k → (allF k x).2.code = 0 → allF (k + r.length + 1) (x.join r) = ((allF k x).1 ++ (allF (r.length + 1) ((allF k x).2.over r)).1, (allF (r.length + 1) ((allF k x).2.over r)).2)
  | 0, x, r, _, _, h, _ => by omega
  | k + 1, x, r, hb, hr, h, hc => by
    rw [show k + 1 + r.length + 1 = (k + r.length + 1) + 1 by omega]
    cases hn : next x with
    | mk y o =>
      cases o with
      | none =>
        have e : allF (k + 1) x = ([], y) := by unfold allF; rw [hn]
        rw [e] at hc ⊢
        obtain ⟨h1, -⟩ := next_end hn hc r
        have e2 : allF (k + r.length + 1 + 1) (x.join r) = allF (k + r.length + 1 + 1) (y.over r) := by
          rw [allF, allF, h1]
        rw [e2, show k + r.length + 1 + 1 = (r.length + 1) + (k + 1) by omega, allF_more (r.length + 1) (y.over r) (k + 1) hr (by show r.length < r.length + 1; omega)]
        simp
      | some t =>
        obtain ⟨h1, h2, h3, -⟩ := next_join hb hn r
        have e : allF (k + 1) x = (t :: (allF k y).1, (allF k y).2) := by rw [allF, hn]
        rw [e] at hc ⊢
        have ih := all_join k y r h2 hr (by omega) hc
        rw [allF, h1]
        simp only
        rw [ih]
        rfl

/-- a scanner some lines further down -/
structure Down (d : Nat) (x y : St) : Prop where
  s : y.s = x.s
  pos : y.pos = (x.pos.1 + d, x.pos.2)
  code : y.code = x.code
  long : y.long = x.long
def Tok.down (d : Nat) (t : Tok) : Tok := { t with line := t.line + d }
theorem adv_down (d : Nat) : ∀ (l : List Nat) (p : Nat × Nat), adv (p.1 + d, p.2) l = ((adv p l).1 + d, (adv p l).2)
  | [], p => rfl
  | c :: t, p => by
    unfold adv
    by_cases h : c = 10
    · rw [if_pos h, if_pos h]
      have := adv_down d t (p.1 + 1, 1)
      simp only at this
      rw [← this]
      congr 2
      omega
    · rw [if_neg h, if_neg h]
      exact adv_down d t (p.1, p.2 + 1)
theorem Down.skip {d : Nat} {x y : St} (h : Down d x y) : Down d x.skip y.skip := by
  obtain ⟨h1, h2, h3, h4⟩ := h
  refine ⟨?_, ?_, h3, h4⟩
  · simp [St.skip, h1]
  · simp only [St.skip, h1, h2]
    exact adv_down d _ _
theorem Down.next {d : Nat} {x y : St} (h : Down d x y) : Down d (next x).1 (next y).1 ∧ (next y).2 = (next x).2.map (Tok.down d) := by
  have hs := h.skip
  have hb := hs
  obtain ⟨h1, h2, h3, h4⟩ := h
  obtain ⟨s1, s2, s3, s4⟩ := hs
  unfold Lx.next
  rw [h3, h4, s1]
  by_cases c1 : x.code ≠ 0
  · rw [if_pos c1, if_pos c1]; exact ⟨⟨h1, h2, h3, h4⟩, rfl⟩
  · rw [if_neg c1, if_neg c1]
    cases c2 : x.long with
    | true => simp only [if_true]; exact ⟨⟨h1, h2, rfl, by simp [h4, c2]⟩, rfl⟩
    | false =>
      simp only [Bool.false_eq_true, if_false]
      by_cases c3 : x.skip.s = []
      · rw [if_pos c3, if_pos c3]; exact ⟨hb, rfl⟩
      · rw [if_neg c3, if_neg c3]
        cases hw : word x.skip.s with
        | bad er => exact ⟨⟨s1, s2, rfl, s4⟩, rfl⟩
        | ok w =>
          simp only
          refine ⟨⟨rfl, ?_, s3, s4⟩, ?_⟩
          · simp only [s2]; exact adv_down d _ _
          · simp [Tok.down, s2]
theorem all_down (d : Nat) : ∀ (k : Nat) (x y : St), Down d x y → (allF k y).1 = (allF k x).1.map (Tok.down d) ∧ (allF k y).2.code = (allF k x).2.code
  | 0, x, y, h => ⟨rfl, h.code⟩
  | k + 1, x, y, h => by
    obtain ⟨h1, h2⟩ := h.next
    unfold allF
    cases hx : Lx.next x with
    | mk x' o =>
      cases hy : Lx.next y with
      | mk y' o' =>
        rw [hx, hy] at h1 h2
        simp only at h1 h2
        subst h2
        cases o with
        | none => exact ⟨rfl, h1.code⟩
        | some t =>
          obtain ⟨i1, i2⟩ := all_down d k x' y' h1
          simp only [Option.map_some]
          exact ⟨by rw [i1]; rfl, i2⟩

theorem all_pos : ∀ (k : Nat) (x : St), (∀ c ∈ x.s, c < 256) → x.s.length < k → (allF k x).2.code = 0 → (allF k x).2.pos = adv x.pos x.s ∧ (allF k x).2.long = false
  | 0, x, _, h, _ => by omega
  | k + 1, x, hb, h, hc => by
    cases hn : next x with
    | mk y o =>
      cases o with
      | none =>
        have e : allF (k + 1) x = ([], y) := by unfold allF; rw [hn]
        rw [e] at hc ⊢
        simp only at hc ⊢
        unfold next at hn
        by_cases h1 : x.code ≠ 0
        · rw [if_pos h1] at hn
          simp only [Prod.mk.injEq, and_true] at hn
          subst hn; omega
        · rw [if_neg h1] at hn
          cases h2 : x.long with
          | true => rw [h2] at hn; simp at hn; subst hn; simp at hc
          | false =>
            rw [h2] at hn
            simp only [Bool.false_eq_true, if_false] at hn
            by_cases h3 : x.skip.s = []
            · rw [if_pos h3] at hn
              simp only [Prod.mk.injEq, and_true] at hn
              subst hn
              refine ⟨?_, h2⟩
              show adv x.pos (x.s.take (skipN false x.s)) = _
              rw [List.take_of_length_le]
              have h5 : (x.s.drop (skipN false x.s)).length = 0 := by
                have : x.s.drop (skipN false x.s) = [] := h3
                rw [this]; rfl
              rw [List.length_drop] at h5
              omega
            · rw [if_neg h3] at hn
              cases hw : word x.skip.s with
              | bad er =>
                rw [hw] at hn
                simp only [Prod.mk.injEq, and_true] at hn
                subst hn
                exfalso
                have : 30 ≤ er := by
                  unfold word at hw
                  repeat' (split at hw)
                  all_goals first | (simp at hw; omega) | simp at hw
                simp at hc; omega
              | ok w => rw [hw] at hn; simp at hn
      | some t =>
        obtain ⟨-, h2, h3, -⟩ := next_join hb hn []
        have e : allF (k + 1) x = (t :: (allF k y).1, (allF k y).2) := by rw [allF, hn]
        rw [e] at hc ⊢
        have ih := all_pos k y h2 (by omega) hc
        refine ⟨ih.1.trans ?_, ih.2⟩
        unfold next at hn
        by_cases h1 : x.code ≠ 0
        · rw [if_pos h1] at hn; simp at hn
        · rw [if_neg h1] at hn
          cases h2 : x.long with
          | true => rw [h2] at hn; simp at hn
          | false =>
            rw [h2] at hn
            simp only [Bool.false_eq_true, if_false] at hn
            by_cases h3 : x.skip.s = []
            · rw [if_pos h3] at hn; simp at hn
            · rw [if_neg h3] at hn
              cases hw : word x.skip.s with
              | bad er => rw [hw] at hn; simp at hn
              | ok w =>
                rw [hw] at hn
                simp only [Prod.mk.injEq, Option.some.injEq] at hn
                obtain ⟨rfl, -⟩ := hn
                simp only [St.skip]
                rw [← adv_append, ← adv_append, List.take_append_drop, List.take_append_drop]

/-- THE LAW: two texts with a line's end between have the words of both -/
theorem tokens_join (a b : List Nat) (ha : ∀ c ∈ a, c < 256) (hb : ∀ c ∈ b, c < 256) (hl : a.length + 1 + b.length ≤ 65536) (h1 : (fault a).1 = 0) (h2 : (fault b).1 = 0) :
    fault (a ++ 10 :: b) = (0, 0, 0) ∧ tokens (a ++ 10 :: b) = tokens a ++ (tokens b).map (Tok.down (adv (1, 1) a).1) := by
  have g1 : (given a).2.code = 0 := by
    unfold fault at h1
    by_cases h : (given a).2.code = 0
    · exact h
    · rw [if_neg h] at h1; exact absurd h1 h
  have g2 : (given b).2.code = 0 := by
    unfold fault at h2
    by_cases h : (given b).2.code = 0
    · exact h
    · rw [if_neg h] at h2; exact absurd h2 h
  have hst : start (a ++ 10 :: b) = (start a).join b := by
    unfold start St.join
    simp only [List.length_append, List.length_cons]
    congr 1
    rw [decide_eq_false (by omega), decide_eq_false (by omega)]
  have hlen : (a ++ 10 :: b).length + 1 = (a.length + 1) + b.length + 1 := by simp; omega
  have hp := all_pos (a.length + 1) (start a) ha (by show a.length < _; omega) g1
  have hd : Down (adv (1, 1) a).1 (start b) ((given a).2.over b) := by
    refine ⟨rfl, ?_, g1, ?_⟩
    · show ((given a).2.pos.1 + 1, 1) = _
      rw [show (given a).2.pos = adv (1, 1) a from hp.1]
      simp [start]; omega
    · show (given a).2.long = _
      rw [show (given a).2.long = false from hp.2]
      symm
      simp [start]; omega
  obtain ⟨d1, d2⟩ := all_down _ (b.length + 1) _ _ hd
  have hg : given (a ++ 10 :: b) = ((given a).1 ++ (allF (b.length + 1) ((given a).2.over b)).1, (allF (b.length + 1) ((given a).2.over b)).2) := by
    unfold given
    rw [hst, hlen]
    exact all_join (a.length + 1) (start a) b ha hb (by show a.length < _; omega) g1
  have hc : (given (a ++ 10 :: b)).2.code = 0 := by rw [hg]; exact d2.trans g2
  refine ⟨by unfold fault; rw [if_pos hc], ?_⟩
  unfold tokens
  rw [if_pos hc, if_pos g1, if_pos g2, hg]
  simp only
  rw [d1]
  rfl
end Go.Proofs.YtobimhmllkfmfaaDoor.Lx
