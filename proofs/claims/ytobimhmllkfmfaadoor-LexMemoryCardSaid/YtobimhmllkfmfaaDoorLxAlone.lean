/- PLAIN: a word by itself; what stands between words; each word at its place. No program in sight. -/
import Derived.Test.YtobimhmllkfmfaaDoorLxJoin
namespace Go.Proofs.YtobimhmllkfmfaaDoor.Lx
set_option linter.unusedSimpArgs false
set_option linter.unusedVariables false

theorem skip_stop : ∀ (s : List Nat) (b : Bool), skipN false (s.drop (skipN b s)) = 0
  | [], b => by simp [skipN]
  | c :: t, b => by
    have ih := skip_stop t (if c = 35 then true else if c = 10 then false else b)
    have e : skipN b (c :: t) = if !(if c = 35 then true else if c = 10 then false else b) && !blank c then 0 else skipN (if c = 35 then true else if c = 10 then false else b) t + 1 := rfl
    by_cases h : (!(if c = 35 then true else if c = 10 then false else b) && !blank c) = true
    · rw [e, if_pos h, List.drop_zero]
      simp only [Bool.and_eq_true, Bool.not_eq_true'] at h
      have h35 : c ≠ 35 := fun h0 => by rw [if_pos h0] at h; simp at h
      exact skip_none h.2 h35
    · rw [e, if_neg h, List.drop_succ_cons]
      exact ih
theorem skip_done' (s : List Nat) : skipN false (s.drop (skipN false s)) = 0 := skip_stop s false
theorem run_take (p : Nat → Bool) (s : List Nat) (k : Nat) : run p (s.take k) = min k (run p s) := by
  induction s generalizing k with
  | nil => simp [run_nil]
  | cons c t ih =>
    cases k with
    | zero => simp [run_nil]
    | succ k =>
      rw [List.take_succ_cons, run_cons, run_cons, ih]
      split <;> omega
theorem esc_take {s : List Nat} {b j : Nat} (h : esc s = some (b, j)) (q : Nat) (hq : j ≤ q) : esc (s.take q) = some (b, j) := by
  match s with
  | [] => simp [esc] at h
  | [c] =>
    unfold esc at h
    simp only at h
    by_cases h1 : c = 34 ∨ c = 92
    · rw [if_pos h1] at h
      simp only [Option.some.injEq, Prod.mk.injEq] at h
      obtain ⟨rfl, rfl⟩ := h
      rw [List.take_of_length_le (by simpa using hq)]
      unfold esc; simp only; rw [if_pos h1]
    · rw [if_neg h1] at h
      by_cases h2 : c = 110
      · rw [if_pos h2] at h
        simp only [Option.some.injEq, Prod.mk.injEq] at h
        obtain ⟨rfl, rfl⟩ := h
        rw [List.take_of_length_le (by simpa using hq)]
        unfold esc; simp only; rw [if_neg h1, if_pos h2]
      · rw [if_neg h2] at h
        by_cases h3 : c = 120 <;> simp [h3] at h
  | c :: x :: t =>
    unfold esc at h
    simp only at h
    by_cases h1 : c = 34 ∨ c = 92
    · rw [if_pos h1] at h
      simp only [Option.some.injEq, Prod.mk.injEq] at h
      obtain ⟨rfl, rfl⟩ := h
      obtain ⟨q', rfl⟩ : ∃ q', q = q' + 1 := ⟨q - 1, by omega⟩
      rw [List.take_succ_cons]
      unfold esc; simp only; rw [if_pos h1]
    · rw [if_neg h1] at h
      by_cases h2 : c = 110
      · rw [if_pos h2] at h
        simp only [Option.some.injEq, Prod.mk.injEq] at h
        obtain ⟨rfl, rfl⟩ := h
        obtain ⟨q', rfl⟩ : ∃ q', q = q' + 1 := ⟨q - 1, by omega⟩
        rw [List.take_succ_cons]
        unfold esc; simp only; rw [if_neg h1, if_pos h2]
      · rw [if_neg h2] at h
        by_cases h3 : c = 120
        · rw [if_pos h3] at h
          cases t with
          | nil => simp at h
          | cons y u =>
            have hj : j = 3 := by
              simp only at h
              cases hx : hexv x with
              | none => rw [hx] at h; simp at h
              | some u1 =>
                cases hy : hexv y with
                | none => rw [hx, hy] at h; simp at h
                | some u2 => rw [hx, hy] at h; simp at h; omega
            subst hj
            obtain ⟨q', rfl⟩ : ∃ q', q = q' + 3 := ⟨q - 3, by omega⟩
            simp only [List.take_succ_cons]
            unfold esc
            simp only
            rw [if_neg h1, if_neg h2, if_pos h3]
            exact h
        · simp [h3] at h
theorem quoF_take : ∀ (k : Nat) (s acc : List Nat) (n : Nat) (l : List Nat) (m : Nat), (∀ c ∈ s, c < 256) → (∀ c ∈ acc, c < 256) → quoF k s acc n = some (l, m) → ∀ k', m - n ≤ k' → quoF k' (s.take (m - n)) acc n = some (l, m)
  | 0, _, _, _, _, _, _, _, h => by simp [quoF] at h
  | k + 1, [], _, _, _, _, _, _, h => by simp [quoF] at h
  | k + 1, c :: r, acc, n, l, m, hs, ha, h => fun k' hk => by
    have hr : ∀ c ∈ r, c < 256 := fun x hx => hs x (by simp [hx])
    have hl := quoF_len (k + 1) (c :: r) acc n l m hs ha h
    obtain ⟨q, hq⟩ : ∃ q, m - n = q + 1 := ⟨m - n - 1, by omega⟩
    obtain ⟨k'', rfl⟩ : ∃ k'', k' = k'' + 1 := ⟨k' - 1, by omega⟩
    rw [hq, List.take_succ_cons]
    unfold quoF at h ⊢
    by_cases h1 : c = 34
    · rw [if_pos h1] at h ⊢; exact h
    · rw [if_neg h1] at h ⊢
      by_cases h2 : c = 10
      · rw [if_pos h2] at h; simp at h
      · rw [if_neg h2] at h ⊢
        by_cases h3 : c = 92
        · rw [if_pos h3] at h ⊢
          cases he : esc r with
          | none => rw [he] at h; simp at h
          | some p =>
            obtain ⟨b, j⟩ := p
            rw [he] at h
            simp only at h
            obtain ⟨e1, e2, e3⟩ := esc_len hr he
            have ha' : ∀ c ∈ acc ++ [b], c < 256 := fun x hx => by
              rcases List.mem_append.1 hx with hx | hx
              · exact ha x hx
              · simp at hx; omega
            have hl2 := quoF_len k (r.drop j) (acc ++ [b]) (n + 1 + j) l m (fun c hc => hr c (List.mem_of_mem_drop hc)) ha' h
            rw [esc_take he q (by omega)]
            simp only
            have := quoF_take k (r.drop j) (acc ++ [b]) (n + 1 + j) l m (fun c hc => hr c (List.mem_of_mem_drop hc)) ha' h k'' (by omega)
            rw [List.drop_take, show q - j = m - (n + 1 + j) by omega]
            exact this
        · rw [if_neg h3] at h ⊢
          have ha' : ∀ x ∈ acc ++ [c], x < 256 := fun x hx => by
            rcases List.mem_append.1 hx with hx | hx
            · exact ha x hx
            · simp at hx; have := hs c (by simp); omega
          have := quoF_take k r (acc ++ [c]) (n + 1) l m hr ha' h k'' (by omega)
          rw [show q = m - (n + 1) by omega]
          exact this
theorem quo_take {s l : List Nat} {m : Nat} (hs : ∀ c ∈ s, c < 256) (h : quo s = some (l, m)) : quo (s.take m) = some (l, m) := by
  cases s with
  | nil => simp [quo, quoF] at h
  | cons c r =>
    obtain ⟨l1, l2, -⟩ := quo_len hs h
    unfold quo at h ⊢
    obtain ⟨q, rfl⟩ : ∃ q, m = q + 1 := ⟨m - 1, by omega⟩
    have := quoF_take _ _ _ _ l (q + 1) (fun c hc => hs c (List.mem_of_mem_drop hc)) (by simp) h (q + 1) (by omega)
    simp only [List.take_succ_cons, List.drop_succ_cons, List.drop_zero, List.length_cons, List.length_take, Nat.add_sub_cancel] at this ⊢
    have hle : min q r.length = q := by simp at l2; omega
    rw [hle]
    exact this
theorem mark_take (s : List Nat) : mark (s.take (mark s)) = mark s := by
  match s with
  | [] => rfl
  | [a] =>
    by_cases h : ones.contains a = true
    · have e : mark [a] = 1 := by simp only [mark]; rw [if_pos h]
      rw [e]; exact e
    · have e : mark [a] = 0 := by simp only [mark]; rw [if_neg h]
      rw [e]; rfl
  | a :: b :: t =>
    by_cases h1 : two a b = true
    · have e : ∀ u, mark (a :: b :: u) = 2 := fun u => by simp only [mark]; rw [if_pos h1]
      rw [e]; exact e []
    · by_cases h : ones.contains a = true
      · have e : mark (a :: b :: t) = 1 := by simp only [mark]; rw [if_neg h1, if_pos h]
        rw [e]
        show mark [a] = 1
        simp only [mark]; rw [if_pos h]
      · have e : mark (a :: b :: t) = 0 := by simp only [mark]; rw [if_neg h1, if_neg h]
        rw [e]; rfl
theorem headD_take {s : List Nat} {n : Nat} (h : 1 ≤ n) : (s.take n).headD 0 = s.headD 0 := by
  cases s with
  | nil => simp
  | cons c t =>
    obtain ⟨q, rfl⟩ : ∃ q, n = q + 1 := ⟨n - 1, by omega⟩
    rfl
/-- a word by itself is that word -/
theorem word_take {s : List Nat} {w : Wd} (hb : ∀ c ∈ s, c < 256) (h0 : s ≠ []) (h : word s = .ok w) : word (s.take w.n) = .ok w := by
  obtain ⟨l1, l2, -⟩ := word_len hb h0 h
  have e1 := headD_take (s := s) l1
  unfold word at h ⊢
  rw [e1]
  by_cases c1 : (small (s.headD 0) || capital (s.headD 0)) = true
  · rw [if_pos c1] at h ⊢
    by_cases c2 : 32 < run goes s
    · rw [if_pos c2] at h; simp at h
    · rw [if_neg c2] at h
      simp only [Rw.ok.injEq] at h
      subst h
      simp only
      have e2 : run goes (s.take (run goes s)) = run goes s := by rw [run_take]; omega
      rw [e2, if_neg c2]
  · rw [if_neg c1] at h ⊢
    by_cases c2 : digit (s.headD 0) = true
    · rw [if_pos c2] at h ⊢
      by_cases c3 : (1 < run digit s ∧ s.headD 0 = 48) ∨ 2147483647 < numv (s.take (run digit s)) ∨ run digit s < run goes s
      · rw [if_pos c3] at h; simp at h
      · rw [if_neg c3] at h
        simp only [Rw.ok.injEq] at h
        subst h
        simp only
        have e2 : run digit (s.take (run digit s)) = run digit s := by rw [run_take]; omega
        have e3 : run goes (s.take (run digit s)) = min (run digit s) (run goes s) := run_take _ _ _
        rw [e2, e3, List.take_take, Nat.min_self, if_neg (by omega)]
    · rw [if_neg c2] at h ⊢
      by_cases c3 : s.headD 0 = 34
      · rw [if_pos c3] at h ⊢
        cases hq : quo s with
        | none => rw [hq] at h; simp at h
        | some p =>
          obtain ⟨l, m⟩ := p
          rw [hq] at h
          simp only [Rw.ok.injEq] at h
          subst h
          simp only
          rw [quo_take hb hq]
      · rw [if_neg c3] at h ⊢
        by_cases c4 : mark s = 0
        · rw [if_pos c4] at h; simp at h
        · rw [if_neg c4] at h
          simp only [Rw.ok.injEq] at h
          subst h
          simp only
          rw [mark_take, if_neg c4]
/-- a word of a text by itself -/
theorem alone {s : List Nat} {w : Wd} (hb : ∀ c ∈ s, c < 256) (h0 : s ≠ []) (hsk : skipN false s = 0) (hl : s.length ≤ 65536) (h : word s = .ok w) :
    tokens (s.take w.n) = [⟨w.kind, s.take w.n, w.vk, w.num, w.sym, 1, 1⟩] ∧ fault (s.take w.n) = (0, 0, 0) := by
  obtain ⟨l1, l2, -⟩ := word_len hb h0 h
  have hw := word_take hb h0 h
  have hlen : (s.take w.n).length = w.n := by rw [List.length_take]; omega
  generalize hu : s.take w.n = u at *
  have hu0 : u ≠ [] := by rintro rfl; simp at hlen; omega
  have hsu : skipN false u = 0 := by
    cases s with
    | nil => simp at h0
    | cons c t =>
      obtain ⟨q, hq⟩ : ∃ q, w.n = q + 1 := ⟨w.n - 1, by omega⟩
      rw [hq, List.take_succ_cons] at hu
      subst hu
      unfold skipN at hsk ⊢
      simp only at hsk ⊢
      by_cases hh : (!(if c = 35 then true else if c = 10 then false else false) && !blank c) = true
      · rw [if_pos hh]
      · rw [if_neg hh] at hsk; simp at hsk
  have hks : (start u).skip = start u := by
    unfold St.skip
    rw [show (start u).s = u from rfl, hsu]
    rfl
  have n1 : next (start u) = ({ start u with s := [], pos := adv (1, 1) u, fin := adv (1, 1) u }, some ⟨w.kind, u, w.vk, w.num, w.sym, 1, 1⟩) := by
    unfold next
    have c1 : (start u).long = false := by simp [start]; omega
    rw [if_neg (by simp [start]), c1]
    simp only [Bool.false_eq_true, if_false]
    rw [hks, show (start u).s = u from rfl, if_neg hu0, hw]
    simp only
    rw [← hlen, List.drop_length, List.take_length]
    rfl
  have n2 : ∀ x : St, x.s = [] → x.code = 0 → x.long = false → next x = (x, none) := by
    intro x hx hc hl
    have hk : x.skip = x := by
      unfold St.skip
      rw [hx]
      simp only [skipN, List.drop_nil, List.take_nil, adv]
      cases x; simp at hx; subst hx; rfl
    unfold next
    rw [if_neg (by omega), hl]
    simp only [Bool.false_eq_true, if_false]
    rw [hk, if_pos hx]
  have hg : given u = ([⟨w.kind, u, w.vk, w.num, w.sym, 1, 1⟩], { start u with s := [], pos := adv (1, 1) u, fin := adv (1, 1) u }) := by
    unfold given
    obtain ⟨q, hq⟩ : ∃ q, u.length = q + 1 := ⟨u.length - 1, by omega⟩
    rw [hq, allF, n1]
    simp only
    rw [allF, n2 _ rfl rfl (by simp [start]; omega)]
  unfold tokens fault
  rw [hg]
  exact ⟨rfl, rfl⟩

/-- is nothing there but blanks and remarks? -/
def bare : Bool → List Nat → Bool
  | _, [] => true
  | r, c :: t => if c = 10 then bare false t else if c = 35 then bare true t else if !r && (c != 32 && (c != 9 && c != 13)) then false else bare r t
theorem bare_skip : ∀ (s : List Nat) (r : Bool), bare r (s.take (skipN r s)) = true
  | [], r => by simp [skipN, bare]
  | c :: t, r => by
    unfold skipN
    simp only
    by_cases h10 : c = 10
    · subst h10
      have := bare_skip t false
      simp [blank, bare, this]
    · by_cases h35 : c = 35
      · subst h35
        have := bare_skip t true
        simp [bare, this]
      · simp only [if_neg h10, if_neg h35]
        have ih := bare_skip t r
        by_cases hb : (!r && !blank c) = true
        · rw [if_pos hb]; rfl
        · rw [if_neg hb, List.take_succ_cons]
          unfold bare
          rw [if_neg h10, if_neg h35, if_neg ?_]
          · exact ih
          · intro h
            apply hb
            simp only [Bool.and_eq_true, Bool.not_eq_true', bne_iff_ne] at h ⊢
            refine ⟨h.1, ?_⟩
            simp [blank, h.2, h10]

/-- the place goes on with every byte -/
theorem adv_past : ∀ (l : List Nat) (p : Nat × Nat), l ≠ [] → p.1 < (adv p l).1 ∨ (p.1 = (adv p l).1 ∧ p.2 < (adv p l).2)
  | [], p, h => by simp at h
  | c :: t, p, _ => by
    unfold adv
    have key : ∀ q : Nat × Nat, (p.1 < q.1 ∨ (p.1 = q.1 ∧ p.2 < q.2)) → p.1 < (adv q t).1 ∨ (p.1 = (adv q t).1 ∧ p.2 < (adv q t).2) := by
      intro q hq
      cases t with
      | nil => exact hq
      | cons d u =>
        have := adv_past (d :: u) q (by simp)
        omega
    by_cases h : c = 10
    · rw [if_pos h]; exact key _ (by simp)
    · rw [if_neg h]; exact key _ (by simp)
theorem adv_ne (s : List Nat) (p : Nat × Nat) {j g : Nat} (hj : j < g) (hg : g ≤ s.length) : adv p (s.take j) ≠ adv p (s.take g) := by
  have e : s.take g = s.take j ++ (s.drop j).take (g - j) := by
    rw [← List.take_add]
    congr 1; omega
  rw [e, adv_append]
  intro h
  have hne : (s.drop j).take (g - j) ≠ [] := by
    intro h0
    have := congrArg List.length h0
    simp at this
    omega
  have := adv_past _ (adv p (s.take j)) hne
  rw [← h] at this
  omega

/-- what is left of a text that has its words: either blanks and remarks, or blanks and remarks, a word, and what is left behind it -/
theorem stands {k : Nat} {x : St} (hb : ∀ c ∈ x.s, c < 256) (hl : x.s.length ≤ 65536) (hk : x.s.length < k + 1) (hc : (allF (k + 1) x).2.code = 0) :
    ((allF (k + 1) x).1 = [] ∧ bare false x.s = true) ∨
    ∃ (g n : Nat) (t : Tok) (y : St), (allF (k + 1) x).1 = t :: (allF k y).1 ∧ (allF k y).2.code = 0 ∧ y.s.length < k ∧ (∀ c ∈ y.s, c < 256) ∧
      g + n ≤ x.s.length ∧ 1 ≤ n ∧ bare false (x.s.take g) = true ∧ t.text = (x.s.drop g).take n ∧ t.text.length = n ∧ y.s = x.s.drop (g + n) ∧ (t.line, t.col) = adv x.pos (x.s.take g) ∧ y.pos = adv (adv x.pos (x.s.take g)) t.text ∧
      tokens t.text = [{ t with line := 1, col := 1 }] ∧ fault t.text = (0, 0, 0) := by
  rw [allF] at hc ⊢
  cases hn : next x with
  | mk y o =>
    rw [hn] at hc
    unfold next at hn
    by_cases h1 : x.code ≠ 0
    · rw [if_pos h1] at hn
      simp only [Prod.mk.injEq] at hn
      obtain ⟨rfl, rfl⟩ := hn
      exact absurd hc h1
    · rw [if_neg h1] at hn
      cases h2 : x.long with
      | true =>
        rw [h2] at hn
        simp only [if_true, Prod.mk.injEq] at hn
        obtain ⟨rfl, rfl⟩ := hn
        simp at hc
      | false =>
        rw [h2] at hn
        simp only [Bool.false_eq_true, if_false] at hn
        have hsl := skipN_le false x.s
        by_cases h3 : x.skip.s = []
        · rw [if_pos h3] at hn
          simp only [Prod.mk.injEq] at hn
          obtain ⟨rfl, rfl⟩ := hn
          refine .inl ⟨rfl, ?_⟩
          have h5 : (x.s.drop (skipN false x.s)).length = 0 := by
            have : x.s.drop (skipN false x.s) = [] := h3
            rw [this]; rfl
          rw [List.length_drop] at h5
          have := bare_skip x.s false
          rwa [List.take_of_length_le (by omega)] at this
        · rw [if_neg h3] at hn
          have hbs : ∀ c ∈ x.skip.s, c < 256 := fun c hc => hb c (List.mem_of_mem_drop hc)
          cases hw : word x.skip.s with
          | bad e =>
            rw [hw] at hn
            simp only [Prod.mk.injEq] at hn
            obtain ⟨rfl, rfl⟩ := hn
            exfalso
            have : 30 ≤ e := by
              unfold word at hw
              repeat' (split at hw)
              all_goals first | (simp at hw; omega) | simp at hw
            simp at hc; omega
          | ok w =>
            rw [hw] at hn
            simp only [Prod.mk.injEq] at hn
            obtain ⟨rfl, rfl⟩ := hn
            obtain ⟨l1, l2, -⟩ := word_len hbs h3 hw
            have hll : x.skip.s.length = x.s.length - skipN false x.s := by simp [St.skip]
            have hal := alone hbs h3 (skip_done' x.s) (by omega) hw
            refine .inr ⟨skipN false x.s, w.n, _, _, rfl, hc, ?_, fun c hc => hbs c (List.mem_of_mem_drop hc), by omega, l1, bare_skip _ _, rfl, ?_, ?_, rfl, rfl, hal.1, hal.2⟩
            · simp only [List.length_drop]; omega
            · simp only [List.length_take]; omega
            · simp only [St.skip, List.drop_drop]
end Go.Proofs.YtobimhmllkfmfaaDoor.Lx
