/- SyntaxBlanks: the frame: the statement's arguments opened, the card tied. -/
import Derived.Test.YtppigckioalhhaaGreatDoorRKL2
import Derived.Test.YtppigckioalhhaaGreatDoorRKB3
import Derived.Test.YtppigckioalhhaaGreatDoorRKB10
import Derived.Test.YtppigckioalhhaaGreatDoorRRows
import Derived.ProofKit
import Derived.OpenShut
import Derived.LaidMore
import Derived.Stop.LaidErr
import Derived.Stop.Joined
import Derived.Deep.Slices
import Derived.Test.YtppigckioalhhaaGreatDoorRCards
import Derived.Test.YtppigckioalhhaaGreatDoorRTie
import Derived.ShutString
import Derived.SizedLaws
import Derived.JoinedCond
import Derived.Deep.CondSized
import Derived.Deep.DeepHandedRow
import Derived.Deep.DeepWitnessRowRef
import Derived.SevenTiedAt
/- PLAIN: a word by itself; what stands between words; each word at its place. No program in sight. -/
namespace Go.Proofs.YtppigckioalhhaaGreatDoorR.Lx
set_option linter.unusedSimpArgs false
set_option linter.unusedVariables false

theorem skip_stop : ∀ (s : List Nat) (b : Bool), skipN false (s.drop (skipN b s)) = 0
  | [], b => by simp [skipN]
  | c :: t, b => by
    have ih := skip_stop t (if c = 35 then true else if c = 10 then false else b)
    have e : skipN b (c :: t) = if !(if c = 35 then true else if c = 10 then false else b) && !blank c then 0 else skipN (if c = 35 then true else if c = 10 then false else b) t + 1 := rfl
    by_cases h : (!(if c = 35 then true else if c = 10 then false else b) && !blank c) = true
    · rw [e, if_pos h, List.drop_zero]
      simp only [Bool.and_eq_true, Bool.not_eq_true'] at h
      have h35 : c ≠ 35 := fun h0 => by rw [if_pos h0] at h; simp at h
      exact skip_none h.2 h35
    · rw [e, if_neg h, List.drop_succ_cons]
      exact ih
theorem skip_done' (s : List Nat) : skipN false (s.drop (skipN false s)) = 0 := skip_stop s false
theorem run_take (p : Nat → Bool) (s : List Nat) (k : Nat) : run p (s.take k) = min k (run p s) := by
  induction s generalizing k with
  | nil => simp [run_nil]
  | cons c t ih =>
    cases k with
    | zero => simp [run_nil]
    | succ k =>
      rw [List.take_succ_cons, run_cons, run_cons, ih]
      split <;> omega
theorem esc_take {s : List Nat} {b j : Nat} (h : esc s = some (b, j)) (q : Nat) (hq : j ≤ q) : esc (s.take q) = some (b, j) := by
  match s with
  | [] => simp [esc] at h
  | [c] =>
    unfold esc at h
    simp only at h
    by_cases h1 : c = 34 ∨ c = 92
    · rw [if_pos h1] at h
      simp only [Option.some.injEq, Prod.mk.injEq] at h
      obtain ⟨rfl, rfl⟩ := h
      rw [List.take_of_length_le (by simpa using hq)]
      unfold esc; simp only; rw [if_pos h1]
    · rw [if_neg h1] at h
      by_cases h2 : c = 110
      · rw [if_pos h2] at h
        simp only [Option.some.injEq, Prod.mk.injEq] at h
        obtain ⟨rfl, rfl⟩ := h
        rw [List.take_of_length_le (by simpa using hq)]
        unfold esc; simp only; rw [if_neg h1, if_pos h2]
      · rw [if_neg h2] at h
        by_cases h3 : c = 120 <;> simp [h3] at h
  | c :: x :: t =>
    unfold esc at h
    simp only at h
    by_cases h1 : c = 34 ∨ c = 92
    · rw [if_pos h1] at h
      simp only [Option.some.injEq, Prod.mk.injEq] at h
      obtain ⟨rfl, rfl⟩ := h
      obtain ⟨q', rfl⟩ : ∃ q', q = q' + 1 := ⟨q - 1, by omega⟩
      rw [List.take_succ_cons]
      unfold esc; simp only; rw [if_pos h1]
    · rw [if_neg h1] at h
      by_cases h2 : c = 110
      · rw [if_pos h2] at h
        simp only [Option.some.injEq, Prod.mk.injEq] at h
        obtain ⟨rfl, rfl⟩ := h
        obtain ⟨q', rfl⟩ : ∃ q', q = q' + 1 := ⟨q - 1, by omega⟩
        rw [List.take_succ_cons]
        unfold esc; simp only; rw [if_neg h1, if_pos h2]
      · rw [if_neg h2] at h
        by_cases h3 : c = 120
        · rw [if_pos h3] at h
          cases t with
          | nil => simp at h
          | cons y u =>
            have hj : j = 3 := by
              simp only at h
              cases hx : hexv x with
              | none => rw [hx] at h; simp at h
              | some u1 =>
                cases hy : hexv y with
                | none => rw [hx, hy] at h; simp at h
                | some u2 => rw [hx, hy] at h; simp at h; omega
            subst hj
            obtain ⟨q', rfl⟩ : ∃ q', q = q' + 3 := ⟨q - 3, by omega⟩
            simp only [List.take_succ_cons]
            unfold esc
            simp only
            rw [if_neg h1, if_neg h2, if_pos h3]
            exact h
        · simp [h3] at h
theorem quoF_take : ∀ (k : Nat) (s acc : List Nat) (n : Nat) (l : List Nat) (m : Nat), (∀ c ∈ s, c < 256) → (∀ c ∈ acc, c < 256) → quoF k s acc n = some (l, m) → ∀ k', m - n ≤ k' → quoF k' (s.take (m - n)) acc n = some (l, m)
  | 0, _, _, _, _, _, _, _, h => by simp [quoF] at h
  | k + 1, [], _, _, _, _, _, _, h => by simp [quoF] at h
  | k + 1, c :: r, acc, n, l, m, hs, ha, h => fun k' hk => by
    have hr : ∀ c ∈ r, c < 256 := fun x hx => hs x (by simp [hx])
    have hl := quoF_len (k + 1) (c :: r) acc n l m hs ha h
    obtain ⟨q, hq⟩ : ∃ q, m - n = q + 1 := ⟨m - n - 1, by omega⟩
    obtain ⟨k'', rfl⟩ : ∃ k'', k' = k'' + 1 := ⟨k' - 1, by omega⟩
    rw [hq, List.take_succ_cons]
    unfold quoF at h ⊢
    by_cases h1 : c = 34
    · rw [if_pos h1] at h ⊢; exact h
    · rw [if_neg h1] at h ⊢
      by_cases h2 : c = 10
      · rw [if_pos h2] at h; simp at h
      · rw [if_neg h2] at h ⊢
        by_cases h3 : c = 92
        · rw [if_pos h3] at h ⊢
          cases he : esc r with
          | none => rw [he] at h; simp at h
          | some p =>
            obtain ⟨b, j⟩ := p
            rw [he] at h
            simp only at h
            obtain ⟨e1, e2, e3⟩ := esc_len hr he
            have ha' : ∀ c ∈ acc ++ [b], c < 256 := fun x hx => by
              rcases List.mem_append.1 hx with hx | hx
              · exact ha x hx
              · simp at hx; omega
            have hl2 := quoF_len k (r.drop j) (acc ++ [b]) (n + 1 + j) l m (fun c hc => hr c (List.mem_of_mem_drop hc)) ha' h
            rw [esc_take he q (by omega)]
            simp only
            have := quoF_take k (r.drop j) (acc ++ [b]) (n + 1 + j) l m (fun c hc => hr c (List.mem_of_mem_drop hc)) ha' h k'' (by omega)
            rw [List.drop_take, show q - j = m - (n + 1 + j) by omega]
            exact this
        · rw [if_neg h3] at h ⊢
          have ha' : ∀ x ∈ acc ++ [c], x < 256 := fun x hx => by
            rcases List.mem_append.1 hx with hx | hx
            · exact ha x hx
            · simp at hx; have := hs c (by simp); omega
          have := quoF_take k r (acc ++ [c]) (n + 1) l m hr ha' h k'' (by omega)
          rw [show q = m - (n + 1) by omega]
          exact this
theorem quo_take {s l : List Nat} {m : Nat} (hs : ∀ c ∈ s, c < 256) (h : quo s = some (l, m)) : quo (s.take m) = some (l, m) := by
  cases s with
  | nil => simp [quo, quoF] at h
  | cons c r =>
    obtain ⟨l1, l2, -⟩ := quo_len hs h
    unfold quo at h ⊢
    obtain ⟨q, rfl⟩ : ∃ q, m = q + 1 := ⟨m - 1, by omega⟩
    have := quoF_take _ _ _ _ l (q + 1) (fun c hc => hs c (List.mem_of_mem_drop hc)) (by simp) h (q + 1) (by omega)
    simp only [List.take_succ_cons, List.drop_succ_cons, List.drop_zero, List.length_cons, List.length_take, Nat.add_sub_cancel] at this ⊢
    have hle : min q r.length = q := by simp at l2; omega
    rw [hle]
    exact this
theorem mark_take (s : List Nat) : mark (s.take (mark s)) = mark s := by
  match s with
  | [] => rfl
  | [a] =>
    by_cases h : ones.contains a = true
    · have e : mark [a] = 1 := by simp only [mark]; rw [if_pos h]
      rw [e]; exact e
    · have e : mark [a] = 0 := by simp only [mark]; rw [if_neg h]
      rw [e]; rfl
  | a :: b :: t =>
    by_cases h1 : two a b = true
    · have e : ∀ u, mark (a :: b :: u) = 2 := fun u => by simp only [mark]; rw [if_pos h1]
      rw [e]; exact e []
    · by_cases h : ones.contains a = true
      · have e : mark (a :: b :: t) = 1 := by simp only [mark]; rw [if_neg h1, if_pos h]
        rw [e]
        show mark [a] = 1
        simp only [mark]; rw [if_pos h]
      · have e : mark (a :: b :: t) = 0 := by simp only [mark]; rw [if_neg h1, if_neg h]
        rw [e]; rfl
theorem headD_take {s : List Nat} {n : Nat} (h : 1 ≤ n) : (s.take n).headD 0 = s.headD 0 := by
  cases s with
  | nil => simp
  | cons c t =>
    obtain ⟨q, rfl⟩ : ∃ q, n = q + 1 := ⟨n - 1, by omega⟩
    rfl
/-- a word by itself is that word -/
theorem word_take {s : List Nat} {w : Wd} (hb : ∀ c ∈ s, c < 256) (h0 : s ≠ []) (h : word s = .ok w) : word (s.take w.n) = .ok w := by
  obtain ⟨l1, l2, -⟩ := word_len hb h0 h
  have e1 := headD_take (s := s) l1
  unfold word at h ⊢
  rw [e1]
  by_cases c1 : (small (s.headD 0) || capital (s.headD 0)) = true
  · rw [if_pos c1] at h ⊢
    by_cases c2 : 32 < run goes s
    · rw [if_pos c2] at h; simp at h
    · rw [if_neg c2] at h
      simp only [Rw.ok.injEq] at h
      subst h
      simp only
      have e2 : run goes (s.take (run goes s)) = run goes s := by rw [run_take]; omega
      rw [e2, if_neg c2]
  · rw [if_neg c1] at h ⊢
    by_cases c2 : digit (s.headD 0) = true
    · rw [if_pos c2] at h ⊢
      by_cases c3 : (1 < run digit s ∧ s.headD 0 = 48) ∨ 2147483647 < numv (s.take (run digit s)) ∨ run digit s < run goes s
      · rw [if_pos c3] at h; simp at h
      · rw [if_neg c3] at h
        simp only [Rw.ok.injEq] at h
        subst h
        simp only
        have e2 : run digit (s.take (run digit s)) = run digit s := by rw [run_take]; omega
        have e3 : run goes (s.take (run digit s)) = min (run digit s) (run goes s) := run_take _ _ _
        rw [e2, e3, List.take_take, Nat.min_self, if_neg (by omega)]
    · rw [if_neg c2] at h ⊢
      by_cases c3 : s.headD 0 = 34
      · rw [if_pos c3] at h ⊢
        cases hq : quo s with
        | none => rw [hq] at h; simp at h
        | some p =>
          obtain ⟨l, m⟩ := p
          rw [hq] at h
          simp only [Rw.ok.injEq] at h
          subst h
          simp only
          rw [quo_take hb hq]
      · rw [if_neg c3] at h ⊢
        by_cases c4 : mark s = 0
        · rw [if_pos c4] at h; simp at h
        · rw [if_neg c4] at h
          simp only [Rw.ok.injEq] at h
          subst h
          simp only
          rw [mark_take, if_neg c4]
/-- a word of a text by itself -/
theorem alone {s : List Nat} {w : Wd} (hb : ∀ c ∈ s, c < 256) (h0 : s ≠ []) (hsk : skipN false s = 0) (hl : s.length ≤ 65536) (h : word s = .ok w) :
    tokens (s.take w.n) = [⟨w.kind, s.take w.n, w.vk, w.num, w.sym, 1, 1⟩] ∧ fault (s.take w.n) = (0, 0, 0) := by
  obtain ⟨l1, l2, -⟩ := word_len hb h0 h
  have hw := word_take hb h0 h
  have hlen : (s.take w.n).length = w.n := by rw [List.length_take]; omega
  generalize hu : s.take w.n = u at *
  have hu0 : u ≠ [] := by rintro rfl; simp at hlen; omega
  have hsu : skipN false u = 0 := by
    cases s with
    | nil => simp at h0
    | cons c t =>
      obtain ⟨q, hq⟩ : ∃ q, w.n = q + 1 := ⟨w.n - 1, by omega⟩
      rw [hq, List.take_succ_cons] at hu
      subst hu
      unfold skipN at hsk ⊢
      simp only at hsk ⊢
      by_cases hh : (!(if c = 35 then true else if c = 10 then false else false) && !blank c) = true
      · rw [if_pos hh]
      · rw [if_neg hh] at hsk; simp at hsk
  have hks : (start u).skip = start u := by
    unfold St.skip
    rw [show (start u).s = u from rfl, hsu]
    rfl
  have n1 : next (start u) = ({ start u with s := [], pos := adv (1, 1) u, fin := adv (1, 1) u }, some ⟨w.kind, u, w.vk, w.num, w.sym, 1, 1⟩) := by
    unfold next
    have c1 : (start u).long = false := by simp [start]; omega
    rw [if_neg (by simp [start]), c1]
    simp only [Bool.false_eq_true, if_false]
    rw [hks, show (start u).s = u from rfl, if_neg hu0, hw]
    simp only
    rw [← hlen, List.drop_length, List.take_length]
    rfl
  have n2 : ∀ x : St, x.s = [] → x.code = 0 → x.long = false → next x = (x, none) := by
    intro x hx hc hl
    have hk : x.skip = x := by
      unfold St.skip
      rw [hx]
      simp only [skipN, List.drop_nil, List.take_nil, adv]
      cases x; simp at hx; subst hx; rfl
    unfold next
    rw [if_neg (by omega), hl]
    simp only [Bool.false_eq_true, if_false]
    rw [hk, if_pos hx]
  have hg : given u = ([⟨w.kind, u, w.vk, w.num, w.sym, 1, 1⟩], { start u with s := [], pos := adv (1, 1) u, fin := adv (1, 1) u }) := by
    unfold given
    obtain ⟨q, hq⟩ : ∃ q, u.length = q + 1 := ⟨u.length - 1, by omega⟩
    rw [hq, allF, n1]
    simp only
    rw [allF, n2 _ rfl rfl (by simp [start]; omega)]
  unfold tokens fault
  rw [hg]
  exact ⟨rfl, rfl⟩

/-- is nothing there but blanks and remarks? -/
def bare : Bool → List Nat → Bool
  | _, [] => true
  | r, c :: t => if c = 10 then bare false t else if c = 35 then bare true t else if !r && (c != 32 && (c != 9 && c != 13)) then false else bare r t
theorem bare_skip : ∀ (s : List Nat) (r : Bool), bare r (s.take (skipN r s)) = true
  | [], r => by simp [skipN, bare]
  | c :: t, r => by
    unfold skipN
    simp only
    by_cases h10 : c = 10
    · subst h10
      have := bare_skip t false
      simp [blank, bare, this]
    · by_cases h35 : c = 35
      · subst h35
        have := bare_skip t true
        simp [bare, this]
      · simp only [if_neg h10, if_neg h35]
        have ih := bare_skip t r
        by_cases hb : (!r && !blank c) = true
        · rw [if_pos hb]; rfl
        · rw [if_neg hb, List.take_succ_cons]
          unfold bare
          rw [if_neg h10, if_neg h35, if_neg ?_]
          · exact ih
          · intro h
            apply hb
            simp only [Bool.and_eq_true, Bool.not_eq_true', bne_iff_ne] at h ⊢
            refine ⟨h.1, ?_⟩
            simp [blank, h.2, h10]

/-- what is left of a text that has its words: either blanks and remarks, or blanks and remarks, a word, and what is left behind it -/
theorem stands {k : Nat} {x : St} (hb : ∀ c ∈ x.s, c < 256) (hl : x.s.length ≤ 65536) (hk : x.s.length < k + 1) (hc : (allF (k + 1) x).2.code = 0) :
    ((allF (k + 1) x).1 = [] ∧ bare false x.s = true) ∨
    ∃ (g n : Nat) (t : Tok) (y : St), (allF (k + 1) x).1 = t :: (allF k y).1 ∧ (allF k y).2.code = 0 ∧ y.s.length < k ∧ (∀ c ∈ y.s, c < 256) ∧
      g + n ≤ x.s.length ∧ 1 ≤ n ∧ bare false (x.s.take g) = true ∧ t.text = (x.s.drop g).take n ∧ t.text.length = n ∧ y.s = x.s.drop (g + n) ∧ (t.line, t.col) = adv x.pos (x.s.take g) ∧ y.pos = adv (adv x.pos (x.s.take g)) t.text ∧
      tokens t.text = [{ t with line := 1, col := 1 }] ∧ fault t.text = (0, 0, 0) := by
  rw [allF] at hc ⊢
  cases hn : next x with
  | mk y o =>
    rw [hn] at hc
    unfold next at hn
    by_cases h1 : x.code ≠ 0
    · rw [if_pos h1] at hn
      simp only [Prod.mk.injEq] at hn
      obtain ⟨rfl, rfl⟩ := hn
      exact absurd hc h1
    · rw [if_neg h1] at hn
      cases h2 : x.long with
      | true =>
        rw [h2] at hn
        simp only [if_true, Prod.mk.injEq] at hn
        obtain ⟨rfl, rfl⟩ := hn
        simp at hc
      | false =>
        rw [h2] at hn
        simp only [Bool.false_eq_true, if_false] at hn
        have hsl := skipN_le false x.s
        by_cases h3 : x.skip.s = []
        · rw [if_pos h3] at hn
          simp only [Prod.mk.injEq] at hn
          obtain ⟨rfl, rfl⟩ := hn
          refine .inl ⟨rfl, ?_⟩
          have h5 : (x.s.drop (skipN false x.s)).length = 0 := by
            have : x.s.drop (skipN false x.s) = [] := h3
            rw [this]; rfl
          rw [List.length_drop] at h5
          have := bare_skip x.s false
          rwa [List.take_of_length_le (by omega)] at this
        · rw [if_neg h3] at hn
          have hbs : ∀ c ∈ x.skip.s, c < 256 := fun c hc => hb c (List.mem_of_mem_drop hc)
          cases hw : word x.skip.s with
          | bad e =>
            rw [hw] at hn
            simp only [Prod.mk.injEq] at hn
            obtain ⟨rfl, rfl⟩ := hn
            exfalso
            have : 30 ≤ e := by
              unfold word at hw
              repeat' (split at hw)
              all_goals first | (simp at hw; omega) | simp at hw
            simp at hc; omega
          | ok w =>
            rw [hw] at hn
            simp only [Prod.mk.injEq] at hn
            obtain ⟨rfl, rfl⟩ := hn
            obtain ⟨l1, l2, -⟩ := word_len hbs h3 hw
            have hll : x.skip.s.length = x.s.length - skipN false x.s := by simp [St.skip]
            have hal := alone hbs h3 (skip_done' x.s) (by omega) hw
            refine .inr ⟨skipN false x.s, w.n, _, _, rfl, hc, ?_, fun c hc => hbs c (List.mem_of_mem_drop hc), by omega, l1, bare_skip _ _, rfl, ?_, ?_, rfl, rfl, hal.1, hal.2⟩
            · simp only [List.length_drop]; omega
            · simp only [List.length_take]; omega
            · simp only [St.skip, List.drop_drop]
end Go.Proofs.YtppigckioalhhaaGreatDoorR.Lx
/- PLAIN: a text's words with their places; a text that is cut off. No program (of the machine) in sight. -/
namespace Go.Proofs.YtppigckioalhhaaGreatDoorR.Lx
set_option linter.unusedSimpArgs false
set_option linter.unusedVariables false

theorem skip_take : ∀ (s : List Nat) (b : Bool) (k : Nat), skipN b (s.take k) = min k (skipN b s)
  | [], b, k => by simp [skipN]
  | c :: t, b, 0 => by simp [skipN]
  | c :: t, b, k + 1 => by
    rw [List.take_succ_cons]
    unfold skipN
    simp only
    rw [skip_take t _ k]
    generalize (if c = 35 then true else if c = 10 then false else b) = b'
    by_cases h : (!b' && !blank c) = true
    · rw [if_pos h, if_pos h]; omega
    · rw [if_neg h, if_neg h]; omega
theorem word_takeN {s : List Nat} {w : Wd} (hb : ∀ c ∈ s, c < 256) (h0 : s ≠ []) (h : word s = .ok w) (k : Nat) (hk : w.n ≤ k) : word (s.take k) = .ok w := by
  obtain ⟨l1, l2, -⟩ := word_len hb h0 h
  have e1 := headD_take (s := s) (n := k) (by omega)
  unfold word at h ⊢
  rw [e1]
  by_cases c1 : (small (s.headD 0) || capital (s.headD 0)) = true
  · rw [if_pos c1] at h ⊢
    by_cases c2 : 32 < run goes s
    · rw [if_pos c2] at h; simp at h
    · rw [if_neg c2] at h
      simp only [Rw.ok.injEq] at h
      subst h
      simp only at hk
      have e2 : run goes (s.take k) = run goes s := by rw [run_take]; omega
      rw [e2, if_neg c2]
  · rw [if_neg c1] at h ⊢
    by_cases c2 : digit (s.headD 0) = true
    · rw [if_pos c2] at h ⊢
      by_cases c3 : (1 < run digit s ∧ s.headD 0 = 48) ∨ 2147483647 < numv (s.take (run digit s)) ∨ run digit s < run goes s
      · rw [if_pos c3] at h; simp at h
      · rw [if_neg c3] at h
        simp only [Rw.ok.injEq] at h
        subst h
        simp only at hk
        have e2 : run digit (s.take k) = run digit s := by rw [run_take]; omega
        have e3 : run goes (s.take k) = min k (run goes s) := run_take _ _ _
        rw [e2, e3, List.take_take, show min (run digit s) k = run digit s by omega, if_neg (by omega)]
    · rw [if_neg c2] at h ⊢
      by_cases c3 : s.headD 0 = 34
      · rw [if_pos c3] at h ⊢
        cases hq : quo s with
        | none => rw [hq] at h; simp at h
        | some p =>
          obtain ⟨l, m⟩ := p
          rw [hq] at h
          simp only [Rw.ok.injEq] at h
          subst h
          simp only at hk l2
          have h1 := quo_take hb hq
          have h2 := quo_join (fun c hc => hb c (List.mem_of_mem_take hc)) h1 ((s.drop m).take (k - m))
          rw [← List.take_add, show m + (k - m) = k by omega] at h2
          rw [h2]
      · rw [if_neg c3] at h ⊢
        by_cases c4 : mark s = 0
        · rw [if_pos c4] at h; simp at h
        · rw [if_neg c4] at h
          simp only [Rw.ok.injEq] at h
          subst h
          simp only at hk
          have : mark (s.take k) = mark s := by
            match s, h0, k, hk with
            | [a], _, k, hk =>
              rw [List.take_of_length_le (by simp; simp at l1; omega)]
            | a :: b :: t, _, 0, hk => simp at l1; omega
            | a :: b :: t, _, 1, hk =>
              have : mark (a :: b :: t) = 1 := by omega
              have h1 : two a b = false := by
                cases ht : two a b with
                | false => rfl
                | true => simp [mark, ht] at this
              simp only [mark, h1] at this
              have h2 : ones.contains a = true := by
                cases ho : ones.contains a with
                | true => rfl
                | false => rw [ho] at this; simp at this
              simp only [List.take_succ_cons, List.take_zero, mark, h1, h2]
              rfl
            | a :: b :: t, _, k + 2, hk => simp [mark]
          rw [this, if_neg c4]
/-- s, that begins at place p, begins with the words l; what is left, and its place -/
inductive Sq : List Nat → Nat × Nat → List Tok → List Nat → Nat × Nat → Prop
  | nil (s : List Nat) (p : Nat × Nat) : Sq s p [] s p
  | word {s : List Nat} {p : Nat × Nat} {u : List Nat} {w : Wd} {l : List Tok} {r : List Nat} {q : Nat × Nat} (hs : s.drop (skipN false s) = u) (h0 : u ≠ []) (hw : word u = .ok w)
      (h : Sq (u.drop w.n) (adv (adv p (s.take (skipN false s))) (u.take w.n)) l r q) :
      Sq s p (⟨w.kind, u.take w.n, w.vk, w.num, w.sym, (adv p (s.take (skipN false s))).1, (adv p (s.take (skipN false s))).2⟩ :: l) r q
theorem Sq.trans {a b c : List Nat} {p q o : Nat × Nat} {l m : List Tok} (h : Sq a p l b q) (k : Sq b q m c o) : Sq a p (l ++ m) c o := by
  induction h with
  | nil s p => exact k
  | word hs h0 hw h ih => exact .word hs h0 hw (ih k)
theorem Sq.split {c : List Nat} {o : Nat × Nat} (m : List Tok) : ∀ {l : List Tok} {a : List Nat} {p : Nat × Nat}, Sq a p (l ++ m) c o → ∃ b q, Sq a p l b q ∧ Sq b q m c o
  | [], a, p, h => ⟨a, p, .nil a p, h⟩
  | t :: l, a, p, h => by
    rw [List.cons_append] at h
    generalize hx : t :: (l ++ m) = x at h
    cases h with
    | nil => cases hx
    | word hs h0 hw h =>
      simp only [List.cons.injEq] at hx
      obtain ⟨rfl, hx⟩ := hx
      subst hx
      obtain ⟨b, q, h1, h2⟩ := Sq.split m h
      exact ⟨b, q, .word hs h0 hw h1, h2⟩
/-- nothing but blanks and remarks -/
def Bl (s : List Nat) : Prop := s.drop (skipN false s) = []
theorem sq_of_all : ∀ (k : Nat) (x : St), (∀ c ∈ x.s, c < 256) → x.s.length < k → (allF k x).2.code = 0 → ∃ r q, Sq x.s x.pos (allF k x).1 r q ∧ Bl r
  | 0, x, _, h, _ => by omega
  | k + 1, x, hb, hk, hc => by
    rw [allF] at hc ⊢
    cases hn : next x with
    | mk y o =>
      rw [hn] at hc
      unfold next at hn
      by_cases h1 : x.code ≠ 0
      · rw [if_pos h1] at hn
        simp only [Prod.mk.injEq] at hn
        obtain ⟨rfl, rfl⟩ := hn
        exact absurd hc h1
      · rw [if_neg h1] at hn
        cases h2 : x.long with
        | true =>
          rw [h2] at hn
          simp only [if_true, Prod.mk.injEq] at hn
          obtain ⟨rfl, rfl⟩ := hn
          simp at hc
        | false =>
          rw [h2] at hn
          simp only [Bool.false_eq_true, if_false] at hn
          by_cases h3 : x.skip.s = []
          · rw [if_pos h3] at hn
            simp only [Prod.mk.injEq] at hn
            obtain ⟨rfl, rfl⟩ := hn
            exact ⟨x.s, x.pos, .nil _ _, h3⟩
          · rw [if_neg h3] at hn
            have hbs : ∀ c ∈ x.skip.s, c < 256 := fun c hc => hb c (List.mem_of_mem_drop hc)
            cases hw : word x.skip.s with
            | bad e =>
              rw [hw] at hn
              simp only [Prod.mk.injEq] at hn
              obtain ⟨rfl, rfl⟩ := hn
              exfalso
              have : 30 ≤ e := by
                unfold word at hw
                repeat' (split at hw)
                all_goals first | (simp at hw; omega) | simp at hw
              simp at hc; omega
            | ok w =>
              rw [hw] at hn
              simp only [Prod.mk.injEq] at hn
              obtain ⟨rfl, rfl⟩ := hn
              obtain ⟨l1, l2, -⟩ := word_len hbs h3 hw
              have hll : x.skip.s.length = x.s.length - skipN false x.s := by simp [St.skip]
              obtain ⟨r, q, h4, h5⟩ := sq_of_all k _ (fun c hc => hbs c (List.mem_of_mem_drop hc)) (by simp only [List.length_drop]; omega) hc
              exact ⟨r, q, Sq.word (s := x.s) (p := x.pos) (u := x.skip.s) rfl h3 hw h4, h5⟩
theorem all_of_sq {s r : List Nat} {p q : Nat × Nat} {l : List Tok} (h : Sq s p l r q) : ∀ (x : St) (k : Nat), x.s = s → x.pos = p → x.code = 0 → x.long = false → l.length < k → Bl r → ∃ y, allF k x = (l, y) ∧ y.code = 0 := by
  induction h with
  | nil s p =>
    intro x k hx hp hc hl hk hb
    obtain ⟨k, rfl⟩ : ∃ m, k = m + 1 := ⟨k - 1, by omega⟩
    have hn : next x = (x.skip, none) := by
      unfold next
      rw [if_neg (by omega), hl]
      have : x.skip.s = [] := by unfold St.skip; rw [hx]; exact hb
      rw [if_pos this]
      rfl
    exact ⟨x.skip, by rw [allF, hn], hc⟩
  | @word s p u w l r q hs h0 hw h ih =>
    intro x k hx hp hc hl hk hb
    obtain ⟨k, rfl⟩ : ∃ m, k = m + 1 := ⟨k - 1, by rw [List.length_cons] at hk; omega⟩
    have e1 : x.skip.s = u := by unfold St.skip; rw [hx]; exact hs
    have e2 : x.skip.pos = adv p (s.take (skipN false s)) := by unfold St.skip; rw [hx, hp]
    have hn : next x = ({ x.skip with s := u.drop w.n, pos := adv x.skip.pos (u.take w.n), fin := adv x.skip.pos (u.take w.n) }, some ⟨w.kind, u.take w.n, w.vk, w.num, w.sym, x.skip.pos.1, x.skip.pos.2⟩) := by
      unfold next
      rw [if_neg (by omega), hl, e1, if_neg h0, hw]
      rfl
    obtain ⟨y, h1, h2⟩ := ih { x.skip with s := u.drop w.n, pos := adv x.skip.pos (u.take w.n), fin := adv x.skip.pos (u.take w.n) } k rfl (by rw [e2]) hc hl (by simpa using hk) hb
    refine ⟨y, ?_, h2⟩
    rw [allF, hn]
    simp only
    rw [h1, e2]
theorem Sq.len {s r : List Nat} {p q : Nat × Nat} {l : List Tok} (h : Sq s p l r q) (hb : ∀ c ∈ s, c < 256) : l.length + r.length ≤ s.length := by
  induction h with
  | nil s p => simp
  | @word s p u w l r q hs h0 hw h ih =>
    have hu : ∀ c ∈ u, c < 256 := fun c hc => hb c (by rw [← hs] at hc; exact List.mem_of_mem_drop hc)
    obtain ⟨l1, l2, -⟩ := word_len hu h0 hw
    have := ih (fun c hc => hu c (List.mem_of_mem_drop hc))
    have hul : u.length ≤ s.length := by rw [← hs, List.length_drop]; omega
    rw [List.length_drop] at this
    rw [List.length_cons]
    omega
theorem given_of_sq {s r : List Nat} {q : Nat × Nat} {l : List Tok} (h : Sq s (1, 1) l r q) (hb : ∀ c ∈ s, c < 256) (hr : Bl r) (hl : s.length ≤ 65536) : (given s).1 = l ∧ (given s).2.code = 0 := by
  have := h.len hb
  obtain ⟨y, h1, h2⟩ := all_of_sq h (start s) (s.length + 1) rfl rfl rfl (by simp [start]; omega) (by omega) hr
  unfold given
  rw [h1]
  exact ⟨rfl, h2⟩
theorem sq_of_given {s : List Nat} (hb : ∀ c ∈ s, c < 256) (hc : (given s).2.code = 0) : ∃ r q, Sq s (1, 1) (given s).1 r q ∧ Bl r :=
  sq_of_all (s.length + 1) (start s) hb (by simp [start]) hc
/-- cut off behind the words -/
theorem Sq.take {s r : List Nat} {p q : Nat × Nat} {l : List Tok} (h : Sq s p l r q) : ∀ (hb : ∀ c ∈ s, c < 256) (j : Nat), Sq (s.take (s.length - r.length + j)) p l (r.take j) q := by
  induction h with
  | nil s p =>
    intro hb j
    rw [show s.length - s.length + j = j by omega]
    exact .nil _ _
  | @word s p u w l r q hs h0 hw h ih =>
    intro hb j
    have hu : ∀ c ∈ u, c < 256 := fun c hc => hb c (by rw [← hs] at hc; exact List.mem_of_mem_drop hc)
    obtain ⟨l1, l2, -⟩ := word_len hu h0 hw
    have hd : ∀ c ∈ u.drop w.n, c < 256 := fun c hc => hu c (List.mem_of_mem_drop hc)
    have ih := ih hd j
    have hlen := h.len hd
    rw [List.length_drop] at hlen
    have hul : u.length = s.length - skipN false s := by rw [← hs, List.length_drop]
    have hsk := skipN_le false s
    have hul0 : 0 < u.length := List.length_pos_iff.2 h0
    generalize hJ : s.length - r.length + j = J
    have hJ2 : skipN false s + w.n ≤ J := by omega
    have hsk2 : skipN false (s.take J) = skipN false s := by rw [skip_take]; omega
    have e1 : (s.take J).drop (skipN false (s.take J)) = u.take (J - skipN false s) := by rw [hsk2, List.drop_take, hs]
    have e2 : (s.take J).take (skipN false (s.take J)) = s.take (skipN false s) := by rw [hsk2, List.take_take, show min (skipN false s) J = skipN false s by omega]
    have e3 : (u.take (J - skipN false s)).take w.n = u.take w.n := by rw [List.take_take, show min w.n (J - skipN false s) = w.n by omega]
    have e4 : (u.take (J - skipN false s)).drop w.n = (u.drop w.n).take ((u.drop w.n).length - r.length + j) := by
      rw [List.drop_take, List.length_drop]
      congr 1
      omega
    have := Sq.word (s := s.take J) (p := p) (l := l) (r := r.take j) (q := q) e1 (by
      intro h5
      have := congrArg List.length h5
      rw [List.length_take, List.length_nil] at this
      omega) (word_takeN hu h0 hw _ (by omega)) (by rw [e2, e3, e4]; exact ih)
    rw [e2, e3] at this
    exact this
/-- at another place the words are the same but for their places -/
theorem Sq.place {s r : List Nat} {p q : Nat × Nat} {l : List Tok} (h : Sq s p l r q) : ∀ p', ∃ l' q', Sq s p' l' r q' ∧ l'.map (fun t => (t.kind, t.text, t.vk, t.num, t.sym)) = l.map (fun t => (t.kind, t.text, t.vk, t.num, t.sym)) := by
  induction h with
  | nil s p => exact fun p' => ⟨[], p', .nil _ _, rfl⟩
  | word hs h0 hw h ih =>
    intro p'
    obtain ⟨l', q', h1, h2⟩ := ih (adv (adv p' _) _)
    exact ⟨_, q', .word hs h0 hw h1, by simp [h2]⟩

end Go.Proofs.YtppigckioalhhaaGreatDoorR.Lx
/- PLAIN: the parser on the first words of a text alone. No program (of the machine) in sight. -/
namespace Go.Proofs.YtppigckioalhhaaGreatDoorR.Sy
open Lx (Tok)
open Pr (Term Atom Ex Li Rul Rel Prog)
set_option linter.unusedVariables false
set_option linter.unusedSimpArgs false

/-- v' has v's first m words -/
structure Cut (v v' : Env) (m : Nat) : Prop where
  ws : v'.ws = v.ws.take m
  le : m ≤ v.ws.length
theorem Cut.len {v v' : Env} {m : Nat} (h : Cut v v' m) : v'.ws.length = m := by rw [h.ws, List.length_take]; have := h.le; omega
theorem Cut.tk {v v' : Env} {m : Nat} (h : Cut v v' m) {i : Nat} (hi : i < m) : v'.tk i = v.tk i := by
  unfold Env.tk
  rw [h.ws, List.getD_eq_getElem?_getD, List.getD_eq_getElem?_getD, List.getElem?_take, if_pos hi]
theorem Cut.out {v v' : Env} {m : Nat} (h : Cut v v' m) {i : Nat} (hi : m ≤ i) : v'.tk i = zT := by
  unfold Env.tk
  rw [List.getD_eq_getElem?_getD, List.getElem?_eq_none (by rw [h.len]; exact hi)]
  rfl
theorem Cut.give {v v' : Env} {m : Nat} (h : Cut v v' m) {i c : Nat} (hi : m ≤ i) : v'.give c i = v'.last := by
  unfold Env.give
  rw [if_neg (by rw [h.len]; omega)]
/-- at the end: it reads no more, or tells the end -/
def End {α : Type} (v' : Env) (m : Nat) (p : PR α) : Prop := (∃ a, p = .ok a m) ∨ p = .err v'.last
/-- what was read is read, or the end is told -/
def Pre {α : Type} (v' : Env) (m : Nat) (p p' : PR α) : Prop := ∀ a j, p = .ok a j → (p' = .ok a j ∧ j ≤ m) ∨ End v' m p'
section
variable {α β : Type} {v v' : Env} {m : Nat}
theorem End.bind {p : PR α} {f : α → Nat → PR β} (h : End v' m p) (hf : ∀ a, End v' m (f a m)) : End v' m (p.bind f) := by
  rcases h with ⟨a, rfl⟩ | rfl
  · exact hf a
  · exact .inr rfl
theorem Pre.bind {p p' : PR α} {f f' : α → Nat → PR β} (h : Pre v' m p p') (hf : ∀ a j, j ≤ m → Pre v' m (f a j) (f' a j)) (he : ∀ a, End v' m (f' a m)) : Pre v' m (p.bind f) (p'.bind f') := by
  intro b k hb
  obtain ⟨a, j, h1, h2⟩ := bind_ok hb
  rcases h a j h1 with ⟨h3, h4⟩ | h3
  · rw [h3, PR.bind_ok]
    exact hf a j h4 b k h2
  · exact .inr (h3.bind he)
theorem Pre.same {p : PR α} (h : ∀ a j, p = .ok a j → j ≤ m) : Pre v' m p p := fun a j e => .inl ⟨e, h a j e⟩
theorem Pre.err {f : Flt} {p' : PR α} : Pre v' m (.err f) p' := fun a j e => by cases e
end
end Go.Proofs.YtppigckioalhhaaGreatDoorR.Sy
/- PLAIN: SyntaxCut: a beginning of a text that is read, cut off behind a word, is read too, or the end is told at its place. No program (of the machine) in sight. -/
namespace Go.Proofs.YtppigckioalhhaaGreatDoorR.Sy
open Lx (Tok adv)
set_option linter.unusedVariables false
set_option linter.unusedSimpArgs false

end Go.Proofs.YtppigckioalhhaaGreatDoorR.Sy
/- PLAIN: SyntaxBlanks: a text's words with other blanks and remarks between are the same words. No program (of the machine) in sight. -/
namespace Go.Proofs.YtppigckioalhhaaGreatDoorR.Lx
set_option linter.unusedSimpArgs false
set_option linter.unusedVariables false

theorem run_ext (p : Nat → Bool) (c : Nat) (hp : p c = false) (a r : List Nat) : run p (a ++ c :: r) = run p a := by
  induction a with
  | nil => simp [run_cons, hp, run_nil]
  | cons d t ih => rw [List.cons_append, run_cons, run_cons, ih]
theorem mark_ext (a : List Nat) (c : Nat) (hc : c ≠ 45 ∧ c ≠ 61) (r : List Nat) (h : a ≠ []) : mark (a ++ c :: r) = mark a := by
  have ht : ∀ x, two x c = false := fun x => by simp [two, hc.1, hc.2]
  match a, h with
  | [x], _ => simp [mark, ht]
  | x :: y :: t, _ => simp [mark]
/-- a word does not go on behind a blank -/
theorem word_ext {a : List Nat} {w : Wd} (hb : ∀ c ∈ a, c < 256) (h0 : a ≠ []) (h : word a = .ok w) (c : Nat) (hg : goes c = false) (hc : c ≠ 45 ∧ c ≠ 61) (r : List Nat) : word (a ++ c :: r) = .ok w := by
  have e1 : (a ++ c :: r).headD 0 = a.headD 0 := by cases a with
    | nil => simp at h0
    | cons c t => rfl
  have hd : digit c = false := by
    cases hd : digit c with
    | false => rfl
    | true => rw [goes_of_digit hd] at hg; cases hg
  have e2 : run goes (a ++ c :: r) = run goes a := run_ext _ c hg _ _
  have e3 : run digit (a ++ c :: r) = run digit a := run_ext _ c hd _ _
  have e4 : (a ++ c :: r).take (run digit a) = a.take (run digit a) := List.take_append_of_le_length (run_le _ _)
  have e5 : mark (a ++ c :: r) = mark a := mark_ext a c hc r h0
  unfold word at h ⊢
  rw [e1, e2, e3, e4, e5]
  by_cases c1 : (small (a.headD 0) || capital (a.headD 0)) = true
  · rw [if_pos c1] at h ⊢; exact h
  · rw [if_neg c1] at h ⊢
    by_cases c2 : digit (a.headD 0) = true
    · rw [if_pos c2] at h ⊢; exact h
    · rw [if_neg c2] at h ⊢
      by_cases c3 : a.headD 0 = 34
      · rw [if_pos c3] at h ⊢
        cases hq : quo a with
        | none => rw [hq] at h; simp at h
        | some p =>
          obtain ⟨l, m⟩ := p
          rw [hq] at h
          rw [quo_join hb hq]
          exact h
      · rw [if_neg c3] at h ⊢; exact h
/-- a word of some text -/
structure Wt (t : Tok) : Prop where
  word : ∃ w, Lx.word t.text = .ok w ∧ w.n = t.text.length ∧ w.kind = t.kind ∧ w.vk = t.vk ∧ w.num = t.num ∧ w.sym = t.sym
  ne : t.text ≠ []
  byte : ∀ c ∈ t.text, c < 256
  head : ∀ r, skipN false (t.text ++ r) = 0
theorem skip0 {c : Nat} {t : List Nat} (h : skipN false (c :: t) = 0) : c ≠ 35 ∧ blank c = false := by
  unfold skipN at h
  simp only at h
  by_cases hc : c = 35
  · subst hc; simp at h
  · rw [if_neg hc] at h
    refine ⟨hc, ?_⟩
    by_cases h10 : c = 10
    · subst h10; simp [blank] at h
    · rw [if_neg h10] at h
      cases hb : blank c with
      | false => rfl
      | true => rw [hb] at h; simp at h
theorem Sq.words {s r : List Nat} {p q : Nat × Nat} {l : List Tok} (h : Sq s p l r q) : ∀ (hb : ∀ c ∈ s, c < 256), ∀ t ∈ l, Wt t := by
  induction h with
  | nil => intro _ t ht; simp at ht
  | @word s p u w l r q hs h0 hw h ih =>
    intro hb t ht
    have hu : ∀ c ∈ u, c < 256 := fun c hc => hb c (by rw [← hs] at hc; exact List.mem_of_mem_drop hc)
    obtain ⟨l1, l2, -⟩ := word_len hu h0 hw
    rcases List.mem_cons.1 ht with rfl | ht
    · have hlen : (u.take w.n).length = w.n := by rw [List.length_take]; omega
      refine ⟨⟨w, word_take hu h0 hw, hlen.symm, rfl, rfl, rfl, rfl⟩, ?_, fun c hc => hu c (List.mem_of_mem_take hc), fun r => ?_⟩
      · intro e
        simp only at e
        rw [e] at hlen
        simp at hlen
        omega
      · simp only
        have hz : skipN false u = 0 := by rw [← hs]; exact skip_done' s
        cases u with
        | nil => exact absurd rfl h0
        | cons c t =>
          obtain ⟨n, hn⟩ : ∃ n, w.n = n + 1 := ⟨w.n - 1, by omega⟩
          rw [hn, List.take_succ_cons, List.cons_append]
          obtain ⟨h1, h2⟩ := skip0 hz
          exact skip_none h2 h1
    · exact ih (fun c hc => hu c (List.mem_of_mem_drop hc)) t ht
/-- the blanks -/
def bks : List (List Nat) := [[32], [10], [9, 32], [32, 32, 13, 10], [32, 35, 32, 110, 111, 116, 32, 97, 32, 119, 111, 114, 100, 46, 10], [10, 10]]
/-- words with blanks ahead of each -/
inductive BT : List Tok → List Nat → Prop
  | nil : BT [] []
  | snoc {l : List Tok} {s : List Nat} {b : List Nat} {t : Tok} (h : BT l s) (hb : b ∈ bks) : BT (l ++ [t]) (s ++ (b ++ t.text))
theorem bks_head {b : List Nat} (h : b ∈ bks) : ∃ c t, b = c :: t ∧ goes c = false ∧ c ≠ 45 ∧ c ≠ 61 ∧ ∀ x ∈ b, x < 256 := by
  simp only [bks, List.mem_cons, List.not_mem_nil, or_false] at h
  rcases h with rfl | rfl | rfl | rfl | rfl | rfl <;> exact ⟨_, _, rfl, by decide, by decide, by decide, by decide⟩
theorem bks_skip {b : List Nat} (h : b ∈ bks) (u : List Nat) (hu : skipN false u = 0) : skipN false (b ++ u) = b.length := by
  simp only [bks, List.mem_cons, List.not_mem_nil, or_false] at h
  rcases h with rfl | rfl | rfl | rfl | rfl | rfl <;> simp [skipN, blank, hu]
theorem BT.sq {l : List Tok} {s : List Nat} (h : BT l s) : ∀ (hw : ∀ t ∈ l, Wt t) (p : Nat × Nat) (r : List Nat), (r = [] ∨ ∃ c t, r = c :: t ∧ goes c = false ∧ c ≠ 45 ∧ c ≠ 61) → ∃ l' q, Sq (s ++ r) p l' r q ∧ l'.map Sy.sh = l.map Sy.sh := by
  induction h with
  | nil => exact fun _ p r _ => ⟨[], p, .nil _ _, rfl⟩
  | @snoc l s b t h hb ih =>
    intro hw p r hr
    obtain ⟨c, d, hbe, g1, g2, g3, g4⟩ := bks_head hb
    obtain ⟨l', q, h1, h2⟩ := ih (fun t ht => hw t (by simp [ht])) p (b ++ (t.text ++ r)) (.inr ⟨c, d ++ (t.text ++ r), by rw [hbe]; rfl, g1, g2, g3⟩)
    have W := hw t (by simp)
    obtain ⟨w, w1, w2, w3, w4, w5, w6⟩ := W.word
    have hsk := bks_skip hb _ (W.head r)
    have hw2 : word (t.text ++ r) = .ok w := by
      rcases hr with rfl | ⟨e, f, rfl, k1, k2⟩
      · rw [List.append_nil]; exact w1
      · exact word_ext W.byte W.ne w1 e k1 k2 f
    have h3 := Sq.word (s := b ++ (t.text ++ r)) (p := q) (u := t.text ++ r) (w := w) (by rw [hsk, List.drop_left]) (by simp [W.ne]) hw2 (Sq.nil _ _)
    have e1 : (t.text ++ r).drop w.n = r := by rw [w2, List.drop_left]
    have e2 : (t.text ++ r).take w.n = t.text := by rw [w2, List.take_left]
    rw [e1, e2] at h3
    have h5 := h1.trans h3
    have e5 : s ++ (b ++ (t.text ++ r)) = s ++ (b ++ t.text) ++ r := by simp
    rw [e5] at h5
    exact ⟨_, _, h5, by simp only [List.map_append, List.map_cons, List.map_nil, h2, Sy.sh, w3, w4, w5, w6]⟩
end Go.Proofs.YtppigckioalhhaaGreatDoorR.Lx
namespace Go.Proofs.YtppigckioalhhaaGreatDoorR.Sy
set_option linter.unusedVariables false
theorem same_of {v v' : Env} (h : v'.ws.map sh = v.ws.map sh) (hl : v'.last.1 = v.last.1) : Same v v' := by
  have hlen : v'.ws.length = v.ws.length := by
    have := congrArg List.length h
    simpa using this
  refine ⟨hlen, fun i => ?_, hl⟩
  have := congrArg (fun l => l[i]?) h
  simp only [List.getElem?_map] at this
  unfold Env.tk
  rw [List.getD_eq_getElem?_getD, List.getD_eq_getElem?_getD]
  cases h1 : v'.ws[i]? with
  | none =>
    rw [h1] at this
    cases h2 : v.ws[i]? with
    | none => rfl
    | some x => rw [h2] at this; cases this
  | some y =>
    rw [h1] at this
    cases h2 : v.ws[i]? with
    | none => rw [h2] at this; cases this
    | some x => rw [h2] at this; simpa using this
theorem blank_law {s s' : List Nat} (hb : ∀ c ∈ s, c < 256) (hb' : ∀ c ∈ s', c < 256) (hc : (Lx.given s).2.code = 0) (h : Lx.BT (Lx.given s).1 s') (hl : s'.length ≤ 65536) : Same (envOf s) (envOf s') := by
  obtain ⟨r, q, h1, h2⟩ := Lx.sq_of_given hb hc
  obtain ⟨l', q', h3, h4⟩ := h.sq (h1.words hb) (1, 1) [] (.inl rfl)
  rw [List.append_nil] at h3
  obtain ⟨g1, g2⟩ := Lx.given_of_sq h3 hb' rfl hl
  refine same_of (by unfold envOf; simp only; rw [g1]; exact h4) ?_
  unfold envOf
  simp only
  rw [if_pos hc, if_pos g2]
end Go.Proofs.YtppigckioalhhaaGreatDoorR.Sy
/- PLAIN: SyntaxDeep: the three literals round the expression. No program (of the machine) in sight. -/
namespace Go.Proofs.YtppigckioalhhaaGreatDoorR.Sy
open Lx (Tok goes)
open Pr (Ex Li)
set_option linter.unusedVariables false
set_option linter.unusedSimpArgs false

def codeOf {α : Type} : PR α → Nat
  | .ok _ _ => 0
  | .err f => f.1
theorem DS.head {s : List Nat} {l : List Sh} {d : Nat} (h : DS s l d) : ∃ t r, l = t :: r ∧ ((t = mkv 88 ∧ r = []) ∨ (t = mkv 89 ∧ ∃ q, r = mk5 [42] :: q) ∨ t = mk5 [40] ∨ t = mk5 [45] ∨ t = mkn 50) := by
  cases h with
  | one => exact ⟨_, _, rfl, .inl ⟨rfl, rfl⟩⟩
  | step k h =>
    unfold dwords
    repeat' split
    all_goals first
      | exact ⟨_, _, rfl, .inr (.inr (.inl rfl))⟩
      | exact ⟨_, _, rfl, .inr (.inr (.inr (.inl rfl)))⟩
      | exact ⟨_, _, rfl, .inr (.inl ⟨rfl, _, rfl⟩)⟩
      | exact ⟨_, _, rfl, .inr (.inr (.inr (.inr rfl)))⟩
section
variable {s : List Nat} {l : List Sh} {d : Nat}
end
end Go.Proofs.YtppigckioalhhaaGreatDoorR.Sy
/- PLAIN: a program without its places: sizes; what two texts of the same words answer. -/
namespace Go.Proofs.YtppigckioalhhaaGreatDoorR.Sy
open Pr (Term Atom Ex Li Rul Rel Prog)
set_option linter.unusedVariables false
set_option linter.unusedSimpArgs false

theorem liMs_bare : ∀ (d : Nat) (l : List Li), liDs l < d → liMs (l.map bareL) = liMs l
  | 0, l, h => absurd h (by omega)
  | d + 1, [], h => rfl
  | d + 1, .mk k a op le re fn av of body ln cl :: r, h => by
    simp only [liDs, liD] at h
    rw [List.map_cons, bareL_eq]
    simp only [liMs, liM, List.length_map]
    rw [liMs_bare d body (by omega), liMs_bare (d + 1) r (by omega)]
theorem liMs_bareL (l : List Li) : liMs (l.map bareL) = liMs l := liMs_bare (liDs l + 1) l (Nat.lt_succ_self _)
theorem bareP_M {p : Prog} (h : PgM p) : PgM (bareP p) := by
  refine ⟨by simpa [bareP] using h.rels, by simpa [bareP] using h.rules, fun r hr => ?_, fun r hr => ?_, fun r hr => ?_, fun r hr => ?_⟩
  all_goals
    simp only [bareP, List.mem_map] at hr
    obtain ⟨q, hq, rfl⟩ := hr
  · exact h.types q hq
  · exact h.terms q hq
  · simpa [bareU] using h.body q hq
  · simpa [bareU, liMs_bareL] using h.deep q hq
def progOf : PR Prog → Prog
  | .ok p _ => p
  | .err _ => ⟨[], []⟩
theorem pgM_nil : PgM ⟨[], []⟩ := ⟨by simp, by simp, by simp, by simp, by simp, by simp⟩
theorem progOf_M (v : Env) (hv : v.ws.length ≤ 65536) : PgM (progOf (whole v (prog v))) := by
  cases h : whole v (prog v) with
  | ok p j => exact prog_pgM hv h
  | err f => exact pgM_nil
theorem Same.answers {v v' : Env} (h : Same v v') : codeOf (Sy.whole v' (Sy.prog v')) = codeOf (Sy.whole v (Sy.prog v)) ∧ bareP (progOf (Sy.whole v' (Sy.prog v'))) = bareP (progOf (Sy.whole v (Sy.prog v))) := by
  have hs := h.program
  unfold Sim at hs
  cases h1 : Sy.whole v (Sy.prog v) with
  | ok p j =>
    cases h2 : Sy.whole v' (Sy.prog v') with
    | ok p' j' => rw [h1, h2] at hs; exact ⟨rfl, hs.2.symm⟩
    | err f => rw [h1, h2] at hs; exact hs.elim
  | err f =>
    cases h2 : Sy.whole v' (Sy.prog v') with
    | ok p' j' => rw [h1, h2] at hs; exact hs.elim
    | err f' => rw [h1, h2] at hs; exact ⟨hs, rfl⟩
end Go.Proofs.YtppigckioalhhaaGreatDoorR.Sy
/- bare: a program without its places. Printed by wip/gen_sybare2.py. -/
namespace Go.Proofs.YtppigckioalhhaaGreatDoorR
open Go.RowKit
set_option linter.unusedVariables false
set_option linter.unusedSimpArgs false
set_option maxRecDepth 100000

def BareR (p : Pr.Prog) (w : World) (e : Ending) (w' : World) : Prop := ∃ x : Array Value, e = .returned (.agg x) ∧ PgB (fun k => w.heap.size ≤ k) w' (Sy.bareP p) (.agg x) ∧ Mod [] w w'
set_option maxHeartbeats 16000000 in
theorem bare_any {F : Nat → Prop} (p : Pr.Prog) (hM : PgM p) (u : Value) (w : World) (h : PgB F w p u) :
    Calls Tryz.prog 27 #[u] w (BareR p w) := by
  obtain ⟨a1, c1, b1, d1, rfl⟩ := h.lit
  have mA := ((Mod.refl [] w).alloc (Obj.cells #[.slice a1 p.rels.length c1, .slice b1 p.rules.length d1] 26)).alloc (Obj.cells #[.slice none 0 0, .slice none 0 0] 26)
  have eA := two_a w #[.slice a1 p.rels.length c1, .slice b1 p.rules.length d1] #[.slice none 0 0, .slice none 0 0] 26 26
  have eB := two_b w #[.slice a1 p.rels.length c1, .slice b1 p.rules.length d1] #[.slice none 0 0, .slice none 0 0] 26 26
  have HC := Lib.hid (copyProg_any p hM _ _ ((h.mono (G := fun k => k < w.heap.size) (fun k _ h => h)).keep mA (by simp)))
  obtain ⟨prels, prules⟩ := p
  have HMM := Lib.hid hM
  have hl1 := hM.rels
  have hl2 := hM.rules
  dsimp only at *
  clear h hM
  generalize hn1 : prels.length = n1 at *
  generalize hn2 : prules.length = n2 at *
  go_enter Tryz.func27, Tryz.ntmps27
  go_upto_region 1 with fail
  have hw0 : (((w.alloc (Obj.cells #[.slice a1 n1 c1, .slice b1 n2 d1] 26)).alloc (Obj.cells #[.slice none 0 0, .slice none 0 0] 26))).heap.size = w.heap.size + 2 := by simp
  generalize (w.alloc (Obj.cells _ 26)).alloc (Obj.cells _ 26) = w0 at *
  have M0 := Lib.hid mA; have EB := Lib.hid eB
  have x0 := cell_at eA 0; have x1 := cell_at eA 1
  simp only [List.getElem?_toArray, List.getElem?_cons_zero, List.getElem?_cons_succ] at x0 x1
  clear mA eB eA
  go_wp2_with fail
  refine HC.out.mono ?_
  rintro e1 w1 ⟨rels0, rus0, va, vc, ua, uc, rfl, hp0, hPO⟩
  simp only [Pr.Prog.mk.injEq] at hp0
  obtain ⟨hpr, hpu⟩ := hp0
  have hr0 : rels0.length = n1 := by rw [← hn1, ← hpr]; simp
  have hu0 : rus0.length = n2 := by rw [← hn2, ← hpu]; simp
  have P0 := Lib.hid hPO; have HPR := Lib.hid hpr; have HPU := Lib.hid hpu
  have M1 := Lib.hid (M0.out.trans hPO.mod (by simp)); have EB1 := Lib.hid (hPO.mod.at EB.out (by simp)); have z1 := hPO.mod.size
  clear hPO hpr hpu HC x0 x1
  rw [hr0, hu0]
  have mB := (Mod.refl [] w1).alloc (Obj.cells #[.slice va n1 vc, .slice ua n2 uc] 26)
  have eC := heap_alloc_new w1 (Obj.cells #[.slice va n1 vc, .slice ua n2 uc] 26)
  go_upto_region 2 with fail
  generalize w1.alloc (Obj.cells _ 26) = w2 at *
  have P2 := Lib.hid (P0.out.keep mB); have M2 := Lib.hid (M1.out.trans mB (by simp)); have EB2 := Lib.hid (mB.at EB1.out (by simp)); have EC := Lib.hid eC
  have hpb : w0.heap.size ≤ w1.heap.size := z1
  have hnr : ∀ k ∈ fp (.slice va n1 vc), k < w1.heap.size := fun k hk => by rw [← hr0] at hk; exact fp_lt P0.out.rowR k hk
  have hnu : ∀ k ∈ fp (.slice ua n2 uc), k < w1.heap.size := fun k hk => by rw [← hu0] at hk; exact fp_lt P0.out.rowU k hk
  have HNR := Lib.hid hnr; have HNU := Lib.hid hnu
  clear mB eC P0 M1 EB1 hnr hnu
  generalize hpo : w1.heap.size = po at *
  have HPO := Lib.hid hpo
  clear hpo
  go_wp2_with fail
  go_loopw [4] (fun iv wr => ∃ (i : Nat) (rels : List RelU), iv = .int .i64 (i : Nat) ∧ i ≤ n1 ∧ rels.length = n1 ∧ rels.map (·.1) = (prels.take i).map Sy.bareR ++ prels.drop i ∧ PO w0 wr rels rus0 va vc ua uc ∧ wr.heap[po]? = some (.cells #[.slice va n1 vc, .slice ua n2 uc] 26 (0, 0))) (fun iv _ => n1 - (intOf iv).toNat)
  case atStart => exact ⟨0, rels0, rfl, Nat.zero_le _, hr0, by simpa using HPR.out, P2.out, EC.out⟩
  case round =>
    obtain ⟨i, rels, rfl, hi, hlen, hmap, hP, hbx⟩ := hrel
    have P3 := Lib.hid hP; have HMP := Lib.hid hmap; have BX := Lib.hid hbx
    have y0 := cell_at BX.out 0
    simp only [List.getElem?_toArray, List.getElem?_cons_zero, List.getElem?_cons_succ] at y0
    clear hP hmap hbx
    by_cases hlt : i < n1
    · have hiI : (i : Int) < (n1 : Int) := by omega
      have hi0 : (0 : Int) ≤ (i : Int) := by omega
      have hia : i < rels.length := by omega
      have hil : i < prels.length := by omega
      obtain ⟨g, hva⟩ : ∃ g, va = some ⟨g, 0, none⟩ := by
        rcases P3.out.rowR.2 with ⟨h1, h2⟩ | ⟨g, cap, cur, h1, -⟩
        · omega
        · simp only [Value.slice.injEq] at h1; exact ⟨g, h1.1⟩
      subst hva
      obtain ⟨b, off, hb, hcell⟩ := (RowB.of_owns (F := fun _ => True) csR_size P3.out.rowR (fun _ _ => trivial)).at i hia
      simp only [Option.some.injEq, Addr.mk.injEq, and_true] at hb
      obtain ⟨rfl, rfl⟩ := hb
      have hsub := P3.out.subR _ (List.getElem_mem hia)
      have hfz := fun j => P3.out.rowR.frozenAt j
      have hgl : g < po := HNR.out g (by simp [fp])
      have hy : (rels[i]).1 = prels[i] := by
        have e : (rels.map (·.1))[i]? = prels[i]? := by
          rw [HMP.out, List.getElem?_append_right (by simp; omega), show (List.map Sy.bareR (List.take i prels)).length = i by simp; omega, List.getElem?_drop, Nat.sub_self, Nat.add_zero]
        rw [List.getElem?_map, List.getElem?_eq_getElem hia, List.getElem?_eq_getElem hil] at e
        simpa using e
      have HYL : Hid (prels[i]? = some prels[i]) := Lib.hid (List.getElem?_eq_getElem hil)
      rw [← hy] at HYL
      generalize hz : rels[i] = z at *
      obtain ⟨⟨nm, tys, ln, cl⟩, U1⟩ := z
      dsimp only at hcell hsub HYL
      rw [Nat.zero_add] at hcell
      have d2 := hcell 2 (.int .i64 ln) rfl
      have d3 := hcell 3 (.int .i64 cl) rfl
      have m1 : Mod [g] wr (wr.setCell ⟨g, i * 4 + 2, none⟩ (.int .i64 0)) := (Mod.refl [g] wr).setCell (p := ⟨g, i * 4 + 2, none⟩) (.inl (by simp)) _
      have hgf : ∀ s ∈ [g], ¬ QF w0 (.slice (some ⟨g, 0, none⟩) rels.length vc) (.slice ua rus0.length uc) s := fun s hs hh => by rw [List.mem_singleton] at hs; subst hs; exact hh.2.1 (by simp [fp])
      have G1 := P3.out.putR i hia (⟨nm, tys, 0, cl⟩, U1) 2 (by omega) (.int .i64 0) (by rw [hz]; rfl) hsub
      have hia1 : i < (rels.set i ((⟨nm, tys, 0, cl⟩, U1) : RelU)).length := by simpa using hia
      have G2 := G1.putR i hia1 (⟨nm, tys, 0, 0⟩, U1) 3 (by omega) (.int .i64 0) (by rw [List.getElem_set_self]; rfl) (by rw [List.length_set]; exact hsub.keep m1 hgf)
      rw [List.set_set] at G2
      have m2 : Mod [g] (wr.setCell ⟨g, i * 4 + 2, none⟩ (.int .i64 0)) ((wr.setCell ⟨g, i * 4 + 2, none⟩ (.int .i64 0)).setCell ⟨g, i * 4 + 2 + 1, none⟩ (.int .i64 0)) := (Mod.refl [g] _).setCell (p := ⟨g, i * 4 + 2 + 1, none⟩) (.inl (by simp)) _
      have G2 : Hid (PO w0 ((wr.setCell ⟨g, i * 4 + 2, none⟩ (.int .i64 0)).setCell ⟨g, i * 4 + 2 + 1, none⟩ (.int .i64 0)) (rels.set i (⟨nm, tys, 0, 0⟩, U1)) rus0 (some ⟨g, 0, none⟩) vc ua uc) := Lib.hid G2
      have BX2 := Lib.hid ((m1.trans m2 (by simp)).at BX.out (by simp; omega))
      have HY2 := Lib.hid hy
      clear G1 m1 m2 hgf hsub hcell hy hz
      go_wp2_with fail
      generalize (wr.setCell ⟨g, i * 4 + 2, none⟩ (.int .i64 0)).setCell ⟨g, i * 4 + 2 + 1, none⟩ (.int .i64 0) = q2 at *
      go_roundw
      case rel =>
        refine ⟨i + 1, _, by go_num, by omega, by simpa using hlen, ?_, G2.out, BX2.out⟩
        rw [List.map_set, HMP.out, List.set_append_right _ _ (by simp; omega), show (List.map Sy.bareR (List.take i prels)).length = i by simp; omega, Nat.sub_self, List.drop_eq_getElem_cons hil, List.set_cons_zero, List.take_add_one, HYL.out]
        simp [Sy.bareR]
      case measure => simp [intOf]; omega
    · have hie : i = n1 := by omega
      have hiI : ¬ (i : Int) < (n1 : Int) := by omega
      have HRL : Hid (rels.map (·.1) = prels.map Sy.bareR) := Lib.hid (by rw [HMP.out, hie, ← hn1]; simp)
      have HLN := Lib.hid hlen
      clear hie
      go_wp2_with fail
      clear y0
      obtain ⟨wo, rfl⟩ : ∃ wo : World, wo = wr := ⟨_, rfl⟩
      go_loopw [5] (fun iv wr => ∃ (i : Nat) (rus : List RulU), iv = .int .i64 (i : Nat) ∧ i ≤ n2 ∧ rus.length = n2 ∧ rus.map (·.1) = (prules.take i).map Sy.bareU ++ prules.drop i ∧ PO w0 wr rels rus va vc ua uc ∧ wr.heap[po]? = some (.cells #[.slice va n1 vc, .slice ua n2 uc] 26 (0, 0))) (fun iv _ => n2 - (intOf iv).toNat)
      case atStart => exact ⟨0, rus0, rfl, Nat.zero_le _, hu0, by simpa using HPU.out, P3.out, BX.out⟩
      case round =>
        obtain ⟨j, rus, rfl, hj, hlen2, hmap, hP, hbx⟩ := hrel
        have P4 := Lib.hid hP; have HMQ := Lib.hid hmap; have BY := Lib.hid hbx
        have y1 := cell_at BY.out 1
        simp only [List.getElem?_toArray, List.getElem?_cons_zero, List.getElem?_cons_succ] at y1
        clear hP hmap hbx
        by_cases hlt2 : j < n2
        · have hjI : (j : Int) < (n2 : Int) := by omega
          have hj0 : (0 : Int) ≤ (j : Int) := by omega
          have hja : j < rus.length := by omega
          have hjl : j < prules.length := by omega
          obtain ⟨g, hua⟩ : ∃ g, ua = some ⟨g, 0, none⟩ := by
            rcases P4.out.rowU.2 with ⟨h1, h2⟩ | ⟨g, cap, cur, h1, -⟩
            · omega
            · simp only [Value.slice.injEq] at h1; exact ⟨g, h1.1⟩
          subst hua
          obtain ⟨b, off, hb, hcell⟩ := (RowB.of_owns (F := fun _ => True) csU_size P4.out.rowU (fun _ _ => trivial)).at j hja
          simp only [Option.some.injEq, Addr.mk.injEq, and_true] at hb
          obtain ⟨rfl, rfl⟩ := hb
          have hsub := P4.out.subU _ (List.getElem_mem hja)
          have hfz := fun j => P4.out.rowU.frozenAt j
          have hgl : g < po := HNU.out g (by simp [fp])
          have hgn : w0.heap.size ≤ g := P4.out.newU g (by simp [fp])
          have hy : (rus[j]).1 = prules[j] := by
            have e : (rus.map (·.1))[j]? = prules[j]? := by
              rw [HMQ.out, List.getElem?_append_right (by simp; omega), show (List.map Sy.bareU (List.take j prules)).length = j by simp; omega, List.getElem?_drop, Nat.sub_self, Nat.add_zero]
            rw [List.getElem?_map, List.getElem?_eq_getElem hja, List.getElem?_eq_getElem hjl] at e
            simpa using e
          have HYL : Hid (prules[j]? = some prules[j]) := Lib.hid (List.getElem?_eq_getElem hjl)
          have hq2 := HMM.out.body _ (List.getElem_mem hjl)
          have hq3 := HMM.out.deep _ (List.getElem_mem hjl)
          rw [← hy] at HYL hq2 hq3
          generalize hz : rus[j] = z at *
          obtain ⟨⟨⟨rel, ts⟩, body, ln, cl⟩, ut, ub⟩ := z
          obtain ⟨hst, hsb⟩ := hsub
          dsimp only at hcell hst hsb HYL hq2 hq3
          obtain ⟨ba, bc, rfl⟩ := hsb.lit
          rw [Nat.zero_add] at hcell
          have d2 := hcell 2 (.slice ba body.length bc) rfl
          have d3 := hcell 3 (.int .i64 ln) rfl
          have d4 := hcell 4 (.int .i64 cl) rfl
          have hzg : g < wr.heap.size := fp_lt P4.out.rowU g (by simp [fp])
          have m1 : Mod [g] wr (wr.setCell ⟨g, j * 5 + 3, none⟩ (.int .i64 0)) := (Mod.refl [g] wr).setCell (p := ⟨g, j * 5 + 3, none⟩) (.inl (by simp)) _
          have hgf : ∀ s ∈ [g], ¬ QF w0 (.slice va rels.length vc) (.slice (some ⟨g, 0, none⟩) rus.length uc) s := fun s hs hh => by rw [List.mem_singleton] at hs; subst hs; exact hh.2.2 (by simp [fp])
          have G1 := P4.out.putU j hja (⟨⟨rel, ts⟩, body, 0, cl⟩, ut, .slice ba body.length bc) 3 (by omega) (.int .i64 0) (by rw [hz]; rfl) ⟨hst, hsb⟩
          have hja1 : j < (rus.set j ((⟨⟨rel, ts⟩, body, 0, cl⟩, ut, .slice ba body.length bc) : RulU)).length := by simpa using hja
          have hsb1 := hsb.keep m1 hgf
          have hst1 := hst.keep m1 hgf
          have G2 := G1.putU j hja1 (⟨⟨rel, ts⟩, body, 0, 0⟩, ut, .slice ba body.length bc) 4 (by omega) (.int .i64 0) (by rw [List.getElem_set_self]; rfl) (by rw [List.length_set]; exact ⟨hst1, hsb1⟩)
          rw [List.set_set] at G2
          have m2 : Mod [g] (wr.setCell ⟨g, j * 5 + 3, none⟩ (.int .i64 0)) ((wr.setCell ⟨g, j * 5 + 3, none⟩ (.int .i64 0)).setCell ⟨g, j * 5 + 3 + 1, none⟩ (.int .i64 0)) := (Mod.refl [g] _).setCell (p := ⟨g, j * 5 + 3 + 1, none⟩) (.inl (by simp)) _
          have G2 : Hid (PO w0 ((wr.setCell ⟨g, j * 5 + 3, none⟩ (.int .i64 0)).setCell ⟨g, j * 5 + 3 + 1, none⟩ (.int .i64 0)) rels (rus.set j (⟨⟨rel, ts⟩, body, 0, 0⟩, ut, .slice ba body.length bc)) va vc (some ⟨g, 0, none⟩) uc) := Lib.hid G2
          have HSB := Lib.hid (hsb1.keep m2 hgf)
          have HST := Lib.hid (hst1.keep m2 hgf)
          have BY2 := Lib.hid ((m1.trans m2 (by simp)).at BY.out (by simp; omega))
          have z2 := (m1.trans m2 (by simp)).size
          have HGF := Lib.hid hgf
          have HZ := Lib.hid hz
          clear G1 m1 m2 hst hsb hst1 hsb1 hcell hy hz hgf
          go_upto_region 10 with fail
          generalize (wr.setCell ⟨g, j * 5 + 3, none⟩ (.int .i64 0)).setCell ⟨g, j * 5 + 3 + 1, none⟩ (.int .i64 0) = q2 at *
          clear d2 d3 d4 hfz y1
          have ZB : Hid (q2.cell? ⟨po, 1, none⟩ = some (.slice (some ⟨g, 0, none⟩) n2 uc)) := Lib.hid (cell_at BY2.out 1)
          have hpg : po ∉ [g] := by simp; omega
          obtain ⟨b, off, hb, hcell⟩ := (RowB.of_owns (F := fun _ => True) csU_size G2.out.rowU (fun _ _ => trivial)).at j (by simpa using hja)
          simp only [Option.some.injEq, Addr.mk.injEq, and_true] at hb
          obtain ⟨rfl, rfl⟩ := hb
          rw [List.getElem_set_self, Nat.zero_add] at hcell
          have D2 := Lib.hid (hcell 2 (.slice ba body.length bc) rfl)
          have HCB := Lib.hid (bareBody_any body hq2 hq3 _ q2.drew (HSB.out.keep (Mod.refl [] q2).drew (by simp)))
          clear hcell
          have HQ : Hid (∀ k, q2.heap.size ≤ k → QF w0 (.slice va rels.length vc) (.slice (some ⟨g, 0, none⟩) rus.length uc) k) := Lib.hid (fun k hk => by
            have h1 := G2.out.mod.size
            have h2 := fun hh => fp_lt G2.out.rowR k hh
            have h3 := fun hh => fp_lt G2.out.rowU k hh
            rw [List.length_set] at h3
            exact ⟨by omega, fun hh => by have := h2 hh; omega, fun hh => by have := h3 hh; omega⟩)
          refine wp_region_held_drew (S := (fun w' : World => Mod [g] q2 w')) (by kernel_rfl) (by (try dsimp only); exact (Mod.refl [g] q2).drew) (fun hHeld => ?_)
          refine wpAnyH_take (i := 0) (oi := ?_) (v := ?_) ?_ ?_ ?_ ?_ ?_ ?_ (by assumption) ?_
          rotate_left 2
          · (simp only [List.getElem?_toArray, List.getElem?_cons_succ, List.getElem?_cons_zero]) <;> rfl
          · kernel_rfl
          · kernel_rfl
          · kernel_rfl
          rotate_left 1
          · refine Or.inl ⟨by rfl, ?_⟩
            intro w hSw
            have s1 := hSw.cell ZB.out hpg; clear hSw
            go_simp
            all_goals with_reducible rfl
          rotate_left 1
          · exact fun _ _ _ h => h
          try simp only [Act.put, List.setIfInBounds_toArray, List.set_cons_zero, List.set_cons_succ]
          refine wpAnyH_take (i := 1) (oi := ?_) (v := ?_) ?_ ?_ ?_ ?_ ?_ ?_ (by assumption) ?_
          rotate_left 2
          · (simp only [List.getElem?_toArray, List.getElem?_cons_succ, List.getElem?_cons_zero]) <;> rfl
          · kernel_rfl
          · kernel_rfl
          · kernel_rfl
          rotate_left 1
          · refine Or.inl ⟨by rfl, ?_⟩
            intro w hSw
            have s1 := hSw.cell ZB.out hpg; clear hSw
            go_simp
            all_goals with_reducible rfl
          rotate_left 1
          · exact fun _ _ _ h => h
          try simp only [Act.put, List.setIfInBounds_toArray, List.set_cons_zero, List.set_cons_succ]
          refine wpAnyH_take (i := 2) (oi := ?_) (v := ?_) ?_ ?_ ?_ ?_ ?_ ?_ (by assumption) ?_
          rotate_left 2
          · (simp only [List.getElem?_toArray, List.getElem?_cons_succ, List.getElem?_cons_zero]) <;> rfl
          · kernel_rfl
          · kernel_rfl
          · kernel_rfl
          rotate_left 1
          · refine Or.inl ⟨by rfl, ?_⟩
            intro w hSw
            have s1 := hSw.cell ZB.out hpg; clear hSw
            go_simp
            all_goals with_reducible rfl
          rotate_left 1
          · exact fun _ _ _ h => h
          try simp only [Act.put, List.setIfInBounds_toArray, List.set_cons_zero, List.set_cons_succ]
          refine wpAnyH_take (i := 3) (oi := ?_) (v := ?_) ?_ ?_ ?_ ?_ ?_ ?_ (by assumption) ?_
          rotate_left 2
          · (simp only [List.getElem?_toArray, List.getElem?_cons_succ, List.getElem?_cons_zero]) <;> rfl
          · kernel_rfl
          · kernel_rfl
          · kernel_rfl
          rotate_left 1
          · refine Or.inl ⟨by rfl, ?_⟩
            intro w hSw
            have s1 := hSw.cell ZB.out hpg; clear hSw
            go_simp
            all_goals with_reducible rfl
          rotate_left 1
          · exact fun _ _ _ h => h
          try simp only [Act.put, List.setIfInBounds_toArray, List.set_cons_zero, List.set_cons_succ]
          refine wpAnyH_take (i := 4) (oi := ?_) (v := ?_) ?_ ?_ ?_ ?_ ?_ ?_ (by assumption) ?_
          rotate_left 2
          · (simp only [List.getElem?_toArray, List.getElem?_cons_succ, List.getElem?_cons_zero]) <;> rfl
          · kernel_rfl
          · kernel_rfl
          · kernel_rfl
          rotate_left 1
          · refine Or.inl ⟨by rfl, ?_⟩
            intro w hSw
            have s1 := hSw.cell ZB.out hpg; clear hSw
            go_simp
            all_goals with_reducible rfl
          rotate_left 1
          · exact fun _ _ _ h => h
          try simp only [Act.put, List.setIfInBounds_toArray, List.set_cons_zero, List.set_cons_succ]
          refine wpAnyH_take (i := 5) (oi := ?_) (v := ?_) ?_ ?_ ?_ ?_ ?_ ?_ (by assumption) ?_
          rotate_left 2
          · (simp only [List.getElem?_toArray, List.getElem?_cons_succ, List.getElem?_cons_zero]) <;> rfl
          · kernel_rfl
          · kernel_rfl
          · kernel_rfl
          rotate_left 1
          · refine Or.inl ⟨by rfl, ?_⟩
            intro w hSw
            have s1 := hSw.cell ZB.out hpg; clear hSw
            go_simp
            all_goals with_reducible rfl
          rotate_left 1
          · exact fun _ _ _ h => h
          try simp only [Act.put, List.setIfInBounds_toArray, List.set_cons_zero, List.set_cons_succ]
          refine wpAnyH_take (i := 6) (oi := ?_) (v := ?_) ?_ ?_ ?_ ?_ ?_ ?_ (by assumption) ?_
          rotate_left 2
          · (simp only [List.getElem?_toArray, List.getElem?_cons_succ, List.getElem?_cons_zero]) <;> rfl
          · kernel_rfl
          · kernel_rfl
          · kernel_rfl
          rotate_left 1
          · refine Or.inl ⟨by rfl, ?_⟩
            intro w hSw
            have s1 := hSw.cell ZB.out hpg; clear hSw
            go_simp
            all_goals with_reducible rfl
          rotate_left 1
          · exact fun _ _ _ h => h
          try simp only [Act.put, List.setIfInBounds_toArray, List.set_cons_zero, List.set_cons_succ]
          refine wpAnyH_take (i := 7) (oi := ?_) (v := ?_) ?_ ?_ ?_ ?_ ?_ ?_ (by assumption) ?_
          rotate_left 2
          · (simp only [List.getElem?_toArray, List.getElem?_cons_succ, List.getElem?_cons_zero]) <;> rfl
          · kernel_rfl
          · kernel_rfl
          · kernel_rfl
          rotate_left 1
          · refine Or.inl ⟨by rfl, ?_⟩
            intro w hSw
            have s1 := hSw.cell ZB.out hpg; clear hSw
            go_simp
            all_goals with_reducible rfl
          rotate_left 1
          · exact fun _ _ _ h => h
          try simp only [Act.put, List.setIfInBounds_toArray, List.set_cons_zero, List.set_cons_succ]
          refine wpAnyH_ready (rs := [8]) (by kernel_rfl) (by simp) ?_
          refine AllReadyH.cons (o := ?_) ?_ ?_ AllReadyH.nil
          rotate_left 1
          · (simp only [List.getElem?_toArray, List.getElem?_cons_succ, List.getElem?_cons_zero]) <;> rfl
          intro K hK
          have d2 : q2.drew.cell? ⟨g, j * 5 + 2, none⟩ = some (.slice ba body.length bc) := D2.out
          go_simp
          refine hK.out _ _ (by (try dsimp only); exact (Mod.refl [g] q2).drew) (fun hHeld => ?_)
          clear hK K
          try simp only [Act.put, List.setIfInBounds_toArray, List.set_cons_zero, List.set_cons_succ]
          refine wpAnyH_ready (rs := [9]) (by kernel_rfl) (by simp) ?_
          refine AllReadyH.cons (o := ?_) ?_ ?_ AllReadyH.nil
          rotate_left 1
          · (simp only [List.getElem?_toArray, List.getElem?_cons_succ, List.getElem?_cons_zero]) <;> rfl
          intro K hK
          go_simp
          refine HCB.out.mono ?_
          rintro e5 v5 ⟨bacc, ba3, bc3, rfl, bm, r4, m4⟩
          have N5 := Lib.hid ((Mod.refl [] q2).drew.trans m4 (by simp))
          have G5 := Lib.hid (G2.out.keep N5.out)
          have B5 : Hid (BB (QF w0 (.slice va rels.length vc) (.slice (some ⟨g, 0, none⟩) rus.length uc)) v5 (body.map Sy.bareL) (.slice ba3 bacc.length bc3)) := Lib.hid (bm ▸ (BB.of_gi r4).mono (fun k hk _ => HQ.out k (by simpa using hk)))
          have ST5 := Lib.hid (HST.out.keep N5.out (by simp))
          have BM5 : Hid (bacc.length = body.length) := Lib.hid (by have := congrArg List.length bm; simpa using this)
          clear m4 r4 bm
          refine hK.out _ _ (by (try dsimp only); exact N5.out.mono (by simp)) (fun hHeld => ?_)
          clear hK K
          try simp only [Act.put, List.setIfInBounds_toArray, List.set_cons_zero, List.set_cons_succ]
          refine wpAnyH_take (i := 10) (oi := ?_) (v := ?_) ?_ ?_ ?_ ?_ ?_ ?_ (by assumption) ?_
          rotate_left 2
          · (simp only [List.getElem?_toArray, List.getElem?_cons_succ, List.getElem?_cons_zero]) <;> rfl
          · kernel_rfl
          · kernel_rfl
          · kernel_rfl
          rotate_left 1
          · refine Or.inl ⟨by rfl, ?_⟩
            intro w hSw
            have s1 := hSw.cell ZB.out hpg; clear hSw
            go_simp
            all_goals with_reducible rfl
          rotate_left 1
          · exact fun _ _ _ h => h
          try simp only [Act.put, List.setIfInBounds_toArray, List.set_cons_zero, List.set_cons_succ]
          refine wpAnyH_take (i := 11) (oi := ?_) (v := ?_) ?_ ?_ ?_ ?_ ?_ ?_ (by assumption) ?_
          rotate_left 2
          · (simp only [List.getElem?_toArray, List.getElem?_cons_succ, List.getElem?_cons_zero]) <;> rfl
          · kernel_rfl
          · kernel_rfl
          · kernel_rfl
          rotate_left 1
          · refine Or.inl ⟨by rfl, ?_⟩
            intro w hSw
            have s1 := hSw.cell ZB.out hpg; clear hSw
            go_simp
            all_goals with_reducible rfl
          rotate_left 1
          · exact fun _ _ _ h => h
          try simp only [Act.put, List.setIfInBounds_toArray, List.set_cons_zero, List.set_cons_succ]
          refine wpAnyH_ready (rs := [12]) (by kernel_rfl) (by simp) ?_
          refine AllReadyH.cons (o := ?_) ?_ ?_ AllReadyH.nil
          rotate_left 1
          · (simp only [List.getElem?_toArray, List.getElem?_cons_succ, List.getElem?_cons_zero]) <;> rfl
          intro K hK
          have f5 : v5.frozen? ⟨g, j * 5 + 2, none⟩ = false := G5.out.rowU.frozenAt _
          have d5 : v5.cell? ⟨g, j * 5 + 2, none⟩ = some (.slice ba body.length bc) := N5.out.cell D2.out (by simp)
          have hja2 : j < (rus.set j ((⟨⟨rel, ts⟩, body, 0, 0⟩, ut, .slice ba body.length bc) : RulU)).length := by simpa using hja
          have G6 := G5.out.putU j hja2 (⟨⟨rel, ts⟩, body.map Sy.bareL, 0, 0⟩, ut, .slice ba3 bacc.length bc3) 2 (by omega) (.slice ba3 bacc.length bc3) (by rw [List.getElem_set_self]; rfl) (by rw [List.length_set]; exact ⟨ST5.out, B5.out⟩)
          rw [List.set_set] at G6
          have M6 := Lib.hid ((N5.out.mono (T := [g]) (by simp)).setCell (p := ⟨g, j * 5 + 2, none⟩) (.inl (by simp)) (.slice ba3 bacc.length bc3))
          have G6 := Lib.hid G6
          clear B5 ST5 G5 G2
          go_simp
          refine hK.out _ _ (by (try dsimp only); exact M6.out) (fun hHeld => ?_)
          clear hK K
          try simp only [Act.put, List.setIfInBounds_toArray, List.set_cons_zero, List.set_cons_succ]
          refine wpAnyH_done (by kernel_rfl) ?_ _
          clear f5 d5 HCB HSB HST
          have BY6 := Lib.hid (M6.out.at BY2.out (by simp; omega))
          go_wp2_with fail
          generalize v5.setCell ⟨g, j * 5 + 2, none⟩ (.slice ba3 bacc.length bc3) = q6 at *
          go_roundw
          case rel =>
            refine ⟨j + 1, _, by go_num, by omega, by simpa using hlen2, ?_, G6.out, BY6.out⟩
            rw [List.map_set, HMQ.out, List.set_append_right _ _ (by simp; omega), show (List.map Sy.bareU (List.take j prules)).length = j by simp; omega, Nat.sub_self, List.drop_eq_getElem_cons hjl, List.set_cons_zero, List.take_add_one, HYL.out]
            simp [Sy.bareU]
          case measure => simp [intOf]; omega

        · have hje : j = n2 := by omega
          have hjI : ¬ (j : Int) < (n2 : Int) := by omega
          have HUL : Hid (rus.map (·.1) = prules.map Sy.bareU) := Lib.hid (by rw [HMQ.out, hje, ← hn2]; simp)
          have HLM := Lib.hid hlen2
          have MF := Lib.hid ((M0.out).trans P4.out.mod (by simp))
          have hz4 := lt_of_block BY.out
          have PF : Hid (PgB (fun k => w0.heap.size ≤ k) wr (Sy.bareP ⟨prels, prules⟩) (.agg #[.slice va n1 vc, .slice ua n2 uc])) := Lib.hid (by
            have := P4.out.prog
            rw [HRL.out, HUL.out, hlen2, HLN.out] at this
            exact this)
          have y0 := cell_at BY.out 0
          have EB4 := Lib.hid (P4.out.mod.at EB.out (by simp))
          simp only [List.getElem?_toArray, List.getElem?_cons_zero, List.getElem?_cons_succ] at y0
          have r0 := cell_at EB4.out 0; have r1 := cell_at EB4.out 1
          have fr := fun j => free_at EB4.out j
          simp only [List.getElem?_toArray, List.getElem?_cons_zero, List.getElem?_cons_succ] at r0 r1
          clear hje HMQ HMP
          go_wp2_with fail
          have mR := setCs_mod (w.heap.size + 1) [.slice va n1 vc, .slice ua n2 uc] 0 wr
          refine bodyPost_ret (results_cell_row rfl _ _ _ _ _ _ _ rfl (setCs_row (vs := [.slice va n1 vc, .slice ua n2 uc]) EB4.out rfl) Tryz.underlying26 rfl (by kernel_rfl)) rfl ⟨_, rfl, (PF.out.keep mR (fun s hs => by rw [List.mem_singleton] at hs; omega)).mono (fun k hk _ => by omega), (MF.out.mono (T := []) (by simp)).trans mR (fun s hs => by rw [List.mem_singleton] at hs; exact .inr (by omega))⟩
end Go.Proofs.YtppigckioalhhaaGreatDoorR
/- THE LAW SyntaxDeep. Printed by wip/gen_sylawdeep.py. -/
namespace Go.Proofs.YtppigckioalhhaaGreatDoorR
open Go.RowKit
set_option linter.unusedVariables false
set_option linter.unusedSimpArgs false
set_option maxRecDepth 100000

theorem ofS_app (a b : List Nat) : Lx.ofS (a ++ b) = Lx.ofS a ++ Lx.ofS b := by
  apply ByteArray.ext
  simp [Lx.ofS, ByteArray.data_append]
theorem bytes_app {a b : List Nat} (ha : ∀ x ∈ a, x < 256) (hb : ∀ x ∈ b, x < 256) : ∀ x ∈ a ++ b, x < 256 := fun x hx => (List.mem_append.1 hx).elim (ha x) (hb x)
theorem ofS_len (a : List Nat) : (Lx.ofS a).size = a.length := by simp [Lx.ofS, ByteArray.size]
theorem AllRes.code {r : Sy.PR Pr.Li} {n : Nat} {w w' : World} {e : Ending} (h : AllRes r (valL n) (.agg #[.int .i64 0, .string { data := #[] }, .slice none 0 0, .int .i64 0, .int .i64 0, .string { data := #[] }, .int .i64 0, .int .i64 0, .string { data := #[] }, .int .i64 0, .slice none 0 0, .int .i64 0, .string { data := #[] }, .int .i64 0, .int .i64 0, .string { data := #[] }, .int .i64 0, .slice none 0 0, .int .i64 0, .string { data := #[] }, .int .i64 0, .string { data := #[] }, .int .i64 0, .int .i64 0, .string { data := #[] }, .int .i64 0, .slice none 0 0, .slice none 0 0, .int .i64 0, .int .i64 0]) w e w') :
    ∃ (C : Array Value) (x y : Nat), e = .returned (.tuple #[.agg C, .agg #[.int .i64 (Sy.codeOf r : Nat), .int .i64 (x : Nat), .int .i64 (y : Nat)]]) ∧ C.size = 30 ∧ C.toList.all (·.oneCell') = true ∧ Mod [] w w' := by
  cases r with
  | ok a i =>
    obtain ⟨C, rfl, hv, hm⟩ := h
    obtain ⟨h1, h2⟩ := valL_cells hv
    exact ⟨C, 0, 0, rfl, h1, h2, hm⟩
  | err g =>
    obtain ⟨rfl, hm⟩ := h
    exact ⟨_, g.2.1, g.2.2, rfl, rfl, rfl, hm⟩
end Go.Proofs.YtppigckioalhhaaGreatDoorR
/- THE LAW SyntaxBlanks. Printed by wip/gen_sylawblank.py. -/
namespace Go.Proofs.YtppigckioalhhaaGreatDoorR
open Go.RowKit
set_option linter.unusedVariables false
set_option linter.unusedSimpArgs false
set_option maxRecDepth 100000

/-- Program's answer: its code, its program (none where it is refused) -/
theorem AllRes.prog {r : Sy.PR Pr.Prog} {n : Nat} {w : World} {e : Ending} {w' : World} (h : AllRes r (valP n) (.agg #[.slice none 0 0, .slice none 0 0]) w e w') :
    ∃ (a1 : Option Addr) (c1 : Nat) (a2 : Option Addr) (c2 x y : Nat), e = .returned (.tuple #[.agg #[.slice a1 (Sy.progOf r).rels.length c1, .slice a2 (Sy.progOf r).rules.length c2], .agg #[.int .i64 (Sy.codeOf r : Nat), .int .i64 (x : Nat), .int .i64 (y : Nat)]]) ∧
      PgB (fun k => n ≤ k) w' (Sy.progOf r) (.agg #[.slice a1 (Sy.progOf r).rels.length c1, .slice a2 (Sy.progOf r).rules.length c2]) ∧ Mod [] w w' := by
  cases r with
  | ok p i =>
    obtain ⟨C, rfl, hv, hm⟩ := h
    obtain ⟨a1, c1, a2, c2, hx⟩ := PgB.lit hv
    rw [hx] at hv
    simp only [Value.agg.injEq] at hx
    subst hx
    exact ⟨a1, c1, a2, c2, 0, 0, rfl, hv, hm⟩
  | err g =>
    obtain ⟨rfl, hm⟩ := h
    exact ⟨none, 0, none, 0, g.2.1, g.2.2, rfl, ⟨[], [], .slice none 0 0, .slice none 0 0, rfl, rfl, .nil, .nil, by simp, by simp⟩, hm⟩
theorem bk_cells {w : World} {g : Nat} {T : TypeId} {fr : Nat × Nat} (h : w.heap[g]? = some (.cells #[.string { data := #[32] }, .string { data := #[10] }, .string { data := #[9, 32] }, .string { data := #[32, 32, 13, 10] }, .string { data := #[32, 35, 32, 110, 111, 116, 32, 97, 32, 119, 111, 114, 100, 46, 10] }, .string { data := #[10, 10] }] T fr)) (q : Nat) (hq : q < 6) :
    ∃ b, b ∈ Lx.bks ∧ b.length ≤ 15 ∧ (∀ c ∈ b, c < 256) ∧ w.cell? ⟨g, q, none⟩ = some (.string (Lx.ofS b)) := by
  have hq' : q = 0 ∨ q = 1 ∨ q = 2 ∨ q = 3 ∨ q = 4 ∨ q = 5 := by omega
  rcases hq' with rfl | rfl | rfl | rfl | rfl | rfl
  · exact ⟨[32], by simp [Lx.bks], by decide, by decide, cell_at h 0⟩
  · exact ⟨[10], by simp [Lx.bks], by decide, by decide, cell_at h 1⟩
  · exact ⟨[9, 32], by simp [Lx.bks], by decide, by decide, cell_at h 2⟩
  · exact ⟨[32, 32, 13, 10], by simp [Lx.bks], by decide, by decide, cell_at h 3⟩
  · exact ⟨[32, 35, 32, 110, 111, 116, 32, 97, 32, 119, 111, 114, 100, 46, 10], by simp [Lx.bks], by decide, by decide, cell_at h 4⟩
  · exact ⟨[10, 10], by simp [Lx.bks], by decide, by decide, cell_at h 5⟩
theorem fault_code0 (l : List Nat) : (Lx.fault l).1 = (Lx.given l).2.code := by
  unfold Lx.fault
  split
  · rename_i h; rw [h]
  · rfl
theorem given_size {l : List Nat} (h : (Lx.given l).2.code = 0) : l.length ≤ 65536 := by
  by_cases hl : l.length ≤ 65536
  · exact hl
  · exfalso
    unfold Lx.given at h
    rw [Lx.allF] at h
    have : (Lx.start l).long = true := by simp [Lx.start]; omega
    have hc : (Lx.start l).code = 0 := rfl
    unfold Lx.next at h
    rw [if_neg (by rw [hc]; simp), if_pos this] at h
    simp at h
theorem text_len {s : List Nat} {t : Lx.Tok} (h : t ∈ (Lx.given s).1) : t.text.length ≤ s.length := by
  have key : ∀ (k : Nat) (x : Lx.St), ∀ t ∈ (Lx.allF k x).1, t.text.length ≤ x.s.length := by
    intro k
    induction k with
    | zero => intro x t ht; simp [Lx.allF] at ht
    | succ k ih =>
      intro x t ht
      rw [Lx.allF] at ht
      cases hn : Lx.next x with
      | mk y o =>
        rw [hn] at ht
        cases o with
        | none => simp at ht
        | some u =>
          have hy : y.s.length ≤ x.s.length ∧ u.text.length ≤ x.s.length := by
            unfold Lx.next at hn
            split at hn
            · simp at hn
            · split at hn
              · simp at hn
              · split at hn
                · simp at hn
                · split at hn
                  · simp at hn
                  · simp only [Prod.mk.injEq, Option.some.injEq] at hn
                    obtain ⟨rfl, rfl⟩ := hn
                    have hsk : x.skip.s.length ≤ x.s.length := by unfold Lx.St.skip; simp
                    simp only [List.length_drop, List.length_take]
                    omega
          rcases List.mem_cons.1 ht with rfl | ht
          · exact hy.2
          · have := ih y t ht; omega
  exact key _ (Lx.start s) t h

set_option maxHeartbeats 16000000 in
theorem SyntaxBlanks_any (s : ByteArray) (xs : List Int) (a : Option Addr) (c : Nat) (hs : s.size ≤ 140737488351232) (hxl : xs.length ≤ 140737488355328) (w : World) (hI : IntsAt w (.slice a xs.length c) xs) (hG : Glob w) :
    Calls Tryz.prog 6 #[.string s, .slice a xs.length c] w fun e w' => e = .returned (.bool true) ∧ Mod [] w w' := by
  have HI := Lib.hid hI
  have hP := fun w hG => entP_any s (by omega) w hG
  have hT := fun w hG => Tokens_any s (by omega) w hG
  have hlen := Cod.str_len s
  have hblank := fun {s' : List Nat} => Sy.blank_law (s := Cod.str s) (s' := s') (Cod.str_lt s)
  have htk := Sy.env_toks (Cod.str s) (Cod.str_lt s)
  have hpm := Sy.progOf_M (Sy.envOf (Cod.str s)) htk.2
  obtain ⟨sl, hsl⟩ : ∃ sl, Cod.str s = sl := ⟨_, rfl⟩
  rw [hsl] at hP hT hlen htk hblank hpm
  clear hsl hI
  by_cases hc : (Lx.given sl).2.code = 0
  · have htoks : Lx.tokens sl = (Lx.given sl).1 := by unfold Lx.tokens; rw [if_pos hc]
    have hflt : Lx.fault sl = (0, 0, 0) := by unfold Lx.fault; rw [if_pos hc]
    have hsz := given_size hc
    have htl := fun t ht => text_len (s := sl) (t := t) ht
    have HP := Lib.hid hP; have HT := Lib.hid hT; have HPM := Lib.hid hpm; have HTK := Lib.hid htk.1; have hW := htk.2; have HTL := Lib.hid htl
    have HB := Lib.hid (fun (s' : List Nat) (h1 : ∀ c ∈ s', c < 256) h2 h3 => hblank (s' := s') h1 hc h2 h3)
    have HTO := Lib.hid htoks; have HFT := Lib.hid hflt
    clear hP hT hpm htk htl hblank htoks hflt hc
    have hws : (Sy.envOf sl).ws = (Lx.given sl).1 := rfl
    rw [hws] at HTK hW
    clear hws
    go_enter Tryz.func6, Tryz.ntmps6
    go_wp2_with fail
    refine (shown_any w hG).mono ?_
    rintro e0 w0 ⟨rfl, m0⟩
    have M0 := Lib.hid m0
    clear m0
    go_wp2_with fail
    refine (HT.out w0 (hG.past M0.out (by simp))).mono ?_
    rintro e3 w3 ⟨tv, rfl, hrow, m3⟩
    obtain ⟨ta, tc, rfl⟩ := hrow.lit
    have M3 := Lib.hid (M0.out.trans m3 (by simp)); have HR3 := Lib.hid hrow
    clear m3 hrow HT
    rw [HFT.out]
    rw [HTO.out] at HR3 ⊢
    clear HTO HFT
    generalize hwl : (Lx.given sl).1 = W at *
    unfold fltV
    have mB := (Mod.refl [] w3).alloc (Obj.cells #[.int .i64 (0 : Nat), .int .i64 (0 : Nat), .int .i64 (0 : Nat)] 31)
    have eB := heap_alloc_new w3 (Obj.cells #[.int .i64 (0 : Nat), .int .i64 (0 : Nat), .int .i64 (0 : Nat)] 31)
    go_upto_region 3 with fail
    generalize w3.alloc (Obj.cells _ 31) = w4 at *
    have M4 := Lib.hid (M3.out.trans mB (by simp)); have HR4 := Lib.hid (HR3.out.past mB (by simp))
    have f1 : w4.cell? ⟨w3.heap.size, 0, none⟩ = some (.int .i64 0) := cell_at eB 0
    clear mB eB HR3
    go_upto_region 6 with fail
    have mL := (Mod.refl [] w4).alloc (Obj.cells #[.string { data := #[32] }, .string { data := #[10] }, .string { data := #[9, 32] }, .string { data := #[32, 32, 13, 10] }, .string { data := #[32, 35, 32, 110, 111, 116, 32, 97, 32, 119, 111, 114, 100, 46, 10] }, .string { data := #[10, 10] }] 9)
    have eL := heap_alloc_new w4 (Obj.cells #[.string { data := #[32] }, .string { data := #[10] }, .string { data := #[9, 32] }, .string { data := #[32, 32, 13, 10] }, .string { data := #[32, 35, 32, 110, 111, 116, 32, 97, 32, 119, 111, 114, 100, 46, 10] }, .string { data := #[10, 10] }] 9)
    generalize w4.alloc (Obj.cells _ 9) = w5 at *
    have M5 := Lib.hid (M4.out.trans mL (by simp)); have HR5 := Lib.hid (HR4.out.past mL (by simp)); have EL := Lib.hid (fun q hq => bk_cells eL q hq)
    clear mL eL f1 HR4
    go_wp2_with fail
    go_loopw [9, 10] (fun sv iv wr => ∃ (k : Nat) (l : List Nat), sv = .string (Lx.ofS l) ∧ iv = .int .i64 (k : Nat) ∧ k ≤ W.length ∧ Lx.BT (W.take k) l ∧ (∀ c ∈ l, c < 256) ∧ l.length ≤ k * 65600 ∧ Mod [] w5 wr) (fun sv iv wr => W.length - (intOf iv).toNat)
    case atStart => exact ⟨0, [], rfl, rfl, Nat.zero_le _, .nil, by simp, by simp, Mod.refl _ _⟩
    case round =>
      obtain ⟨k, l, rfl, rfl, hk, hbt, hby, hll, hm⟩ := hrel
      have HBT := Lib.hid hbt; have HBY := Lib.hid hby; have HM := Lib.hid hm
      have HR5 := Lib.hid (HR5.out.past hm (by simp)); have M5 := Lib.hid (M5.out.trans hm (by simp))
      have EL : Hid (∀ q, q < 6 → ∃ b, b ∈ Lx.bks ∧ b.length ≤ 15 ∧ (∀ c ∈ b, c < 256) ∧ wr.cell? ⟨w4.heap.size, q, none⟩ = some (.string (Lx.ofS b))) := Lib.hid (fun q hq => by
        obtain ⟨b, h1, h2, h3, h4⟩ := EL.out q hq
        exact ⟨b, h1, h2, h3, hm.cell h4 (by simp)⟩)
      clear hbt hby hm
      obtain ⟨sB, hsB⟩ : ∃ sB, Lx.ofS l = sB := ⟨_, rfl⟩
      have hsl2 : sB.size = l.length := by rw [← hsB, ofS_len]
      rw [hsB]
      have HS := Lib.hid hsB
      clear hsB
      by_cases hkl : k < W.length
      · have hkI : (k : Int) < (W.length : Int) := by omega
        have hk0 : (0 : Int) ≤ (k : Int) := by omega
        obtain ⟨g, tcc, hcl, t0, t1, t2, t3, t4, t5, t6⟩ := HR5.out.at k W[k] (List.getElem?_eq_getElem hkl)
        simp only [Value.slice.injEq] at hcl
        obtain ⟨rfl, -, rfl⟩ := hcl
        have htb := (HTK.out _ (List.getElem_mem hkl)).byte
        have htl := HTL.out _ (List.getElem_mem hkl)
        have hbl : l.length ≤ 8589934592 := by have : k * 65600 ≤ 65536 * 65600 := Nat.mul_le_mul_right _ (by omega); omega
        have HTAKE : Hid (W.take (k + 1) = W.take k ++ [W[k]]) := Lib.hid (by rw [List.take_add_one, List.getElem?_eq_getElem hkl]; rfl)
        generalize W[k] = t at *
        obtain ⟨kd, tx, vk, nu, sy, ln, cl⟩ := t
        dsimp only at t1 htb htl
        obtain ⟨tB, htB⟩ : ∃ tB, Lx.ofS tx = tB := ⟨_, rfl⟩
        have hts : tB.size = tx.length := by rw [← htB, ofS_len]
        rw [htB] at t1
        have HTB := Lib.hid htB; have HTX := Lib.hid htb
        clear htB htb t0 t2 t3 t4 t5 t6
        by_cases hkx : k < xs.length
        · have hkxI : (k : Int) < (xs.length : Int) := by omega
          obtain ⟨b, off, rfl, hc⟩ := HI.out.row.at k hkx
          have hrg := HI.out.rng _ (List.getElem_mem hkx)
          have hc0 : wr.cell? ⟨b, off + k, none⟩ = some (.int .i64 xs[k]) := by
            have := hc 0 (.int .i64 xs[k]) rfl
            rw [Nat.mul_one, Nat.add_zero] at this
            exact M5.out.cell this (by simp)
          generalize xs[k] = z at *
          clear hc
          have HPK := Lib.hid (pick_any z 6 hrg (by omega) (by omega) wr)
          obtain ⟨h0, h6⟩ := pick_lt z 6 (by omega)
          obtain ⟨q, hq⟩ : ∃ q : Nat, pickI z 6 = q := ⟨(pickI z 6).toNat, by omega⟩
          rw [hq] at HPK
          have hq6 : q < 6 := by omega
          clear hq h0 h6
          go_wp2_with fail
          refine HPK.out.mono ?_
          rintro e1 w1 ⟨rfl, rfl⟩
          clear HPK hc0 hkxI hrg
          obtain ⟨bk, hbk1, hbk2, hbk3, hbk4⟩ := EL.out q hq6
          obtain ⟨bB, hbB⟩ : ∃ bB, Lx.ofS bk = bB := ⟨_, rfl⟩
          have hbs : bB.size = bk.length := by rw [← hbB, ofS_len]
          rw [hbB] at hbk4
          have HBB := Lib.hid hbB; have HB1 := Lib.hid hbk1; have HB3 := Lib.hid hbk3
          have hq0 : (0 : Int) ≤ (q : Int) := by omega
          have hqn : (q : Int) < 6 := by omega
          clear hbB hbk1 hbk3
          go_upto_region 13 with fail
          go_quiet (fail)
          go_wp2_with fail
          go_roundw
          case rel =>
            refine ⟨k + 1, l ++ (bk ++ tx), ?_, by go_num, by omega, ?_, bytes_app HBY.out (bytes_app HB3.out HTX.out), by simp; omega, HM.out.drewN nq⟩
            · rw [ofS_app, ofS_app, HS.out, HBB.out, HTB.out, ByteArray.append_assoc]
            · rw [HTAKE.out]; exact .snoc HBT.out HB1.out
          case measure => simp [intOf]; omega
        · have hkxI : ¬ (k : Int) < (xs.length : Int) := by omega
          obtain ⟨bk, hbk1, hbk2, hbk3, hbk4⟩ := EL.out 0 (by omega)
          obtain ⟨bB, hbB⟩ : ∃ bB, Lx.ofS bk = bB := ⟨_, rfl⟩
          have hbs : bB.size = bk.length := by rw [← hbB, ofS_len]
          rw [hbB] at hbk4
          have HBB := Lib.hid hbB; have HB1 := Lib.hid hbk1; have HB3 := Lib.hid hbk3
          clear hbB hbk1 hbk3
          go_upto_region 13 with fail
          go_quiet (fail)
          go_wp2_with fail
          go_roundw
          case rel =>
            refine ⟨k + 1, l ++ (bk ++ tx), ?_, by go_num, by omega, ?_, bytes_app HBY.out (bytes_app HB3.out HTX.out), by simp; omega, HM.out.drewN nq⟩
            · rw [ofS_app, ofS_app, HS.out, HBB.out, HTB.out, ByteArray.append_assoc]
            · rw [HTAKE.out]; exact .snoc HBT.out HB1.out
          case measure => simp [intOf]; omega
      · have hkI : ¬ (k : Int) < (W.length : Int) := by omega
        have hke : k = W.length := by omega
        have HBT2 : Hid (Lx.BT W l) := Lib.hid (by have := HBT.out; rw [hke, List.take_length] at this; exact this)
        clear hke HBT
        by_cases hbig : 65536 < l.length
        · have hbI : (sB.size : Int) > 65536 := by omega
          have hbJ : (65536 : Int) < (sB.size : Int) := by omega
          go_wp2_with fail
          go_ret
          exact ⟨rfl, M5.out⟩
        · have hbI : ¬ (sB.size : Int) > 65536 := by omega
          have hbJ : ¬ (65536 : Int) < (sB.size : Int) := by omega
          have hE := fun w hG => entP_any sB (by omega) w hG
          have hsm := HB.out l HBY.out HBT2.out (by omega)
          have hstr : Cod.str sB = l := by rw [← HS.out, Lx.str_ofS HBY.out]
          rw [hstr] at hE
          have htk2 := Sy.env_toks l HBY.out
          have hpm2 := Sy.progOf_M (Sy.envOf l) htk2.2
          obtain ⟨hcd, hbr⟩ := hsm.answers
          have HE := Lib.hid hE
          clear hE hsm htk2 hstr
          generalize Sy.whole (Sy.envOf sl) (Sy.prog (Sy.envOf sl)) = r1 at *
          generalize Sy.whole (Sy.envOf l) (Sy.prog (Sy.envOf l)) = r2 at *
          go_wp2_with fail
          refine (HP.out wr (hG.past M5.out (by simp))).mono ?_
          rintro e6 w6 h6
          obtain ⟨a1, c1, a2, c2, x1, y1, rfl, hv1, m6⟩ := AllRes.prog h6
          clear h6 HP
          generalize Sy.codeOf r1 = cd at *
          generalize Sy.progOf r1 = p1 at *
          have M6 := Lib.hid (M5.out.trans m6 (by simp)); have HV1 := Lib.hid (hv1.mono (G := fun _ => True) (fun _ _ _ => trivial)); have HB1 := Lib.hid (fun w => bare_any (F := fun _ => True) p1 HPM.out (.agg #[.slice a1 p1.rels.length c1, .slice a2 p1.rules.length c2]) w)
          clear hv1 m6
          generalize hn1 : p1.rels.length = n1 at *
          generalize hn2 : p1.rules.length = n2 at *
          have mA := ((Mod.refl [] w6).alloc (Obj.cells #[.slice a1 n1 c1, .slice a2 n2 c2] 26)).alloc (Obj.cells #[.int .i64 (cd : Nat), .int .i64 (x1 : Nat), .int .i64 (y1 : Nat)] 31)
          have eA := two_a w6 #[.slice a1 n1 c1, .slice a2 n2 c2] #[.int .i64 (cd : Nat), .int .i64 (x1 : Nat), .int .i64 (y1 : Nat)] 26 31
          have eB := two_b w6 #[.slice a1 n1 c1, .slice a2 n2 c2] #[.int .i64 (cd : Nat), .int .i64 (x1 : Nat), .int .i64 (y1 : Nat)] 26 31
          go_upto_region 17 with fail
          generalize (w6.alloc (Obj.cells _ 26)).alloc (Obj.cells _ 31) = w7 at *
          have M7 := Lib.hid (M6.out.trans mA (by simp)); have EA := Lib.hid eA; have EB := Lib.hid eB; have HV7 := Lib.hid (HV1.out.keep mA (by simp))
          clear mA eA eB HV1
          go_wp2_with fail
          refine (HE.out w7 (hG.past M7.out (by simp))).mono ?_
          rintro e8 w8 h8
          obtain ⟨a3, c3, a4, c4, x2, y2, rfl, hv2, m8⟩ := AllRes.prog h8
          clear h8 HE
          rw [hcd]
          generalize Sy.progOf r2 = p2 at *
          have M8 := Lib.hid (M7.out.trans m8 (by simp)); have HV2 := Lib.hid (hv2.mono (G := fun _ => True) (fun _ _ _ => trivial)); have EA8 := Lib.hid (m8.at EA.out (by simp)); have EB8 := Lib.hid (m8.at EB.out (by simp)); have HV8 := Lib.hid (HV7.out.keep m8 (by simp))
          have HB2 := Lib.hid (fun w => bare_any (F := fun _ => True) p2 hpm2 (.agg #[.slice a3 p2.rels.length c3, .slice a4 p2.rules.length c4]) w)
          clear hv2 m8 hcd EA EB HV7
          generalize hn3 : p2.rels.length = n3 at *
          generalize hn4 : p2.rules.length = n4 at *
          have mC := ((Mod.refl [] w8).alloc (Obj.cells #[.slice a3 n3 c3, .slice a4 n4 c4] 26)).alloc (Obj.cells #[.int .i64 (cd : Nat), .int .i64 (x2 : Nat), .int .i64 (y2 : Nat)] 31)
          have eC := two_a w8 #[.slice a3 n3 c3, .slice a4 n4 c4] #[.int .i64 (cd : Nat), .int .i64 (x2 : Nat), .int .i64 (y2 : Nat)] 26 31
          have eD := two_b w8 #[.slice a3 n3 c3, .slice a4 n4 c4] #[.int .i64 (cd : Nat), .int .i64 (x2 : Nat), .int .i64 (y2 : Nat)] 26 31
          have hM1 := Sy.bareP_M HPM.out
          have HSM := Lib.hid (fun u u' w h h' => sameProg_any (F := fun _ => True) (G := fun _ => True) (Sy.bareP p1) hM1 u u' w h h')
          have HBR := Lib.hid hbr
          have hz6 := lt_of_block EA8.out
          have hz7 := lt_of_block EB8.out
          clear hn1 hn2 hn3 hn4 hM1 hbr hpm2
          go_upto_region 18 with fail
          generalize (w8.alloc (Obj.cells _ 26)).alloc (Obj.cells _ 31) = w9 at *
          have M9 := Lib.hid (M8.out.trans mC (by simp)); have EA9 := Lib.hid (mC.at EA8.out (by simp)); have EB9 := Lib.hid (mC.at EB8.out (by simp)); have EC9 := Lib.hid eC; have ED9 := Lib.hid eD; have HV9 := Lib.hid (HV8.out.keep mC (by simp)); have HW9 := Lib.hid (HV2.out.keep mC (by simp))
          clear mC eC eD EA8 EB8 HV8 HV2
          have QA := Lib.hid (show w9.cell? ⟨w6.heap.size, 0, none⟩ = some (.slice a1 n1 c1) from cell_at EA9.out 0); have QB := Lib.hid (show w9.cell? ⟨w6.heap.size, 1, none⟩ = some (.slice a2 n2 c2) from cell_at EA9.out 1)
          have QC := Lib.hid (show w9.cell? ⟨w6.heap.size + 1, 0, none⟩ = some (.int .i64 (cd : Nat)) from cell_at EB9.out 0)
          have QD := Lib.hid (show w9.cell? ⟨w8.heap.size, 0, none⟩ = some (.slice a3 n3 c3) from cell_at EC9.out 0); have QE := Lib.hid (show w9.cell? ⟨w8.heap.size, 1, none⟩ = some (.slice a4 n4 c4) from cell_at EC9.out 1)
          have QF := Lib.hid (show w9.cell? ⟨w8.heap.size + 1, 0, none⟩ = some (.int .i64 (cd : Nat)) from cell_at ED9.out 0)
          have hcc : ((cd : Int) == (cd : Int)) = true := by simp
          refine wp_region_held_drew (S := (fun w' : World => Mod [] w9 w')) (by kernel_rfl) (by (try dsimp only); exact (Mod.refl [] w9).drew) (fun hHeld => ?_)
          refine wpAnyH_take (i := 0) (oi := ?_) (v := ?_) ?_ ?_ ?_ ?_ ?_ ?_ (by assumption) ?_
          rotate_left 2
          · (simp only [List.getElem?_toArray, List.getElem?_cons_succ, List.getElem?_cons_zero]) <;> rfl
          · kernel_rfl
          · kernel_rfl
          · kernel_rfl
          rotate_left 1
          · refine Or.inl ⟨by rfl, ?_⟩
            intro w hSw
            have qa := hSw.cell QA.out (by simp); have qb := hSw.cell QB.out (by simp); have qc := hSw.cell QC.out (by simp); have qd := hSw.cell QD.out (by simp); have qe := hSw.cell QE.out (by simp); have qf := hSw.cell QF.out (by simp); clear hSw
            go_simp
            all_goals with_reducible rfl
          rotate_left 1
          · exact fun _ _ _ h => h
          try simp only [Act.put, List.setIfInBounds_toArray, List.set_cons_zero, List.set_cons_succ]
          refine wpAnyH_take (i := 1) (oi := ?_) (v := ?_) ?_ ?_ ?_ ?_ ?_ ?_ (by assumption) ?_
          rotate_left 2
          · (simp only [List.getElem?_toArray, List.getElem?_cons_succ, List.getElem?_cons_zero]) <;> rfl
          · kernel_rfl
          · kernel_rfl
          · kernel_rfl
          rotate_left 1
          · refine Or.inl ⟨by rfl, ?_⟩
            intro w hSw
            have qa := hSw.cell QA.out (by simp); have qb := hSw.cell QB.out (by simp); have qc := hSw.cell QC.out (by simp); have qd := hSw.cell QD.out (by simp); have qe := hSw.cell QE.out (by simp); have qf := hSw.cell QF.out (by simp); clear hSw
            go_simp
            all_goals with_reducible rfl
          rotate_left 1
          · exact fun _ _ _ h => h
          try simp only [Act.put, List.setIfInBounds_toArray, List.set_cons_zero, List.set_cons_succ]
          refine wpAnyH_take (i := 2) (oi := ?_) (v := ?_) ?_ ?_ ?_ ?_ ?_ ?_ (by assumption) ?_
          rotate_left 2
          · (simp only [List.getElem?_toArray, List.getElem?_cons_succ, List.getElem?_cons_zero]) <;> rfl
          · kernel_rfl
          · kernel_rfl
          · kernel_rfl
          rotate_left 1
          · refine Or.inl ⟨by rfl, ?_⟩
            intro w hSw
            have qa := hSw.cell QA.out (by simp); have qb := hSw.cell QB.out (by simp); have qc := hSw.cell QC.out (by simp); have qd := hSw.cell QD.out (by simp); have qe := hSw.cell QE.out (by simp); have qf := hSw.cell QF.out (by simp); clear hSw
            go_simp
            all_goals with_reducible rfl
          rotate_left 1
          · exact fun _ _ _ h => h
          try simp only [Act.put, List.setIfInBounds_toArray, List.set_cons_zero, List.set_cons_succ]
          refine wpAnyH_take (i := 3) (oi := ?_) (v := ?_) ?_ ?_ ?_ ?_ ?_ ?_ (by assumption) ?_
          rotate_left 2
          · (simp only [List.getElem?_toArray, List.getElem?_cons_succ, List.getElem?_cons_zero]) <;> rfl
          · kernel_rfl
          · kernel_rfl
          · kernel_rfl
          rotate_left 1
          · refine Or.inl ⟨by rfl, ?_⟩
            intro w hSw
            have qa := hSw.cell QA.out (by simp); have qb := hSw.cell QB.out (by simp); have qc := hSw.cell QC.out (by simp); have qd := hSw.cell QD.out (by simp); have qe := hSw.cell QE.out (by simp); have qf := hSw.cell QF.out (by simp); clear hSw
            go_simp
            all_goals with_reducible rfl
          rotate_left 1
          · exact fun _ _ _ h => h
          try simp only [Act.put, List.setIfInBounds_toArray, List.set_cons_zero, List.set_cons_succ]
          refine wpAnyH_take (i := 4) (oi := ?_) (v := ?_) ?_ ?_ ?_ ?_ ?_ ?_ (by assumption) ?_
          rotate_left 2
          · (simp only [List.getElem?_toArray, List.getElem?_cons_succ, List.getElem?_cons_zero]) <;> rfl
          · kernel_rfl
          · kernel_rfl
          · kernel_rfl
          rotate_left 1
          · refine Or.inl ⟨by rfl, ?_⟩
            intro w hSw
            have qa := hSw.cell QA.out (by simp); have qb := hSw.cell QB.out (by simp); have qc := hSw.cell QC.out (by simp); have qd := hSw.cell QD.out (by simp); have qe := hSw.cell QE.out (by simp); have qf := hSw.cell QF.out (by simp); clear hSw
            go_simp
            all_goals with_reducible rfl
          rotate_left 1
          · exact fun _ _ _ h => h
          try simp only [Act.put, List.setIfInBounds_toArray, List.set_cons_zero, List.set_cons_succ]
          refine wpAnyH_take (i := 5) (oi := ?_) (v := ?_) ?_ ?_ ?_ ?_ ?_ ?_ (by assumption) ?_
          rotate_left 2
          · (simp only [List.getElem?_toArray, List.getElem?_cons_succ, List.getElem?_cons_zero]) <;> rfl
          · kernel_rfl
          · kernel_rfl
          · kernel_rfl
          rotate_left 1
          · refine Or.inl ⟨by rfl, ?_⟩
            intro w hSw
            have qa := hSw.cell QA.out (by simp); have qb := hSw.cell QB.out (by simp); have qc := hSw.cell QC.out (by simp); have qd := hSw.cell QD.out (by simp); have qe := hSw.cell QE.out (by simp); have qf := hSw.cell QF.out (by simp); clear hSw
            go_simp
            all_goals with_reducible rfl
          rotate_left 1
          · exact fun _ _ _ h => h
          try simp only [Act.put, List.setIfInBounds_toArray, List.set_cons_zero, List.set_cons_succ]
          refine wpAnyH_take (i := 6) (oi := ?_) (v := ?_) ?_ ?_ ?_ ?_ ?_ ?_ (by assumption) ?_
          rotate_left 2
          · (simp only [List.getElem?_toArray, List.getElem?_cons_succ, List.getElem?_cons_zero]) <;> rfl
          · kernel_rfl
          · kernel_rfl
          · kernel_rfl
          rotate_left 1
          · refine Or.inl ⟨by rfl, ?_⟩
            intro w hSw
            have qa := hSw.cell QA.out (by simp); have qb := hSw.cell QB.out (by simp); have qc := hSw.cell QC.out (by simp); have qd := hSw.cell QD.out (by simp); have qe := hSw.cell QE.out (by simp); have qf := hSw.cell QF.out (by simp); clear hSw
            go_simp
            all_goals with_reducible rfl
          rotate_left 1
          · exact fun _ _ _ h => h
          try simp only [Act.put, List.setIfInBounds_toArray, List.set_cons_zero, List.set_cons_succ]
          refine wpAnyH_take (i := 8) (oi := ?_) (v := ?_) ?_ ?_ ?_ ?_ ?_ ?_ (by assumption) ?_
          rotate_left 2
          · (simp only [List.getElem?_toArray, List.getElem?_cons_succ, List.getElem?_cons_zero]) <;> rfl
          · kernel_rfl
          · kernel_rfl
          · kernel_rfl
          rotate_left 1
          · refine Or.inl ⟨by rfl, ?_⟩
            intro w hSw
            have qa := hSw.cell QA.out (by simp); have qb := hSw.cell QB.out (by simp); have qc := hSw.cell QC.out (by simp); have qd := hSw.cell QD.out (by simp); have qe := hSw.cell QE.out (by simp); have qf := hSw.cell QF.out (by simp); clear hSw
            go_simp
            all_goals with_reducible rfl
          rotate_left 1
          · exact fun _ _ _ h => h
          try simp only [Act.put, List.setIfInBounds_toArray, List.set_cons_zero, List.set_cons_succ]
          refine wpAnyH_ready (rs := [7]) (by kernel_rfl) (by simp) ?_
          refine AllReadyH.cons (o := ?_) ?_ ?_ AllReadyH.nil
          rotate_left 1
          · (simp only [List.getElem?_toArray, List.getElem?_cons_succ, List.getElem?_cons_zero]) <;> rfl
          intro K hK
          go_simp
          refine (HB1.out _ (HV9.out.keep (Mod.refl [] w9).drew (by simp))).mono ?_
          rintro eA wA ⟨xA, rfl, hbA, mA⟩
          have NA := Lib.hid ((Mod.refl [] w9).drew.trans mA (by simp))
          have BA := Lib.hid (hbA.mono (G := fun _ => True) (fun _ _ _ => trivial))
          clear mA hbA
          refine hK.out _ _ (by (try dsimp only); exact NA.out) (fun hHeld => ?_)
          clear hK K
          try simp only [Act.put, List.setIfInBounds_toArray, List.set_cons_zero, List.set_cons_succ]
          refine wpAnyH_ready (rs := [9]) (by kernel_rfl) (by simp) ?_
          refine AllReadyH.cons (o := ?_) ?_ ?_ AllReadyH.nil
          rotate_left 1
          · (simp only [List.getElem?_toArray, List.getElem?_cons_succ, List.getElem?_cons_zero]) <;> rfl
          intro K hK
          go_simp
          refine (HB2.out _ (HW9.out.keep NA.out (by simp))).mono ?_
          rintro eB wB ⟨xB, rfl, hbB, mB⟩
          have NB := Lib.hid (NA.out.trans mB (by simp))
          have BB := Lib.hid (hbB.mono (G := fun _ => True) (fun _ _ _ => trivial))
          have BA := Lib.hid (BA.out.keep mB (by simp))
          rw [HBR.out] at BB
          clear mB hbB
          refine hK.out _ _ (by (try dsimp only); exact NB.out) (fun hHeld => ?_)
          clear hK K
          try simp only [Act.put, List.setIfInBounds_toArray, List.set_cons_zero, List.set_cons_succ]
          refine wpAnyH_ready (rs := [10]) (by kernel_rfl) (by simp) ?_
          refine AllReadyH.cons (o := ?_) ?_ ?_ AllReadyH.nil
          rotate_left 1
          · (simp only [List.getElem?_toArray, List.getElem?_cons_succ, List.getElem?_cons_zero]) <;> rfl
          intro K hK
          go_simp
          refine (HSM.out _ _ _ BA.out BB.out).mono ?_
          rintro eC wC ⟨rfl, mC⟩
          have NC := Lib.hid (NB.out.trans mC (by simp))
          clear mC
          refine hK.out _ _ (by (try dsimp only); exact NC.out) (fun hHeld => ?_)
          clear hK K
          try simp only [Act.put, List.setIfInBounds_toArray, List.set_cons_zero, List.set_cons_succ]
          refine wpAnyH_take (i := 11) (oi := ?_) (v := ?_) ?_ ?_ ?_ ?_ ?_ ?_ (by assumption) ?_
          rotate_left 2
          · (simp only [List.getElem?_toArray, List.getElem?_cons_succ, List.getElem?_cons_zero]) <;> rfl
          · kernel_rfl
          · kernel_rfl
          · kernel_rfl
          rotate_left 1
          · refine Or.inl ⟨by rfl, ?_⟩
            intro w hSw
            have qa := hSw.cell QA.out (by simp); have qb := hSw.cell QB.out (by simp); have qc := hSw.cell QC.out (by simp); have qd := hSw.cell QD.out (by simp); have qe := hSw.cell QE.out (by simp); have qf := hSw.cell QF.out (by simp); clear hSw
            go_simp
            all_goals with_reducible rfl
          rotate_left 1
          · exact fun _ _ _ h => h
          try simp only [Act.put, List.setIfInBounds_toArray, List.set_cons_zero, List.set_cons_succ]
          refine wpAnyH_take (i := 12) (oi := ?_) (v := ?_) ?_ ?_ ?_ ?_ ?_ ?_ (by assumption) ?_
          rotate_left 2
          · (simp only [List.getElem?_toArray, List.getElem?_cons_succ, List.getElem?_cons_zero]) <;> rfl
          · kernel_rfl
          · kernel_rfl
          · kernel_rfl
          rotate_left 1
          · refine Or.inl ⟨by rfl, ?_⟩
            intro w hSw
            have qa := hSw.cell QA.out (by simp); have qb := hSw.cell QB.out (by simp); have qc := hSw.cell QC.out (by simp); have qd := hSw.cell QD.out (by simp); have qe := hSw.cell QE.out (by simp); have qf := hSw.cell QF.out (by simp); clear hSw
            go_simp
            all_goals with_reducible rfl
          rotate_left 1
          · exact fun _ _ _ h => h
          try simp only [Act.put, List.setIfInBounds_toArray, List.set_cons_zero, List.set_cons_succ]
          refine wpAnyH_done (by kernel_rfl) ?_ _
          go_wp2_with fail
          go_ret
          exact ⟨rfl, M9.out.trans NC.out (by simp)⟩
  · have hfc : ∀ fl, Lx.fault sl = fl → ((fl.1 : Int) != 0) = true := fun fl h => by rw [bne_iff_ne, ← h, fault_code0]; omega
    clear hblank htk hpm hP
    go_enter Tryz.func6, Tryz.ntmps6
    go_wp2_with fail
    refine (shown_any w hG).mono ?_
    rintro e0 w0 ⟨rfl, m0⟩
    have M0 := Lib.hid m0
    clear m0
    go_wp2_with fail
    refine (hT w0 (hG.past M0.out (by simp))).mono ?_
    rintro e3 w3 ⟨tv, rfl, hrow, m3⟩
    obtain ⟨ta, tc, rfl⟩ := hrow.lit
    have M3 := Lib.hid (M0.out.trans m3 (by simp))
    clear m3 hrow hT
    generalize hfl : Lx.fault sl = fl at *
    have hfB := hfc _ rfl
    clear hfl hfc
    generalize Lx.tokens sl = tl at *
    unfold fltV
    have mB := (Mod.refl [] w3).alloc (Obj.cells #[.int .i64 (fl.1 : Nat), .int .i64 (fl.2.1 : Nat), .int .i64 (fl.2.2 : Nat)] 31)
    have eB := heap_alloc_new w3 (Obj.cells #[.int .i64 (fl.1 : Nat), .int .i64 (fl.2.1 : Nat), .int .i64 (fl.2.2 : Nat)] 31)
    go_upto_region 3 with fail
    generalize w3.alloc (Obj.cells _ 31) = w4 at *
    have M4 := Lib.hid (M3.out.trans mB (by simp))
    have f1 : w4.cell? ⟨w3.heap.size, 0, none⟩ = some (.int .i64 (fl.1 : Nat)) := cell_at eB 0
    clear mB eB
    go_wp2_with fail
    go_ret
    exact ⟨rfl, M4.out⟩
end Go.Proofs.YtppigckioalhhaaGreatDoorR
/- WHAT THE ROW's LIST GIVES: the marks, the library's two errors. -/
namespace Go.Proofs.YtppigckioalhhaaGreatDoorR
open Go.RowKit
set_option linter.unusedVariables false
set_option linter.unusedSimpArgs false
set_option maxRecDepth 100000

theorem gRng : Tryz.prog.globalNamed "strconv.ErrRange" = some 3 := by kernel_rfl
theorem gSyn : Tryz.prog.globalNamed "strconv.ErrSyntax" = some 2 := by kernel_rfl
theorem gMrk : Tryz.prog.globalNamed "pedigree/lex.marks" = some 0 := by kernel_rfl
theorem tRng : (Tryz.prog.globals[3]?).map (·.type) = some 199 := by kernel_rfl
theorem tSyn : (Tryz.prog.globals[2]?).map (·.type) = some 199 := by kernel_rfl
theorem tMrk : (Tryz.prog.globals[0]?).map (·.type) = some 187 := by kernel_rfl
theorem starE : "*" ++ "errors.errorString" = "*errors.errorString" := by decide
theorem rowE (u : TypeId) (h : Tryz.prog.typeName? 3 u = some "*errors.errorString") : u = 234 :=
  typeName_ptr_named (nm := "errors.errorString") (by rw [starE]; kernel_rfl) (by kernel_rfl) (by decide) u (by rw [starE]; exact h)
theorem var_heap {P : Program} {w : World} {n : String} {g : Nat} {cs : Array Value} (hg : P.globalNamed n = some g) (h : w.var? P n = some cs) : ∃ T fr, w.heap[g]? = some (.cells cs T fr) := by
  simp only [World.var?, hg, Option.bind_some] at h
  split at h
  · rename_i c T fr he
    cases h
    exact ⟨_, _, he⟩
  · cases h

theorem glob_of_laid {W : World} (h : laidMetH Tryz.prog Rows.syntaxDeepRow.laid W) : Glob W := by
  rw [MakeChecks.laidMetH_plain _ _ _ (by kernel_rfl)] at h
  have h3 := h.tail.tail.tail
  obtain ⟨a0, s0, hv0, -⟩ := laid_sentinel h3 gRng tRng Tryz.underlying199 rowE Tryz.underlying234 Tryz.underlying236 rfl rfl Tryz.underlying9 (by kernel_rfl) (by kernel_rfl)
  obtain ⟨a1, s1, hv1, -⟩ := laid_sentinel h3.tail gSyn tSyn Tryz.underlying199 rowE Tryz.underlying234 Tryz.underlying236 rfl rfl Tryz.underlying9 (by kernel_rfl) (by kernel_rfl)
  obtain ⟨T0, f0, hr⟩ := var_heap gRng hv0
  obtain ⟨T1, f1, hs⟩ := var_heap gSyn hv1
  obtain ⟨ps, ⟨g2, t2, cs2, fu, p2, q2, hg2, ht2, hv2, hd2, -, -⟩, -, -⟩ := h3.tail.tail
  obtain rfl := Option.some.inj (gMrk.symm.trans hg2)
  obtain rfl := Option.some.inj (tMrk.symm.trans ht2)
  obtain ⟨T2, f2, hm⟩ := var_heap gMrk hv2
  obtain ⟨xs, m, rfl, hx, hlen, hn, hel⟩ := DataW.trod_array Tryz.underlying187 hd2
  rw [show Tryz.prog.cellsOf 187 = 19 by kernel_rfl] at hlen
  rw [show Tryz.prog.cellsOf 9 = 1 by kernel_rfl] at hel
  simp only [Prod.mk.injEq, DataW.agg.injEq, Rows.laid_pedigree_lex_marks] at hx
  have hcs : cs2 = (markL.map fun l => Value.string (Lx.ofS l)).toArray := by
    apply Array.ext'
    apply List.ext_getElem?
    intro i
    by_cases hi : i < 19
    · have he := hel i hi
      have hlt : i < cs2.toList.length := by omega
      have hone : (cs2.toList.drop (i * 1)).take 1 = [cs2.toList[i]] := by
        rw [Nat.mul_one, List.drop_eq_getElem_cons hlt]; rfl
      rw [hone] at he
      have hxi : i < xs.length := by omega
      rw [List.getElem?_eq_getElem hxi] at he
      obtain ⟨s, hc, hy, -⟩ := DataW.trod_string Tryz.underlying9 he
      rw [List.getElem?_eq_getElem hlt]
      have hlit : (markL.map fun l => (DataW.lit (.string (l.map UInt8.ofNat)) : DataW Unit)) = xs.map (·.1) := hx.1
      have h1 : (markL.map fun l => (DataW.lit (.string (l.map UInt8.ofNat)) : DataW Unit))[i]? = (xs.map (·.1))[i]? := by rw [hlit]
      rw [List.getElem?_map, List.getElem?_map, List.getElem?_eq_getElem hxi, hy] at h1
      have hmi : i < markL.length := by show i < 19; exact hi
      rw [List.getElem?_eq_getElem hmi] at h1
      simp only [Option.map_some, Option.some.injEq, DataW.lit.injEq, Lit.string.injEq] at h1
      simp only [List.getElem?_map]
      rw [List.getElem?_eq_getElem hmi]
      have hcc : cs2.toList[i] = Value.string s := by simpa using hc
      rw [hcc]
      simp only [Option.map_some]
      congr 2
      unfold Lx.ofS
      rw [h1]
    · rw [List.getElem?_eq_none (by omega), List.getElem?_eq_none (by simp [markL]; omega)]
  exact ⟨⟨_, _, hcs ▸ hm⟩, ⟨_, _, _, _, hs⟩, ⟨_, _, _, _, hr⟩⟩
end Go.Proofs.YtppigckioalhhaaGreatDoorR
/- HOW ARGUMENTS ARE OPENED: a list of numbers that came in. -/
namespace Go.Proofs.YtppigckioalhhaaGreatDoorR
open Go.ChangeShapes Go.WideShapes Go.ChangeAt Go.RowKit
set_option linter.unusedVariables false
set_option maxRecDepth 100000

theorem open_i64s {H : Type} {enc : TypeId × Value → H} {W : World} {a : Option Addr} {len cap : Nat} {d : DataW H} {p : List MemPlace}
    (h : DataW.Trod enc Tryz.prog W 0 (fun _ => true) true 36 (.slice a len cap) d p) :
    ∃ xs : List Int, xs.length = len ∧ IntsAt W (.slice a len cap) xs ∧ (len = 0 ∨ ∃ els sp, d = .slice els sp ∧ els.length = len) := by
  obtain ⟨fuel, hf⟩ := h
  rcases open_ints Tryz.underlying36 Tryz.underlying3 (by kernel_rfl) hf with ⟨h1, h2⟩ | ⟨x, l, c, zs, hcs, hb, hl, hm, hz, hx, hcell, hw⟩
  · simp [Value.cells] at h1
    obtain ⟨rfl, rfl, rfl⟩ := h1
    exact ⟨[], rfl, ⟨.nil, by simp⟩, .inl rfl⟩
  · simp [Value.cells] at hcs
    obtain ⟨rfl, rfl, rfl⟩ := hcs
    simp only [if_true] at hz
    simp only [Prod.mk.injEq] at hx
    have hlen : (zs.take len).length = len := by rw [List.length_take]; omega
    refine ⟨zs.take len, hlen, ⟨?_, fun n hn => ?_⟩, .inr ⟨_, _, hx.1, by simp [lits]; omega⟩⟩
    · rcases Nat.eq_zero_or_pos len with h0 | h0
      · subst h0
        rw [List.take_zero]
        exact .nil
      · obtain ⟨b, off, spot⟩ := x
        have hspot : spot = none := by
          have := hcell 0 (by omega)
          simp [Addr.add] at this
          simpa using World.cell?_spot this
        subst hspot
        have hc0 := hcell 0 (by omega)
        have hbl : b < W.heap.size := by
          have := World.block_lt_of_cell? W _ hc0
          simpa [Addr.add] using this
        have key : RowB (fun _ => True) W 1 intC (zs.take len) (.slice (some ⟨b, off, none⟩) (zs.take len).length cap) := by
          refine .row trivial hbl (fun i hi => ?_)
          intro j v hv
          have hj : j = 0 := by
            have := (Array.getElem?_eq_some_iff.1 hv).1
            rw [intC_size] at this
            omega
          subst hj
          have h2 := hcell i (by rw [hlen] at hi; omega)
          rw [Addr.add_mid] at h2
          rw [Nat.mul_one, Nat.add_zero]
          have hv2 : v = .int .i64 (zs.take len)[i] := by simp [intC] at hv; rw [← hv]; simp
          rw [hv2]
          have : (zs.take len)[i] = zs.getD i 0 := by
            rw [List.getElem_take, List.getD_eq_getElem?_getD, List.getElem?_eq_getElem (by rw [hlen] at hi; omega)]
            rfl
          rw [this]
          exact h2
        rw [hlen] at key
        exact key
    · have := hw n (List.mem_of_mem_take hn)
      simp [Lit.wf, IntKind.min, IntKind.max, IntKind.signed, IntKind.bits] at this
      omega
end Go.Proofs.YtppigckioalhhaaGreatDoorR
namespace Go.Proofs.YtppigckioalhhaaGreatDoorR.pSyntaxBlanks
open Go.ChangeShapes Go.WideShapes Go.ChangeAt Go.RowKit
open Go.ChangeMaps (open_string shut_string)
set_option linter.unusedVariables false
set_option maxRecDepth 100000
set_option maxHeartbeats 1000000

theorem own : ownKnob Tryz.prog.godebug = none := by kernel_rfl
theorem laidOut : laidOutB Tryz.prog = true := by kernel_rfl

theorem contract (H : Type) (enc : TypeId × Value → H) (W : World) (base : Nat) (args : Array Value) (ds gs : List (DataW H)) (before : List MemPlace)
    (hval : ∀ (j : Nat) t v, Tryz.f6.params[j]? = some t → args[j]? = some v → Value.okWide Tryz.prog W .any base t v)
    (hW : DataW.Whole enc Tryz.prog Tryz.f6.params.toList Rows.syntaxBlanksSpec.vars false W args.toList ds gs before)
    (hsz0 : (DataW.weightsEach Tryz.prog (Tryz.f6.params.toList ++ Rows.syntaxBlanksSpec.plain.varTypes Tryz.prog) (ds ++ gs)).all (· ≤ reachBytes) = true)
    (hL : laidMetH Tryz.prog Rows.syntaxBlanksRow.laid W) :
    Calls Tryz.prog 6 args W fun e W' => ∃ v, e = .returned v ∧ Rows.syntaxBlanksSpec.post enc Tryz.prog Tryz.f6 false true false false W args v W' := by
  have hW' := hW
  have hG := glob_of_laid hL
  obtain ⟨p, q, hA0, hV, rfl, hfz, hnd⟩ := hW
  have hA : DataW.TrodAll enc Tryz.prog W 0 (fun _ => true) true Tryz.f6.params.toList args.toList ds p := hA0
  rw [Tryz.params6] at hA hval hsz0
  obtain ⟨v0, vs0, d0, ds0, p0, q0, hargs, rfl, rfl, h0, r0⟩ := trodAll_cons hA
  obtain ⟨v1, vs1, d1, ds1, p1, q1, rfl, rfl, rfl, h1, r1⟩ := trodAll_cons r0
  obtain ⟨rfl, rfl, rfl⟩ := trodAll_nil r1
  obtain rfl : args = #[v0, v1] := by cases args; simp_all
  obtain ⟨rfl, rfl⟩ := trodVars_none hV
  obtain ⟨s0, rfl, rfl, rfl, hz0⟩ := open_string Tryz.underlying9 (hval 0 9 v0 rfl rfl) h0
  have hs0 : s0.size ≤ 140737488351232 := by
    have := sized_string hsz0 (j := 0) (t := 9) rfl rfl
    rw [Array.length_toList] at this
    exact this
  have k1 := h1
  have lt1 : ∀ x ∈ p1, x.block < W.heap.size := by obtain ⟨m, hm⟩ := k1; exact DataW.trod_lt m _ _ _ hm
  obtain ⟨o1, len1, cap1, rfl⟩ := okWide_slice Tryz.underlying36 (hval 1 36 v1 rfl rfl)
  obtain ⟨xs1, hxl1, hi1, hd1⟩ := open_i64s h1
  subst hxl1
  have hl1 : xs1.length * 8 ≤ 140737488351232 := by
    rcases hd1 with h | ⟨els, sp, rfl, he⟩
    · omega
    · have := sized_slice hsz0 (j := 1) (t := 36) (e := 3) rfl rfl Tryz.underlying36
      rw [show Tryz.prog.bytesOf 3 = 8 by kernel_rfl] at this
      simp only [reachBytes] at this
      omega
  clear hA0
  refine (SyntaxBlanks_any s0 xs1 o1 cap1 (by omega) (by omega) W hi1 hG).mono fun e W' ⟨he, hm⟩ => ?_
  subst he
  have bel : Below W.heap.size W W' := hm.below (Nat.le_refl _) (by simp)
  exact ⟨_, rfl, _, _, _, [], _, [], hW', trodAll_mk1 (shut_bool Tryz.underlying4 _), (trodAll_cons_mk (shut_string Tryz.underlying9 hz0) (trodAll_cons_mk (Below.trod laidOut (by kernel_rfl) (of_decide_eq_true (by kernel_rfl)) k1 bel lt1) trodAll_mk0)), rfl, bel.frame _, fun h => by cases h⟩

theorem door_met (os : Os) : laidMetH Tryz.prog Rows.syntaxBlanksRow.laid ((World.doorLaid Tryz.prog 67 os).forCall (fun _ _ => 0) ⟨#[], #[.string ⟨#[]⟩, .slice none 0 0], []⟩).memory := by
  rw [MakeChecks.laidMetH_plain _ _ _ (by kernel_rfl)]
  exact laidMet_of_run' 8 (by kernel_rfl) (by kernel_rfl)
theorem reads (os : Os) {H : Type} (enc : TypeId × Value → H) : ∃ places, DataW.whole enc Tryz.prog ((World.doorLaid Tryz.prog 67 os).forCall (fun _ _ => 0) ⟨#[], #[.string ⟨#[]⟩, .slice none 0 0], []⟩).memory Tryz.f6.params.toList Rows.syntaxBlanksSpec.vars false (#[.string ⟨#[]⟩, .slice none 0 0] : Array Value).toList 8 = some ([.lit (.string []), .nil], [], places) :=
  ⟨[], by kernel_rfl⟩

theorem lifted (os : Os) (started : os.Started) (H : Type) (enc : TypeId × Value → H) (F : Stop.Interp) :
    ReturnsInHanded {} Tryz.checked os 6 .any ((OpenSpec.ofChange Rows.syntaxBlanksSpec).preRow enc Tryz.prog Tryz.f6 Rows.syntaxBlanksRow.domain false Rows.syntaxBlanksRow.laid) (((OpenSpec.ofChange Rows.syntaxBlanksSpec).at F).post enc Tryz.prog Tryz.f6 false true false false) := by
  obtain ⟨places, hx⟩ := reads os enc
  refine returnsInHanded_of_row (C := Tryz.checked) (s := OpenSpec.ofChange Rows.syntaxBlanksSpec) own started (by kernel_rfl) Tryz.func6
    (witness_row_atRef (enc := enc) (C := Tryz.checked) false (World.doorLaid Tryz.prog 67 os) #[.string ⟨#[]⟩, .slice none 0 0] rfl (by kernel_rfl) (by kernel_rfl) (by kernel_rfl)
      (OpenSpec.preRow_of_cond 8 hx (by kernel_rfl) (fun k hk => by cases hk) (by kernel_rfl) (door_met os))) ?_
  intro W base args ds gs before hval hW _ _ hsz hL _ _
  exact contract H enc W base args ds gs before hval hW hsz hL

theorem said : Rows.SyntaxBlanksSaid :=
  OpenClaim.holds_of_cond 6 Tryz.f6 rfl rfl rfl rfl rfl rfl rfl ⟨rfl, rfl, rfl, rfl, rfl⟩ rfl rfl rfl rfl rfl (by kernel_rfl) Tryz.func6 (by kernel_rfl)
    (of_decide_eq_true (by kernel_rfl)) (by unfold Func.isWrapper; first | (rw [if_pos (by decide +kernel)]; kernel_rfl) | (rw [if_neg (by decide +kernel)]; exact ⟨rfl, rfl⟩))
    (fun os started H enc _ F => by rw [OpenClaim.pre_eq_preRow]; exact lifted os started H enc F)

theorem plain (f : FuncId) (fn : Func) (hf : Tryz.pinned.checked.prog.funcNamed "pedigree/pedigreelaw04.SyntaxBlanks" = some f) (hfn : Tryz.pinned.checked.prog.funcs[f]? = some fn) :
    true = Tryz.pinned.checked.prog.looks [] ∧ ∀ (j : Nat) t, fn.params[j]? = some t → Tryz.pinned.checked.prog.wantsStandIn t = false := by
  obtain rfl : f = 6 := Option.some.inj ((show Tryz.prog.funcNamed "pedigree/pedigreelaw04.SyntaxBlanks" = some 6 by kernel_rfl).symm.trans hf) |>.symm
  obtain rfl : fn = Tryz.f6 := (Option.some.inj (Tryz.func6.symm.trans hfn)).symm
  refine ⟨by kernel_rfl, fun j t ht => ?_⟩
  rw [Tryz.params6] at ht
  have hm : t ∈ [9, 36] := by simpa using Array.mem_of_getElem? ht
  have hall : ([9, 36].all fun u => !Tryz.prog.wantsStandIn u) = true := by kernel_rfl
  exact (show Tryz.prog.wantsStandIn t = false by simpa using List.all_eq_true.1 hall t hm)

/-- THE STATEMENT -/
theorem proved : Rows.SyntaxBlanksCardSaid :=
  Claim7.holds_tied_plain_at .later [] _ _ _ _ said (fun _ h => by cases h) (by kernel_rfl) (fun _ h => by cases h) syntaxBlanks_row_tie rfl ⟨rfl, rfl⟩ (by kernel_rfl) rfl plain (by kernel_rfl)
end Go.Proofs.YtppigckioalhhaaGreatDoorR.pSyntaxBlanks
