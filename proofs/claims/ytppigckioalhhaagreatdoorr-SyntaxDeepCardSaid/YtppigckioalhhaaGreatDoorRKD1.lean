/- SyntaxDeep: the frame: the statement's arguments opened, the card tied. -/
import Derived.Test.YtppigckioalhhaaGreatDoorRKB3
import Derived.Test.YtppigckioalhhaaGreatDoorRKB10
import Derived.Test.YtppigckioalhhaaGreatDoorRRows
import Derived.ProofKit
import Derived.OpenShut
import Derived.LaidMore
import Derived.Stop.LaidErr
import Derived.Stop.Joined
import Derived.Deep.Slices
import Derived.Test.YtppigckioalhhaaGreatDoorRCards
import Derived.Test.YtppigckioalhhaaGreatDoorRTie
import Derived.ShutString
import Derived.SizedLaws
import Derived.JoinedCond
import Derived.Deep.CondSized
import Derived.Deep.DeepHandedRow
import Derived.Deep.DeepWitnessRowRef
import Derived.SevenTiedAt
/- PLAIN: SyntaxDeep: an expression that is built level by level is read just if it is no deeper than 16. No program (of the machine) in sight. -/
namespace Go.Proofs.YtppigckioalhhaaGreatDoorR.Sy
open Lx (Tok St word skipN goes)
open Pr (Ex)
set_option linter.unusedVariables false
set_option linter.unusedSimpArgs false

/-- a word but for its place -/
structure Sh where
  kind : Nat
  text : List Nat
  vk : Nat
  num : Nat
  sym : List Nat
deriving DecidableEq
def sh (t : Lx.Tok) : Sh := ⟨t.kind, t.text, t.vk, t.num, t.sym⟩

/-- s begins with the words ts, r is what is left -/
inductive Sc : List Nat → List Sh → List Nat → Prop
  | nil (r : List Nat) : Sc r [] r
  | word {s r : List Nat} {ts : List Sh} {u : List Nat} {w : Lx.Wd} {n : Nat} (hs : s.drop (skipN false s) = u) (h0 : u ≠ []) (hw : Lx.word u = .ok w) (hn : w.n = n) (h : Sc (u.drop n) ts r) : Sc s (⟨w.kind, u.take n, w.vk, w.num, w.sym⟩ :: ts) r
theorem Sc.trans {a b c : List Nat} {ts us : List Sh} (h : Sc a ts b) (k : Sc b us c) : Sc a (ts ++ us) c := by
  induction h with
  | nil r => exact k
  | word hs h0 hw hn h ih => exact .word hs h0 hw hn (ih k)
theorem sc_all {s r : List Nat} {ts : List Sh} (h : Sc s ts r) : ∀ (x : St), x.s = s → x.code = 0 → x.long = false →
    ∃ y, y.s = r ∧ y.code = 0 ∧ y.long = false ∧ ∀ k, ∃ us, us.map sh = ts ∧ Lx.allF (k + ts.length) x = (us ++ (Lx.allF k y).1, (Lx.allF k y).2) := by
  induction h with
  | nil r => exact fun x hx hc hl => ⟨x, hx, hc, hl, fun k => ⟨[], rfl, rfl⟩⟩
  | @word s r ts u w n hs h0 hw hn h ih =>
    intro x hx hc hl
    have e1 : x.skip.s = u := by unfold Lx.St.skip; rw [hx]; exact hs
    have hnx : Lx.next x = ({ x.skip with s := u.drop n, pos := Lx.adv x.skip.pos (u.take n), fin := Lx.adv x.skip.pos (u.take n) }, some ⟨w.kind, u.take n, w.vk, w.num, w.sym, x.skip.pos.1, x.skip.pos.2⟩) := by
      unfold Lx.next
      rw [if_neg (by omega), hl, e1, if_neg h0, hw, ← hn]
      rfl
    obtain ⟨y, y1, y2, y3, y4⟩ := ih _ (rfl : ({ x.skip with s := u.drop n, pos := Lx.adv x.skip.pos (u.take n), fin := Lx.adv x.skip.pos (u.take n) } : St).s = _) hc hl
    refine ⟨y, y1, y2, y3, fun k => ?_⟩
    obtain ⟨us, h1, h2⟩ := y4 k
    refine ⟨⟨w.kind, u.take n, w.vk, w.num, w.sym, x.skip.pos.1, x.skip.pos.2⟩ :: us, by rw [List.map_cons, h1]; rfl, ?_⟩
    rw [List.length_cons, ← Nat.add_assoc, Lx.allF, hnx]
    simp only
    rw [h2]
    rfl
/-- a whole text of words -/
theorem sc_given {s : List Nat} {ts : List Sh} (h : Sc s ts []) (hl : s.length ≤ 65536) (hts : ts.length ≤ s.length) : (Lx.given s).1.map sh = ts ∧ (Lx.given s).2.code = 0 := by
  obtain ⟨y, y1, y2, y3, y4⟩ := sc_all h (Lx.start s) rfl rfl (by simp [Lx.start]; omega)
  obtain ⟨us, h1, h2⟩ := y4 (s.length + 1 - ts.length)
  rw [show s.length + 1 - ts.length + ts.length = s.length + 1 by omega] at h2
  have h3 : Lx.next y = (y.skip, none) := by
    unfold Lx.next
    rw [if_neg (by omega), y3]
    have : y.skip.s = [] := by unfold Lx.St.skip; simp [y1]
    rw [if_pos this]
    rfl
  have h4 : Lx.allF (s.length + 1 - ts.length) y = ([], y.skip) := by
    rw [show s.length + 1 - ts.length = (s.length - ts.length) + 1 by omega, Lx.allF, h3]
  unfold Lx.given
  rw [h2, h4]
  exact ⟨by simpa using h1, y2⟩

def mk5 (l : List Nat) : Sh := ⟨5, l, 0, 0, []⟩
theorem sc_mark (c : Nat) (hc : c = 40 ∨ c = 41 ∨ c = 45 ∨ c = 43 ∨ c = 42 ∨ c = 123 ∨ c = 125) (r : List Nat) {ts : List Sh} {q : List Nat} (h : Sc r ts q) : Sc (c :: r) (mk5 [c] :: ts) q := by
  have h1 : Lx.mark (c :: r) = 1 := by
    cases r with
    | nil => rcases hc with rfl | rfl | rfl | rfl | rfl | rfl | rfl <;> rfl
    | cons d t => rcases hc with rfl | rfl | rfl | rfl | rfl | rfl | rfl <;> simp [Lx.mark, Lx.two, Lx.ones]
  have h2 : Lx.word (c :: r) = .ok ⟨5, 1, 0, 0, []⟩ := by
    unfold Lx.word
    rw [h1]
    rcases hc with rfl | rfl | rfl | rfl | rfl | rfl | rfl <;> rfl
  refine Sc.word (u := c :: r) (n := 1) (w := ⟨5, 1, 0, 0, []⟩) ?_ (by simp) h2 rfl h
  have h3 : skipN false (c :: r) = 0 := Lx.skip_none (by rcases hc with rfl | rfl | rfl | rfl | rfl | rfl | rfl <;> rfl) (by omega)
  rw [h3]
  rfl
theorem sc_blank {r : List Nat} {ts : List Sh} {q : List Nat} (h : Sc r ts q) (hts : ts ≠ []) : Sc (32 :: r) ts q := by
  cases h with
  | nil => exact absurd rfl hts
  | word hs h0 hw hn h =>
    refine .word ?_ h0 hw hn h
    have : skipN false (32 :: r) = skipN false r + 1 := by
      conv => lhs; unfold skipN
      simp [Lx.blank]
    rw [this]
    simpa using hs
/-- a mark with a blank behind -/
theorem sc_markb (c : Nat) (hc : c = 61 ∨ c = 60 ∨ c = 58) (r : List Nat) {ts : List Sh} {q : List Nat} (h : Sc (32 :: r) ts q) : Sc (c :: 32 :: r) (mk5 [c] :: ts) q := by
  have h1 : Lx.mark (c :: 32 :: r) = 1 := by rcases hc with rfl | rfl | rfl <;> simp [Lx.mark, Lx.two, Lx.ones]
  have h2 : Lx.word (c :: 32 :: r) = .ok ⟨5, 1, 0, 0, []⟩ := by
    unfold Lx.word
    rw [h1]
    rcases hc with rfl | rfl | rfl <;> rfl
  refine Sc.word (u := c :: 32 :: r) (n := 1) (w := ⟨5, 1, 0, 0, []⟩) ?_ (by simp) h2 rfl h
  have h3 : skipN false (c :: 32 :: r) = 0 := Lx.skip_none (by rcases hc with rfl | rfl | rfl <;> rfl) (by omega)
  rw [h3]
  rfl
def mkv (c : Nat) : Sh := ⟨2, [c], 0, 0, []⟩
def mkn (c : Nat) : Sh := ⟨3, [c], 1, c - 48, []⟩
theorem run0 {r : List Nat} (h : goes (r.headD 0) = false) : Lx.run goes r = 0 := by
  cases r with
  | nil => rfl
  | cons c t => rw [Lx.run_cons, if_neg (by simpa using h)]
theorem sc_var (c : Nat) (hc : c = 88 ∨ c = 89 ∨ c = 90 ∨ c = 78) (r : List Nat) (hr : goes (r.headD 0) = false) {ts : List Sh} {q : List Nat} (h : Sc r ts q) : Sc (c :: r) (mkv c :: ts) q := by
  have h1 : Lx.run goes (c :: r) = 1 := by
    rw [Lx.run_cons, run0 hr]
    rcases hc with rfl | rfl | rfl | rfl <;> rfl
  have h2 : Lx.word (c :: r) = .ok ⟨2, 1, 0, 0, []⟩ := by
    unfold Lx.word
    rw [h1]
    rcases hc with rfl | rfl | rfl | rfl <;> rfl
  refine Sc.word (u := c :: r) (n := 1) (w := ⟨2, 1, 0, 0, []⟩) ?_ (by simp) h2 rfl h
  have h3 : skipN false (c :: r) = 0 := Lx.skip_none (by rcases hc with rfl | rfl | rfl | rfl <;> rfl) (by omega)
  rw [h3]
  rfl
theorem digit_goes {c : Nat} (h : goes c = false) : Lx.digit c = false := by
  cases hd : Lx.digit c with
  | false => rfl
  | true => rw [Lx.goes_of_digit hd] at h; cases h
theorem sc_num (c : Nat) (hc : c = 49 ∨ c = 50 ∨ c = 51) (r : List Nat) (hr : goes (r.headD 0) = false) {ts : List Sh} {q : List Nat} (h : Sc r ts q) : Sc (c :: r) (mkn c :: ts) q := by
  have h1 : Lx.run goes (c :: r) = 1 := by
    rw [Lx.run_cons, run0 hr]
    rcases hc with rfl | rfl | rfl <;> rfl
  have h0 : Lx.run Lx.digit (c :: r) = 1 := by
    have : Lx.run Lx.digit r = 0 := by
      cases r with
      | nil => rfl
      | cons d t => rw [Lx.run_cons, if_neg (by have := digit_goes hr; simp at this; simp [this])]
    rw [Lx.run_cons, this]
    rcases hc with rfl | rfl | rfl <;> rfl
  have h2 : Lx.word (c :: r) = .ok ⟨3, 1, 1, c - 48, []⟩ := by
    unfold Lx.word
    rw [h1, h0]
    rcases hc with rfl | rfl | rfl <;> rfl
  refine Sc.word (u := c :: r) (n := 1) (w := ⟨3, 1, 1, c - 48, []⟩) ?_ (by simp) h2 rfl h
  have h3 : skipN false (c :: r) = 0 := Lx.skip_none (by rcases hc with rfl | rfl | rfl <;> rfl) (by omega)
  rw [h3]
  rfl
def mk1 (l : List Nat) : Sh := ⟨1, l, 0, 0, []⟩
theorem sc_name3 (a b c : Nat) (hc : (a = 109 ∧ b = 111 ∧ c = 100) ∨ (a = 109 ∧ b = 97 ∧ c = 120)) (r : List Nat) {ts : List Sh} {q : List Nat} (h : Sc (32 :: r) ts q) : Sc (a :: b :: c :: 32 :: r) (mk1 [a, b, c] :: ts) q := by
  have h1 : Lx.run goes (a :: b :: c :: 32 :: r) = 3 := by
    rw [Lx.run_cons, Lx.run_cons, Lx.run_cons, Lx.run_cons]
    rcases hc with ⟨rfl, rfl, rfl⟩ | ⟨rfl, rfl, rfl⟩ <;> rfl
  have h2 : Lx.word (a :: b :: c :: 32 :: r) = .ok ⟨1, 3, 0, 0, []⟩ := by
    unfold Lx.word
    rw [h1]
    rcases hc with ⟨rfl, rfl, rfl⟩ | ⟨rfl, rfl, rfl⟩ <;> rfl
  refine Sc.word (u := a :: b :: c :: 32 :: r) (n := 3) (w := ⟨1, 3, 0, 0, []⟩) ?_ (by simp) h2 rfl h
  have h3 : skipN false (a :: b :: c :: 32 :: r) = 0 := Lx.skip_none (by rcases hc with ⟨rfl, rfl, rfl⟩ | ⟨rfl, rfl, rfl⟩ <;> rfl) (by omega)
  rw [h3]
  rfl
theorem sc_p (r : List Nat) {ts : List Sh} {q : List Nat} (h : Sc (40 :: r) ts q) : Sc (112 :: 40 :: r) (mk1 [112] :: ts) q := by
  have h1 : Lx.run goes (112 :: 40 :: r) = 1 := by rw [Lx.run_cons, Lx.run_cons]; rfl
  have h2 : Lx.word (112 :: 40 :: r) = .ok ⟨1, 1, 0, 0, []⟩ := by
    unfold Lx.word
    rw [h1]
    rfl
  refine Sc.word (u := 112 :: 40 :: r) (n := 1) (w := ⟨1, 1, 0, 0, []⟩) ?_ (by simp) h2 rfl h
  have h3 : skipN false (112 :: 40 :: r) = 0 := Lx.skip_none rfl (by omega)
  rw [h3]
  rfl

/-- a step: the text round the text -/
def dtext (k : Nat) (s : List Nat) : List Nat :=
  if k = 0 then 40 :: (s ++ [41])
  else if k = 1 then 45 :: 40 :: (s ++ [41])
  else if k = 2 then 40 :: (s ++ [41, 32, 43, 32, 49])
  else if k = 3 then 89 :: 32 :: 42 :: 32 :: 40 :: (s ++ [41])
  else if k = 4 then 50 :: 32 :: 45 :: 32 :: 40 :: (s ++ [41, 32, 109, 111, 100, 32, 90])
  else 40 :: 49 :: 32 :: 43 :: 32 :: 40 :: (s ++ [41, 41])
def dadd (k : Nat) : Nat := if k = 0 then 1 else if k ≤ 3 then 2 else 3
def dwords (k : Nat) (l : List Sh) : List Sh :=
  if k = 0 then mk5 [40] :: (l ++ [mk5 [41]])
  else if k = 1 then mk5 [45] :: mk5 [40] :: (l ++ [mk5 [41]])
  else if k = 2 then mk5 [40] :: (l ++ [mk5 [41], mk5 [43], mkn 49])
  else if k = 3 then mkv 89 :: mk5 [42] :: mk5 [40] :: (l ++ [mk5 [41]])
  else if k = 4 then mkn 50 :: mk5 [45] :: mk5 [40] :: (l ++ [mk5 [41], mk1 [109, 111, 100], mkv 90])
  else mk5 [40] :: mkn 49 :: mk5 [43] :: mk5 [40] :: (l ++ [mk5 [41], mk5 [41]])
/-- a text that is built level by level, its words, how deep it is -/
inductive DS : List Nat → List Sh → Nat → Prop
  | one : DS [88] [mkv 88] 0
  | step (k : Nat) {s : List Nat} {l : List Sh} {d : Nat} (h : DS s l d) : DS (dtext k s) (dwords k l) (d + dadd k)
theorem dadd_pos (k : Nat) : 1 ≤ dadd k ∧ dadd k ≤ 3 := by unfold dadd; split <;> (try split) <;> omega
theorem DS.len {s : List Nat} {l : List Sh} {d : Nat} (h : DS s l d) : s.length ≤ 1 + 14 * d ∧ l.length ≤ s.length ∧ l ≠ [] ∧ (∀ c ∈ s, c < 256) := by
  induction h with
  | one => exact ⟨by simp, by simp, by simp, by simp⟩
  | step k h ih =>
    obtain ⟨h1, h2, h3, h4⟩ := ih
    have := dadd_pos k
    refine ⟨?_, ?_, ?_, ?_⟩
    · unfold dtext
      repeat' split
      all_goals (simp only [List.length_cons, List.length_append, List.length_nil]; try omega)
      all_goals (unfold dadd; repeat' split) <;> omega
    · unfold dtext dwords
      repeat' split
      all_goals (simp only [List.length_cons, List.length_append, List.length_nil]; omega)
    · unfold dwords
      repeat' split
      all_goals simp
    · unfold dtext
      repeat' split
      all_goals (intro c hc; simp only [List.mem_cons, List.mem_append, List.not_mem_nil, or_false] at hc)
      all_goals (rcases hc with hc | hc | hc | hc | hc | hc | hc | hc | hc | hc | hc | hc | hc <;> first | exact h4 c hc | omega)
theorem DS.sc {s : List Nat} {l : List Sh} {d : Nat} (h : DS s l d) : ∀ (r : List Nat), goes (r.headD 0) = false → ∀ {ts : List Sh} {q : List Nat}, Sc r ts q → Sc (s ++ r) (l ++ ts) q := by
  induction h with
  | one => exact fun r hr ts q hq => sc_var 88 (by simp) r hr hq
  | @step k s l d h ih =>
    intro r hr ts q hq
    unfold dtext dwords
    by_cases k0 : k = 0
    · rw [if_pos k0, if_pos k0]
      simp only [List.cons_append, List.append_assoc, List.nil_append]
      exact sc_mark 40 (by simp) _ (ih _ rfl (sc_mark 41 (by simp) _ hq))
    rw [if_neg k0, if_neg k0]
    by_cases k1 : k = 1
    · rw [if_pos k1, if_pos k1]
      simp only [List.cons_append, List.append_assoc, List.nil_append]
      exact sc_mark 45 (by simp) _ (sc_mark 40 (by simp) _ (ih _ rfl (sc_mark 41 (by simp) _ hq)))
    rw [if_neg k1, if_neg k1]
    by_cases k2 : k = 2
    · rw [if_pos k2, if_pos k2]
      simp only [List.cons_append, List.append_assoc, List.nil_append]
      exact sc_mark 40 (by simp) _ (ih _ rfl (sc_mark 41 (by simp) _ (sc_blank (sc_mark 43 (by simp) _ (sc_blank (sc_num 49 (by simp) _ hr hq) (by simp))) (by simp))))
    rw [if_neg k2, if_neg k2]
    by_cases k3 : k = 3
    · rw [if_pos k3, if_pos k3]
      simp only [List.cons_append, List.append_assoc, List.nil_append]
      exact sc_var 89 (by simp) _ rfl (sc_blank (sc_mark 42 (by simp) _ (sc_blank (sc_mark 40 (by simp) _ (ih _ rfl (sc_mark 41 (by simp) _ hq))) (by simp))) (by simp))
    rw [if_neg k3, if_neg k3]
    by_cases k4 : k = 4
    · rw [if_pos k4, if_pos k4]
      simp only [List.cons_append, List.append_assoc, List.nil_append]
      exact sc_num 50 (by simp) _ rfl (sc_blank (sc_mark 45 (by simp) _ (sc_blank (sc_mark 40 (by simp) _ (ih _ rfl (sc_mark 41 (by simp) _ (sc_blank (sc_name3 109 111 100 (by simp) _ (sc_blank (sc_var 90 (by simp) _ hr hq) (by simp))) (by simp))))) (by simp))) (by simp))
    rw [if_neg k4, if_neg k4]
    simp only [List.cons_append, List.append_assoc, List.nil_append]
    exact sc_mark 40 (by simp) _ (sc_num 49 (by simp) _ rfl (sc_blank (sc_mark 43 (by simp) _ (sc_blank (sc_mark 40 (by simp) _ (ih _ rfl (sc_mark 41 (by simp) _ (sc_mark 41 (by simp) _ hq)))) (by simp))) (by simp)))

/-- the words ts stand at place i -/
def At (v : Env) (i : Nat) (ts : List Sh) : Prop := ∀ j (h : j < ts.length), sh (v.tk (i + j)) = ts[j]
theorem At.head {v : Env} {i : Nat} {t : Sh} {ts : List Sh} (h : At v i (t :: ts)) : sh (v.tk i) = t := h 0 (by simp)
theorem At.tail {v : Env} {i : Nat} {t : Sh} {ts : List Sh} (h : At v i (t :: ts)) : At v (i + 1) ts := fun j hj => by
  have := h (j + 1) (by simpa using hj)
  rw [show i + 1 + j = i + (j + 1) by omega]
  simpa using this
theorem At.left {v : Env} {i : Nat} {a b : List Sh} (h : At v i (a ++ b)) : At v i a := fun j hj => by
  have := h j (by rw [List.length_append]; omega)
  rwa [List.getElem_append_left hj] at this
theorem At.right {v : Env} {i : Nat} {a b : List Sh} (h : At v i (a ++ b)) : At v (i + a.length) b := fun j hj => by
  have := h (a.length + j) (by rw [List.length_append]; omega)
  rw [List.getElem_append_right (by omega)] at this
  rw [Nat.add_assoc]
  simpa using this
theorem sh_eq {t : Lx.Tok} {k : Nat} {tx : List Nat} {vk n : Nat} {sy : List Nat} (h : sh t = ⟨k, tx, vk, n, sy⟩) : t.kind = k ∧ t.text = tx ∧ t.vk = vk ∧ t.num = n ∧ t.sym = sy := by
  unfold sh at h
  simpa using h
theorem give_in {v : Env} {i c : Nat} (h : (v.tk i).kind ≠ 0) : (v.give c i).1 = c := by
  have : i < v.ws.length := by
    by_cases hk : i < v.ws.length
    · exact hk
    · exact absurd (by unfold Env.tk; rw [List.getD_eq_getElem?_getD, List.getElem?_eq_none (by omega)]; rfl) h
  unfold Env.give
  rw [if_pos this]

/-- read with depth d, or too deep -/
def Out (p : PR (Ex × Nat)) (above d j : Nat) : Prop := (above + d ≤ 16 → ∃ e, p = .ok (e, d) j) ∧ (16 < above + d → ∃ f, p = .err f ∧ f.1 = 41)
theorem chain_stop {v : Env} {line : Nat} {sub : Nat → Nat → PR (Ex × Nat)} {above n : Nat} {e : Ex} {d i : Nat} (h : (level (v.tk i)).1 ≠ line) : chainF v line sub above (n + 1) e d i = .ok (e, d) i := by
  rw [chainF, if_pos h]
theorem chain_on {v : Env} {line : Nat} {sub : Nat → Nat → PR (Ex × Nat)} {above n : Nat} {e : Ex} {d i : Nat} (h : (level (v.tk i)).1 = line) (hd : above + d + 1 ≤ 16) : chainF v line sub above (n + 1) e d i = (sub (above + 1) (i + 1)).bind fun r j => chainF v line sub above n (.mk 4 (txt []) Va.zero (level (v.tk i)).2 [e, r.1]) (1 + max d r.2) j := by
  rw [chainF, if_neg (by omega), if_neg (by omega)]
theorem chain_deep_ {v : Env} {line : Nat} {sub : Nat → Nat → PR (Ex × Nat)} {above n : Nat} {e : Ex} {d i : Nat} (h : (level (v.tk i)).1 = line) (hd : 16 < above + d + 1) : chainF v line sub above (n + 1) e d i = .err (v.give 41 i) := by
  rw [chainF, if_neg (by omega), if_pos hd]
theorem out_up {v : Env} {k line above i d j : Nat} (h : Out (exprF v k (line + 1) above i) above d j) (hl : line ≠ 3) (hj : (level (v.tk j)).1 ≠ line) : Out (exprF v (k + 1) line above i) above d j := by
  refine ⟨fun hd => ?_, fun hd => ?_⟩
  · obtain ⟨e, he⟩ := h.1 hd
    refine ⟨e, ?_⟩
    rw [exprF, if_neg hl, he, PR.bind_ok, chain_stop hj]
  · obtain ⟨f, hf, h41⟩ := h.2 hd
    refine ⟨f, ?_, h41⟩
    rw [exprF, if_neg hl, hf, PR.bind_err]
theorem un_var {v : Env} {k above i c : Nat} (h : sh (v.tk i) = mkv c) : ∃ e, exprF v (k + 1) 3 above i = .ok (e, 0) (i + 1) := by
  obtain ⟨h1, -⟩ := sh_eq h
  exact ⟨_, by rw [exprF, if_pos rfl, if_pos h1]⟩
theorem un_num {v : Env} {k above i c : Nat} (h : sh (v.tk i) = mkn c) : ∃ e, exprF v (k + 1) 3 above i = .ok (e, 0) (i + 1) := by
  obtain ⟨h1, -⟩ := sh_eq h
  have : constant v i = some (⟨(v.tk i).vk, (v.tk i).num, (v.tk i).sym⟩, 1) := by
    unfold constant
    rw [if_pos (.inl h1)]
  exact ⟨.mk 2 (txt []) ⟨(v.tk i).vk, (v.tk i).num, (v.tk i).sym⟩ 0 [], by rw [exprF, if_pos rfl, if_neg (by omega), this]⟩
theorem un_open {v : Env} {k above i : Nat} (h : sh (v.tk i) = mk5 [40]) (ha : above < 16) :
    exprF v (k + 1) 3 above i = (exprF v k 1 (above + 1) (i + 1)).bind fun r j => (must v [41] j).bind fun _ j => .ok (r.1, r.2 + 1) j := by
  obtain ⟨h1, h2, -⟩ := sh_eq h
  have hs : ∀ l, sign (v.tk i) l = decide (l = [40]) := fun l => by
    unfold sign
    rw [h1, h2]
    by_cases e : l = [40]
    · subst e; rfl
    · rw [decide_eq_false e, decide_eq_false (fun e' => e e'.symm)]; rfl
  have hc : constant v i = none := by
    unfold constant
    rw [if_neg (by omega), if_neg (by unfold plain; rw [h1]; simp), if_neg (by rw [hs]; simp)]
  rw [exprF, if_pos rfl, if_neg (by omega), hc]
  simp only
  rw [if_neg (by rw [hs]; simp), if_neg (by omega)]
  have hm : must v [40] i = .ok () (i + 1) := by unfold must; rw [if_pos (by rw [hs]; rfl)]
  rw [hm, PR.bind_ok]
theorem un_open_deep {v : Env} {k above i : Nat} (h : sh (v.tk i) = mk5 [40]) (ha : 16 ≤ above) :
    ∃ f, exprF v (k + 1) 3 above i = .err f ∧ f.1 = 41 := by
  obtain ⟨h1, h2, -⟩ := sh_eq h
  have hs : ∀ l, sign (v.tk i) l = decide (l = [40]) := fun l => by
    unfold sign
    rw [h1, h2]
    by_cases e : l = [40]
    · subst e; rfl
    · rw [decide_eq_false e, decide_eq_false (fun e' => e e'.symm)]; rfl
  have hc : constant v i = none := by
    unfold constant
    rw [if_neg (by omega), if_neg (by unfold plain; rw [h1]; simp), if_neg (by rw [hs]; simp)]
  refine ⟨v.give 41 i, ?_, give_in (by omega)⟩
  rw [exprF, if_pos rfl, if_neg (by omega), hc]
  simp only
  rw [if_neg (by rw [hs]; simp), if_pos ⟨by rw [hs]; rfl, ha⟩]
theorem must_at {v : Env} {i : Nat} {l : List Nat} (h : sh (v.tk i) = mk5 l) : must v l i = .ok () (i + 1) := by
  obtain ⟨h1, h2, -⟩ := sh_eq h
  unfold must sign
  rw [if_pos (by rw [h1, h2]; simp)]
/-- what stands in brackets -/
theorem out_paren {v : Env} {k above i d j : Nat} (h : sh (v.tk i) = mk5 [40]) (hin : above < 16 → Out (exprF v k 1 (above + 1) (i + 1)) (above + 1) d j) (hj : sh (v.tk j) = mk5 [41]) :
    Out (exprF v (k + 1) 3 above i) above (d + 1) (j + 1) := by
  by_cases ha : above < 16
  · refine ⟨fun hd => ?_, fun hd => ?_⟩
    · obtain ⟨e, he⟩ := (hin ha).1 (by omega)
      exact ⟨e, by rw [un_open h ha, he, PR.bind_ok, must_at hj, PR.bind_ok]⟩
    · obtain ⟨f, hf, h41⟩ := (hin ha).2 (by omega)
      exact ⟨f, by rw [un_open h ha, hf, PR.bind_err], h41⟩
  · refine ⟨fun hd => by omega, fun hd => un_open_deep h (by omega)⟩
theorem lev_of {t : Lx.Tok} {l : List Nat} {k : Nat} (hk : t.kind = k) (h : t.text = l) : level t = level ⟨k, l, 0, 0, [], 0, 0⟩ := by
  unfold level sign
  rw [hk, h]
theorem lev_sh {t : Lx.Tok} {s : Sh} (h : sh t = s) : level t = level ⟨s.kind, s.text, 0, 0, [], 0, 0⟩ := by
  subst h
  exact lev_of rfl rfl
theorem un_neg {v : Env} {k above i d j : Nat} (h : sh (v.tk i) = mk5 [45]) (h2 : sh (v.tk (i + 1)) = mk5 [40]) (ha : above ≤ 16) (hin : above < 16 → Out (exprF v k 3 (above + 1) (i + 1)) (above + 1) d j) :
    Out (exprF v (k + 1) 3 above i) above (d + 1) j := by
  obtain ⟨h1, ht, -⟩ := sh_eq h
  obtain ⟨g1, gt, -⟩ := sh_eq h2
  have hs : sign (v.tk i) [45] = true := by unfold sign; rw [h1, ht]; rfl
  have hc : constant v i = none := by
    unfold constant
    rw [if_neg (by omega), if_neg (by unfold plain; rw [h1]; simp), if_neg (by rw [g1]; simp)]
  have ho : operand (v.tk (i + 1)) = true := by unfold operand sign plain; rw [g1, gt]; rfl
  have e : exprF v (k + 1) 3 above i = if 16 ≤ above then .err (v.give 41 (i + 1)) else (exprF v k 3 (above + 1) (i + 1)).bind fun r j => .ok (.mk 4 (txt []) Va.zero 6 [r.1], r.2 + 1) j := by
    rw [exprF, if_pos rfl, if_neg (by omega), hc]
    simp only
    rw [if_pos hs]
    by_cases h16 : 16 ≤ above
    · rw [if_pos ⟨h16, ho⟩, if_pos h16]
    · rw [if_neg (fun hh => h16 hh.1), if_neg h16]
  by_cases h16 : above < 16
  · rw [e, if_neg (by omega)]
    refine ⟨fun hd => ?_, fun hd => ?_⟩
    · obtain ⟨x, hx⟩ := (hin h16).1 (by omega)
      exact ⟨_, by rw [hx, PR.bind_ok]⟩
    · obtain ⟨f, hf, h41⟩ := (hin h16).2 (by omega)
      exact ⟨f, by rw [hf, PR.bind_err], h41⟩
  · rw [e, if_pos (by omega)]
    exact ⟨fun hd => by omega, fun _ => ⟨_, rfl, give_in (by omega)⟩⟩
/-- an operand, a sign, another one -/
theorem out_chain {v : Env} {k line above i d1 d2 j1 j2 : Nat} (hl : line ≠ 3) (hw : 1 ≤ v.ws.length) (h1 : Out (exprF v k (line + 1) above i) above d1 j1) (hs : (level (v.tk j1)).1 = line) (hk : (v.tk j1).kind ≠ 0)
    (h2 : above < 16 → Out (exprF v k (line + 1) (above + 1) (j1 + 1)) (above + 1) d2 j2) (he : (level (v.tk j2)).1 ≠ line) : Out (exprF v (k + 1) line above i) above (1 + max d1 d2) j2 := by
  obtain ⟨n, hn⟩ : ∃ n, v.ws.length = n + 1 := ⟨v.ws.length - 1, by omega⟩
  rw [exprF, if_neg hl, hn]
  refine ⟨fun hd => ?_, fun hd => ?_⟩
  · obtain ⟨e, hx⟩ := h1.1 (by omega)
    obtain ⟨e2, hx2⟩ := (h2 (by omega)).1 (by omega)
    exact ⟨_, by rw [hx, PR.bind_ok, chain_on hs (by omega), hx2, PR.bind_ok, chain_stop he]⟩
  · by_cases hd1 : above + d1 ≤ 16
    · obtain ⟨e, hx⟩ := h1.1 hd1
      rw [hx, PR.bind_ok]
      by_cases hd2 : above + d1 + 1 ≤ 16
      · obtain ⟨f, hf, h41⟩ := (h2 (by omega)).2 (by omega)
        exact ⟨f, by rw [chain_on hs hd2, hf, PR.bind_err], h41⟩
      · exact ⟨_, chain_deep_ hs (by omega), give_in hk⟩
    · obtain ⟨f, hf, h41⟩ := h1.2 (by omega)
      exact ⟨f, by rw [hf, PR.bind_err], h41⟩
theorem out_var {v : Env} {k above i c : Nat} (h : sh (v.tk i) = mkv c) (ha : above ≤ 16) : Out (exprF v (k + 1) 3 above i) above 0 (i + 1) := ⟨fun _ => un_var h, fun hd => by omega⟩
theorem out_num {v : Env} {k above i c : Nat} (h : sh (v.tk i) = mkn c) (ha : above ≤ 16) : Out (exprF v (k + 1) 3 above i) above 0 (i + 1) := ⟨fun _ => un_num h, fun hd => by omega⟩
theorem kind_sh {t : Lx.Tok} {s : Sh} (h : sh t = s) : t.kind = s.kind := by subst h; rfl

theorem parse_DS {s : List Nat} {l : List Sh} {d : Nat} (h : DS s l d) : ∀ (v : Env) (i above k : Nat), At v i l → (level (v.tk (i + l.length))).1 = 0 → above ≤ 16 → 3 * (17 - above) + 3 ≤ k → 1 ≤ v.ws.length → Out (exprF v k 1 above i) above d (i + l.length) := by
  induction h with
  | one =>
    intro v i above k hA hl ha hk hw
    obtain ⟨k, rfl⟩ : ∃ m, k = m + 3 := ⟨k - 3, by omega⟩
    exact out_up (out_up (out_var hA.head ha) (by decide) (by show (level (v.tk (i + 1))).1 ≠ 2; have : (level (v.tk (i + 1))).1 = 0 := hl; omega)) (by decide) (by have : (level (v.tk (i + 1))).1 = 0 := hl; omega)
  | @step q s l d h ih =>
    intro v i above k hA hl ha hk hw
    obtain ⟨k, rfl⟩ : ∃ m, k = m + 4 := ⟨k - 4, by omega⟩
    unfold dwords at hA hl ⊢
    unfold dadd
    have l41 : ∀ j, sh (v.tk j) = mk5 [41] → (level (v.tk j)).1 = 0 := fun j hj => by rw [lev_sh hj]; rfl
    by_cases k0 : q = 0
    · rw [if_pos k0] at hA hl ⊢
      rw [if_pos k0]
      have e : (mk5 [40] :: (l ++ [mk5 [41]])).length = l.length + 2 := by simp
      rw [e] at hl ⊢
      have hB := hA.tail.right.head
      have hP := out_paren (k := k + 1) (above := above) hA.head (fun h16 => ih v (i + 1) (above + 1) (k + 1) hA.tail.left (l41 _ hB) (by omega) (by omega) hw) hB
      rw [show i + 1 + l.length + 1 = i + (l.length + 2) by omega] at hP
      exact out_up (out_up hP (by decide) (by omega)) (by decide) (by omega)
    rw [if_neg k0] at hA hl ⊢
    rw [if_neg k0]
    by_cases k1 : q = 1
    · rw [if_pos k1] at hA hl ⊢
      rw [if_pos (by omega)]
      have e : (mk5 [45] :: mk5 [40] :: (l ++ [mk5 [41]])).length = l.length + 3 := by simp
      rw [e] at hl ⊢
      have hB := hA.tail.tail.right.head
      have hP := un_neg (k := k + 1) (d := d + 1) (j := i + 1 + 1 + l.length + 1) hA.head hA.tail.head ha (fun h16 => out_paren (k := k) (above := above + 1) hA.tail.head (fun h15 => ih v (i + 1 + 1) (above + 1 + 1) k hA.tail.tail.left (l41 _ hB) (by omega) (by omega) hw) hB)
      rw [show i + 1 + 1 + l.length + 1 = i + (l.length + 3) by omega] at hP
      exact out_up (out_up hP (by decide) (by omega)) (by decide) (by omega)
    rw [if_neg k1] at hA hl ⊢
    by_cases k2 : q = 2
    · rw [if_pos k2] at hA hl ⊢
      rw [if_pos (by omega)]
      have e : (mk5 [40] :: (l ++ [mk5 [41], mk5 [43], mkn 49])).length = l.length + 4 := by simp
      rw [e] at hl ⊢
      have hR := hA.tail.right
      have hB := hR.head
      have hP := out_paren (k := k + 1) (above := above) hA.head (fun h16 => ih v (i + 1) (above + 1) (k + 1) hA.tail.left (l41 _ hB) (by omega) (by omega) hw) hB
      have lp := lev_sh hR.tail.head
      have hC := out_chain (line := 1) (k := k + 3) (above := above) (i := i) (d2 := 0) (j2 := i + 1 + l.length + 1 + 1 + 1) (by decide) hw (out_up hP (by decide) (by rw [lp]; decide)) (by rw [lp]; rfl) (by rw [kind_sh hR.tail.head]; decide)
        (fun h16 => out_up (out_num hR.tail.tail.head (by omega)) (by decide) (by rw [show i + 1 + l.length + 1 + 1 + 1 = i + (l.length + 4) by omega, hl]; decide)) (by rw [show i + 1 + l.length + 1 + 1 + 1 = i + (l.length + 4) by omega, hl]; decide)
      rw [show i + 1 + l.length + 1 + 1 + 1 = i + (l.length + 4) by omega, show 1 + max (d + 1) 0 = d + 2 by omega] at hC
      exact hC
    rw [if_neg k2] at hA hl ⊢
    by_cases k3 : q = 3
    · rw [if_pos k3] at hA hl ⊢
      rw [if_pos (by omega)]
      have e : (mkv 89 :: mk5 [42] :: mk5 [40] :: (l ++ [mk5 [41]])).length = l.length + 4 := by simp
      rw [e] at hl ⊢
      have hB := hA.tail.tail.tail.right.head
      have lp := lev_sh hA.tail.head
      have hC := out_chain (line := 2) (k := k + 2) (above := above) (i := i) (d1 := 0) (j1 := i + 1) (d2 := d + 1) (j2 := i + 1 + 1 + 1 + l.length + 1) (by decide) hw (out_var hA.head ha) (by rw [lp]; rfl) (by rw [kind_sh hA.tail.head]; decide)
        (fun h16 => out_paren (k := k + 1) (above := above + 1) hA.tail.tail.head (fun h15 => ih v (i + 1 + 1 + 1) (above + 1 + 1) (k + 1) hA.tail.tail.tail.left (l41 _ hB) (by omega) (by omega) hw) hB) (by rw [show i + 1 + 1 + 1 + l.length + 1 = i + (l.length + 4) by omega, hl]; decide)
      rw [show i + 1 + 1 + 1 + l.length + 1 = i + (l.length + 4) by omega, show 1 + max 0 (d + 1) = d + 2 by omega] at hC
      exact out_up hC (by decide) (by omega)
    rw [if_neg k3] at hA hl ⊢
    rw [if_neg (by omega)]
    by_cases k4 : q = 4
    · rw [if_pos k4] at hA hl ⊢
      have e : (mkn 50 :: mk5 [45] :: mk5 [40] :: (l ++ [mk5 [41], mk1 [109, 111, 100], mkv 90])).length = l.length + 6 := by simp
      rw [e] at hl ⊢
      have hR := hA.tail.tail.tail.right
      have hB := hR.head
      have lp := lev_sh hA.tail.head
      have lm := lev_sh hR.tail.head
      have hIn : above < 16 → Out (exprF v (k + 3) 2 (above + 1) (i + 1 + 1)) (above + 1) (d + 2) (i + (l.length + 6)) := fun h16 => by
        have hP := out_paren (k := k + 1) (above := above + 1) hA.tail.tail.head (fun h15 => ih v (i + 1 + 1 + 1) (above + 1 + 1) (k + 1) hA.tail.tail.tail.left (l41 _ hB) (by omega) (by omega) hw) hB
        have hC := out_chain (line := 2) (k := k + 2) (above := above + 1) (i := i + 1 + 1) (d2 := 0) (j2 := i + 1 + 1 + 1 + l.length + 1 + 1 + 1) (by decide) hw hP (by rw [lm]; rfl) (by rw [kind_sh hR.tail.head]; decide)
          (fun h15 => out_var hR.tail.tail.head (by omega)) (by rw [show i + 1 + 1 + 1 + l.length + 1 + 1 + 1 = i + (l.length + 6) by omega, hl]; decide)
        rw [show i + 1 + 1 + 1 + l.length + 1 + 1 + 1 = i + (l.length + 6) by omega, show 1 + max (d + 1) 0 = d + 2 by omega] at hC
        exact hC
      have hC := out_chain (line := 1) (k := k + 3) (above := above) (i := i) (d1 := 0) (j1 := i + 1) (d2 := d + 2) (j2 := i + (l.length + 6)) (by decide) hw (out_up (out_num hA.head ha) (by decide) (by rw [lp]; decide)) (by rw [lp]; rfl) (by rw [kind_sh hA.tail.head]; decide) hIn (by rw [hl]; decide)
      rw [show 1 + max 0 (d + 2) = d + 3 by omega] at hC
      exact hC
    rw [if_neg k4] at hA hl ⊢
    have e : (mk5 [40] :: mkn 49 :: mk5 [43] :: mk5 [40] :: (l ++ [mk5 [41], mk5 [41]])).length = l.length + 6 := by simp
    rw [e] at hl ⊢
    have hR := hA.tail.tail.tail.tail.right
    have hB := hR.head
    have lp := lev_sh hA.tail.tail.head
    have hIn : above < 16 → Out (exprF v (k + 1) 1 (above + 1) (i + 1)) (above + 1) (d + 2) (i + 1 + 1 + 1 + 1 + l.length + 1) := fun h16 => by
      obtain ⟨k, rfl⟩ : ∃ m, k = m + 2 := ⟨k - 2, by omega⟩
      have hP : above + 1 < 16 → Out (exprF v (k + 2) 2 (above + 1 + 1) (i + 1 + 1 + 1)) (above + 1 + 1) (d + 1) (i + 1 + 1 + 1 + 1 + l.length + 1) := fun h15 => out_up (out_paren (k := k) (above := above + 1 + 1) hA.tail.tail.tail.head (fun h14 => ih v (i + 1 + 1 + 1 + 1) (above + 1 + 1 + 1) k hA.tail.tail.tail.tail.left (l41 _ hB) (by omega) (by omega) hw) hB) (by decide) (by rw [l41 _ hR.tail.head]; decide)
      have hC := out_chain (line := 1) (k := k + 2) (above := above + 1) (i := i + 1) (d1 := 0) (j1 := i + 1 + 1) (d2 := d + 1) (j2 := i + 1 + 1 + 1 + 1 + l.length + 1) (by decide) hw (out_up (out_num hA.tail.head (by omega)) (by decide) (by rw [lp]; decide)) (by rw [lp]; rfl) (by rw [kind_sh hA.tail.tail.head]; decide) hP (by rw [l41 _ hR.tail.head]; decide)
      rw [show 1 + max 0 (d + 1) = d + 2 by omega] at hC
      exact hC
    have hP := out_paren (k := k + 1) (above := above) hA.head hIn hR.tail.head
    rw [show i + 1 + 1 + 1 + 1 + l.length + 1 + 1 = i + (l.length + 6) by omega] at hP
    exact out_up (out_up hP (by decide) (by omega)) (by decide) (by omega)
end Go.Proofs.YtppigckioalhhaaGreatDoorR.Sy
/- PLAIN: SyntaxDeep: the three literals round the expression. No program (of the machine) in sight. -/
namespace Go.Proofs.YtppigckioalhhaaGreatDoorR.Sy
open Lx (Tok goes)
open Pr (Ex Li)
set_option linter.unusedVariables false
set_option linter.unusedSimpArgs false

def codeOf {α : Type} : PR α → Nat
  | .ok _ _ => 0
  | .err f => f.1
theorem env_of {s : List Nat} {ts : List Sh} (h : Sc s ts []) (hl : s.length ≤ 65536) (hts : ts.length ≤ s.length) : (envOf s).ws.map sh = ts ∧ (envOf s).last.1 = 42 := by
  obtain ⟨h1, h2⟩ := sc_given h hl hts
  refine ⟨h1, ?_⟩
  unfold envOf
  simp only
  rw [if_pos h2]
theorem at_all {v : Env} {ts : List Sh} (h : v.ws.map sh = ts) : At v 0 ts := by
  subst h
  intro j hj
  rw [List.length_map] at hj
  rw [List.getElem_map, Nat.zero_add]
  unfold Env.tk
  rw [List.getD_eq_getElem?_getD, List.getElem?_eq_getElem hj]
  rfl
theorem tk_out {v : Env} {i : Nat} (h : v.ws.length ≤ i) : v.tk i = zT := by
  unfold Env.tk
  rw [List.getD_eq_getElem?_getD, List.getElem?_eq_none h]
  rfl
theorem placeF_sh {t u : Lx.Tok} (h1 : t.kind = u.kind) (h2 : t.text = u.text) : ∀ (l : List (List Nat)) (k : Nat), placeF t l k = placeF u l k
  | [], k => rfl
  | s :: r, k => by
    have : sign t s = sign u s := by unfold sign; rw [h1, h2]
    rw [placeF, placeF, this, placeF_sh h1 h2 r (k + 1)]
theorem place_at {t : Lx.Tok} {s : Sh} (h : sh t = s) (l : List (List Nat)) : place t l = place ⟨s.kind, s.text, 0, 0, [], 0, 0⟩ l := by
  subst h
  show placeF t l 0 = placeF ⟨t.kind, t.text, 0, 0, [], 0, 0⟩ l 0
  exact placeF_sh (t := t) (u := ⟨t.kind, t.text, 0, 0, [], 0, 0⟩) rfl rfl l 0
theorem sign_at {t : Lx.Tok} {s : Sh} (h : sh t = s) (l : List Nat) : sign t l = (decide (s.text = l) && (decide (s.kind = 5) || decide (s.kind = 1))) := by
  subst h
  rfl
theorem plain_at {t : Lx.Tok} {s : Sh} (h : sh t = s) : plain t = (decide (s.kind = 1) && !(resW.contains s.text)) := by
  subst h
  rfl
theorem DS.head {s : List Nat} {l : List Sh} {d : Nat} (h : DS s l d) : ∃ t r, l = t :: r ∧ ((t = mkv 88 ∧ r = []) ∨ (t = mkv 89 ∧ ∃ q, r = mk5 [42] :: q) ∨ t = mk5 [40] ∨ t = mk5 [45] ∨ t = mkn 50) := by
  cases h with
  | one => exact ⟨_, _, rfl, .inl ⟨rfl, rfl⟩⟩
  | step k h =>
    unfold dwords
    repeat' split
    all_goals first
      | exact ⟨_, _, rfl, .inr (.inr (.inl rfl))⟩
      | exact ⟨_, _, rfl, .inr (.inr (.inr (.inl rfl)))⟩
      | exact ⟨_, _, rfl, .inr (.inl ⟨rfl, _, rfl⟩)⟩
      | exact ⟨_, _, rfl, .inr (.inr (.inr (.inr rfl)))⟩
theorem lit_cmp {v : Env} {k br i : Nat} (h1 : sign (v.tk i) [110, 111, 116] = false) (h2 : (v.tk i).kind ≠ 1) (h3 : ¬ ((v.tk i).kind = 2 ∧ sign (v.tk (i + 1)) [61] = true ∧ 0 < fnOf (v.tk (i + 2)))) :
    litF v (k + 1) br i = (expr v i).bind fun l j => if cmpOf (v.tk j) = 0 then .err (v.give 40 j)
      else (expr v (j + 1)).bind fun r j2 => .ok (.mk 3 at0 (cmpOf (v.tk j) : Nat) l r 0 (txt []) ex0 [] (v.tk i).line (v.tk i).col) j2 := by
  have hp : plain (v.tk i) = false := by unfold plain; rw [decide_eq_false h2]; rfl
  rw [litF, if_neg (by rw [h1]; simp), if_neg (by rw [hp]; simp), if_neg h3]
theorem expr_out {v : Env} {i d j : Nat} (h : Out (exprF v 60 1 0 i) 0 d j) : (d ≤ 16 → ∃ e, expr v i = .ok e j) ∧ (16 < d → ∃ f, expr v i = .err f ∧ f.1 = 41) := by
  refine ⟨fun hd => ?_, fun hd => ?_⟩
  · obtain ⟨e, he⟩ := h.1 (by omega)
    exact ⟨e, by unfold expr; rw [he, PR.bind_ok]⟩
  · obtain ⟨f, hf, h41⟩ := h.2 (by omega)
    exact ⟨f, by unfold expr; rw [hf, PR.bind_err], h41⟩
theorem whole_end {α : Type} {v : Env} {one : Nat → PR α} {a : α} {i : Nat} (h : one 0 = .ok a i) (hi : v.ws.length ≤ i) (hl : v.last.1 = 42) : codeOf (whole v one) = 0 := by
  unfold whole
  rw [h, PR.bind_ok, if_neg (by omega)]
  rfl
theorem whole_bad {α : Type} {v : Env} {one : Nat → PR α} {f : Flt} (h : one 0 = .err f) : codeOf (whole v one) = f.1 := by
  unfold whole
  rw [h, PR.bind_err]
  rfl
def dcode (d : Nat) : Nat := if 16 < d then 41 else 0
section
variable {s : List Nat} {l : List Sh} {d : Nat}
theorem deep_f (h : DS s l d) (hd : d ≤ 100) : codeOf (whole (envOf ([88, 32, 61, 32] ++ s)) (lit (envOf ([88, 32, 61, 32] ++ s)) 0)) = dcode d := by
  obtain ⟨n1, n2, n3, n4⟩ := h.len
  have hsc : Sc ([88, 32, 61, 32] ++ s) (mkv 88 :: mk5 [61] :: l) [] := by
    have h1 := h.sc [] rfl (Sc.nil [])
    rw [List.append_nil, List.append_nil] at h1
    exact sc_var 88 (by simp) _ rfl (sc_blank (sc_markb 61 (by simp) _ (sc_blank h1 n3)) (by simp))
  obtain ⟨e1, e2⟩ := env_of hsc (by simp; omega) (by simp; omega)
  generalize envOf ([88, 32, 61, 32] ++ s) = v at *
  have hA := at_all e1
  have hw : v.ws.length = 2 + l.length := by have h9 := congrArg List.length e1; rw [List.length_map] at h9; rw [h9]; simp; omega
  have s0 := hA.head
  have s1 := hA.tail.head
  have hT := hA.tail.tail
  have hz : v.tk (2 + l.length) = zT := tk_out (by omega)
  have hX := expr_out (out_up (out_up (out_var (k := 57) (above := 0) s0 (by omega)) (by decide) (by rw [lev_sh s1]; decide)) (by decide) (by rw [lev_sh s1]; decide))
  obtain ⟨e, he⟩ := hX.1 (by omega)
  have hO := expr_out (parse_DS h v 2 0 60 hT (by rw [hz]; rfl) (by omega) (by omega) (by omega))
  obtain ⟨t, r, hl, ht⟩ := h.head
  subst hl
  have s2 := hT.head
  have hfn : fnOf (v.tk 2) = 0 := by
    unfold fnOf
    have h2 : sh (v.tk 2) = t := s2
    rw [place_at h2]
    rcases ht with ⟨rfl, -⟩ | ⟨rfl, -⟩ | rfl | rfl | rfl <;> rfl
  have hlit : lit v 0 0 = (expr v 0).bind fun l j => if cmpOf (v.tk j) = 0 then .err (v.give 40 j)
      else (expr v (j + 1)).bind fun r j2 => .ok (.mk 3 at0 (cmpOf (v.tk j) : Nat) l r 0 (txt []) ex0 [] (v.tk 0).line (v.tk 0).col) j2 :=
    lit_cmp (by rw [sign_at s0]; rfl) (by rw [kind_sh s0]; decide) (by rintro ⟨-, -, h⟩; rw [hfn] at h; omega)
  rw [he, PR.bind_ok] at hlit
  have hc : cmpOf (v.tk (0 + 1)) = 1 := by unfold cmpOf; rw [place_at s1]; rfl
  rw [hc, if_neg (by decide)] at hlit
  unfold dcode
  by_cases h16 : 16 < d
  · rw [if_pos h16]
    obtain ⟨f, hf, h41⟩ := hO.2 h16
    rw [hf, PR.bind_err] at hlit
    rw [whole_bad hlit, h41]
  · rw [if_neg h16]
    obtain ⟨x, hx⟩ := hO.1 (by omega)
    rw [hx, PR.bind_ok] at hlit
    exact whole_end hlit (by omega) e2
theorem deep_g (h : DS s l d) (hd : d ≤ 100) : codeOf (whole (envOf (s ++ [32, 60, 32, 51])) (lit (envOf (s ++ [32, 60, 32, 51])) 0)) = dcode d := by
  obtain ⟨n1, n2, n3, n4⟩ := h.len
  have hsc : Sc (s ++ [32, 60, 32, 51]) (l ++ [mk5 [60], mkn 51]) [] := h.sc _ rfl (sc_blank (sc_markb 60 (by simp) _ (sc_blank (sc_num 51 (by simp) [] rfl (Sc.nil [])) (by simp))) (by simp))
  obtain ⟨e1, e2⟩ := env_of hsc (by simp; omega) (by simp; omega)
  generalize envOf (s ++ [32, 60, 32, 51]) = v at *
  have hA := at_all e1
  have hw : v.ws.length = l.length + 2 := by have h9 := congrArg List.length e1; rw [List.length_map] at h9; rw [h9]; simp
  have hR := hA.right
  rw [Nat.zero_add] at hR
  have r0 := hR.head
  have r1 := hR.tail.head
  have hz : v.tk (l.length + 1 + 1) = zT := tk_out (by omega)
  have hO := expr_out (parse_DS h v 0 0 60 hA.left (by rw [Nat.zero_add, lev_sh r0]; rfl) (by omega) (by omega) (by omega))
  rw [Nat.zero_add] at hO
  have hX := expr_out (out_up (out_up (out_num (k := 57) (above := 0) r1 (by omega)) (by decide) (by rw [hz]; decide)) (by decide) (by rw [hz]; decide))
  obtain ⟨e, he⟩ := hX.1 (by omega)
  obtain ⟨t, r, hl, ht⟩ := h.head
  subst hl
  have s0 := hA.left.head
  have hlit : lit v 0 0 = (expr v 0).bind fun l j => if cmpOf (v.tk j) = 0 then .err (v.give 40 j)
      else (expr v (j + 1)).bind fun r j2 => .ok (.mk 3 at0 (cmpOf (v.tk j) : Nat) l r 0 (txt []) ex0 [] (v.tk 0).line (v.tk 0).col) j2 := by
    refine lit_cmp ?_ ?_ ?_
    · rw [sign_at s0]
      rcases ht with ⟨rfl, -⟩ | ⟨rfl, -⟩ | rfl | rfl | rfl <;> rfl
    · rw [kind_sh s0]
      rcases ht with ⟨rfl, -⟩ | ⟨rfl, -⟩ | rfl | rfl | rfl <;> decide
    · rintro ⟨g1, g2, -⟩
      rw [kind_sh s0] at g1
      rcases ht with ⟨rfl, rfl⟩ | ⟨rfl, q, rfl⟩ | rfl | rfl | rfl
      · have : sh (v.tk 1) = mk5 [60] := r0
        rw [show 0 + 1 = 1 from rfl, sign_at this] at g2
        exact absurd g2 (by decide)
      · have := hA.left.tail.head
        rw [sign_at this] at g2
        exact absurd g2 (by decide)
      · exact absurd g1 (by decide)
      · exact absurd g1 (by decide)
      · exact absurd g1 (by decide)
  unfold dcode
  by_cases h16 : 16 < d
  · rw [if_pos h16]
    obtain ⟨f, hf, h41⟩ := hO.2 h16
    rw [hf, PR.bind_err] at hlit
    rw [whole_bad hlit, h41]
  · rw [if_neg h16]
    obtain ⟨x, hx⟩ := hO.1 (by omega)
    have hc : cmpOf (v.tk (t :: r).length) = 3 := by unfold cmpOf; rw [place_at r0]; rfl
    rw [hx, PR.bind_ok, hc, if_neg (by decide), he, PR.bind_ok] at hlit
    exact whole_end hlit (by omega) e2
theorem deep_h (h : DS s l d) (hd : d ≤ 100) : codeOf (whole (envOf ([78, 32, 61, 32, 109, 97, 120, 32, 123, 32] ++ (s ++ [32, 58, 32, 112, 40, 88, 41, 32, 125]))) (lit (envOf ([78, 32, 61, 32, 109, 97, 120, 32, 123, 32] ++ (s ++ [32, 58, 32, 112, 40, 88, 41, 32, 125]))) 0)) = dcode d := by
  obtain ⟨n1, n2, n3, n4⟩ := h.len
  have hsc : Sc ([78, 32, 61, 32, 109, 97, 120, 32, 123, 32] ++ (s ++ [32, 58, 32, 112, 40, 88, 41, 32, 125])) (mkv 78 :: mk5 [61] :: mk1 [109, 97, 120] :: mk5 [123] :: (l ++ [mk5 [58], mk1 [112], mk5 [40], mkv 88, mk5 [41], mk5 [125]])) [] :=
    sc_var 78 (by simp) _ rfl (sc_blank (sc_markb 61 (by simp) _ (sc_blank (sc_name3 109 97 120 (by simp) _ (sc_blank (sc_mark 123 (by simp) _ (sc_blank (h.sc _ rfl
      (sc_blank (sc_markb 58 (by simp) _ (sc_blank (sc_p _ (sc_mark 40 (by simp) _ (sc_var 88 (by simp) _ rfl (sc_mark 41 (by simp) _ (sc_blank (sc_mark 125 (by simp) [] (Sc.nil [])) (by simp)))))) (by simp))) (by simp))) (by simp))) (by simp))) (by simp))) (by simp))
  obtain ⟨e1, e2⟩ := env_of hsc (by simp; omega) (by simp; omega)
  generalize envOf ([78, 32, 61, 32, 109, 97, 120, 32, 123, 32] ++ (s ++ [32, 58, 32, 112, 40, 88, 41, 32, 125])) = v at *
  have hA := at_all e1
  have hw : v.ws.length = l.length + 10 := by have h9 := congrArg List.length e1; rw [List.length_map] at h9; rw [h9]; simp
  have s0 := hA.head
  have s1 := hA.tail.head
  have s2 := hA.tail.tail.head
  have s3 := hA.tail.tail.tail.head
  have hT := hA.tail.tail.tail.tail
  have hR := hT.right
  rw [show 0 + 1 + 1 + 1 + 1 + l.length = 4 + l.length by omega] at hR
  have r0 := hR.head
  have r1 := hR.tail.head
  have r2 := hR.tail.tail.head
  have r3 := hR.tail.tail.tail.head
  have r4 := hR.tail.tail.tail.tail.head
  have r5 := hR.tail.tail.tail.tail.tail.head
  have hO := expr_out (parse_DS h v 4 0 60 hT.left (by rw [lev_sh r0]; rfl) (by omega) (by omega) (by omega))
  have hfn : fnOf (v.tk 2) = 4 := by unfold fnOf; rw [place_at s2]; rfl
  have hlit : lit v 0 0 = (aggOf v (litF v 17 1) 0 0).bind fun g j => .ok (.mk 4 at0 0 ex0 ex0 g.fn g.av g.of g.body (v.tk 0).line (v.tk 0).col) j := by
    unfold lit
    rw [show 18 - 0 = 17 + 1 from rfl, litF, if_neg (by rw [sign_at s0]; decide), if_neg (by rw [plain_at s0]; rintro ⟨h, -⟩; exact absurd h (by decide)), if_pos ⟨kind_sh s0, by have := sign_at s1 [61]; rw [show 0 + 1 = 1 from rfl] at this; rw [this]; rfl, by rw [hfn]; omega⟩]
  have hag : aggOf v (litF v 17 1) 0 0 = (expr v 4).bind fun o j => (must v [58] j).bind fun _ j => (bodyOf v (litF v 17 1) j).bind fun b j => (must v [125] j).bind fun _ j => .ok ⟨(fnOf (v.tk 2) : Nat), txt (v.tk 0).text, o, b⟩ j := by
    unfold aggOf
    rw [if_neg (by omega), must_at s3, PR.bind_ok, show 0 + 2 = 2 from rfl, hfn, if_pos (by decide)]
    cases expr v 4 with
    | err f => rfl
    | ok o j =>
      simp only [PR.bind_ok]
      cases must v [58] j with
      | err f => rfl
      | ok u j => rfl
  unfold dcode
  by_cases h16 : 16 < d
  · rw [if_pos h16]
    obtain ⟨f, hf, h41⟩ := hO.2 h16
    rw [hag, hf, PR.bind_err, PR.bind_err] at hlit
    rw [whole_bad hlit, h41]
  · rw [if_neg h16]
    obtain ⟨x, hx⟩ := hO.1 (by omega)
    have hat : ∃ a, atom v (4 + l.length + 1) = .ok a (4 + l.length + 1 + 1 + 1 + 1 + 1) := by
      have hn : name v (4 + l.length + 1) = .ok (v.tk (4 + l.length + 1)) (4 + l.length + 1 + 1) := by
        unfold name
        rw [if_pos (by rw [plain_at r1]; decide)]
      have ht : term v (4 + l.length + 1 + 1 + 1) = .ok ⟨1, txt (v.tk (4 + l.length + 1 + 1 + 1)).text, Va.zero⟩ (4 + l.length + 1 + 1 + 1 + 1) := by
        unfold term
        rw [if_pos (show (v.tk (4 + l.length + 1 + 1 + 1)).kind = 2 from kind_sh r3)]
      have hli : list v [41] (term v) (4 + l.length + 1 + 1 + 1) = .ok [⟨1, txt (v.tk (4 + l.length + 1 + 1 + 1)).text, Va.zero⟩] (4 + l.length + 1 + 1 + 1 + 1 + 1) := by
        unfold list
        rw [if_neg (by rw [sign_at r3]; decide), ht, PR.bind_ok, listF, if_neg (by rw [sign_at r4]; decide), must_at r4, PR.bind_ok]
      exact ⟨_, by unfold atom; rw [hn, PR.bind_ok, must_at r2, PR.bind_ok, hli, PR.bind_ok]⟩
    obtain ⟨a, ha⟩ := hat
    have hl1 : ∃ y, litF v 17 1 (4 + l.length + 1) = .ok y (4 + l.length + 1 + 1 + 1 + 1 + 1) := by
      refine ⟨.mk 1 a 0 ex0 ex0 0 (txt []) ex0 [] (v.tk (4 + l.length + 1)).line (v.tk (4 + l.length + 1)).col, ?_⟩
      rw [show (17 : Nat) = 16 + 1 from rfl, litF, if_neg (by rw [sign_at r1]; decide), if_pos ⟨by rw [plain_at r1]; decide, by rw [sign_at r2]; decide⟩, ha, PR.bind_ok]
    obtain ⟨y, hy⟩ := hl1
    obtain ⟨n, hn⟩ : ∃ n, v.ws.length + 1 = n + 1 := ⟨_, rfl⟩
    have hbd : bodyOf v (litF v 17 1) (4 + l.length + 1) = .ok [y] (4 + l.length + 1 + 1 + 1 + 1 + 1) := by
      unfold bodyOf
      rw [hy, PR.bind_ok, hn, bodyF, if_neg (by rw [sign_at r5]; decide)]
    rw [hag, hx, PR.bind_ok, must_at r0, PR.bind_ok, hbd, PR.bind_ok, must_at r5, PR.bind_ok, PR.bind_ok] at hlit
    exact whole_end hlit (by omega) e2
end
end Go.Proofs.YtppigckioalhhaaGreatDoorR.Sy
/- THE LAW SyntaxDeep. Printed by wip/gen_sylawdeep.py. -/
namespace Go.Proofs.YtppigckioalhhaaGreatDoorR
open Go.RowKit
set_option linter.unusedVariables false
set_option linter.unusedSimpArgs false
set_option maxRecDepth 100000

theorem ofS_app (a b : List Nat) : Lx.ofS (a ++ b) = Lx.ofS a ++ Lx.ofS b := by
  apply ByteArray.ext
  simp [Lx.ofS, ByteArray.data_append]
theorem ofS_wrap (a b s : List Nat) : Lx.ofS (a ++ (s ++ b)) = Lx.ofS a ++ Lx.ofS s ++ Lx.ofS b := by
  rw [ofS_app, ofS_app, ByteArray.append_assoc]
theorem bytes_app {a b : List Nat} (ha : ∀ x ∈ a, x < 256) (hb : ∀ x ∈ b, x < 256) : ∀ x ∈ a ++ b, x < 256 := fun x hx => (List.mem_append.1 hx).elim (ha x) (hb x)
theorem ofS_len (a : List Nat) : (Lx.ofS a).size = a.length := by simp [Lx.ofS, ByteArray.size]
theorem AllRes.code {r : Sy.PR Pr.Li} {n : Nat} {w w' : World} {e : Ending} (h : AllRes r (valL n) (.agg #[.int .i64 0, .string { data := #[] }, .slice none 0 0, .int .i64 0, .int .i64 0, .string { data := #[] }, .int .i64 0, .int .i64 0, .string { data := #[] }, .int .i64 0, .slice none 0 0, .int .i64 0, .string { data := #[] }, .int .i64 0, .int .i64 0, .string { data := #[] }, .int .i64 0, .slice none 0 0, .int .i64 0, .string { data := #[] }, .int .i64 0, .string { data := #[] }, .int .i64 0, .int .i64 0, .string { data := #[] }, .int .i64 0, .slice none 0 0, .slice none 0 0, .int .i64 0, .int .i64 0]) w e w') :
    ∃ (C : Array Value) (x y : Nat), e = .returned (.tuple #[.agg C, .agg #[.int .i64 (Sy.codeOf r : Nat), .int .i64 (x : Nat), .int .i64 (y : Nat)]]) ∧ C.size = 30 ∧ C.toList.all (·.oneCell') = true ∧ Mod [] w w' := by
  cases r with
  | ok a i =>
    obtain ⟨C, rfl, hv, hm⟩ := h
    obtain ⟨h1, h2⟩ := valL_cells hv
    exact ⟨C, 0, 0, rfl, h1, h2, hm⟩
  | err g =>
    obtain ⟨rfl, hm⟩ := h
    exact ⟨_, g.2.1, g.2.2, rfl, rfl, rfl, hm⟩
/-- Literal of a text: its fault's code -/
theorem entL_code (s : ByteArray) (l : List Nat) (c : Nat) (hl : Lx.ofS l = s) (hb : ∀ x ∈ l, x < 256) (hlen : l.length ≤ 140737488355328) (hc : Sy.codeOf (Sy.whole (Sy.envOf l) (Sy.lit (Sy.envOf l) 0)) = c) (w : World) (hG : Glob w) :
    Calls Tryz.prog 14 #[.string s] w fun e w' => ∃ (C : Array Value) (x y : Nat), e = .returned (.tuple #[.agg C, .agg #[.int .i64 (c : Nat), .int .i64 (x : Nat), .int .i64 (y : Nat)]]) ∧ C.size = 30 ∧ C.toList.all (·.oneCell') = true ∧ Mod [] w w' := by
  subst hl
  have h := entL_any (Lx.ofS l) (by rw [ofS_len]; exact hlen) w hG
  rw [Lx.str_ofS hb] at h
  refine h.mono fun e w' hh => ?_
  obtain ⟨C, x, y, h1, h2⟩ := AllRes.code hh
  exact ⟨C, x, y, by rw [h1, ← hc], h2⟩

set_option maxHeartbeats 16000000 in
theorem SyntaxDeep_any (xs : List Int) (a : Option Addr) (c : Nat) (hxl : xs.length ≤ 140737488355328) (w : World) (hI : IntsAt w (.slice a xs.length c) xs) (hG : Glob w) :
    Calls Tryz.prog 4 #[.slice a xs.length c] w fun e w' => e = .returned (.bool true) ∧ Mod [] w w' := by
  have HI := Lib.hid hI
  clear hI
  go_enter Tryz.func4, Tryz.ntmps4
  go_wp2_with fail
  refine (shown_any w hG).mono ?_
  rintro e0 wq ⟨rfl, m0⟩
  have HM := Lib.hid m0
  have hsz0 := m0.size
  clear m0
  go_wp2_with fail
  go_loopw [4, 5, 6] (fun sv dv iv wr => ∃ (sl : List Nat) (l : List Sy.Sh) (d k : Nat), Sy.DS sl l d ∧ d ≤ 42 ∧ k ≤ xs.length ∧ sv = .string (Lx.ofS sl) ∧ dv = .int .i64 (d : Nat) ∧ iv = .int .i64 (k : Nat) ∧ wr = wq) (fun sv dv iv wr => xs.length - (intOf iv).toNat)
  case atStart => exact ⟨[88], [Sy.mkv 88], 0, 0, .one, by omega, by omega, rfl, rfl, rfl, rfl⟩
  case round =>
    obtain ⟨sl, l, d, k, hD, hd, hk, rfl, rfl, rfl, rfl⟩ := hrel
    have hsz := hD.len.1
    have HD := Lib.hid hD
    clear hD
    obtain ⟨sB, hsB⟩ : ∃ sB, Lx.ofS sl = sB := ⟨_, rfl⟩
    have hsl : sB.size = sl.length := by rw [← hsB, ofS_len]
    rw [hsB]
    have HS := Lib.hid hsB
    clear hsB
    by_cases hkl : k < xs.length
    · have hkI : (k : Int) < (xs.length : Int) := by omega
      have hk0 : (0 : Int) ≤ (k : Int) := by omega
      by_cases hdl : d < 40
      · have hdI : (d : Int) < 40 := by omega
        obtain ⟨b, off, rfl, hc⟩ := HI.out.row.at k hkl
        have hrg := HI.out.rng _ (List.getElem_mem hkl)
        have hc0 : wr.cell? ⟨b, off + k, none⟩ = some (.int .i64 xs[k]) := by
          have := hc 0 (.int .i64 xs[k]) rfl
          rw [Nat.mul_one, Nat.add_zero] at this
          exact HM.out.cell this (by simp)
        generalize xs[k] = z at *
        clear hc
        have HP := Lib.hid (pick_any z 6 hrg (by omega) (by omega) wr)
        obtain ⟨h0, h6⟩ := pick_lt z 6 (by omega)
        obtain ⟨q, hq⟩ : ∃ q : Nat, pickI z 6 = q := ⟨(pickI z 6).toNat, by omega⟩
        rw [hq] at HP
        have hq6 : q < 6 := by omega
        clear hq h0 h6
        go_wp2_with fail
        refine HP.out.mono ?_
        rintro e1 w1 ⟨rfl, rfl⟩
        clear HP
        have hq' : q = 0 ∨ q = 1 ∨ q = 2 ∨ q = 3 ∨ q = 4 ∨ q = 5 := by omega
        rcases hq' with rfl | rfl | rfl | rfl | rfl | rfl
        · go_wp2_with fail
          go_roundw
          case rel => exact ⟨Sy.dtext 0 sl, Sy.dwords 0 l, d + Sy.dadd 0, k + 1, .step 0 HD.out, by show d + 1 ≤ 42; omega, by omega, by rw [show Sy.dtext 0 sl = [40] ++ (sl ++ [41]) from rfl, ofS_wrap, HS.out]; rfl, by show Value.int .i64 _ = .int .i64 ((d + 1 : Nat) : Int); go_num, by go_num, trivial⟩
          case measure => simp [intOf]; omega

        · go_wp2_with fail
          go_roundw
          case rel => exact ⟨Sy.dtext 1 sl, Sy.dwords 1 l, d + Sy.dadd 1, k + 1, .step 1 HD.out, by show d + 2 ≤ 42; omega, by omega, by rw [show Sy.dtext 1 sl = [45, 40] ++ (sl ++ [41]) from rfl, ofS_wrap, HS.out]; rfl, by show Value.int .i64 _ = .int .i64 ((d + 2 : Nat) : Int); go_num, by go_num, trivial⟩
          case measure => simp [intOf]; omega

        · go_wp2_with fail
          go_roundw
          case rel => exact ⟨Sy.dtext 2 sl, Sy.dwords 2 l, d + Sy.dadd 2, k + 1, .step 2 HD.out, by show d + 2 ≤ 42; omega, by omega, by rw [show Sy.dtext 2 sl = [40] ++ (sl ++ [41, 32, 43, 32, 49]) from rfl, ofS_wrap, HS.out]; rfl, by show Value.int .i64 _ = .int .i64 ((d + 2 : Nat) : Int); go_num, by go_num, trivial⟩
          case measure => simp [intOf]; omega

        · go_wp2_with fail
          go_roundw
          case rel => exact ⟨Sy.dtext 3 sl, Sy.dwords 3 l, d + Sy.dadd 3, k + 1, .step 3 HD.out, by show d + 2 ≤ 42; omega, by omega, by rw [show Sy.dtext 3 sl = [89, 32, 42, 32, 40] ++ (sl ++ [41]) from rfl, ofS_wrap, HS.out]; rfl, by show Value.int .i64 _ = .int .i64 ((d + 2 : Nat) : Int); go_num, by go_num, trivial⟩
          case measure => simp [intOf]; omega

        · go_wp2_with fail
          go_roundw
          case rel => exact ⟨Sy.dtext 4 sl, Sy.dwords 4 l, d + Sy.dadd 4, k + 1, .step 4 HD.out, by show d + 3 ≤ 42; omega, by omega, by rw [show Sy.dtext 4 sl = [50, 32, 45, 32, 40] ++ (sl ++ [41, 32, 109, 111, 100, 32, 90]) from rfl, ofS_wrap, HS.out]; rfl, by show Value.int .i64 _ = .int .i64 ((d + 3 : Nat) : Int); go_num, by go_num, trivial⟩
          case measure => simp [intOf]; omega

        · go_wp2_with fail
          go_roundw
          case rel => exact ⟨Sy.dtext 5 sl, Sy.dwords 5 l, d + Sy.dadd 5, k + 1, .step 5 HD.out, by show d + 3 ≤ 42; omega, by omega, by rw [show Sy.dtext 5 sl = [40, 49, 32, 43, 32, 40] ++ (sl ++ [41, 41]) from rfl, ofS_wrap, HS.out]; rfl, by show Value.int .i64 _ = .int .i64 ((d + 3 : Nat) : Int); go_num, by go_num, trivial⟩
          case measure => simp [intOf]; omega

      · have hdI : ¬ (d : Int) < 40 := by omega
        have hbt := HD.out.len
        have M0 := HM
        have HC1 := Lib.hid (entL_code ({ data := #[88, 32, 61, 32] } ++ sB) ([88, 32, 61, 32] ++ sl) (Sy.dcode d) (by rw [ofS_app, HS.out]; rfl) (bytes_app (by decide) hbt.2.2.2) (by simp; omega) (Sy.deep_f HD.out (by omega)))
        have HC2 := Lib.hid (entL_code (sB ++ { data := #[32, 60, 32, 51] }) (sl ++ [32, 60, 32, 51]) (Sy.dcode d) (by rw [ofS_app, HS.out]; rfl) (bytes_app hbt.2.2.2 (by decide)) (by simp; omega) (Sy.deep_g HD.out (by omega)))
        have HC3 := Lib.hid (entL_code ({ data := #[78, 32, 61, 32, 109, 97, 120, 32, 123, 32] } ++ sB ++ { data := #[32, 58, 32, 112, 40, 88, 41, 32, 125] }) ([78, 32, 61, 32, 109, 97, 120, 32, 123, 32] ++ (sl ++ [32, 58, 32, 112, 40, 88, 41, 32, 125])) (Sy.dcode d) (by rw [ofS_wrap, HS.out]; rfl) (bytes_app (by decide) (bytes_app hbt.2.2.2 (by decide))) (by simp; omega) (Sy.deep_h HD.out (by omega)))
        clear hbt

        go_wp2_with fail
        refine (HC1.out wr (hG.past M0.out (by simp))).mono ?_
        rintro e1 w1a ⟨C1, x1, y1, rfl, hC1, hO1, m1⟩
        have HO1 := Lib.hid hO1
        clear hO1
        obtain ⟨cd1, hcd1⟩ : ∃ c : Nat, Sy.dcode d = c := ⟨_, rfl⟩
        rw [hcd1]
        go_upto_region 26 with (first | refine wpList_store_at rfl 50 _ _ rfl w1a.heap.size C1 _ 50 rfl rfl (two_a w1a #[.int .i64 0, .string { data := #[] }, .slice none 0 0, .int .i64 0, .int .i64 0, .string { data := #[] }, .int .i64 0, .int .i64 0, .string { data := #[] }, .int .i64 0, .slice none 0 0, .int .i64 0, .string { data := #[] }, .int .i64 0, .int .i64 0, .string { data := #[] }, .int .i64 0, .slice none 0 0, .int .i64 0, .string { data := #[] }, .int .i64 0, .string { data := #[] }, .int .i64 0, .int .i64 0, .string { data := #[] }, .int .i64 0, .slice none 0 0, .slice none 0 0, .int .i64 0, .int .i64 0] #[.int .i64 0, .int .i64 0, .int .i64 0] 50 31) (size_of sizeL hC1) (by rw [hC1]; rfl) HO1.out ?_ | refine wpList_store_at rfl 31 _ _ rfl (w1a.heap.size + 1) #[.int .i64 (cd1 : Nat), .int .i64 (x1 : Nat), .int .i64 (y1 : Nat)] _ 31 rfl rfl (two_c w1a #[.int .i64 0, .string { data := #[] }, .slice none 0 0, .int .i64 0, .int .i64 0, .string { data := #[] }, .int .i64 0, .int .i64 0, .string { data := #[] }, .int .i64 0, .slice none 0 0, .int .i64 0, .string { data := #[] }, .int .i64 0, .int .i64 0, .string { data := #[] }, .int .i64 0, .slice none 0 0, .int .i64 0, .string { data := #[] }, .int .i64 0, .string { data := #[] }, .int .i64 0, .int .i64 0, .string { data := #[] }, .int .i64 0, .slice none 0 0, .slice none 0 0, .int .i64 0, .int .i64 0] #[.int .i64 0, .int .i64 0, .int .i64 0] C1 50 31) sizeFlt rfl rfl ?_)
        obtain ⟨p1, q1, n1, s1⟩ := two_vars w1a #[.int .i64 0, .string { data := #[] }, .slice none 0 0, .int .i64 0, .int .i64 0, .string { data := #[] }, .int .i64 0, .int .i64 0, .string { data := #[] }, .int .i64 0, .slice none 0 0, .int .i64 0, .string { data := #[] }, .int .i64 0, .int .i64 0, .string { data := #[] }, .int .i64 0, .slice none 0 0, .int .i64 0, .string { data := #[] }, .int .i64 0, .string { data := #[] }, .int .i64 0, .int .i64 0, .string { data := #[] }, .int .i64 0, .slice none 0 0, .slice none 0 0, .int .i64 0, .int .i64 0] #[.int .i64 0, .int .i64 0, .int .i64 0] C1 #[.int .i64 (cd1 : Nat), .int .i64 (x1 : Nat), .int .i64 (y1 : Nat)] 50 31
        generalize (((w1a.alloc _).alloc _).setRow _ _).setRow _ _ = w1 at *
        have Q1 := Lib.hid q1; have z1 := m1.size
        have M1 := Lib.hid ((M0.out.trans m1 (by simp)).trans n1 (by simp))

        clear p1 q1 m1 n1 hC1 HO1

        go_wp2_with fail
        refine (HC2.out w1 (hG.past M1.out (by simp))).mono ?_
        rintro e2 w2a ⟨C2, x2, y2, rfl, hC2, hO2, m2⟩
        have HO2 := Lib.hid hO2
        clear hO2
        obtain ⟨cd2, hcd2⟩ : ∃ c : Nat, Sy.dcode d = c := ⟨_, rfl⟩
        rw [hcd2]
        go_upto_region 27 with (first | refine wpList_store_at rfl 50 _ _ rfl w2a.heap.size C2 _ 50 rfl rfl (two_a w2a #[.int .i64 0, .string { data := #[] }, .slice none 0 0, .int .i64 0, .int .i64 0, .string { data := #[] }, .int .i64 0, .int .i64 0, .string { data := #[] }, .int .i64 0, .slice none 0 0, .int .i64 0, .string { data := #[] }, .int .i64 0, .int .i64 0, .string { data := #[] }, .int .i64 0, .slice none 0 0, .int .i64 0, .string { data := #[] }, .int .i64 0, .string { data := #[] }, .int .i64 0, .int .i64 0, .string { data := #[] }, .int .i64 0, .slice none 0 0, .slice none 0 0, .int .i64 0, .int .i64 0] #[.int .i64 0, .int .i64 0, .int .i64 0] 50 31) (size_of sizeL hC2) (by rw [hC2]; rfl) HO2.out ?_ | refine wpList_store_at rfl 31 _ _ rfl (w2a.heap.size + 1) #[.int .i64 (cd2 : Nat), .int .i64 (x2 : Nat), .int .i64 (y2 : Nat)] _ 31 rfl rfl (two_c w2a #[.int .i64 0, .string { data := #[] }, .slice none 0 0, .int .i64 0, .int .i64 0, .string { data := #[] }, .int .i64 0, .int .i64 0, .string { data := #[] }, .int .i64 0, .slice none 0 0, .int .i64 0, .string { data := #[] }, .int .i64 0, .int .i64 0, .string { data := #[] }, .int .i64 0, .slice none 0 0, .int .i64 0, .string { data := #[] }, .int .i64 0, .string { data := #[] }, .int .i64 0, .int .i64 0, .string { data := #[] }, .int .i64 0, .slice none 0 0, .slice none 0 0, .int .i64 0, .int .i64 0] #[.int .i64 0, .int .i64 0, .int .i64 0] C2 50 31) sizeFlt rfl rfl ?_)
        obtain ⟨p2, q2, n2, s2⟩ := two_vars w2a #[.int .i64 0, .string { data := #[] }, .slice none 0 0, .int .i64 0, .int .i64 0, .string { data := #[] }, .int .i64 0, .int .i64 0, .string { data := #[] }, .int .i64 0, .slice none 0 0, .int .i64 0, .string { data := #[] }, .int .i64 0, .int .i64 0, .string { data := #[] }, .int .i64 0, .slice none 0 0, .int .i64 0, .string { data := #[] }, .int .i64 0, .string { data := #[] }, .int .i64 0, .int .i64 0, .string { data := #[] }, .int .i64 0, .slice none 0 0, .slice none 0 0, .int .i64 0, .int .i64 0] #[.int .i64 0, .int .i64 0, .int .i64 0] C2 #[.int .i64 (cd2 : Nat), .int .i64 (x2 : Nat), .int .i64 (y2 : Nat)] 50 31
        generalize (((w2a.alloc _).alloc _).setRow _ _).setRow _ _ = w2 at *
        have Q2 := Lib.hid q2; have z2 := m2.size
        have M2 := Lib.hid ((M1.out.trans m2 (by simp)).trans n2 (by simp))
        have K12 := Lib.hid (n2.at (m2.at Q1.out (by simp)) (by simp))

        clear p2 q2 m2 n2 hC2 HO2

        go_wp2_with fail
        refine (HC3.out w2 (hG.past M2.out (by simp))).mono ?_
        rintro e3 w3a ⟨C3, x3, y3, rfl, hC3, hO3, m3⟩
        have HO3 := Lib.hid hO3
        clear hO3
        obtain ⟨cd3, hcd3⟩ : ∃ c : Nat, Sy.dcode d = c := ⟨_, rfl⟩
        rw [hcd3]
        go_upto_region 28 with (first | refine wpList_store_at rfl 50 _ _ rfl w3a.heap.size C3 _ 50 rfl rfl (two_a w3a #[.int .i64 0, .string { data := #[] }, .slice none 0 0, .int .i64 0, .int .i64 0, .string { data := #[] }, .int .i64 0, .int .i64 0, .string { data := #[] }, .int .i64 0, .slice none 0 0, .int .i64 0, .string { data := #[] }, .int .i64 0, .int .i64 0, .string { data := #[] }, .int .i64 0, .slice none 0 0, .int .i64 0, .string { data := #[] }, .int .i64 0, .string { data := #[] }, .int .i64 0, .int .i64 0, .string { data := #[] }, .int .i64 0, .slice none 0 0, .slice none 0 0, .int .i64 0, .int .i64 0] #[.int .i64 0, .int .i64 0, .int .i64 0] 50 31) (size_of sizeL hC3) (by rw [hC3]; rfl) HO3.out ?_ | refine wpList_store_at rfl 31 _ _ rfl (w3a.heap.size + 1) #[.int .i64 (cd3 : Nat), .int .i64 (x3 : Nat), .int .i64 (y3 : Nat)] _ 31 rfl rfl (two_c w3a #[.int .i64 0, .string { data := #[] }, .slice none 0 0, .int .i64 0, .int .i64 0, .string { data := #[] }, .int .i64 0, .int .i64 0, .string { data := #[] }, .int .i64 0, .slice none 0 0, .int .i64 0, .string { data := #[] }, .int .i64 0, .int .i64 0, .string { data := #[] }, .int .i64 0, .slice none 0 0, .int .i64 0, .string { data := #[] }, .int .i64 0, .string { data := #[] }, .int .i64 0, .int .i64 0, .string { data := #[] }, .int .i64 0, .slice none 0 0, .slice none 0 0, .int .i64 0, .int .i64 0] #[.int .i64 0, .int .i64 0, .int .i64 0] C3 50 31) sizeFlt rfl rfl ?_)
        obtain ⟨p3, q3, n3, s3⟩ := two_vars w3a #[.int .i64 0, .string { data := #[] }, .slice none 0 0, .int .i64 0, .int .i64 0, .string { data := #[] }, .int .i64 0, .int .i64 0, .string { data := #[] }, .int .i64 0, .slice none 0 0, .int .i64 0, .string { data := #[] }, .int .i64 0, .int .i64 0, .string { data := #[] }, .int .i64 0, .slice none 0 0, .int .i64 0, .string { data := #[] }, .int .i64 0, .string { data := #[] }, .int .i64 0, .int .i64 0, .string { data := #[] }, .int .i64 0, .slice none 0 0, .slice none 0 0, .int .i64 0, .int .i64 0] #[.int .i64 0, .int .i64 0, .int .i64 0] C3 #[.int .i64 (cd3 : Nat), .int .i64 (x3 : Nat), .int .i64 (y3 : Nat)] 50 31
        generalize (((w3a.alloc _).alloc _).setRow _ _).setRow _ _ = w3 at *
        have Q3 := Lib.hid q3; have z3 := m3.size
        have M3 := Lib.hid ((M2.out.trans m3 (by simp)).trans n3 (by simp))
        have K13 := Lib.hid (n3.at (m3.at K12.out (by simp)) (by simp))
        have K23 := Lib.hid (n3.at (m3.at Q2.out (by simp)) (by simp))

        clear p3 q3 m3 n3 hC3 HO3

        obtain rfl : cd2 = cd1 := hcd2.symm.trans hcd1
        obtain rfl : cd3 = cd2 := hcd3.symm.trans hcd2
        have a1 : w3.cell? ⟨w1a.heap.size + 1, 0, none⟩ = some (.int .i64 (cd3 : Nat)) := cell_at K13.out 0
        have a2 : w3.cell? ⟨w2a.heap.size + 1, 0, none⟩ = some (.int .i64 (cd3 : Nat)) := cell_at K23.out 0
        have a3 : w3.cell? ⟨w3a.heap.size + 1, 0, none⟩ = some (.int .i64 (cd3 : Nat)) := cell_at Q3.out 0
        have hbb : ((cd3 : Int) != (cd3 : Int)) = false := by simp
        clear hcd1 hcd2 HC1 HC2 HC3 s1 s2 s3 z1 z2 z3 K12 K13 K23 Q1 Q2 Q3
        by_cases h16 : 16 < d
        · have e41 : cd3 = 41 := by rw [← hcd3]; unfold Sy.dcode; rw [if_pos h16]
          have hB : ((cd3 : Int) == 41) = true := by rw [e41]; rfl
          have hdI : (d : Int) > 16 := by omega
          have hdJ : (16 : Int) < (d : Int) := by omega
          clear hcd3 e41
          go_wp2_with fail
          go_ret
          exact ⟨rfl, M3.out⟩
        · exact absurd h16 (by omega)

    · have hkI : ¬ (k : Int) < (xs.length : Int) := by omega
      have hbt := HD.out.len
      have M0 := HM
      have HC1 := Lib.hid (entL_code ({ data := #[88, 32, 61, 32] } ++ sB) ([88, 32, 61, 32] ++ sl) (Sy.dcode d) (by rw [ofS_app, HS.out]; rfl) (bytes_app (by decide) hbt.2.2.2) (by simp; omega) (Sy.deep_f HD.out (by omega)))
      have HC2 := Lib.hid (entL_code (sB ++ { data := #[32, 60, 32, 51] }) (sl ++ [32, 60, 32, 51]) (Sy.dcode d) (by rw [ofS_app, HS.out]; rfl) (bytes_app hbt.2.2.2 (by decide)) (by simp; omega) (Sy.deep_g HD.out (by omega)))
      have HC3 := Lib.hid (entL_code ({ data := #[78, 32, 61, 32, 109, 97, 120, 32, 123, 32] } ++ sB ++ { data := #[32, 58, 32, 112, 40, 88, 41, 32, 125] }) ([78, 32, 61, 32, 109, 97, 120, 32, 123, 32] ++ (sl ++ [32, 58, 32, 112, 40, 88, 41, 32, 125])) (Sy.dcode d) (by rw [ofS_wrap, HS.out]; rfl) (bytes_app (by decide) (bytes_app hbt.2.2.2 (by decide))) (by simp; omega) (Sy.deep_h HD.out (by omega)))
      clear hbt

      go_wp2_with fail
      refine (HC1.out wr (hG.past M0.out (by simp))).mono ?_
      rintro e1 w1a ⟨C1, x1, y1, rfl, hC1, hO1, m1⟩
      have HO1 := Lib.hid hO1
      clear hO1
      obtain ⟨cd1, hcd1⟩ : ∃ c : Nat, Sy.dcode d = c := ⟨_, rfl⟩
      rw [hcd1]
      go_upto_region 26 with (first | refine wpList_store_at rfl 50 _ _ rfl w1a.heap.size C1 _ 50 rfl rfl (two_a w1a #[.int .i64 0, .string { data := #[] }, .slice none 0 0, .int .i64 0, .int .i64 0, .string { data := #[] }, .int .i64 0, .int .i64 0, .string { data := #[] }, .int .i64 0, .slice none 0 0, .int .i64 0, .string { data := #[] }, .int .i64 0, .int .i64 0, .string { data := #[] }, .int .i64 0, .slice none 0 0, .int .i64 0, .string { data := #[] }, .int .i64 0, .string { data := #[] }, .int .i64 0, .int .i64 0, .string { data := #[] }, .int .i64 0, .slice none 0 0, .slice none 0 0, .int .i64 0, .int .i64 0] #[.int .i64 0, .int .i64 0, .int .i64 0] 50 31) (size_of sizeL hC1) (by rw [hC1]; rfl) HO1.out ?_ | refine wpList_store_at rfl 31 _ _ rfl (w1a.heap.size + 1) #[.int .i64 (cd1 : Nat), .int .i64 (x1 : Nat), .int .i64 (y1 : Nat)] _ 31 rfl rfl (two_c w1a #[.int .i64 0, .string { data := #[] }, .slice none 0 0, .int .i64 0, .int .i64 0, .string { data := #[] }, .int .i64 0, .int .i64 0, .string { data := #[] }, .int .i64 0, .slice none 0 0, .int .i64 0, .string { data := #[] }, .int .i64 0, .int .i64 0, .string { data := #[] }, .int .i64 0, .slice none 0 0, .int .i64 0, .string { data := #[] }, .int .i64 0, .string { data := #[] }, .int .i64 0, .int .i64 0, .string { data := #[] }, .int .i64 0, .slice none 0 0, .slice none 0 0, .int .i64 0, .int .i64 0] #[.int .i64 0, .int .i64 0, .int .i64 0] C1 50 31) sizeFlt rfl rfl ?_)
      obtain ⟨p1, q1, n1, s1⟩ := two_vars w1a #[.int .i64 0, .string { data := #[] }, .slice none 0 0, .int .i64 0, .int .i64 0, .string { data := #[] }, .int .i64 0, .int .i64 0, .string { data := #[] }, .int .i64 0, .slice none 0 0, .int .i64 0, .string { data := #[] }, .int .i64 0, .int .i64 0, .string { data := #[] }, .int .i64 0, .slice none 0 0, .int .i64 0, .string { data := #[] }, .int .i64 0, .string { data := #[] }, .int .i64 0, .int .i64 0, .string { data := #[] }, .int .i64 0, .slice none 0 0, .slice none 0 0, .int .i64 0, .int .i64 0] #[.int .i64 0, .int .i64 0, .int .i64 0] C1 #[.int .i64 (cd1 : Nat), .int .i64 (x1 : Nat), .int .i64 (y1 : Nat)] 50 31
      generalize (((w1a.alloc _).alloc _).setRow _ _).setRow _ _ = w1 at *
      have Q1 := Lib.hid q1; have z1 := m1.size
      have M1 := Lib.hid ((M0.out.trans m1 (by simp)).trans n1 (by simp))

      clear p1 q1 m1 n1 hC1 HO1

      go_wp2_with fail
      refine (HC2.out w1 (hG.past M1.out (by simp))).mono ?_
      rintro e2 w2a ⟨C2, x2, y2, rfl, hC2, hO2, m2⟩
      have HO2 := Lib.hid hO2
      clear hO2
      obtain ⟨cd2, hcd2⟩ : ∃ c : Nat, Sy.dcode d = c := ⟨_, rfl⟩
      rw [hcd2]
      go_upto_region 27 with (first | refine wpList_store_at rfl 50 _ _ rfl w2a.heap.size C2 _ 50 rfl rfl (two_a w2a #[.int .i64 0, .string { data := #[] }, .slice none 0 0, .int .i64 0, .int .i64 0, .string { data := #[] }, .int .i64 0, .int .i64 0, .string { data := #[] }, .int .i64 0, .slice none 0 0, .int .i64 0, .string { data := #[] }, .int .i64 0, .int .i64 0, .string { data := #[] }, .int .i64 0, .slice none 0 0, .int .i64 0, .string { data := #[] }, .int .i64 0, .string { data := #[] }, .int .i64 0, .int .i64 0, .string { data := #[] }, .int .i64 0, .slice none 0 0, .slice none 0 0, .int .i64 0, .int .i64 0] #[.int .i64 0, .int .i64 0, .int .i64 0] 50 31) (size_of sizeL hC2) (by rw [hC2]; rfl) HO2.out ?_ | refine wpList_store_at rfl 31 _ _ rfl (w2a.heap.size + 1) #[.int .i64 (cd2 : Nat), .int .i64 (x2 : Nat), .int .i64 (y2 : Nat)] _ 31 rfl rfl (two_c w2a #[.int .i64 0, .string { data := #[] }, .slice none 0 0, .int .i64 0, .int .i64 0, .string { data := #[] }, .int .i64 0, .int .i64 0, .string { data := #[] }, .int .i64 0, .slice none 0 0, .int .i64 0, .string { data := #[] }, .int .i64 0, .int .i64 0, .string { data := #[] }, .int .i64 0, .slice none 0 0, .int .i64 0, .string { data := #[] }, .int .i64 0, .string { data := #[] }, .int .i64 0, .int .i64 0, .string { data := #[] }, .int .i64 0, .slice none 0 0, .slice none 0 0, .int .i64 0, .int .i64 0] #[.int .i64 0, .int .i64 0, .int .i64 0] C2 50 31) sizeFlt rfl rfl ?_)
      obtain ⟨p2, q2, n2, s2⟩ := two_vars w2a #[.int .i64 0, .string { data := #[] }, .slice none 0 0, .int .i64 0, .int .i64 0, .string { data := #[] }, .int .i64 0, .int .i64 0, .string { data := #[] }, .int .i64 0, .slice none 0 0, .int .i64 0, .string { data := #[] }, .int .i64 0, .int .i64 0, .string { data := #[] }, .int .i64 0, .slice none 0 0, .int .i64 0, .string { data := #[] }, .int .i64 0, .string { data := #[] }, .int .i64 0, .int .i64 0, .string { data := #[] }, .int .i64 0, .slice none 0 0, .slice none 0 0, .int .i64 0, .int .i64 0] #[.int .i64 0, .int .i64 0, .int .i64 0] C2 #[.int .i64 (cd2 : Nat), .int .i64 (x2 : Nat), .int .i64 (y2 : Nat)] 50 31
      generalize (((w2a.alloc _).alloc _).setRow _ _).setRow _ _ = w2 at *
      have Q2 := Lib.hid q2; have z2 := m2.size
      have M2 := Lib.hid ((M1.out.trans m2 (by simp)).trans n2 (by simp))
      have K12 := Lib.hid (n2.at (m2.at Q1.out (by simp)) (by simp))

      clear p2 q2 m2 n2 hC2 HO2

      go_wp2_with fail
      refine (HC3.out w2 (hG.past M2.out (by simp))).mono ?_
      rintro e3 w3a ⟨C3, x3, y3, rfl, hC3, hO3, m3⟩
      have HO3 := Lib.hid hO3
      clear hO3
      obtain ⟨cd3, hcd3⟩ : ∃ c : Nat, Sy.dcode d = c := ⟨_, rfl⟩
      rw [hcd3]
      go_upto_region 28 with (first | refine wpList_store_at rfl 50 _ _ rfl w3a.heap.size C3 _ 50 rfl rfl (two_a w3a #[.int .i64 0, .string { data := #[] }, .slice none 0 0, .int .i64 0, .int .i64 0, .string { data := #[] }, .int .i64 0, .int .i64 0, .string { data := #[] }, .int .i64 0, .slice none 0 0, .int .i64 0, .string { data := #[] }, .int .i64 0, .int .i64 0, .string { data := #[] }, .int .i64 0, .slice none 0 0, .int .i64 0, .string { data := #[] }, .int .i64 0, .string { data := #[] }, .int .i64 0, .int .i64 0, .string { data := #[] }, .int .i64 0, .slice none 0 0, .slice none 0 0, .int .i64 0, .int .i64 0] #[.int .i64 0, .int .i64 0, .int .i64 0] 50 31) (size_of sizeL hC3) (by rw [hC3]; rfl) HO3.out ?_ | refine wpList_store_at rfl 31 _ _ rfl (w3a.heap.size + 1) #[.int .i64 (cd3 : Nat), .int .i64 (x3 : Nat), .int .i64 (y3 : Nat)] _ 31 rfl rfl (two_c w3a #[.int .i64 0, .string { data := #[] }, .slice none 0 0, .int .i64 0, .int .i64 0, .string { data := #[] }, .int .i64 0, .int .i64 0, .string { data := #[] }, .int .i64 0, .slice none 0 0, .int .i64 0, .string { data := #[] }, .int .i64 0, .int .i64 0, .string { data := #[] }, .int .i64 0, .slice none 0 0, .int .i64 0, .string { data := #[] }, .int .i64 0, .string { data := #[] }, .int .i64 0, .int .i64 0, .string { data := #[] }, .int .i64 0, .slice none 0 0, .slice none 0 0, .int .i64 0, .int .i64 0] #[.int .i64 0, .int .i64 0, .int .i64 0] C3 50 31) sizeFlt rfl rfl ?_)
      obtain ⟨p3, q3, n3, s3⟩ := two_vars w3a #[.int .i64 0, .string { data := #[] }, .slice none 0 0, .int .i64 0, .int .i64 0, .string { data := #[] }, .int .i64 0, .int .i64 0, .string { data := #[] }, .int .i64 0, .slice none 0 0, .int .i64 0, .string { data := #[] }, .int .i64 0, .int .i64 0, .string { data := #[] }, .int .i64 0, .slice none 0 0, .int .i64 0, .string { data := #[] }, .int .i64 0, .string { data := #[] }, .int .i64 0, .int .i64 0, .string { data := #[] }, .int .i64 0, .slice none 0 0, .slice none 0 0, .int .i64 0, .int .i64 0] #[.int .i64 0, .int .i64 0, .int .i64 0] C3 #[.int .i64 (cd3 : Nat), .int .i64 (x3 : Nat), .int .i64 (y3 : Nat)] 50 31
      generalize (((w3a.alloc _).alloc _).setRow _ _).setRow _ _ = w3 at *
      have Q3 := Lib.hid q3; have z3 := m3.size
      have M3 := Lib.hid ((M2.out.trans m3 (by simp)).trans n3 (by simp))
      have K13 := Lib.hid (n3.at (m3.at K12.out (by simp)) (by simp))
      have K23 := Lib.hid (n3.at (m3.at Q2.out (by simp)) (by simp))

      clear p3 q3 m3 n3 hC3 HO3

      obtain rfl : cd2 = cd1 := hcd2.symm.trans hcd1
      obtain rfl : cd3 = cd2 := hcd3.symm.trans hcd2
      have a1 : w3.cell? ⟨w1a.heap.size + 1, 0, none⟩ = some (.int .i64 (cd3 : Nat)) := cell_at K13.out 0
      have a2 : w3.cell? ⟨w2a.heap.size + 1, 0, none⟩ = some (.int .i64 (cd3 : Nat)) := cell_at K23.out 0
      have a3 : w3.cell? ⟨w3a.heap.size + 1, 0, none⟩ = some (.int .i64 (cd3 : Nat)) := cell_at Q3.out 0
      have hbb : ((cd3 : Int) != (cd3 : Int)) = false := by simp
      clear hcd1 hcd2 HC1 HC2 HC3 s1 s2 s3 z1 z2 z3 K12 K13 K23 Q1 Q2 Q3
      by_cases h16 : 16 < d
      · have e41 : cd3 = 41 := by rw [← hcd3]; unfold Sy.dcode; rw [if_pos h16]
        have hB : ((cd3 : Int) == 41) = true := by rw [e41]; rfl
        have hdI : (d : Int) > 16 := by omega
        have hdJ : (16 : Int) < (d : Int) := by omega
        clear hcd3 e41
        go_wp2_with fail
        go_ret
        exact ⟨rfl, M3.out⟩
      · have e0 : cd3 = 0 := by rw [← hcd3]; unfold Sy.dcode; rw [if_neg h16]
        have hB : ((cd3 : Int) == 0) = true := by rw [e0]; rfl
        have hdI : ¬ (d : Int) > 16 := by omega
        have hdJ : ¬ (16 : Int) < (d : Int) := by omega
        clear hcd3 e0
        go_wp2_with fail
        go_ret
        exact ⟨rfl, M3.out⟩

end Go.Proofs.YtppigckioalhhaaGreatDoorR
/- WHAT THE ROW's LIST GIVES: the marks, the library's two errors. -/
namespace Go.Proofs.YtppigckioalhhaaGreatDoorR
open Go.RowKit
set_option linter.unusedVariables false
set_option linter.unusedSimpArgs false
set_option maxRecDepth 100000

theorem gRng : Tryz.prog.globalNamed "strconv.ErrRange" = some 3 := by kernel_rfl
theorem gSyn : Tryz.prog.globalNamed "strconv.ErrSyntax" = some 2 := by kernel_rfl
theorem gMrk : Tryz.prog.globalNamed "pedigree/lex.marks" = some 0 := by kernel_rfl
theorem tRng : (Tryz.prog.globals[3]?).map (·.type) = some 199 := by kernel_rfl
theorem tSyn : (Tryz.prog.globals[2]?).map (·.type) = some 199 := by kernel_rfl
theorem tMrk : (Tryz.prog.globals[0]?).map (·.type) = some 187 := by kernel_rfl
theorem starE : "*" ++ "errors.errorString" = "*errors.errorString" := by decide
theorem rowE (u : TypeId) (h : Tryz.prog.typeName? 3 u = some "*errors.errorString") : u = 234 :=
  typeName_ptr_named (nm := "errors.errorString") (by rw [starE]; kernel_rfl) (by kernel_rfl) (by decide) u (by rw [starE]; exact h)
theorem var_heap {P : Program} {w : World} {n : String} {g : Nat} {cs : Array Value} (hg : P.globalNamed n = some g) (h : w.var? P n = some cs) : ∃ T fr, w.heap[g]? = some (.cells cs T fr) := by
  simp only [World.var?, hg, Option.bind_some] at h
  split at h
  · rename_i c T fr he
    cases h
    exact ⟨_, _, he⟩
  · cases h

theorem glob_of_laid {W : World} (h : laidMetH Tryz.prog Rows.syntaxDeepRow.laid W) : Glob W := by
  rw [MakeChecks.laidMetH_plain _ _ _ (by kernel_rfl)] at h
  have h3 := h.tail.tail.tail
  obtain ⟨a0, s0, hv0, -⟩ := laid_sentinel h3 gRng tRng Tryz.underlying199 rowE Tryz.underlying234 Tryz.underlying236 rfl rfl Tryz.underlying9 (by kernel_rfl) (by kernel_rfl)
  obtain ⟨a1, s1, hv1, -⟩ := laid_sentinel h3.tail gSyn tSyn Tryz.underlying199 rowE Tryz.underlying234 Tryz.underlying236 rfl rfl Tryz.underlying9 (by kernel_rfl) (by kernel_rfl)
  obtain ⟨T0, f0, hr⟩ := var_heap gRng hv0
  obtain ⟨T1, f1, hs⟩ := var_heap gSyn hv1
  obtain ⟨ps, ⟨g2, t2, cs2, fu, p2, q2, hg2, ht2, hv2, hd2, -, -⟩, -, -⟩ := h3.tail.tail
  obtain rfl := Option.some.inj (gMrk.symm.trans hg2)
  obtain rfl := Option.some.inj (tMrk.symm.trans ht2)
  obtain ⟨T2, f2, hm⟩ := var_heap gMrk hv2
  obtain ⟨xs, m, rfl, hx, hlen, hn, hel⟩ := DataW.trod_array Tryz.underlying187 hd2
  rw [show Tryz.prog.cellsOf 187 = 19 by kernel_rfl] at hlen
  rw [show Tryz.prog.cellsOf 9 = 1 by kernel_rfl] at hel
  simp only [Prod.mk.injEq, DataW.agg.injEq, Rows.laid_pedigree_lex_marks] at hx
  have hcs : cs2 = (markL.map fun l => Value.string (Lx.ofS l)).toArray := by
    apply Array.ext'
    apply List.ext_getElem?
    intro i
    by_cases hi : i < 19
    · have he := hel i hi
      have hlt : i < cs2.toList.length := by omega
      have hone : (cs2.toList.drop (i * 1)).take 1 = [cs2.toList[i]] := by
        rw [Nat.mul_one, List.drop_eq_getElem_cons hlt]; rfl
      rw [hone] at he
      have hxi : i < xs.length := by omega
      rw [List.getElem?_eq_getElem hxi] at he
      obtain ⟨s, hc, hy, -⟩ := DataW.trod_string Tryz.underlying9 he
      rw [List.getElem?_eq_getElem hlt]
      have hlit : (markL.map fun l => (DataW.lit (.string (l.map UInt8.ofNat)) : DataW Unit)) = xs.map (·.1) := hx.1
      have h1 : (markL.map fun l => (DataW.lit (.string (l.map UInt8.ofNat)) : DataW Unit))[i]? = (xs.map (·.1))[i]? := by rw [hlit]
      rw [List.getElem?_map, List.getElem?_map, List.getElem?_eq_getElem hxi, hy] at h1
      have hmi : i < markL.length := by show i < 19; exact hi
      rw [List.getElem?_eq_getElem hmi] at h1
      simp only [Option.map_some, Option.some.injEq, DataW.lit.injEq, Lit.string.injEq] at h1
      simp only [List.getElem?_map]
      rw [List.getElem?_eq_getElem hmi]
      have hcc : cs2.toList[i] = Value.string s := by simpa using hc
      rw [hcc]
      simp only [Option.map_some]
      congr 2
      unfold Lx.ofS
      rw [h1]
    · rw [List.getElem?_eq_none (by omega), List.getElem?_eq_none (by simp [markL]; omega)]
  exact ⟨⟨_, _, hcs ▸ hm⟩, ⟨_, _, _, _, hs⟩, ⟨_, _, _, _, hr⟩⟩
end Go.Proofs.YtppigckioalhhaaGreatDoorR
/- HOW ARGUMENTS ARE OPENED: a list of numbers that came in. -/
namespace Go.Proofs.YtppigckioalhhaaGreatDoorR
open Go.ChangeShapes Go.WideShapes Go.ChangeAt Go.RowKit
set_option linter.unusedVariables false
set_option maxRecDepth 100000

theorem open_i64s {H : Type} {enc : TypeId × Value → H} {W : World} {a : Option Addr} {len cap : Nat} {d : DataW H} {p : List MemPlace}
    (h : DataW.Trod enc Tryz.prog W 0 (fun _ => true) true 36 (.slice a len cap) d p) :
    ∃ xs : List Int, xs.length = len ∧ IntsAt W (.slice a len cap) xs ∧ (len = 0 ∨ ∃ els sp, d = .slice els sp ∧ els.length = len) := by
  obtain ⟨fuel, hf⟩ := h
  rcases open_ints Tryz.underlying36 Tryz.underlying3 (by kernel_rfl) hf with ⟨h1, h2⟩ | ⟨x, l, c, zs, hcs, hb, hl, hm, hz, hx, hcell, hw⟩
  · simp [Value.cells] at h1
    obtain ⟨rfl, rfl, rfl⟩ := h1
    exact ⟨[], rfl, ⟨.nil, by simp⟩, .inl rfl⟩
  · simp [Value.cells] at hcs
    obtain ⟨rfl, rfl, rfl⟩ := hcs
    simp only [if_true] at hz
    simp only [Prod.mk.injEq] at hx
    have hlen : (zs.take len).length = len := by rw [List.length_take]; omega
    refine ⟨zs.take len, hlen, ⟨?_, fun n hn => ?_⟩, .inr ⟨_, _, hx.1, by simp [lits]; omega⟩⟩
    · rcases Nat.eq_zero_or_pos len with h0 | h0
      · subst h0
        rw [List.take_zero]
        exact .nil
      · obtain ⟨b, off, spot⟩ := x
        have hspot : spot = none := by
          have := hcell 0 (by omega)
          simp [Addr.add] at this
          simpa using World.cell?_spot this
        subst hspot
        have hc0 := hcell 0 (by omega)
        have hbl : b < W.heap.size := by
          have := World.block_lt_of_cell? W _ hc0
          simpa [Addr.add] using this
        have key : RowB (fun _ => True) W 1 intC (zs.take len) (.slice (some ⟨b, off, none⟩) (zs.take len).length cap) := by
          refine .row trivial hbl (fun i hi => ?_)
          intro j v hv
          have hj : j = 0 := by
            have := (Array.getElem?_eq_some_iff.1 hv).1
            rw [intC_size] at this
            omega
          subst hj
          have h2 := hcell i (by rw [hlen] at hi; omega)
          rw [Addr.add_mid] at h2
          rw [Nat.mul_one, Nat.add_zero]
          have hv2 : v = .int .i64 (zs.take len)[i] := by simp [intC] at hv; rw [← hv]; simp
          rw [hv2]
          have : (zs.take len)[i] = zs.getD i 0 := by
            rw [List.getElem_take, List.getD_eq_getElem?_getD, List.getElem?_eq_getElem (by rw [hlen] at hi; omega)]
            rfl
          rw [this]
          exact h2
        rw [hlen] at key
        exact key
    · have := hw n (List.mem_of_mem_take hn)
      simp [Lit.wf, IntKind.min, IntKind.max, IntKind.signed, IntKind.bits] at this
      omega
end Go.Proofs.YtppigckioalhhaaGreatDoorR
namespace Go.Proofs.YtppigckioalhhaaGreatDoorR.pSyntaxDeep
open Go.ChangeShapes Go.WideShapes Go.ChangeAt Go.RowKit
open Go.ChangeMaps (open_string shut_string)
set_option linter.unusedVariables false
set_option maxRecDepth 100000
set_option maxHeartbeats 1000000

theorem own : ownKnob Tryz.prog.godebug = none := by kernel_rfl
theorem laidOut : laidOutB Tryz.prog = true := by kernel_rfl

theorem contract (H : Type) (enc : TypeId × Value → H) (W : World) (base : Nat) (args : Array Value) (ds gs : List (DataW H)) (before : List MemPlace)
    (hval : ∀ (j : Nat) t v, Tryz.f4.params[j]? = some t → args[j]? = some v → Value.okWide Tryz.prog W .any base t v)
    (hW : DataW.Whole enc Tryz.prog Tryz.f4.params.toList Rows.syntaxDeepSpec.vars false W args.toList ds gs before)
    (hsz0 : (DataW.weightsEach Tryz.prog (Tryz.f4.params.toList ++ Rows.syntaxDeepSpec.plain.varTypes Tryz.prog) (ds ++ gs)).all (· ≤ reachBytes) = true)
    (hL : laidMetH Tryz.prog Rows.syntaxDeepRow.laid W) :
    Calls Tryz.prog 4 args W fun e W' => ∃ v, e = .returned v ∧ Rows.syntaxDeepSpec.post enc Tryz.prog Tryz.f4 false true false false W args v W' := by
  have hW' := hW
  have hG := glob_of_laid hL
  obtain ⟨p, q, hA0, hV, rfl, hfz, hnd⟩ := hW
  have hA : DataW.TrodAll enc Tryz.prog W 0 (fun _ => true) true Tryz.f4.params.toList args.toList ds p := hA0
  rw [Tryz.params4] at hA hval hsz0
  obtain ⟨v0, vs0, d0, ds0, p0, q0, hargs, rfl, rfl, h0, r0⟩ := trodAll_cons hA
  obtain ⟨rfl, rfl, rfl⟩ := trodAll_nil r0
  obtain rfl : args = #[v0] := by cases args; simp_all
  obtain ⟨rfl, rfl⟩ := trodVars_none hV
  have k0 := h0
  have lt0 : ∀ x ∈ p0, x.block < W.heap.size := by obtain ⟨m, hm⟩ := k0; exact DataW.trod_lt m _ _ _ hm
  obtain ⟨o0, len0, cap0, rfl⟩ := okWide_slice Tryz.underlying36 (hval 0 36 v0 rfl rfl)
  obtain ⟨xs0, hxl0, hi0, hd0⟩ := open_i64s h0
  subst hxl0
  have hl0 : xs0.length * 8 ≤ 140737488351232 := by
    rcases hd0 with h | ⟨els, sp, rfl, he⟩
    · omega
    · have := sized_slice hsz0 (j := 0) (t := 36) (e := 3) rfl rfl Tryz.underlying36
      rw [show Tryz.prog.bytesOf 3 = 8 by kernel_rfl] at this
      simp only [reachBytes] at this
      omega
  clear hA0
  refine (SyntaxDeep_any xs0 o0 cap0 (by omega) W hi0 hG).mono fun e W' ⟨he, hm⟩ => ?_
  subst he
  have bel : Below W.heap.size W W' := hm.below (Nat.le_refl _) (by simp)
  exact ⟨_, rfl, _, _, _, [], _, [], hW', trodAll_mk1 (shut_bool Tryz.underlying4 _), (trodAll_cons_mk (Below.trod laidOut (by kernel_rfl) (of_decide_eq_true (by kernel_rfl)) k0 bel lt0) trodAll_mk0), rfl, bel.frame _, fun h => by cases h⟩

theorem door_met (os : Os) : laidMetH Tryz.prog Rows.syntaxDeepRow.laid ((World.doorLaid Tryz.prog 67 os).forCall (fun _ _ => 0) ⟨#[], #[.slice none 0 0], []⟩).memory := by
  rw [MakeChecks.laidMetH_plain _ _ _ (by kernel_rfl)]
  exact laidMet_of_run' 8 (by kernel_rfl) (by kernel_rfl)
theorem reads (os : Os) {H : Type} (enc : TypeId × Value → H) : ∃ places, DataW.whole enc Tryz.prog ((World.doorLaid Tryz.prog 67 os).forCall (fun _ _ => 0) ⟨#[], #[.slice none 0 0], []⟩).memory Tryz.f4.params.toList Rows.syntaxDeepSpec.vars false (#[.slice none 0 0] : Array Value).toList 8 = some ([.nil], [], places) :=
  ⟨[], by kernel_rfl⟩

theorem lifted (os : Os) (started : os.Started) (H : Type) (enc : TypeId × Value → H) (F : Stop.Interp) :
    ReturnsInHanded {} Tryz.checked os 4 .any ((OpenSpec.ofChange Rows.syntaxDeepSpec).preRow enc Tryz.prog Tryz.f4 Rows.syntaxDeepRow.domain false Rows.syntaxDeepRow.laid) (((OpenSpec.ofChange Rows.syntaxDeepSpec).at F).post enc Tryz.prog Tryz.f4 false true false false) := by
  obtain ⟨places, hx⟩ := reads os enc
  refine returnsInHanded_of_row (C := Tryz.checked) (s := OpenSpec.ofChange Rows.syntaxDeepSpec) own started (by kernel_rfl) Tryz.func4
    (witness_row_atRef (enc := enc) (C := Tryz.checked) false (World.doorLaid Tryz.prog 67 os) #[.slice none 0 0] rfl (by kernel_rfl) (by kernel_rfl) (by kernel_rfl)
      (OpenSpec.preRow_of_cond 8 hx (by kernel_rfl) (fun k hk => by cases hk) (by kernel_rfl) (door_met os))) ?_
  intro W base args ds gs before hval hW _ _ hsz hL _ _
  exact contract H enc W base args ds gs before hval hW hsz hL

theorem said : Rows.SyntaxDeepSaid :=
  OpenClaim.holds_of_cond 4 Tryz.f4 rfl rfl rfl rfl rfl rfl rfl ⟨rfl, rfl, rfl, rfl, rfl⟩ rfl rfl rfl rfl rfl (by kernel_rfl) Tryz.func4 (by kernel_rfl)
    (of_decide_eq_true (by kernel_rfl)) (by unfold Func.isWrapper; first | (rw [if_pos (by decide +kernel)]; kernel_rfl) | (rw [if_neg (by decide +kernel)]; exact ⟨rfl, rfl⟩))
    (fun os started H enc _ F => by rw [OpenClaim.pre_eq_preRow]; exact lifted os started H enc F)

theorem plain (f : FuncId) (fn : Func) (hf : Tryz.pinned.checked.prog.funcNamed "pedigree/pedigreelaw04.SyntaxDeep" = some f) (hfn : Tryz.pinned.checked.prog.funcs[f]? = some fn) :
    true = Tryz.pinned.checked.prog.looks [] ∧ ∀ (j : Nat) t, fn.params[j]? = some t → Tryz.pinned.checked.prog.wantsStandIn t = false := by
  obtain rfl : f = 4 := Option.some.inj ((show Tryz.prog.funcNamed "pedigree/pedigreelaw04.SyntaxDeep" = some 4 by kernel_rfl).symm.trans hf) |>.symm
  obtain rfl : fn = Tryz.f4 := (Option.some.inj (Tryz.func4.symm.trans hfn)).symm
  refine ⟨by kernel_rfl, fun j t ht => ?_⟩
  rw [Tryz.params4] at ht
  have hm : t ∈ [36] := by simpa using Array.mem_of_getElem? ht
  have hall : ([36].all fun u => !Tryz.prog.wantsStandIn u) = true := by kernel_rfl
  exact (show Tryz.prog.wantsStandIn t = false by simpa using List.all_eq_true.1 hall t hm)

/-- THE STATEMENT -/
theorem proved : Rows.SyntaxDeepCardSaid :=
  Claim7.holds_tied_plain_at .later [] _ _ _ _ said (fun _ h => by cases h) (by kernel_rfl) (fun _ h => by cases h) syntaxDeep_row_tie rfl ⟨rfl, rfl⟩ (by kernel_rfl) rfl plain (by kernel_rfl)
end Go.Proofs.YtppigckioalhhaaGreatDoorR.pSyntaxDeep
