/- PLAIN: the words of a text. No program in sight. -/
import Derived.Test.YtcalbbfkgdfidaaDoorCodePlain
namespace Go.Proofs.YtcalbbfkgdfidaaDoor.Lx
open Cod (str)
set_option linter.unusedSimpArgs false

def small (c : Nat) : Bool := decide (97 ≤ c) && decide (c ≤ 122)
def capital (c : Nat) : Bool := decide (65 ≤ c) && decide (c ≤ 90)
def digit (c : Nat) : Bool := decide (48 ≤ c) && decide (c ≤ 57)
def goes (c : Nat) : Bool := small c || (capital c || (digit c || c == 95))
def blank (c : Nat) : Bool := c == 32 || (c == 9 || (c == 10 || c == 13))
def line (c : Nat) : Bool := !(c == 10)

/-- a string of bytes -/
def ofS (l : List Nat) : ByteArray := ⟨(l.map UInt8.ofNat).toArray⟩
theorem str_ofS {l : List Nat} (h : ∀ c ∈ l, c < 256) : str (ofS l) = l := by
  unfold str ofS
  rw [List.map_map]
  conv => rhs; rw [← List.map_id l]
  exact List.map_congr_left (fun c hc => by simp [Nat.mod_eq_of_lt (h c hc)])
theorem ofS_str (s : ByteArray) : ofS (str s) = s := by
  unfold ofS str
  rw [List.map_map]
  have : s.data.toList.map (UInt8.ofNat ∘ UInt8.toNat) = s.data.toList := by
    conv => rhs; rw [← List.map_id s.data.toList]
    exact List.map_congr_left (fun c _ => by simp)
  rw [this]
theorem str_inj {a b : ByteArray} (h : str a = str b) : a = b := by rw [← ofS_str a, ← ofS_str b, h]
theorem str_extract (s : ByteArray) (a b : Nat) : str (s.extract a b) = ((str s).drop a).take (b - a) := by
  unfold str
  rw [← List.map_drop, ← List.map_take]
  congr 1
  rw [ByteArray.data_extract, Array.toList_extract, List.extract_eq_take_drop]
theorem str_size (s : ByteArray) : s.size = (str s).length := (Cod.str_len s).symm

/-- how far a text goes on with bytes of a kind -/
def run (p : Nat → Bool) (s : List Nat) : Nat := (s.takeWhile p).length
theorem run_le (p : Nat → Bool) (s : List Nat) : run p s ≤ s.length := by
  unfold run
  induction s with
  | nil => simp
  | cons c r ih => rw [List.takeWhile_cons]; split <;> simp <;> omega
theorem run_nil (p : Nat → Bool) : run p [] = 0 := rfl
theorem run_cons (p : Nat → Bool) (c : Nat) (r : List Nat) : run p (c :: r) = if p c then run p r + 1 else 0 := by
  unfold run; rw [List.takeWhile_cons]; split <;> simp

def numv (l : List Nat) : Nat := l.foldl (fun a c => 10 * a + (c - 48)) 0

def hexv (c : Nat) : Option Nat :=
  if 48 ≤ c ∧ c ≤ 57 then some (c - 48) else if 97 ≤ c ∧ c ≤ 102 then some (c - 87) else if 65 ≤ c ∧ c ≤ 70 then some (c - 55) else none
/-- behind a backslash: the byte, how many bytes say it -/
def esc (s : List Nat) : Option (Nat × Nat) :=
  match s with
  | [] => none
  | c :: r =>
    if c = 34 ∨ c = 92 then some (c, 1)
    else if c = 110 then some (10, 1)
    else if c = 120 then
      match r with
      | a :: b :: _ =>
        match hexv a, hexv b with
        | some x, some y => some (16 * x + y, 3)
        | _, _ => none
      | _ => none
    else none
/-- the parts of a quoted word from a place on, what they stood for so far, how many bytes are read -/
def quoF : Nat → List Nat → List Nat → Nat → Option (List Nat × Nat)
  | 0, _, _, _ => none
  | _ + 1, [], _, _ => none
  | k + 1, c :: r, acc, n =>
    if c = 34 then (if 64 < acc.length then none else some (acc, n + 1))
    else if c = 10 then none
    else if c = 92 then
      match esc r with
      | none => none
      | some (b, m) => quoF k (r.drop m) (acc ++ [b]) (n + 1 + m)
    else quoF k r (acc ++ [c]) (n + 1)
def quo (s : List Nat) : Option (List Nat × Nat) := quoF s.length (s.drop 1) [] 1

def two (a b : Nat) : Bool := (a == 58 && b == 45) || ((a == 33 && b == 61) || ((a == 60 && b == 61) || (a == 62 && b == 61)))
def ones : List Nat := [40, 41, 123, 125, 44, 46, 58, 61, 60, 62, 43, 45, 42, 47, 95]
def mark (s : List Nat) : Nat :=
  match s with
  | [] => 0
  | [a] => if ones.contains a then 1 else 0
  | a :: b :: _ => if two a b then 2 else if ones.contains a then 1 else 0

/-- a word: its kind, how many bytes, its value's kind, number, symbol -/
structure Wd where
  kind : Nat
  n : Nat
  vk : Nat
  num : Nat
  sym : List Nat
deriving DecidableEq
inductive Rw where
  | bad (e : Nat)
  | ok (w : Wd)
deriving DecidableEq
def word (s : List Nat) : Rw :=
  if small (s.headD 0) || capital (s.headD 0) then
    if 32 < run goes s then .bad 33 else .ok ⟨if capital (s.headD 0) then 2 else 1, run goes s, 0, 0, []⟩
  else if digit (s.headD 0) then
    if (1 < run digit s ∧ s.headD 0 = 48) ∨ 2147483647 < numv (s.take (run digit s)) ∨ run digit s < run goes s then .bad 31
    else .ok ⟨3, run digit s, 1, numv (s.take (run digit s)), []⟩
  else if s.headD 0 = 34 then
    match quo s with
    | none => .bad 32
    | some (sym, n) => .ok ⟨4, n, 2, 0, sym⟩
  else if mark s = 0 then .bad 30
  else .ok ⟨5, mark s, 0, 0, []⟩

/-- the place behind bytes -/
def adv : Nat × Nat → List Nat → Nat × Nat
  | p, [] => p
  | p, b :: r => adv (if b = 10 then (p.1 + 1, 1) else (p.1, p.2 + 1)) r
theorem adv_append (p : Nat × Nat) (a b : List Nat) : adv p (a ++ b) = adv (adv p a) b := by
  induction a generalizing p with
  | nil => rfl
  | cons c r ih => simp only [List.cons_append, adv, ih]
theorem adv_le (p : Nat × Nat) (a : List Nat) : (adv p a).1 ≤ p.1 + a.length ∧ (adv p a).2 ≤ p.2 + 2 * a.length := by
  induction a generalizing p with
  | nil => simp [adv]
  | cons c r ih =>
    simp only [adv]
    by_cases h : c = 10
    · have := ih (p.1 + 1, 1)
      rw [if_pos h, List.length_cons]
      omega
    · have := ih (p.1, p.2 + 1)
      rw [if_neg h, List.length_cons]
      omega

/-- how many bytes of blanks and remarks: is a remark open? -/
def skipN : Bool → List Nat → Nat
  | _, [] => 0
  | r, c :: t =>
    let r' := if c = 35 then true else if c = 10 then false else r
    if !r' && !blank c then 0 else skipN r' t + 1
theorem skipN_le (r : Bool) (s : List Nat) : skipN r s ≤ s.length := by
  induction s generalizing r with
  | nil => simp [skipN]
  | cons c t ih =>
    unfold skipN
    have := ih (if c = 35 then true else if c = 10 then false else r)
    simp only
    generalize (if c = 35 then true else if c = 10 then false else r) = r' at *
    by_cases h : (!r' && !blank c) = true
    · rw [if_pos h]; omega
    · rw [if_neg h, List.length_cons]; omega

structure Tok where
  kind : Nat
  text : List Nat
  vk : Nat
  num : Nat
  sym : List Nat
  line : Nat
  col : Nat
deriving DecidableEq
/-- a scanner: what is left, its place, the place behind the last word, the fault and its place, is the text too long? -/
structure St where
  s : List Nat
  pos : Nat × Nat
  fin : Nat × Nat
  code : Nat
  fp : Nat × Nat
  long : Bool
def start (s : List Nat) : St := ⟨s, (1, 1), (1, 1), 0, (0, 0), decide (65536 < s.length)⟩
def St.skip (x : St) : St := { x with s := x.s.drop (skipN false x.s), pos := adv x.pos (x.s.take (skipN false x.s)) }
def next (x : St) : St × Option Tok :=
  if x.code ≠ 0 then (x, none)
  else if x.long then ({ x with code := 2 }, none)
  else if x.skip.s = [] then (x.skip, none)
  else match word x.skip.s with
    | .bad e => ({ x.skip with code := e, fp := x.skip.pos }, none)
    | .ok w => ({ x.skip with s := x.skip.s.drop w.n, pos := adv x.skip.pos (x.skip.s.take w.n), fin := adv x.skip.pos (x.skip.s.take w.n) },
        some ⟨w.kind, x.skip.s.take w.n, w.vk, w.num, w.sym, x.skip.pos.1, x.skip.pos.2⟩)
/-- all words that are left, and the scanner behind them -/
def allF : Nat → St → List Tok × St
  | 0, x => ([], x)
  | k + 1, x =>
    match next x with
    | (y, none) => ([], y)
    | (y, some t) => (t :: (allF k y).1, (allF k y).2)
def given (s : List Nat) : List Tok × St := allF (s.length + 1) (start s)
def tokens (s : List Nat) : List Tok := if (given s).2.code = 0 then (given s).1 else []
def fault (s : List Nat) : Nat × Nat × Nat := if (given s).2.code = 0 then (0, 0, 0) else ((given s).2.code, (given s).2.fp)

theorem hexv_lt {c x : Nat} (h : hexv c = some x) : x < 16 := by
  unfold hexv at h
  split at h
  · simp at h; omega
  · split at h
    · simp at h; omega
    · split at h
      · simp at h; omega
      · simp at h
theorem esc_len {s : List Nat} {b m : Nat} (hs : ∀ c ∈ s, c < 256) (h : esc s = some (b, m)) : 1 ≤ m ∧ m ≤ s.length ∧ b < 256 := by
  unfold esc at h
  split at h
  · simp at h
  · rename_i c r
    have hc := hs c (by simp)
    split at h
    · simp at h; obtain ⟨rfl, rfl⟩ := h; simp; omega
    · split at h
      · simp at h; obtain ⟨rfl, rfl⟩ := h; simp
      · split at h
        · split at h
          · rename_i a b' t
            split at h
            · rename_i x y hx hy
              have h1 := hexv_lt hx
              have h2 := hexv_lt hy
              simp at h; obtain ⟨rfl, rfl⟩ := h; simp; omega
            · simp at h
          · simp at h
        · simp at h
theorem quoF_len : ∀ (k : Nat) (s acc : List Nat) (n : Nat) (l : List Nat) (m : Nat), (∀ c ∈ s, c < 256) → (∀ c ∈ acc, c < 256) → quoF k s acc n = some (l, m) →
    n < m ∧ m ≤ n + s.length ∧ (∀ c ∈ l, c < 256) ∧ l.length ≤ 64
  | 0, _, _, _, _, _, _, _, h => by simp [quoF] at h
  | k + 1, [], _, _, _, _, _, _, h => by simp [quoF] at h
  | k + 1, c :: r, acc, n, l, m, hs, ha, h => by
    have hc := hs c (by simp)
    have hr : ∀ c ∈ r, c < 256 := fun x hx => hs x (by simp [hx])
    unfold quoF at h
    split at h
    · split at h
      · simp at h
      · simp at h; obtain ⟨rfl, rfl⟩ := h; exact ⟨by omega, by simp, ha, by omega⟩
    · split at h
      · simp at h
      · split at h
        · split at h
          · simp at h
          · rename_i b m' he
            obtain ⟨e1, e2, e3⟩ := esc_len hr he
            have := quoF_len k _ _ _ l m (fun c hc => hr c (List.mem_of_mem_drop hc)) (fun x hx => by rcases List.mem_append.1 hx with h | h; exact ha x h; simp at h; omega) h
            simp at this ⊢
            refine ⟨by omega, by omega, this.2.2⟩
        · have := quoF_len k _ _ _ l m hr (fun x hx => by rcases List.mem_append.1 hx with h | h; exact ha x h; simp at h; omega) h
          simp at this ⊢
          refine ⟨by omega, by omega, this.2.2⟩
theorem quo_len {s l : List Nat} {m : Nat} (hs : ∀ c ∈ s, c < 256) (h : quo s = some (l, m)) : 1 < m ∧ m ≤ s.length ∧ (∀ c ∈ l, c < 256) ∧ l.length ≤ 64 := by
  cases s with
  | nil => simp [quo, quoF] at h
  | cons c r =>
    have := quoF_len _ _ _ _ l m (fun c hc => hs c (List.mem_of_mem_drop hc)) (by simp) h
    simp at this ⊢
    exact ⟨by omega, by omega, this.2.2⟩
theorem mark_le (s : List Nat) : mark s ≤ 2 ∧ mark s ≤ s.length := by
  unfold mark
  split
  · simp
  · split <;> simp
  · split
    · simp
    · split <;> simp
theorem goes_of_small {c : Nat} (h : (small c || capital c) = true) : goes c = true := by
  unfold goes
  rw [Bool.or_eq_true] at h
  rcases h with h | h <;> simp [h]
theorem goes_of_digit {c : Nat} (h : digit c = true) : goes c = true := by
  unfold goes; simp [h]
theorem run_pos {p : Nat → Bool} {s : List Nat} (hs : s ≠ []) (h : p (s.headD 0) = true) : 1 ≤ run p s := by
  cases s with
  | nil => simp at hs
  | cons c r => rw [run_cons]; simp at h; simp [h]
/-- a word has bytes, no more than there are; its symbol is of bytes -/
theorem word_len {s : List Nat} {w : Wd} (hs : ∀ c ∈ s, c < 256) (h0 : s ≠ []) (h : word s = .ok w) : 1 ≤ w.n ∧ w.n ≤ s.length ∧ (∀ c ∈ w.sym, c < 256) ∧ w.num ≤ 2147483647 ∧ w.kind ≤ 5 ∧ w.vk ≤ 2 := by
  unfold word at h
  split at h
  · rename_i h1
    split at h
    · simp at h
    · simp at h; subst h
      refine ⟨run_pos h0 (goes_of_small h1), run_le _ _, by simp, by simp, ?_, by simp⟩
      simp only; split <;> simp
  · split at h
    · rename_i h1
      split at h
      · simp at h
      · rename_i h2
        simp at h; subst h
        exact ⟨run_pos h0 h1, run_le _ _, by simp, by simp only; omega, by simp, by simp⟩
    · split at h
      · split at h
        · simp at h
        · rename_i l m hq
          simp at h; subst h
          obtain ⟨h1, h2, h3, h4⟩ := quo_len hs hq
          exact ⟨by simp only; omega, h2, h3, by simp, by simp, by simp⟩
      · split at h
        · simp at h
        · simp at h; subst h
          have := mark_le s
          exact ⟨by simp only; omega, this.2, by simp, by simp, by simp, by simp⟩

/-- blanks are gone over -/
theorem skip_blank (s : List Nat) : skipN false s = run blank s + skipN false (s.drop (run blank s)) := by
  induction s with
  | nil => simp [run, skipN]
  | cons c t ih =>
    rw [run_cons]
    by_cases h : blank c = true
    · rw [if_pos h]
      have hc : c ≠ 35 := by rintro rfl; simp [blank] at h
      have e : (if c = 35 then true else if c = 10 then false else false) = false := by rw [if_neg hc]; split <;> rfl
      conv => lhs; unfold skipN
      simp only [e, h]
      simp
      omega
    · rw [if_neg h]; simp
theorem skip_line_aux (s : List Nat) : skipN true s = run line s + skipN false (s.drop (run line s)) := by
  induction s with
  | nil => simp [run, skipN]
  | cons c t ih =>
    rw [run_cons]
    by_cases h : c = 10
    · subst h
      rw [show line 10 = false from rfl]
      simp [skipN, blank]
    · have hl : line c = true := by simp [line, h]
      rw [if_pos hl]
      have e : (if c = 35 then true else if c = 10 then false else true) = true := by rw [if_neg h]; split <;> rfl
      conv => lhs; unfold skipN
      simp only [e]
      simp
      omega
/-- a remark is gone over -/
theorem skip_remark (t : List Nat) : skipN false (35 :: t) = run line (35 :: t) + skipN false ((35 :: t).drop (run line (35 :: t))) := by
  rw [run_cons, show line 35 = true from rfl, if_pos rfl]
  have e : (if (35 : Nat) = 35 then true else if (35 : Nat) = 10 then false else false) = true := rfl
  conv => lhs; unfold skipN
  simp only [e]
  simp
  have := skip_line_aux t
  omega
theorem skip_none {c : Nat} {t : List Nat} (h : blank c = false) (hc : c ≠ 35) : skipN false (c :: t) = 0 := by
  unfold skipN
  simp [hc, h]
theorem skip_done {s : List Nat} (h : skipN false s = 0) : skipN false (s.drop (skipN false s)) = 0 := by rw [h]; simpa using h
end Go.Proofs.YtcalbbfkgdfidaaDoor.Lx
