/- BYTES IN MEMORY: a slice that reads as a list of numbers; a string out of it. -/
import Derived.Test.YtppigckioalhhaaGreatDoorRRows
import Derived.WalkKit
import Derived.Lib.Hide
import Derived.Deep.AppendSrc
import Derived.Deep.QuietTactic
import Derived.BigQuiet
import Derived.StillTailTactics
import Derived.WalkSpells
import Derived.WalkLawsBesides
import Derived.WalkSmall
import Derived.Laws.RangeAny
import Derived.Deep.LoopGhost
import Derived.Outline
import Derived.Shelf.Strconv.Atoi
import Derived.Shelf.Strconv.Itoa0
import Derived.Shelf.Strconv.Itoa1
import Derived.Shelf.LaysM
import Derived.Shelf.Strconv.Itoa2
import Derived.Shelf.Strconv.Itoa3
import Derived.Shelf.Strconv.AtoiErrFast
import Derived.Shelf.Strconv.ParseIntEmpty
import Derived.Shelf.Strconv.AtoiFail
import Derived.Shelf.Strconv.Clone
import Derived.Shelf.Strconv.SyntaxError
import Derived.Shelf.LaysC
import Derived.Shelf.Strconv.ToError
import Derived.Shelf.Strconv.Lower
import Derived.Shelf.Strconv.ParseUint10
import Derived.Shelf.Strconv.ParseUint10Empty
import Derived.Shelf.Strconv.ParseUint10Any
import Derived.Shelf.Strconv.ParseInt10
import Derived.Shelf.Strconv.AtoiLong
import Derived.Shelf.Strconv.AtoiInnerAll
import Derived.Shelf.Strconv.RangeError
import Derived.Shelf.Strconv.ToErrorRange
import Derived.Shelf.Strconv.AtoiAll
import Derived.Shelf.Strconv.ErrVarAll
import Derived.Ground.MpProg
import Derived.Shelf.Pu.ParseUintPublic10
import Derived.Shelf.Pu.ErrVarParseUint
import Derived.Shelf.Strings.Search1
import Derived.Shelf.Strings.Search2
import Derived.Shelf.Strings.Search3
import Derived.Shelf.Strings.Count
import Derived.Shelf.Strings.Shaped
import Derived.Shelf.Strings.LastIndex
import Derived.Shelf.Strings.Prefix
import Derived.Shelf.Strings.Split
import Derived.Test.YtppigckioalhhaaGreatDoorRProg
/- MEMORY, FOR ALL WALKS OF THIS SEAT: which blocks a call may write ('Mod'); append onto a slice of the call's own, from whatever source. No function of the program is named here. -/
namespace Go.Proofs.YtppigckioalhhaaGreatDoorR
open Go.RowKit
set_option linter.unusedVariables false

/-- Of the blocks that were there, those of S alone may have turned. -/
structure Mod (S : List Nat) (w w' : World) : Prop where
  os : w'.os = w.os
  tape : w'.tape = w.tape
  output : w'.output = w.output
  size : w.heap.size ≤ w'.heap.size
  block : ∀ k, k < w.heap.size → k ∉ S → w'.heap[k]? = w.heap[k]?

theorem Mod.refl (S : List Nat) (w : World) : Mod S w w := ⟨rfl, rfl, rfl, Nat.le_refl _, fun _ _ _ => rfl⟩
theorem Mod.trans {S T : List Nat} {a b c : World} (h : Mod S a b) (k : Mod T b c) (hT : ∀ t ∈ T, t ∈ S ∨ a.heap.size ≤ t) : Mod S a c :=
  ⟨k.os.trans h.os, k.tape.trans h.tape, k.output.trans h.output, Nat.le_trans h.size k.size, fun i hi hn =>
    (k.block i (Nat.lt_of_lt_of_le hi h.size) (fun e => by rcases hT i e with r | r; exact hn r; omega)).trans (h.block i hi hn)⟩
theorem Mod.mono {S T : List Nat} {a b : World} (h : Mod S a b) (hT : ∀ t ∈ S, t ∈ T ∨ a.heap.size ≤ t) : Mod T a b :=
  (Mod.refl T a).trans h hT
theorem Mod.drewN {S : List Nat} {a b : World} (h : Mod S a b) (n : Nat) : Mod S a (b.drewN n) := ⟨h.os, h.tape, h.output, h.size, h.block⟩
theorem Mod.drew {S : List Nat} {a b : World} (h : Mod S a b) : Mod S a b.drew := ⟨h.os, h.tape, h.output, h.size, h.block⟩
theorem Mod.alloc {S : List Nat} {a b : World} (h : Mod S a b) (o : Obj) : Mod S a (b.alloc o) :=
  h.trans (T := []) ⟨rfl, rfl, rfl, by simp, fun k hk _ => Below.heap_alloc _ _ _ hk⟩ (by simp)
theorem Mod.setCell {S : List Nat} {a b : World} (h : Mod S a b) {p : Addr} (hp : p.block ∈ S ∨ a.heap.size ≤ p.block) (u : Value) : Mod S a (b.setCell p u) :=
  h.trans (T := [p.block]) ⟨rfl, rfl, rfl, by simp [World.setCell], fun k hk hn => Below.heap_setCell _ _ _ _ (by simpa using hn)⟩ (by simpa using hp)
theorem Mod.grown {S : List Nat} {a b c : World} {row : Option Nat} (h : Mod S a b) (hg : b.grownBy c row) (hr : ∀ k, row = some k → k ∈ S ∨ a.heap.size ≤ k) : Mod S a c :=
  h.trans (T := row.toList) ⟨hg.os, hg.tape, hg.output, hg.size, fun k hk hn => hg.block k hk (fun e => hn (by simp [← e]))⟩ (fun t ht => hr t (by simpa using ht))
theorem Mod.cell {S : List Nat} {a b : World} (h : Mod S a b) {p : Addr} {v : Value} (hc : a.cell? p = some v) (hn : p.block ∉ S) : b.cell? p = some v :=
  (World.cell?_of_block (h.block p.block (World.block_lt_of_cell? a p hc) hn)).trans hc
theorem Mod.at {S : List Nat} {a b : World} (h : Mod S a b) {k : Nat} {o : Obj} (hc : a.heap[k]? = some o) (hn : k ∉ S) : b.heap[k]? = some o :=
  (h.block k (lt_of_block hc) hn).trans hc
theorem Mod.below {S : List Nat} {a b : World} (h : Mod S a b) {B : Nat} (hB : B ≤ a.heap.size) (hS : ∀ t ∈ S, B ≤ t) : Below B a b :=
  ⟨h.os, h.tape, h.output, h.size, fun k hk => h.block k (by omega) (fun e => by have := hS k e; omega)⟩
theorem Mod.of_below {a b : World} (h : Below a.heap.size a b) : Mod [] a b := ⟨h.os, h.tape, h.output, h.size, fun k hk _ => h.block k hk⟩

/-- the block of a slice value -/
def fp : Value → List Nat
  | .slice (some a) _ _ => [a.block]
  | _ => []

theorem ownBlock_fp (v : Value) : ∀ k, v.ownBlock = some k → k ∈ fp v := by
  intro k h
  unfold Value.ownBlock at h
  split at h
  · cases h; simp [fp]
  · cases h

theorem Mod.owns {S : List Nat} {a b : World} (h : Mod S a b) {base : Nat} {e : TypeId} {size : Nat} {v : Value} {n : Nat} {xs : List Value} (ho : a.ownsRow base e size v n xs)
    (hn : ∀ k ∈ fp v, k ∉ S) : b.ownsRow base e size v n xs := by
  obtain ⟨h1, h2⟩ := ho
  refine ⟨h1, ?_⟩
  rcases h2 with h2 | ⟨g, cap, cur, rfl, hg, hh, r⟩
  · exact .inl h2
  · exact .inr ⟨g, cap, cur, rfl, hg, h.at hh (hn g (by simp [fp])), r⟩

theorem owns_slice {w : World} {base : Nat} {e : TypeId} {size : Nat} {v : Value} {n : Nat} {xs : List Value} (h : w.ownsRow base e size v n xs) : ∃ a c, v = .slice a n c := by
  rcases h.2 with ⟨rfl, rfl⟩ | ⟨g, cap, cur, rfl, r⟩
  · exact ⟨_, _, rfl⟩
  · exact ⟨_, _, rfl⟩

section
variable {P : Program} (w : World)

theorem run_append_room_own (t tx ty e : TypeId) (i : TypeInfo) (ht : P.underlying t = some (.slice e)) (hi : P.info? e = some i)
    (g sLen sCap : Nat) (cur : Array Value) (hg : w.heap[g]? = some (.cells cur e (0, 0))) (x : Value) (n : Nat) (news : List Value) (hs : Src P i.size tx x n news w)
    (hroom : sLen + n ≤ sCap) (hfit : sLen * i.size + news.length ≤ cur.size) :
    (Builtin.append_ #[t, tx] ty #[.slice (some ⟨g, 0, none⟩) sLen sCap, x]).run P w =
      .ok (.slice (some ⟨g, 0, none⟩) (sLen + n) sCap) (w.setRow g (cur.toList.take (sLen * i.size) ++ news ++ cur.toList.drop (sLen * i.size + news.length)).toArray) := by
  have hst := run_storeCells_at P g (sLen * i.size) e news 0 cur w hg (by simpa using hfit) hs.one
  simp only [Nat.add_zero] at hst
  rcases hs.kind with ⟨e', hk⟩ | hk <;> simp [Builtin.append_, run_underlying ht, run_underlying hk, sizeOf, typeInfo, hi, hs.len, hroom, hs.cells, Addr.add_lit, hst]

theorem run_append_own_src (t tx ty e : TypeId) (i : TypeInfo) (z : Value) (size bytes : Nat) (ht : P.underlying t = some (.slice e)) (hi : P.info? e = some i) (hz : i.zero = some z)
    (hsize : i.size = size) (hby : i.bytes = bytes) (hzs : z.cells.size = size)
    (v : Value) (n : Nat) (xs : List Value) (hown : w.ownsRow 0 e size v n xs)
    (x : Value) (m : Nat) (news : List Value) (hs : Src P size tx x m news w)
    (h63 : n + m ≤ maxLen) (hbytes : (n + m) * bytes ≤ 140737488355328) :
    ∃ v' w', (Builtin.append_ #[t, tx] ty #[v, x]).run P w = .ok v' w' ∧ w'.ownsRow 0 e size v' (n + m) (xs ++ news) ∧ Mod (fp v) w w' ∧
      (∀ k ∈ fp v', k ∈ fp v ∨ w.heap.size ≤ k) ∧ (v' = .slice none 0 0 ↔ v = .slice none 0 0 ∧ m = 0) := by
  subst hsize
  subst hby
  have hl := hs.newsLen
  have hsmall : n + m ≤ 9223372036854775807 := by simp only [maxLen] at h63; omega
  have hlen : (xs ++ news).length = (n + m) * i.size := by rw [List.length_append, hown.1, hl, Nat.add_mul]
  have grown : ∀ (old : Nat), old < n + m →
      (w.drew.alloc (.cells ((xs ++ news).toArray ++ Builtin.zeroCells z.cells (grownCap w (n + m) old e - (n + m))) e)).ownsRow 0 e i.size
        (.slice (some ⟨w.heap.size, 0, none⟩) (n + m) (grownCap w (n + m) old e)) (n + m) (xs ++ news) := by
    intro old ho
    have hge := grownCap_ge w (n + m) old e
    have hcm : grownCap w (n + m) old e ≤ maxLen := grownCap_le_maxLen w (n + m) old e h63
    refine ⟨hlen, .inr ⟨w.heap.size, _, _, rfl, Nat.zero_le _, heap_alloc_new w.drew _, hge, hcm, ?_, ?_⟩⟩
    · simp only [Array.size_append, List.size_toArray, size_zeroCells, hzs, hlen, ← Nat.add_mul]
      congr 1
      omega
    · simp only [Array.toList_append]
      rw [← hlen]
      exact List.take_left
  have gmod : ∀ (o : Obj) (S : List Nat), Mod S w (w.drew.alloc o) := fun o S => ((Mod.refl S w).drew).alloc o
  rcases hown.2 with ⟨rfl, rfl⟩ | ⟨g, cap, cur, rfl, hbg, hg, hnc, hcm, hcs, htake⟩
  · have hx : xs = [] := List.eq_nil_of_length_eq_zero (by simpa using hown.1)
    subst hx
    by_cases hm : m = 0
    · subst hm
      have hn : news = [] := List.eq_nil_of_length_eq_zero (by simpa using hl)
      subst hn
      refine ⟨.slice none 0 0, w, ?_, World.ownsRow_nil w 0 e i.size, Mod.refl _ _, by simp [fp], by simp⟩
      have hc : (Builtin.firstCells i.size 0 x).run P w = .ok #[] w := hs.cells
      rcases hs.kind with ⟨e', hk⟩ | hk <;> simp [Builtin.append_, run_underlying ht, run_underlying hk, sizeOf, typeInfo, hi, hs.len, hc]
    · have hr := run_append_grow_src (P := P) w t tx ty e i z ht hi hz none 0 0 [] (run_firstCells_none w.drew i.size 0 0 0) x m news hs (by omega) (by omega) (growslice_fits (by omega) hbytes)
      have hgr := grown 0 (by omega)
      simp only [Nat.zero_add, List.nil_append] at hgr hr ⊢
      exact ⟨_, _, hr, hgr, gmod _ _, by simp [fp], by simp [hm]⟩
  · by_cases hroom : n + m ≤ cap
    · have hfit : n * i.size + news.length ≤ cur.size := by rw [hl, hcs, ← Nat.add_mul]; exact Nat.mul_le_mul_right _ hroom
      have hr := run_append_room_own (P := P) w t tx ty e i ht hi g n cap cur hg x m news hs hroom hfit
      refine ⟨_, _, hr, ⟨hlen, .inr ⟨g, cap, _, rfl, hbg, setRow_heap w g cur _ e _ hg, hroom, hcm, ?_, ?_⟩⟩, ⟨rfl, rfl, rfl, by simp, fun k _ hk => setRow_other w g k _ (fun e => hk (by simp [fp, e]))⟩, by simp [fp], by simp⟩
      · simp only [List.size_toArray, List.length_append, List.length_take, List.length_drop, Array.length_toList]
        omega
      · rw [htake, ← hlen]
        exact List.take_left
    · have holds : ∀ j u, xs[j]? = some u → w.cell? ((⟨g, 0, none⟩ : Addr).add j) = some u := hown.cells (g := g) rfl
      have hr := run_append_grow_src (P := P) w t tx ty e i z ht hi hz (some ⟨g, 0, none⟩) n cap xs (run_firstCells_some w.drew i.size n ⟨g, 0, none⟩ n cap xs hown.1 (by simpa using holds)) x m news hs (by omega) (by omega) (growslice_fits (by omega) hbytes)
      exact ⟨_, _, hr, grown cap (by omega), gmod _ _, by simp [fp], by simp⟩

theorem wpList_append_src {ops : Array Oper} {rest : List Oper} {o : Oper} {a : Act} {Q : Exit → Act → World → Prop} (hgd : o.guard = none) (s x : Operand) (t tx : TypeId)
    (ho : o.op = .call { callee := .builtin .append, args := #[s, x], argTypes := #[t, tx] })
    (e : TypeId) (i : TypeInfo) (z : Value) (size bytes : Nat) (ht : P.underlying t = some (.slice e)) (hi : P.info? e = some i) (hz : i.zero = some z)
    (hsize : i.size = size) (hby : i.bytes = bytes) (hzs : z.cells.size = size)
    (v : Value) (n : Nat) (xs : List Value) (hs : a.eval s = v) (hown : w.ownsRow 0 e size v n xs)
    (vx : Value) (m : Nat) (news : List Value) (hx : a.eval x = vx) (hsrc : Src P size tx vx m news w)
    (h63 : n + m ≤ maxLen) (hbytes : (n + m) * bytes ≤ 140737488355328)
    (h : ∀ v' w', w'.ownsRow 0 e size v' (n + m) (xs ++ news) → Mod (fp v) w w' → (∀ k ∈ fp v', k ∈ fp v ∨ w.heap.size ≤ k) → (v' = .slice none 0 0 ↔ v = .slice none 0 0 ∧ m = 0) → wpList P ops Q rest (a.put o.dst v') w') : wpList P ops Q (o :: rest) a w :=
  wpList_plain hgd fun K hK => by
    obtain ⟨v', w', hr, h2, h3, h4, h5⟩ := run_append_own_src (P := P) w t tx o.type e i z size bytes ht hi hz hsize hby hzs v n xs hown vx m news hsrc h63 hbytes
    unfold Oper.wp execOp
    simp only [ho, resolve, invoke, builtin, Sem.run_bind, Sem.run_pure, Result.andThen_ok, List.map_toArray, List.map_cons, List.map_nil, hs, hx, hr]
    exact hK _ _ (h v' w' h2 h3 h4 h5)
end
end Go.Proofs.YtppigckioalhhaaGreatDoorR
/- PLAIN: numbers in their shortest form. No program in sight. -/
namespace Go.Proofs.YtppigckioalhhaaGreatDoorR.Cod

/-- so many numbers a word of 64 bits holds (kept behind a name: the walk does not bear the numeral) -/
def U64 : Nat := 18446744073709551616
/-- a number's bytes, seven bits each; the last is below 128 -/
def uvF : Nat → Nat → List Nat
  | 0, n => [n % 256]
  | k + 1, n => if n < 128 then [n] else (n % 128 + 128) :: uvF k (n / 128)
def uv (n : Nat) : List Nat := uvF 10 n

/-- a number with a sign, as one without -/
def zz (n : Int) : Nat := if 0 ≤ n then (2 * n).toNat else (-2 * n - 1).toNat
/-- the number that bytes begin with, how many bytes it has, the error (10: they end, 11: not the shortest form) -/
def nx : Nat → Nat → Nat → List Nat → Nat × Nat × Nat
  | 0, _, _, _ => (0, 0, 0)
  | _ + 1, _, _, [] => (0, 0, 10)
  | k + 1, i, acc, c :: r =>
    if (i = 9 ∧ 1 < c) ∨ (0 < i ∧ c = 0) then (0, 0, 11)
    else if c < 128 then (acc + c % 128 * 2 ^ (7 * i), i + 1, 0)
    else nx k (i + 1) (acc + c % 128 * 2 ^ (7 * i)) r
/-- a number without a sign, as one with -/
def unzz (u : Nat) : Int := if u % 2 = 0 then ((u / 2 : Nat) : Int) else -((u / 2 : Nat) : Int) - 1
/-- what a reader of l at a place, with a fault, answers: the value, the place, the fault -/
def rUint (l : List Nat) (a f most : Nat) : Nat × Nat × Nat :=
  if f ≠ 0 then (0, a, f) else
  match nx 10 0 0 (l.drop a) with
  | (n, s, fl) => if fl ≠ 0 then (0, a, fl) else if most < n then (0, a, 12) else (n, a + s, 0)
def rInt (l : List Nat) (a f : Nat) (least most : Int) : Int × Nat × Nat :=
  if f ≠ 0 then (0, a, f) else
  match nx 10 0 0 (l.drop a) with
  | (n, s, fl) => if fl ≠ 0 then (0, a, fl) else if unzz n < least ∨ most < unzz n then (0, a, 12) else (unzz n, a + s, 0)
def rText (l : List Nat) (a f : Nat) (most : Int) : List Nat × Nat × Nat :=
  if f ≠ 0 then ([], a, f) else
  match nx 10 0 0 (l.drop a) with
  | (n, s, fl) =>
    if fl ≠ 0 then ([], a, fl) else if most < n then ([], a, 12)
    else if l.length - (a + s) < n then ([], a, 10) else ((l.drop (a + s)).take n, a + s + n, 0)
def rRaw (l : List Nat) (a f : Nat) (n : Int) : List Nat × Nat × Nat :=
  if f ≠ 0 then ([], a, f) else
  if n < 0 then ([], a, 12) else if l.length - a < n.toNat then ([], a, 10) else ((l.drop a).take n.toNat, a + n.toNat, 0)
def rByte (l : List Nat) (a f : Nat) : Nat × Nat × Nat :=
  if f ≠ 0 then (0, a, f) else
  if l.length - a < 1 then (0, a, 10) else (l.getD a 0, a + 1, 0)

theorem nx_bad : ∀ (k i acc : Nat) (d : List Nat), (nx k i acc d).2.2 ≠ 0 → (nx k i acc d).1 = 0 ∧ (nx k i acc d).2.1 = 0
  | 0, _, _, _ => by simp [nx]
  | _ + 1, _, _, [] => by simp [nx]
  | k + 1, i, acc, c :: r => by
    unfold nx
    split
    · simp
    · split
      · simp
      · exact nx_bad k (i + 1) _ r
/-- bytes that give a number: they are its shortest form, and there are so many -/
theorem nx_good : ∀ (k i acc : Nat) (d : List Nat), 0 < k → i + k = 10 → (∀ c ∈ d, c < 256) → (nx k i acc d).2.2 = 0 →
    ∃ m s, nx k i acc d = (acc + m * 2 ^ (7 * i), i + s, 0) ∧ 1 ≤ s ∧ s ≤ d.length ∧ uvF k m = d.take s ∧ m * 2 ^ (7 * i) < U64 ∧ (0 < i → 0 < m)
  | 0, _, _, _ => by simp
  | k + 1, i, acc, [] => by simp [nx]
  | k + 1, i, acc, c :: r => by
    intro hk hik hb h
    have hc := hb c (by simp)
    unfold nx at h ⊢
    split at h
    · simp at h
    · rename_i hbad
      rw [if_neg hbad]
      split at h
      · rename_i h128
        rw [if_pos h128]
        refine ⟨c, 1, by rw [Nat.mod_eq_of_lt h128], by omega, by simp, by simp [uvF, h128], ?_, by omega⟩
        rcases Nat.lt_or_ge i 9 with hi | hi
        · have h1 : 2 ^ (7 * i) ≤ 2 ^ 56 := Nat.pow_le_pow_right (by decide) (by omega)
          have h2 : c * 2 ^ (7 * i) ≤ 127 * 2 ^ 56 := Nat.mul_le_mul (by omega) h1
          unfold U64; omega
        · have hi9 : i = 9 := by omega
          subst hi9
          have h2 : c * 2 ^ (7 * 9) ≤ 1 * 2 ^ 63 := Nat.mul_le_mul (by omega) (Nat.le_refl _)
          unfold U64; omega
      · rename_i h128
        rw [if_neg h128]
        have hk' : 0 < k := by
          rcases Nat.eq_zero_or_pos k with rfl | h'
          · exfalso; omega
          · exact h'
        obtain ⟨m, s, he, hs1, hs2, hu, hm, hp⟩ := nx_good k (i + 1) _ r hk' (by omega) (fun x hx => hb x (by simp [hx])) h
        have hp' := hp (by omega)
        have e7 : 2 ^ (7 * (i + 1)) = 128 * 2 ^ (7 * i) := by rw [show 7 * (i + 1) = 7 + 7 * i by omega, Nat.pow_add]
        have key : c % 128 * 2 ^ (7 * i) + m * 2 ^ (7 * (i + 1)) = (c % 128 + 128 * m) * 2 ^ (7 * i) := by
          rw [e7, Nat.add_mul, Nat.mul_comm 128 m, Nat.mul_assoc]
        refine ⟨c % 128 + 128 * m, s + 1, by rw [he]; simp only [Prod.mk.injEq]; exact ⟨by rw [← key, Nat.add_assoc], by omega, trivial⟩, by omega, by simp; omega, ?_, ?_, by omega⟩
        · rw [uvF, if_neg (by omega), List.take_succ_cons, ← hu]
          congr 1
          · omega
          · congr 1; omega
        · rw [← key]
          have hi8 : i ≤ 8 := by omega
          have hmm : m * 2 ^ (7 * (i + 1)) + 2 ^ (7 * (i + 1)) ≤ U64 := by
            have hd : U64 = 2 ^ (64 - 7 * (i + 1)) * 2 ^ (7 * (i + 1)) := by
              rw [← Nat.pow_add, show 64 - 7 * (i + 1) + 7 * (i + 1) = 64 by omega]; rfl
            rw [hd] at hm ⊢
            have hlt : m < 2 ^ (64 - 7 * (i + 1)) := Nat.lt_of_mul_lt_mul_right hm
            have : (m + 1) * 2 ^ (7 * (i + 1)) ≤ 2 ^ (64 - 7 * (i + 1)) * 2 ^ (7 * (i + 1)) := Nat.mul_le_mul_right _ hlt
            rw [Nat.add_mul, Nat.one_mul] at this
            exact this
          have : c % 128 * 2 ^ (7 * i) < 2 ^ (7 * (i + 1)) := by
            rw [e7]; exact (Nat.mul_lt_mul_right (Nat.pow_pos (by decide))).2 (by omega)
          omega
theorem nx_top {d : List Nat} (hb : ∀ c ∈ d, c < 256) (h : (nx 10 0 0 d).2.2 = 0) :
    ∃ m s, nx 10 0 0 d = (m, s, 0) ∧ 1 ≤ s ∧ s ≤ d.length ∧ uv m = d.take s ∧ m < U64 := by
  obtain ⟨m, s, he, h1, h2, h3, h4, -⟩ := nx_good 10 0 0 d (by decide) rfl hb h
  refine ⟨m, s, by rw [he]; simp, h1, h2, h3, by simpa using h4⟩
/-- a number's shortest form gives the number, whatever stands behind -/
theorem nx_uv : ∀ (k i acc m : Nat) (r : List Nat), i + k = 10 → m * 2 ^ (7 * i) < U64 → (0 < i → 0 < m) →
    nx k i acc (uvF k m ++ r) = (acc + m * 2 ^ (7 * i), i + (uvF k m).length, 0)
  | 0, i, acc, m, r, hik, hm, hp => by
    have hi : i = 10 := by omega
    subst hi
    have := hp (by omega)
    have h2 : 1 * 2 ^ (7 * 10) ≤ m * 2 ^ (7 * 10) := Nat.mul_le_mul_right _ this
    unfold U64 at hm; omega
  | k + 1, i, acc, m, r, hik, hm, hp => by
    have e7 : 2 ^ (7 * (i + 1)) = 128 * 2 ^ (7 * i) := by rw [show 7 * (i + 1) = 7 + 7 * i by omega, Nat.pow_add]
    by_cases h128 : m < 128
    · have hu : uvF (k + 1) m = [m] := by simp [uvF, h128]
      have h9 : ¬ (i = 9 ∧ 1 < m) := by
        rintro ⟨rfl, h1⟩
        have h2 : 2 * 2 ^ (7 * 9) ≤ m * 2 ^ (7 * 9) := Nat.mul_le_mul_right _ h1
        unfold U64 at hm; omega
      have hbad : ¬ ((i = 9 ∧ 1 < m) ∨ (0 < i ∧ m = 0)) := by
        rintro (h | ⟨h1, h2⟩)
        · exact h9 h
        · have := hp h1; omega
      rw [hu]
      simp only [List.cons_append, List.nil_append, nx]
      rw [if_neg hbad, if_pos h128, Nat.mod_eq_of_lt h128]
      rfl
    · have hu : uvF (k + 1) m = (m % 128 + 128) :: uvF k (m / 128) := by simp [uvF, h128]
      have h9 : i ≠ 9 := by
        rintro rfl
        have h2 : 128 * 2 ^ (7 * 9) ≤ m * 2 ^ (7 * 9) := Nat.mul_le_mul_right _ (by omega)
        unfold U64 at hm; omega
      have hle : m / 128 * 2 ^ (7 * (i + 1)) ≤ m * 2 ^ (7 * i) := by
        rw [e7, ← Nat.mul_assoc]
        exact Nat.mul_le_mul_right _ (by omega)
      have ih := nx_uv k (i + 1) (acc + m % 128 * 2 ^ (7 * i)) (m / 128) r (by omega) (by omega) (by omega)
      rw [hu]
      simp only [List.cons_append, nx]
      rw [if_neg (by omega), if_neg (by omega), show (m % 128 + 128) % 128 = m % 128 by omega, ih]
      have key : m % 128 * 2 ^ (7 * i) + m / 128 * 2 ^ (7 * (i + 1)) = m * 2 ^ (7 * i) := by
        rw [e7, ← Nat.mul_assoc, ← Nat.add_mul]
        congr 1
        omega
      simp only [List.length_cons, Prod.mk.injEq]
      exact ⟨by rw [Nat.add_assoc, key], by omega, trivial⟩
theorem nx_uv_top (m : Nat) (r : List Nat) (hm : m < U64) : nx 10 0 0 (uv m ++ r) = (m, (uv m).length, 0) := by
  have := nx_uv 10 0 0 m r rfl (by simpa using hm) (by omega)
  simpa [uv] using this
/-- a beginning of a number's form is too short -/
theorem nx_cut : ∀ (k i acc m j : Nat), 0 < k → j < (uvF k m).length → i + k = 10 → m * 2 ^ (7 * i) < U64 → (0 < i → 0 < m) →
    nx k i acc ((uvF k m).take j) = (0, 0, 10)
  | 0, _, _, _, _, h, _, _, _, _ => by omega
  | k + 1, i, acc, m, 0, _, _, _, _, _ => by simp [nx]
  | k + 1, i, acc, m, j + 1, _, hj, hik, hm, hp => by
    have e7 : 2 ^ (7 * (i + 1)) = 128 * 2 ^ (7 * i) := by rw [show 7 * (i + 1) = 7 + 7 * i by omega, Nat.pow_add]
    by_cases h128 : m < 128
    · have hu : uvF (k + 1) m = [m] := by simp [uvF, h128]
      rw [hu] at hj
      simp at hj
    · have hu : uvF (k + 1) m = (m % 128 + 128) :: uvF k (m / 128) := by simp [uvF, h128]
      have h9 : i ≠ 9 := by
        rintro rfl
        have h2 : 128 * 2 ^ (7 * 9) ≤ m * 2 ^ (7 * 9) := Nat.mul_le_mul_right _ (by omega)
        unfold U64 at hm; omega
      have hle : m / 128 * 2 ^ (7 * (i + 1)) ≤ m * 2 ^ (7 * i) := by
        rw [e7, ← Nat.mul_assoc]
        exact Nat.mul_le_mul_right _ (by omega)
      rw [hu] at hj ⊢
      rw [List.take_succ_cons]
      simp only [nx]
      rw [if_neg (by omega), if_neg (by omega), show (m % 128 + 128) % 128 = m % 128 by omega]
      exact nx_cut k (i + 1) _ (m / 128) j (by omega) (by simpa using hj) (by omega) (by omega) (by omega)

theorem unzz_zz (n : Int) : unzz (zz n) = n := by
  unfold unzz zz
  by_cases h : 0 ≤ n
  · rw [if_pos h, if_pos (by omega)]; omega
  · rw [if_neg h, if_neg (by omega)]; omega
theorem zz_unzz (u : Nat) : zz (unzz u) = u := by
  unfold unzz zz
  by_cases h : u % 2 = 0
  · rw [if_pos h, if_pos (by omega)]; omega
  · rw [if_neg h, if_neg (by omega)]; omega
theorem unzz_range (u : Nat) (h : u < U64) : -9223372036854775808 ≤ unzz u ∧ unzz u ≤ 9223372036854775807 := by
  unfold unzz
  unfold U64 at h
  split <;> omega

theorem or128 (a : Nat) (h : a < 256) : a ||| 128 = a % 128 + 128 := by
  have : ∀ a : Fin 256, a.1 ||| 128 = a.1 % 128 + 128 := by decide +kernel
  exact this ⟨a, h⟩

theorem zz_lt (n : Int) (h1 : -9223372036854775808 ≤ n) (h2 : n ≤ 9223372036854775807) : zz n < U64 := by
  unfold zz U64; split <;> omega
/-- a string's bytes -/
def str (s : ByteArray) : List Nat := s.data.toList.map UInt8.toNat
theorem str_len (s : ByteArray) : (str s).length = s.size := by
  unfold str; rw [List.length_map, Array.length_toList]; rfl
theorem str_lt (s : ByteArray) : ∀ c ∈ str s, c < 256 := by
  intro c hc
  obtain ⟨x, _, rfl⟩ := List.mem_map.1 hc
  exact x.toNat_lt
theorem uvF_lt : ∀ (k n : Nat), ∀ c ∈ uvF k n, c < 256
  | 0, n => by intro c hc; simp [uvF] at hc; omega
  | k + 1, n => by
    intro c hc
    unfold uvF at hc
    split at hc
    · simp at hc; omega
    · rcases List.mem_cons.1 hc with rfl | h
      · omega
      · exact uvF_lt k _ c h
theorem uvF_len : ∀ (k n : Nat), (uvF k n).length ≤ k + 1
  | 0, n => by simp [uvF]
  | k + 1, n => by
    unfold uvF
    split
    · simp
    · have := uvF_len k (n / 128); simp; omega
theorem uvF_pos : ∀ (k n : Nat), 1 ≤ (uvF k n).length
  | 0, n => by simp [uvF]
  | k + 1, n => by
    unfold uvF
    split <;> simp
end Go.Proofs.YtppigckioalhhaaGreatDoorR.Cod
/- PLAIN: the words of a text. No program in sight. -/
namespace Go.Proofs.YtppigckioalhhaaGreatDoorR.Lx
open Cod (str)
set_option linter.unusedSimpArgs false

def small (c : Nat) : Bool := decide (97 ≤ c) && decide (c ≤ 122)
def capital (c : Nat) : Bool := decide (65 ≤ c) && decide (c ≤ 90)
def digit (c : Nat) : Bool := decide (48 ≤ c) && decide (c ≤ 57)
def goes (c : Nat) : Bool := small c || (capital c || (digit c || c == 95))
def blank (c : Nat) : Bool := c == 32 || (c == 9 || (c == 10 || c == 13))
def line (c : Nat) : Bool := !(c == 10)

/-- a string of bytes -/
def ofS (l : List Nat) : ByteArray := ⟨(l.map UInt8.ofNat).toArray⟩
theorem str_ofS {l : List Nat} (h : ∀ c ∈ l, c < 256) : str (ofS l) = l := by
  unfold str ofS
  rw [List.map_map]
  conv => rhs; rw [← List.map_id l]
  exact List.map_congr_left (fun c hc => by simp [Nat.mod_eq_of_lt (h c hc)])
theorem ofS_str (s : ByteArray) : ofS (str s) = s := by
  unfold ofS str
  rw [List.map_map]
  have : s.data.toList.map (UInt8.ofNat ∘ UInt8.toNat) = s.data.toList := by
    conv => rhs; rw [← List.map_id s.data.toList]
    exact List.map_congr_left (fun c _ => by simp)
  rw [this]
theorem str_inj {a b : ByteArray} (h : str a = str b) : a = b := by rw [← ofS_str a, ← ofS_str b, h]
theorem str_extract (s : ByteArray) (a b : Nat) : str (s.extract a b) = ((str s).drop a).take (b - a) := by
  unfold str
  rw [← List.map_drop, ← List.map_take]
  congr 1
  rw [ByteArray.data_extract, Array.toList_extract, List.extract_eq_take_drop]
theorem str_size (s : ByteArray) : s.size = (str s).length := (Cod.str_len s).symm

/-- how far a text goes on with bytes of a kind -/
def run (p : Nat → Bool) (s : List Nat) : Nat := (s.takeWhile p).length
theorem run_le (p : Nat → Bool) (s : List Nat) : run p s ≤ s.length := by
  unfold run
  induction s with
  | nil => simp
  | cons c r ih => rw [List.takeWhile_cons]; split <;> simp <;> omega
theorem run_nil (p : Nat → Bool) : run p [] = 0 := rfl
theorem run_cons (p : Nat → Bool) (c : Nat) (r : List Nat) : run p (c :: r) = if p c then run p r + 1 else 0 := by
  unfold run; rw [List.takeWhile_cons]; split <;> simp

def numv (l : List Nat) : Nat := l.foldl (fun a c => 10 * a + (c - 48)) 0

def hexv (c : Nat) : Option Nat :=
  if 48 ≤ c ∧ c ≤ 57 then some (c - 48) else if 97 ≤ c ∧ c ≤ 102 then some (c - 87) else if 65 ≤ c ∧ c ≤ 70 then some (c - 55) else none
/-- behind a backslash: the byte, how many bytes say it -/
def esc (s : List Nat) : Option (Nat × Nat) :=
  match s with
  | [] => none
  | c :: r =>
    if c = 34 ∨ c = 92 then some (c, 1)
    else if c = 110 then some (10, 1)
    else if c = 120 then
      match r with
      | a :: b :: _ =>
        match hexv a, hexv b with
        | some x, some y => some (16 * x + y, 3)
        | _, _ => none
      | _ => none
    else none
/-- the parts of a quoted word from a place on, what they stood for so far, how many bytes are read -/
def quoF : Nat → List Nat → List Nat → Nat → Option (List Nat × Nat)
  | 0, _, _, _ => none
  | _ + 1, [], _, _ => none
  | k + 1, c :: r, acc, n =>
    if c = 34 then (if 64 < acc.length then none else some (acc, n + 1))
    else if c = 10 then none
    else if c = 92 then
      match esc r with
      | none => none
      | some (b, m) => quoF k (r.drop m) (acc ++ [b]) (n + 1 + m)
    else quoF k r (acc ++ [c]) (n + 1)
def quo (s : List Nat) : Option (List Nat × Nat) := quoF s.length (s.drop 1) [] 1

def two (a b : Nat) : Bool := (a == 58 && b == 45) || ((a == 33 && b == 61) || ((a == 60 && b == 61) || (a == 62 && b == 61)))
def ones : List Nat := [40, 41, 123, 125, 44, 46, 58, 61, 60, 62, 43, 45, 42, 47, 95]
def mark (s : List Nat) : Nat :=
  match s with
  | [] => 0
  | [a] => if ones.contains a then 1 else 0
  | a :: b :: _ => if two a b then 2 else if ones.contains a then 1 else 0

/-- a word: its kind, how many bytes, its value's kind, number, symbol -/
structure Wd where
  kind : Nat
  n : Nat
  vk : Nat
  num : Nat
  sym : List Nat
deriving DecidableEq
inductive Rw where
  | bad (e : Nat)
  | ok (w : Wd)
deriving DecidableEq
def word (s : List Nat) : Rw :=
  if small (s.headD 0) || capital (s.headD 0) then
    if 32 < run goes s then .bad 33 else .ok ⟨if capital (s.headD 0) then 2 else 1, run goes s, 0, 0, []⟩
  else if digit (s.headD 0) then
    if (1 < run digit s ∧ s.headD 0 = 48) ∨ 2147483647 < numv (s.take (run digit s)) ∨ run digit s < run goes s then .bad 31
    else .ok ⟨3, run digit s, 1, numv (s.take (run digit s)), []⟩
  else if s.headD 0 = 34 then
    match quo s with
    | none => .bad 32
    | some (sym, n) => .ok ⟨4, n, 2, 0, sym⟩
  else if mark s = 0 then .bad 30
  else .ok ⟨5, mark s, 0, 0, []⟩

/-- the place behind bytes -/
def adv : Nat × Nat → List Nat → Nat × Nat
  | p, [] => p
  | p, b :: r => adv (if b = 10 then (p.1 + 1, 1) else (p.1, p.2 + 1)) r
theorem adv_append (p : Nat × Nat) (a b : List Nat) : adv p (a ++ b) = adv (adv p a) b := by
  induction a generalizing p with
  | nil => rfl
  | cons c r ih => simp only [List.cons_append, adv, ih]
theorem adv_le (p : Nat × Nat) (a : List Nat) : (adv p a).1 ≤ p.1 + a.length ∧ (adv p a).2 ≤ p.2 + 2 * a.length := by
  induction a generalizing p with
  | nil => simp [adv]
  | cons c r ih =>
    simp only [adv]
    by_cases h : c = 10
    · have := ih (p.1 + 1, 1)
      rw [if_pos h, List.length_cons]
      omega
    · have := ih (p.1, p.2 + 1)
      rw [if_neg h, List.length_cons]
      omega

/-- how many bytes of blanks and remarks: is a remark open? -/
def skipN : Bool → List Nat → Nat
  | _, [] => 0
  | r, c :: t =>
    let r' := if c = 35 then true else if c = 10 then false else r
    if !r' && !blank c then 0 else skipN r' t + 1
theorem skipN_le (r : Bool) (s : List Nat) : skipN r s ≤ s.length := by
  induction s generalizing r with
  | nil => simp [skipN]
  | cons c t ih =>
    unfold skipN
    have := ih (if c = 35 then true else if c = 10 then false else r)
    simp only
    generalize (if c = 35 then true else if c = 10 then false else r) = r' at *
    by_cases h : (!r' && !blank c) = true
    · rw [if_pos h]; omega
    · rw [if_neg h, List.length_cons]; omega

structure Tok where
  kind : Nat
  text : List Nat
  vk : Nat
  num : Nat
  sym : List Nat
  line : Nat
  col : Nat
deriving DecidableEq
/-- a scanner: what is left, its place, the place behind the last word, the fault and its place, is the text too long? -/
structure St where
  s : List Nat
  pos : Nat × Nat
  fin : Nat × Nat
  code : Nat
  fp : Nat × Nat
  long : Bool
def start (s : List Nat) : St := ⟨s, (1, 1), (1, 1), 0, (0, 0), decide (65536 < s.length)⟩
def St.skip (x : St) : St := { x with s := x.s.drop (skipN false x.s), pos := adv x.pos (x.s.take (skipN false x.s)) }
def next (x : St) : St × Option Tok :=
  if x.code ≠ 0 then (x, none)
  else if x.long then ({ x with code := 2 }, none)
  else if x.skip.s = [] then (x.skip, none)
  else match word x.skip.s with
    | .bad e => ({ x.skip with code := e, fp := x.skip.pos }, none)
    | .ok w => ({ x.skip with s := x.skip.s.drop w.n, pos := adv x.skip.pos (x.skip.s.take w.n), fin := adv x.skip.pos (x.skip.s.take w.n) },
        some ⟨w.kind, x.skip.s.take w.n, w.vk, w.num, w.sym, x.skip.pos.1, x.skip.pos.2⟩)
/-- all words that are left, and the scanner behind them -/
def allF : Nat → St → List Tok × St
  | 0, x => ([], x)
  | k + 1, x =>
    match next x with
    | (y, none) => ([], y)
    | (y, some t) => (t :: (allF k y).1, (allF k y).2)
def given (s : List Nat) : List Tok × St := allF (s.length + 1) (start s)
def tokens (s : List Nat) : List Tok := if (given s).2.code = 0 then (given s).1 else []
def fault (s : List Nat) : Nat × Nat × Nat := if (given s).2.code = 0 then (0, 0, 0) else ((given s).2.code, (given s).2.fp)

theorem hexv_lt {c x : Nat} (h : hexv c = some x) : x < 16 := by
  unfold hexv at h
  split at h
  · simp at h; omega
  · split at h
    · simp at h; omega
    · split at h
      · simp at h; omega
      · simp at h
theorem esc_len {s : List Nat} {b m : Nat} (hs : ∀ c ∈ s, c < 256) (h : esc s = some (b, m)) : 1 ≤ m ∧ m ≤ s.length ∧ b < 256 := by
  unfold esc at h
  split at h
  · simp at h
  · rename_i c r
    have hc := hs c (by simp)
    split at h
    · simp at h; obtain ⟨rfl, rfl⟩ := h; simp; omega
    · split at h
      · simp at h; obtain ⟨rfl, rfl⟩ := h; simp
      · split at h
        · split at h
          · rename_i a b' t
            split at h
            · rename_i x y hx hy
              have h1 := hexv_lt hx
              have h2 := hexv_lt hy
              simp at h; obtain ⟨rfl, rfl⟩ := h; simp; omega
            · simp at h
          · simp at h
        · simp at h
theorem quoF_len : ∀ (k : Nat) (s acc : List Nat) (n : Nat) (l : List Nat) (m : Nat), (∀ c ∈ s, c < 256) → (∀ c ∈ acc, c < 256) → quoF k s acc n = some (l, m) →
    n < m ∧ m ≤ n + s.length ∧ (∀ c ∈ l, c < 256) ∧ l.length ≤ 64
  | 0, _, _, _, _, _, _, _, h => by simp [quoF] at h
  | k + 1, [], _, _, _, _, _, _, h => by simp [quoF] at h
  | k + 1, c :: r, acc, n, l, m, hs, ha, h => by
    have hc := hs c (by simp)
    have hr : ∀ c ∈ r, c < 256 := fun x hx => hs x (by simp [hx])
    unfold quoF at h
    split at h
    · split at h
      · simp at h
      · simp at h; obtain ⟨rfl, rfl⟩ := h; exact ⟨by omega, by simp, ha, by omega⟩
    · split at h
      · simp at h
      · split at h
        · split at h
          · simp at h
          · rename_i b m' he
            obtain ⟨e1, e2, e3⟩ := esc_len hr he
            have := quoF_len k _ _ _ l m (fun c hc => hr c (List.mem_of_mem_drop hc)) (fun x hx => by rcases List.mem_append.1 hx with h | h; exact ha x h; simp at h; omega) h
            simp at this ⊢
            refine ⟨by omega, by omega, this.2.2⟩
        · have := quoF_len k _ _ _ l m hr (fun x hx => by rcases List.mem_append.1 hx with h | h; exact ha x h; simp at h; omega) h
          simp at this ⊢
          refine ⟨by omega, by omega, this.2.2⟩
theorem quo_len {s l : List Nat} {m : Nat} (hs : ∀ c ∈ s, c < 256) (h : quo s = some (l, m)) : 1 < m ∧ m ≤ s.length ∧ (∀ c ∈ l, c < 256) ∧ l.length ≤ 64 := by
  cases s with
  | nil => simp [quo, quoF] at h
  | cons c r =>
    have := quoF_len _ _ _ _ l m (fun c hc => hs c (List.mem_of_mem_drop hc)) (by simp) h
    simp at this ⊢
    exact ⟨by omega, by omega, this.2.2⟩
theorem mark_le (s : List Nat) : mark s ≤ 2 ∧ mark s ≤ s.length := by
  unfold mark
  split
  · simp
  · split <;> simp
  · split
    · simp
    · split <;> simp
theorem goes_of_small {c : Nat} (h : (small c || capital c) = true) : goes c = true := by
  unfold goes
  rw [Bool.or_eq_true] at h
  rcases h with h | h <;> simp [h]
theorem goes_of_digit {c : Nat} (h : digit c = true) : goes c = true := by
  unfold goes; simp [h]
theorem run_pos {p : Nat → Bool} {s : List Nat} (hs : s ≠ []) (h : p (s.headD 0) = true) : 1 ≤ run p s := by
  cases s with
  | nil => simp at hs
  | cons c r => rw [run_cons]; simp at h; simp [h]
/-- a word has bytes, no more than there are; its symbol is of bytes -/
theorem word_len {s : List Nat} {w : Wd} (hs : ∀ c ∈ s, c < 256) (h0 : s ≠ []) (h : word s = .ok w) : 1 ≤ w.n ∧ w.n ≤ s.length ∧ (∀ c ∈ w.sym, c < 256) ∧ w.num ≤ 2147483647 ∧ w.kind ≤ 5 ∧ w.vk ≤ 2 := by
  unfold word at h
  split at h
  · rename_i h1
    split at h
    · simp at h
    · simp at h; subst h
      refine ⟨run_pos h0 (goes_of_small h1), run_le _ _, by simp, by simp, ?_, by simp⟩
      simp only; split <;> simp
  · split at h
    · rename_i h1
      split at h
      · simp at h
      · rename_i h2
        simp at h; subst h
        exact ⟨run_pos h0 h1, run_le _ _, by simp, by simp only; omega, by simp, by simp⟩
    · split at h
      · split at h
        · simp at h
        · rename_i l m hq
          simp at h; subst h
          obtain ⟨h1, h2, h3, h4⟩ := quo_len hs hq
          exact ⟨by simp only; omega, h2, h3, by simp, by simp, by simp⟩
      · split at h
        · simp at h
        · simp at h; subst h
          have := mark_le s
          exact ⟨by simp only; omega, this.2, by simp, by simp, by simp, by simp⟩

/-- blanks are gone over -/
theorem skip_blank (s : List Nat) : skipN false s = run blank s + skipN false (s.drop (run blank s)) := by
  induction s with
  | nil => simp [run, skipN]
  | cons c t ih =>
    rw [run_cons]
    by_cases h : blank c = true
    · rw [if_pos h]
      have hc : c ≠ 35 := by rintro rfl; simp [blank] at h
      have e : (if c = 35 then true else if c = 10 then false else false) = false := by rw [if_neg hc]; split <;> rfl
      conv => lhs; unfold skipN
      simp only [e, h]
      simp
      omega
    · rw [if_neg h]; simp
theorem skip_line_aux (s : List Nat) : skipN true s = run line s + skipN false (s.drop (run line s)) := by
  induction s with
  | nil => simp [run, skipN]
  | cons c t ih =>
    rw [run_cons]
    by_cases h : c = 10
    · subst h
      rw [show line 10 = false from rfl]
      simp [skipN, blank]
    · have hl : line c = true := by simp [line, h]
      rw [if_pos hl]
      have e : (if c = 35 then true else if c = 10 then false else true) = true := by rw [if_neg h]; split <;> rfl
      conv => lhs; unfold skipN
      simp only [e]
      simp
      omega
/-- a remark is gone over -/
theorem skip_remark (t : List Nat) : skipN false (35 :: t) = run line (35 :: t) + skipN false ((35 :: t).drop (run line (35 :: t))) := by
  rw [run_cons, show line 35 = true from rfl, if_pos rfl]
  have e : (if (35 : Nat) = 35 then true else if (35 : Nat) = 10 then false else false) = true := rfl
  conv => lhs; unfold skipN
  simp only [e]
  simp
  have := skip_line_aux t
  omega
theorem skip_none {c : Nat} {t : List Nat} (h : blank c = false) (hc : c ≠ 35) : skipN false (c :: t) = 0 := by
  unfold skipN
  simp [hc, h]
theorem skip_done {s : List Nat} (h : skipN false s = 0) : skipN false (s.drop (skipN false s)) = 0 := by rw [h]; simpa using h
end Go.Proofs.YtppigckioalhhaaGreatDoorR.Lx
/- PLAIN: runes and bytes: how far a text goes on with a kind. No program in sight. -/
namespace Go.Proofs.YtppigckioalhhaaGreatDoorR.Lx
open Cod (str)
set_option linter.unusedSimpArgs false

theorem get_str (s : ByteArray) (i : Nat) (h : i < s.size) : (str s).getD i 0 = (s[i]'h).toNat := by
  unfold str
  have h' : i < s.data.toList.length := by rw [Array.length_toList]; exact h
  rw [List.getD_eq_getElem?_getD, List.getElem?_map, List.getElem?_eq_getElem h']
  simp
  rfl
theorem get_bang (s : ByteArray) (i : Nat) (h : i < s.size) : (s.get! i).toNat = (str s).getD i 0 := by
  rw [get_str s i h]
  have := get_at s i h
  simp only [Nat.add_zero] at this
  rw [this]
/-- a rune's bytes behind the first are no letters -/
theorem decode_cont (s : ByteArray) (pos : Nat) (h : pos < s.size) (ha : 128 ≤ (str s).getD pos 0) (i : Nat) (hi : i < (Utf8.decode s pos).2) : pos + i < s.size ∧ 128 ≤ (str s).getD (pos + i) 0 := by
  have hn : ¬ (s.get! (pos + 0)).toNat < 128 := by
    rw [Nat.add_zero, get_bang s pos h]; omega
  have key : ∀ k, (decide (pos + k < s.size) && (s.get! (pos + k)).toNat / 64 == 2) = true → pos + k < s.size ∧ 128 ≤ (str s).getD (pos + k) 0 := by
    intro k hk
    simp at hk
    rw [← get_bang s (pos + k) hk.1]
    exact ⟨hk.1, by omega⟩
  have h0 : pos + 0 < s.size ∧ 128 ≤ (str s).getD (pos + 0) 0 := ⟨h, ha⟩
  have one : ∀ {a : Nat}, i < (a, 1).2 → pos + i < s.size ∧ 128 ≤ (str s).getD (pos + i) 0 := by
    intro a hi
    have : i = 0 := by simp at hi; exact hi
    subst this
    exact h0
  simp only [Utf8.decode, hn, if_false] at hi
  split at hi
  · rename_i h1
    rw [Bool.and_eq_true] at h1
    have k1 := key 1 h1.2
    split at hi
    · have : i = 0 ∨ i = 1 := by simp at hi; omega
      rcases this with rfl | rfl
      · exact h0
      · exact k1
    · exact one hi
  · split at hi
    · rename_i h1
      rw [Bool.and_eq_true, Bool.and_eq_true] at h1
      have k1 := key 1 h1.1.2
      have k2 := key 2 h1.2
      split at hi
      · have : i = 0 ∨ i = 1 ∨ i = 2 := by simp at hi; omega
        rcases this with rfl | rfl | rfl
        · exact h0
        · exact k1
        · exact k2
      · exact one hi
    · split at hi
      · rename_i h1
        rw [Bool.and_eq_true, Bool.and_eq_true, Bool.and_eq_true] at h1
        have k1 := key 1 h1.1.1.2
        have k2 := key 2 h1.1.2
        have k3 := key 3 h1.2
        split at hi
        · have : i = 0 ∨ i = 1 ∨ i = 2 ∨ i = 3 := by simp at hi; omega
          rcases this with rfl | rfl | rfl | rfl
          · exact h0
          · exact k1
          · exact k2
          · exact k3
        · exact one hi
      · exact one hi

theorem run_ge_succ (q : Nat → Bool) : ∀ (l : List Nat) (n : Nat), n ≤ run q l → n < l.length → q (l.getD n 0) = true → n + 1 ≤ run q l
  | [], n, _, h, _ => by simp at h
  | c :: r, 0, _, _, h => by rw [run_cons]; simp at h; simp [h]
  | c :: r, n + 1, hn, hl, h => by
    rw [run_cons] at hn ⊢
    by_cases hc : q c = true
    · rw [if_pos hc] at hn ⊢
      have := run_ge_succ q r n (by omega) (by simpa using hl) (by simpa using h)
      omega
    · rw [if_neg hc] at hn; omega
theorem run_stop (q : Nat → Bool) : ∀ (l : List Nat) (n : Nat), n ≤ run q l → n < l.length → q (l.getD n 0) = false → run q l = n
  | [], n, _, h, _ => by simp at h
  | c :: r, 0, _, _, h => by rw [run_cons]; simp at h; simp [h]
  | c :: r, n + 1, hn, hl, h => by
    rw [run_cons] at hn ⊢
    by_cases hc : q c = true
    · rw [if_pos hc] at hn ⊢
      have := run_stop q r n (by omega) (by simpa using hl) (by simpa using h)
      omega
    · rw [if_neg hc] at hn; omega
theorem run_many (q : Nat → Bool) (l : List Nat) (n : Nat) (hn : n ≤ run q l) : ∀ k, (∀ i, i < k → n + i < l.length ∧ q (l.getD (n + i) 0) = true) → n + k ≤ run q l
  | 0, _ => by simpa using hn
  | k + 1, h => by
    have := run_many q l n hn k (fun i hi => h i (by omega))
    have h2 := h k (by omega)
    exact run_ge_succ q l (n + k) this h2.1 h2.2

/-- a kind of runes and a kind of bytes are the same, and beyond the letters all is one -/
structure Alike (p : Int → Bool) (q : Nat → Bool) (d : Bool) : Prop where
  low : ∀ c : Nat, c < 128 → p (c : Int) = q c
  high : ∀ c : Nat, 128 ≤ c → p (c : Int) = d
  byte : ∀ c : Nat, 128 ≤ c → q c = d

theorem Alike.step {p : Int → Bool} {q : Nat → Bool} {d : Bool} (h : Alike p q d) (s : ByteArray) (pos : Nat) (hp : pos < s.size) (hr : pos ≤ run q (str s)) (hd : p ((Utf8.decode s pos).1 : Int) = true) :
    pos + (Utf8.decode s pos).2 ≤ run q (str s) ∧ 1 ≤ (Utf8.decode s pos).2 := by
  have hg := get_str s pos hp
  rcases Nat.lt_or_ge ((str s).getD pos 0) 128 with ha | ha
  · have e := decode_ascii s pos hp (by omega)
    rw [e] at hd ⊢
    simp only at hd ⊢
    rw [← hg, h.low _ ha] at hd
    exact ⟨run_ge_succ q _ pos hr (by rw [Cod.str_len]; exact hp) hd, Nat.le_refl _⟩
  · have e := decode_high s pos hp (by omega)
    rw [h.high _ e.1] at hd
    subst hd
    refine ⟨run_many q _ pos hr _ (fun i hi => ?_), e.2⟩
    have := decode_cont s pos hp ha i hi
    exact ⟨by rw [Cod.str_len]; exact this.1, h.byte _ this.2⟩
theorem Alike.stop {p : Int → Bool} {q : Nat → Bool} {d : Bool} (h : Alike p q d) (s : ByteArray) (pos : Nat) (hp : pos < s.size) (hr : pos ≤ run q (str s)) (hd : p ((Utf8.decode s pos).1 : Int) = false) :
    run q (str s) = pos := by
  have hg := get_str s pos hp
  refine run_stop q _ pos hr (by rw [Cod.str_len]; exact hp) ?_
  rcases Nat.lt_or_ge ((str s).getD pos 0) 128 with ha | ha
  · have e := decode_ascii s pos hp (by omega)
    rw [e] at hd
    simp only at hd
    rw [← hg, h.low _ ha] at hd
    exact hd
  · have e := decode_high s pos hp (by omega)
    rw [h.high _ e.1] at hd
    rw [h.byte _ ha]; exact hd
end Go.Proofs.YtppigckioalhhaaGreatDoorR.Lx
/- THE SCANNER's SMALL FUNCTIONS: kinds of runes; how far a text goes on with a kind. -/
namespace Go.Proofs.YtppigckioalhhaaGreatDoorR
open Go.RowKit
set_option linter.unusedVariables false
set_option linter.unusedSimpArgs false
set_option maxRecDepth 100000

def smallI (c : Int) : Bool := decide (97 ≤ c) && decide (c ≤ 122)
def capitalI (c : Int) : Bool := decide (65 ≤ c) && decide (c ≤ 90)
def digitI (c : Int) : Bool := decide (48 ≤ c) && decide (c ≤ 57)
def restI (c : Int) : Bool := smallI c || (capitalI c || (digitI c || decide (c = 95)))
def blankI (c : Int) : Bool := decide (c = 32) || (decide (c = 9) || (decide (c = 10) || decide (c = 13)))
def lineI (c : Int) : Bool := !decide (c = 10)

theorem ret_bool {a b : Bool} (h : a = b) : Ending.returned (.bool a) = .returned (.bool b) := by rw [h]
theorem ret_int {k : IntKind} {a b : Int} (h : a = b) : Ending.returned (.int k a) = .returned (.int k b) := by rw [h]

theorem isSmall_any (c : Int) (b : Bool) (hb : smallI c = b) (w : World) :
    Calls Tryz.prog 116 #[.int .i32 c] w fun e w' => e = .returned (.bool b) ∧ w = w' := by
  subst hb
  unfold smallI
  by_cases h1 : 97 ≤ c
  · go_enter Tryz.func116, Tryz.ntmps116
    go_wp2
    all_goals go_ret
    all_goals exact ⟨ret_bool (by rw [Bool.eq_iff_iff]; simp <;> omega), rfl⟩
  · go_enter Tryz.func116, Tryz.ntmps116
    go_wp2
    all_goals go_ret
    all_goals exact ⟨ret_bool (by rw [Bool.eq_iff_iff]; simp <;> omega), rfl⟩

theorem isCapital_any (c : Int) (b : Bool) (hb : capitalI c = b) (w : World) :
    Calls Tryz.prog 117 #[.int .i32 c] w fun e w' => e = .returned (.bool b) ∧ w = w' := by
  subst hb
  unfold capitalI
  by_cases h1 : 65 ≤ c
  · go_enter Tryz.func117, Tryz.ntmps117
    go_wp2
    all_goals go_ret
    all_goals exact ⟨ret_bool (by rw [Bool.eq_iff_iff]; simp <;> omega), rfl⟩
  · go_enter Tryz.func117, Tryz.ntmps117
    go_wp2
    all_goals go_ret
    all_goals exact ⟨ret_bool (by rw [Bool.eq_iff_iff]; simp <;> omega), rfl⟩

theorem isDigit_any (c : Int) (b : Bool) (hb : digitI c = b) (w : World) :
    Calls Tryz.prog 119 #[.int .i32 c] w fun e w' => e = .returned (.bool b) ∧ w = w' := by
  subst hb
  unfold digitI
  by_cases h1 : 48 ≤ c
  · go_enter Tryz.func119, Tryz.ntmps119
    go_wp2
    all_goals go_ret
    all_goals exact ⟨ret_bool (by rw [Bool.eq_iff_iff]; simp <;> omega), rfl⟩
  · go_enter Tryz.func119, Tryz.ntmps119
    go_wp2
    all_goals go_ret
    all_goals exact ⟨ret_bool (by rw [Bool.eq_iff_iff]; simp <;> omega), rfl⟩

theorem blank_any (c : Int) (w : World) :
    Calls Tryz.prog 114 #[.int .i32 c] w fun e w' => e = .returned (.bool (blankI c)) ∧ w = w' := by
  unfold blankI
  go_enter Tryz.func114, Tryz.ntmps114
  go_wp2
  all_goals go_ret
  all_goals exact ⟨ret_bool (by rw [Bool.eq_iff_iff]; simp <;> omega), rfl⟩
theorem line_any (c : Int) (w : World) :
    Calls Tryz.prog 115 #[.int .i32 c] w fun e w' => e = .returned (.bool (lineI c)) ∧ w = w' := by
  unfold lineI
  go_enter Tryz.func115, Tryz.ntmps115
  go_wp2
  all_goals go_ret
  all_goals exact ⟨ret_bool (by rw [Bool.eq_iff_iff]; simp <;> omega), rfl⟩
theorem isRest_any (c : Int) (w : World) :
    Calls Tryz.prog 118 #[.int .i32 c] w fun e w' => e = .returned (.bool (restI c)) ∧ w = w' := by
  cases h1 : smallI c
  · cases h2 : capitalI c
    · cases h3 : digitI c
      · have e : Hid (restI c = decide (c = 95)) := Lib.hid (by simp [restI, h1, h2, h3])
        have H1 := Lib.hid h1; have H2 := Lib.hid h2; have H3 := Lib.hid h3
        clear h1 h2 h3
        go_enter Tryz.func118, Tryz.ntmps118
        go_wp2_with fail
        refine (isSmall_any c _ H1.out _).mono ?_
        rintro e w' ⟨rfl, rfl⟩
        go_wp2_with fail
        refine (isCapital_any c _ H2.out _).mono ?_
        rintro e w' ⟨rfl, rfl⟩
        go_wp2_with fail
        refine (isDigit_any c _ H3.out _).mono ?_
        rintro e w' ⟨rfl, rfl⟩
        go_wp2_with fail
        go_ret
        rw [e.out]
        exact ⟨ret_bool (by rw [Bool.eq_iff_iff]; simp), rfl⟩
      · have e : Hid (restI c = true) := Lib.hid (by simp [restI, h3])
        have H1 := Lib.hid h1; have H2 := Lib.hid h2; have H3 := Lib.hid h3
        clear h1 h2 h3
        go_enter Tryz.func118, Tryz.ntmps118
        go_wp2_with fail
        refine (isSmall_any c _ H1.out _).mono ?_
        rintro e w' ⟨rfl, rfl⟩
        go_wp2_with fail
        refine (isCapital_any c _ H2.out _).mono ?_
        rintro e w' ⟨rfl, rfl⟩
        go_wp2_with fail
        refine (isDigit_any c _ H3.out _).mono ?_
        rintro e w' ⟨rfl, rfl⟩
        go_wp2_with fail
        go_ret
        rw [e.out]
        exact ⟨rfl, rfl⟩
    · have e : Hid (restI c = true) := Lib.hid (by simp [restI, h2])
      have H1 := Lib.hid h1; have H2 := Lib.hid h2
      clear h1 h2
      go_enter Tryz.func118, Tryz.ntmps118
      go_wp2_with fail
      refine (isSmall_any c _ H1.out _).mono ?_
      rintro e w' ⟨rfl, rfl⟩
      go_wp2_with fail
      refine (isCapital_any c _ H2.out _).mono ?_
      rintro e w' ⟨rfl, rfl⟩
      go_wp2_with fail
      go_ret
      rw [e.out]
      exact ⟨rfl, rfl⟩
  · have e : Hid (restI c = true) := Lib.hid (by simp [restI, h1])
    have H1 := Lib.hid h1
    clear h1
    go_enter Tryz.func118, Tryz.ntmps118
    go_wp2_with fail
    refine (isSmall_any c _ H1.out _).mono ?_
    rintro e w' ⟨rfl, rfl⟩
    go_wp2_with fail
    go_ret
    rw [e.out]
    exact ⟨rfl, rfl⟩

theorem alike_rest : Lx.Alike restI Lx.goes false := by
  refine ⟨fun c hc => ?_, fun c hc => ?_, fun c hc => ?_⟩
  · rw [Bool.eq_iff_iff]; simp [restI, smallI, capitalI, digitI, Lx.goes, Lx.small, Lx.capital, Lx.digit]; omega
  · rw [← Bool.not_eq_true, ]; simp [restI, smallI, capitalI, digitI]; omega
  · rw [← Bool.not_eq_true]; simp [Lx.goes, Lx.small, Lx.capital, Lx.digit]; omega
theorem alike_digit : Lx.Alike digitI Lx.digit false := by
  refine ⟨fun c hc => ?_, fun c hc => ?_, fun c hc => ?_⟩
  · rw [Bool.eq_iff_iff]; simp [digitI, Lx.digit]; omega
  · rw [← Bool.not_eq_true, ]; simp [digitI]; omega
  · rw [← Bool.not_eq_true]; simp [Lx.digit]; omega
theorem alike_blank : Lx.Alike blankI Lx.blank false := by
  refine ⟨fun c hc => ?_, fun c hc => ?_, fun c hc => ?_⟩
  · rw [Bool.eq_iff_iff]; simp [blankI, Lx.blank]; omega
  · rw [← Bool.not_eq_true, ]; simp [blankI]; omega
  · rw [← Bool.not_eq_true]; simp [Lx.blank]; omega
theorem alike_line : Lx.Alike lineI Lx.line true := by
  refine ⟨fun c hc => ?_, fun c hc => ?_, fun c hc => ?_⟩
  · rw [Bool.eq_iff_iff]; simp [lineI, Lx.line]; omega
  · simp [lineI]; omega
  · simp [Lx.line]; omega

theorem mod_iter (w : World) (s : ByteArray) (pos : Nat) : Mod [] w (w.iter s pos) := (Mod.refl [] w).alloc _

theorem enter_of {f : FuncId} {fn : Func} {c : Code} (hf : Tryz.prog.funcs[f]? = some fn) (h1 : (fn.name == "runtime.NumGoroutine") = false) (hb : fn.body = some c) (args : Array Value) (w : World) :
    (callFunc f args).run Tryz.prog w = .ok (.enter f args) w := by
  have h2 : fn.name ≠ "runtime.NumGoroutine" := by simpa using h1
  simp [callFunc, hf, h2, hb]

set_option maxHeartbeats 1000000 in
/-- how far a text goes on with a kind -/
theorem length_any (n : Nat) (he : ∀ (args : Array Value) (w : World), (callFunc n args).run Tryz.prog w = .ok (.enter n args) w) (p : Int → Bool) (q : Nat → Bool) (d : Bool) (ha : Lx.Alike p q d) (hk : ∀ (c : Int) (w : World), Calls Tryz.prog n #[.int .i32 c] w fun e w' => e = .returned (.bool (p c)) ∧ w = w') (s : ByteArray) (hs : s.size ≤ 9223372036854775807) (w : World) :
    Calls Tryz.prog 113 #[.string s, .func (.func n) #[] #[]] w fun e w' => e = .returned (.int .i64 (Lx.run q (Cod.str s) : Nat)) ∧ Mod [] w w' := by
  have HK := Lib.hid hk
  have hrl := Lx.run_le q (Cod.str s)
  rw [Cod.str_len] at hrl
  clear hk
  go_enter Tryz.func113, Tryz.ntmps113
  go_wp2_with fail
  go_loopw [] (fun w' => ∃ pos : Nat, pos ≤ Lx.run q (Cod.str s) ∧ w' = w.iter s pos) (fun w' => s.size - w'.iterPos w.heap.size)
  case atStart => exact ⟨0, Nat.zero_le _, rfl⟩
  case round =>
    obtain ⟨pos, hr, rfl⟩ := hrel
    by_cases hp : pos < s.size
    · have hnx : ∀ ty, (Instr.next (.pointer (some ⟨w.heap.size, 0, none⟩)) true ty).run Tryz.prog (w.iter s pos) = _ := fun ty => run_next_any w s pos ty hp
      cases hd : p ((Utf8.decode s pos).1 : Int)
      · have hst := Lib.hid (ha.stop s pos hp hr hd)
        have HD := Lib.hid hd
        clear hd
        go_wp2_with fail
        refine (HK.out _ _).mono ?_
        rintro e w2 ⟨rfl, rfl⟩
        rw [HD.out]
        go_wp2_with fail
        go_ret
        exact ⟨by rw [hst.out]; rfl, mod_iter _ _ _⟩
      · have hst := ha.step s pos hp hr hd
        have HD := Lib.hid hd
        clear hd
        go_wp2_with fail
        refine (HK.out _ _).mono ?_
        rintro e w2 ⟨rfl, rfl⟩
        rw [HD.out]
        go_wp2_with fail
        go_roundw
        case rel => exact ⟨_, hst.1, rfl⟩
        case measure =>
          simp
          omega
    · have hnx : ∀ ty, (Instr.next (.pointer (some ⟨w.heap.size, 0, none⟩)) true ty).run Tryz.prog (w.iter s pos) = _ := fun ty => run_next_end w s pos ty hp
      go_wp2_with fail
      go_ret
      exact ⟨ret_int (by omega), mod_iter _ _ _⟩

theorem len_blank (s : ByteArray) (hs : s.size ≤ 9223372036854775807) (w : World) :
    Calls Tryz.prog 113 #[.string s, .func (.func 114) #[] #[]] w fun e w' => e = .returned (.int .i64 (Lx.run Lx.blank (Cod.str s) : Nat)) ∧ Mod [] w w' :=
  length_any _ (enter_of Tryz.func114 (by kernel_rfl) rfl) _ _ _ alike_blank blank_any s hs w
theorem len_line (s : ByteArray) (hs : s.size ≤ 9223372036854775807) (w : World) :
    Calls Tryz.prog 113 #[.string s, .func (.func 115) #[] #[]] w fun e w' => e = .returned (.int .i64 (Lx.run Lx.line (Cod.str s) : Nat)) ∧ Mod [] w w' :=
  length_any _ (enter_of Tryz.func115 (by kernel_rfl) rfl) _ _ _ alike_line line_any s hs w
theorem len_rest (s : ByteArray) (hs : s.size ≤ 9223372036854775807) (w : World) :
    Calls Tryz.prog 113 #[.string s, .func (.func 118) #[] #[]] w fun e w' => e = .returned (.int .i64 (Lx.run Lx.goes (Cod.str s) : Nat)) ∧ Mod [] w w' :=
  length_any _ (enter_of Tryz.func118 (by kernel_rfl) rfl) _ _ _ alike_rest isRest_any s hs w
theorem len_digit (s : ByteArray) (hs : s.size ≤ 9223372036854775807) (w : World) :
    Calls Tryz.prog 113 #[.string s, .func (.func 119) #[] #[]] w fun e w' => e = .returned (.int .i64 (Lx.run Lx.digit (Cod.str s) : Nat)) ∧ Mod [] w w' :=
  length_any _ (enter_of Tryz.func119 (by kernel_rfl) rfl) _ _ _ alike_digit (fun c w => isDigit_any c _ rfl w) s hs w
end Go.Proofs.YtppigckioalhhaaGreatDoorR
/- THE SCANNER: going over bytes, over blanks and remarks. -/
namespace Go.Proofs.YtppigckioalhhaaGreatDoorR
open Go.RowKit
set_option linter.unusedVariables false
set_option linter.unusedSimpArgs false
set_option maxRecDepth 100000

/-- the scanner's cells -/
def scCells (s : ByteArray) (x : Lx.St) : Array Value :=
  #[.string s, .int .i64 (x.pos.1 : Nat), .int .i64 (x.pos.2 : Nat), .int .i64 (x.fin.1 : Nat), .int .i64 (x.fin.2 : Nat), .int .i64 (x.code : Nat), .int .i64 (x.fp.1 : Nat), .int .i64 (x.fp.2 : Nat), .bool x.long]
structure ScIs (w : World) (b : Nat) (s : ByteArray) (x : Lx.St) : Prop where
  at_ : w.heap[b]? = some (.cells (scCells s x) 120 (0, 0))
  str : Cod.str s = x.s
  size : s.size ≤ 140737488355328
  lim : x.long = false → s.size ≤ 65536 ∧ x.pos.1 + 2 * s.size ≤ 200000 ∧ x.pos.2 + 2 * s.size ≤ 200000

theorem ScIs.cell {w : World} {b : Nat} {s : ByteArray} {x : Lx.St} (h : ScIs w b s x) (i : Nat) : w.cell? ⟨b, i, none⟩ = (scCells s x)[i]? := by
  simp [World.cell?, h.at_]
theorem ScIs.free {w : World} {b : Nat} {s : ByteArray} {x : Lx.St} (h : ScIs w b s x) (i : Nat) : w.frozen? ⟨b, i, none⟩ = false := by simp [World.frozen?, h.at_]
theorem ScIs.lt {w : World} {b : Nat} {s : ByteArray} {x : Lx.St} (h : ScIs w b s x) : b < w.heap.size := lt_of_block h.at_
theorem ScIs.keep {S : List Nat} {w w' : World} {b : Nat} {s : ByteArray} {x : Lx.St} (h : ScIs w b s x) (hm : Mod S w w') (hb : b ∉ S) : ScIs w' b s x :=
  ⟨hm.at h.at_ hb, h.str, h.size, h.lim⟩
theorem ScIs.past {S : List Nat} {w w' : World} {b : Nat} {s : ByteArray} {x : Lx.St} (h : ScIs w b s x) (hm : Mod S w w') (hS : ∀ t ∈ S, w.heap.size ≤ t) : ScIs w' b s x :=
  h.keep hm (fun hb => by have := hS b hb; have := h.lt; omega)

theorem take_snoc {α : Type} (l : List α) (d : α) (k : Nat) (h : k < l.length) : l.take (k + 1) = l.take k ++ [l.getD k d] := by
  rw [List.take_succ_eq_append_getElem h, List.getD_eq_getElem?_getD, List.getElem?_eq_getElem h]; rfl

theorem setCell_at {w : World} {b : Nat} {cs : Array Value} {T : TypeId} {fr : Nat × Nat} (h : w.heap[b]? = some (.cells cs T fr)) (i : Nat) (v : Value) :
    (w.setCell ⟨b, i, none⟩ v).heap[b]? = some (.cells (cs.setIfInBounds i v) T fr) := by
  simp [World.setCell, Array.getElem?_modify, h]

theorem pass_any (b : Nat) (s : ByteArray) (x : Lx.St) (n : Nat) (w : World) (h : ScIs w b s x) (hn : n ≤ s.size) (hl : x.long = false) :
    Calls Tryz.prog 96 #[.pointer (some ⟨b, 0, none⟩), .int .i64 (n : Int)] w fun e w' => e = .returned (.tuple #[]) ∧ ∃ s', ScIs w' b s' { x with s := x.s.drop n, pos := Lx.adv x.pos (x.s.take n) } ∧ Mod [b] w w' := by
  have c0 : w.cell? ⟨b, 0, none⟩ = some (.string s) := h.cell 0
  obtain ⟨hs, hl1, hl2⟩ := h.lim hl
  have hcv := fun w s => run_bytes_of_string (P := Tryz.prog) w 9 189 5 s Tryz.underlying9 Tryz.underlying189 Tryz.underlying5
  go_enter Tryz.func96, Tryz.ntmps96
  go_wp2_with fail
  have hb : b < w.heap.size := h.lt
  have hbyte : Hid (∀ k, k < n → ((w.alloc (Obj.cells (bytesRow (s.extract 0 n) (grownCap w n 0 5)) 5 ((bytesRow (s.extract 0 n) (grownCap w n 0 5)).size, (bytesRow (s.extract 0 n) (grownCap w n 0 5)).size + 1))).drew).cell? ⟨w.heap.size, k, none⟩ = some (.int .u8 (x.s.getD k 0 : Nat))) := Lib.hid (fun k hk => by
    show (w.alloc (Obj.cells _ _ _)).cell? _ = _
    rw [World.cell?_alloc_mark]
    have hk' : k < (s.extract 0 n).data.size := by
      have : (s.extract 0 n).data.size = (s.extract 0 n).size := rfl
      rw [this, ByteArray.size_extract]; omega
    rw [bytesRow_at _ _ k hk']
    have e1 : (Cod.str (s.extract 0 n)).getD k 0 = ((s.extract 0 n).data[k]).toNat := by
      rw [Lx.get_str _ _ hk']; rfl
    have e2 : (Cod.str (s.extract 0 n)).getD k 0 = x.s.getD k 0 := by
      rw [Lx.str_extract, h.str]
      simp [List.getD_eq_getElem?_getD, List.getElem?_take, hk]
    rw [← e1, e2])
  have hm0 : Mod [b] w ((w.alloc (Obj.cells (bytesRow (s.extract 0 n) (grownCap w n 0 5)) 5 ((bytesRow (s.extract 0 n) (grownCap w n 0 5)).size, (bytesRow (s.extract 0 n) (grownCap w n 0 5)).size + 1))).drew) := ((Mod.refl [b] w).alloc _).drew
  have hat0 := hm0.mono (T := [b]) (fun t ht => .inl ht)
  have hb0 : ((w.alloc (Obj.cells (bytesRow (s.extract 0 n) (grownCap w n 0 5)) 5 ((bytesRow (s.extract 0 n) (grownCap w n 0 5)).size, (bytesRow (s.extract 0 n) (grownCap w n 0 5)).size + 1))).drew).heap[b]? = some (.cells (scCells s x) 120 (0, 0)) := (((Mod.refl [] w).alloc _).drew).at h.at_ (by simp)
  have hstr := h.str
  have hxl : x.s.length = s.size := by rw [← hstr, Cod.str_len]
  generalize ((w.alloc (Obj.cells (bytesRow (s.extract 0 n) (grownCap w n 0 5)) 5 ((bytesRow (s.extract 0 n) (grownCap w n 0 5)).size, (bytesRow (s.extract 0 n) (grownCap w n 0 5)).size + 1))).drew) = w2 at *
  generalize grownCap w n 0 5 = cap at *
  have HX := Lib.hid hxl
  clear hcv hxl hat0
  go_loopw [14] (fun i wr => ∃ (k : Nat), k ≤ n ∧ i = .int .i64 (k : Int) ∧ wr.heap[b]? = some (.cells (scCells s { x with pos := Lx.adv x.pos (x.s.take k) }) 120 (0, 0)) ∧ Mod [b] w2 wr) (fun i _ => n - (intOf i).toNat)
  case atStart => exact ⟨0, Nat.zero_le _, rfl, by simpa [Lx.adv] using hb0, Mod.refl _ _⟩
  case round =>
    obtain ⟨k, hk, rfl, hbr, hmr⟩ := hrel
    have hla := Lx.adv_le x.pos (x.s.take k)
    have hlt := HX.out
    rw [List.length_take] at hla
    by_cases hlt : k < n
    · have hck := hmr.cell (hbyte.out k hlt) (by simp; omega)
      have hsn : Lx.adv x.pos (x.s.take (k + 1)) = if x.s.getD k 0 = 10 then ((Lx.adv x.pos (x.s.take k)).1 + 1, 1) else ((Lx.adv x.pos (x.s.take k)).1, (Lx.adv x.pos (x.s.take k)).2 + 1) := by
        rw [take_snoc _ 0 _ (by omega), Lx.adv_append]
        rfl
      have hlk1 : (Lx.adv x.pos (x.s.take k)).1 ≤ 200000 := by omega
      have hlk2 : (Lx.adv x.pos (x.s.take k)).2 ≤ 200000 := by omega
      have q1 : wr.cell? ⟨b, 1, none⟩ = some (.int .i64 ((Lx.adv x.pos (x.s.take k)).1 : Nat)) := by simp [World.cell?, hbr, scCells]
      have q2 : wr.cell? ⟨b, 2, none⟩ = some (.int .i64 ((Lx.adv x.pos (x.s.take k)).2 : Nat)) := by simp [World.cell?, hbr, scCells]
      have f1 : wr.frozen? ⟨b, 1, none⟩ = false := by simp [World.frozen?, hbr]
      have f2 : wr.frozen? ⟨b, 2, none⟩ = false := by simp [World.frozen?, hbr]
      have hset := fun v => setCell_at hbr 2 v
      have hset2 := fun v u => setCell_at (hset v) 1 u
      have hset3 := fun v u t => setCell_at (hset2 v u) 2 t
      generalize Lx.adv x.pos (x.s.take k) = p at *
      generalize x.s.getD k 0 = y at *
      by_cases hy : y = 10
      · have hyb : ((y : Int) == 10) = true := by rw [beq_iff_eq]; omega
        rw [if_pos hy] at hsn
        have HS := Lib.hid hsn
        have H3 := Lib.hid hset3
        clear hsn hset hset2 hset3 hla hbr hy
        go_wp2_with fail
        go_roundw
        case rel =>
          refine ⟨k + 1, by omega, by go_num, ?_, ?_⟩
          · rw [HS.out, H3.out]; simp [scCells]
          · exact ((hmr.setCell (p := ⟨b, 2, none⟩) (by simp) _).setCell (p := ⟨b, 1, none⟩) (by simp) _).setCell (p := ⟨b, 2, none⟩) (by simp) _
        case measure => simp [intOf]; omega
      · have hyb : ((y : Int) == 10) = false := by rw [beq_eq_false_iff_ne]; omega
        rw [if_neg hy] at hsn
        have HS := Lib.hid hsn
        have H3 := Lib.hid hset
        clear hsn hset hset2 hset3 hla hbr hy
        go_wp2_with fail
        go_roundw
        case rel =>
          refine ⟨k + 1, by omega, by go_num, ?_, ?_⟩
          · rw [HS.out, H3.out]; simp [scCells]
          · exact hmr.setCell (p := ⟨b, 2, none⟩) (by simp) _
        case measure => simp [intOf]; omega
    · obtain rfl : k = n := by omega
      have q0 : wr.cell? ⟨b, 0, none⟩ = some (.string s) := by simp [World.cell?, hbr, scCells]
      have f0 : wr.frozen? ⟨b, 0, none⟩ = false := by simp [World.frozen?, hbr]
      have hset := Lib.hid (fun v => setCell_at hbr 0 v)
      go_wp2_with fail
      go_end0
      refine ⟨rfl, s.extract k s.size, ⟨?_, ?_, ?_, ?_⟩, (hm0.trans hmr (fun t ht => .inl ht)).setCell (p := ⟨b, 0, none⟩) (by simp) _⟩
      · rw [hset.out]; simp [scCells]
      · rw [Lx.str_extract, hstr]
        simp only
        rw [List.take_of_length_le (by rw [List.length_drop, HX.out]; omega)]
      · rw [ByteArray.size_extract]; omega
      · intro _
        rw [ByteArray.size_extract]
        simp only
        omega
end Go.Proofs.YtppigckioalhhaaGreatDoorR
/- THE SCANNER: going over blanks and remarks. -/
namespace Go.Proofs.YtppigckioalhhaaGreatDoorR
open Go.RowKit
set_option linter.unusedVariables false
set_option linter.unusedSimpArgs false
set_option maxRecDepth 100000

def St.at (x : Lx.St) (m : Nat) : Lx.St := { x with s := x.s.drop m, pos := Lx.adv x.pos (x.s.take m) }
theorem St.at_at (x : Lx.St) (m n : Nat) : { St.at x m with s := (St.at x m).s.drop n, pos := Lx.adv (St.at x m).pos ((St.at x m).s.take n) } = St.at x (m + n) := by
  unfold St.at
  simp only [List.drop_drop]
  rw [← Lx.adv_append, ← List.take_add]

theorem toList_isEmpty (s : ByteArray) : s.toList.isEmpty = decide (s.size = 0) := by
  rw [ByteArray.toList_eq]
  obtain ⟨⟨l⟩⟩ := s
  cases l <;> simp [ByteArray.size]

set_option maxHeartbeats 1000000 in
theorem skip_any (b : Nat) (s : ByteArray) (x : Lx.St) (w : World) (h : ScIs w b s x) (hl : x.long = false) :
    Calls Tryz.prog 94 #[.pointer (some ⟨b, 0, none⟩)] w fun e w' => e = .returned (.tuple #[]) ∧ ∃ s', ScIs w' b s' x.skip ∧ Mod [b] w w' := by
  have hls := (h.lim hl).1
  have hstr := h.str
  have hxl : x.s.length = s.size := by rw [← hstr, Cod.str_len]
  go_enter Tryz.func94, Tryz.ntmps94
  go_wp2_with fail
  go_loopg [] x.s.length (fun g wr => ∃ m s', x.s.length = g + m ∧ ScIs wr b s' (St.at x m) ∧ Lx.skipN false x.s = m + Lx.skipN false (x.s.drop m) ∧ Mod [b] w wr)
  case atStart => exact ⟨0, s, rfl, by simpa [St.at, Lx.adv] using h, by simp, Mod.refl _ _⟩
  case round =>
    obtain ⟨m, s', hg, hS, hk, hmr⟩ := hrel
    have q0 : wr.cell? ⟨b, 0, none⟩ = some (.string s') := hS.cell 0
    have hsz : s'.size = (x.s.drop m).length := by rw [← Cod.str_len, hS.str]; rfl
    have hss := hS.size
    cases hd : x.s.drop m with
    | nil =>
      have HD := Lib.hid hd
      rw [hd] at hsz hk
      have hem : s'.toList.isEmpty = true := by rw [toList_isEmpty, hsz]; rfl
      have HK := Lib.hid hk
      clear hd hsz hk
      go_wp2_with fail
      go_end0
      refine ⟨rfl, s', ?_, hmr⟩
      have e : x.skip = St.at x m := by
        unfold Lx.St.skip St.at
        rw [HK.out]; rfl
      rw [e]; exact hS
    | cons c t =>
      have HD := Lib.hid hd
      rw [hd] at hsz hk
      have hem : s'.toList.isEmpty = false := by rw [toList_isEmpty, hsz]; rfl
      have h0 : 0 < s'.size := by rw [hsz]; simp
      have hst : Cod.str s' = c :: t := by rw [hS.str, ← hd]; rfl
      have hc0 : s'[0].toNat = c := by rw [← Lx.get_str s' 0 h0, hst]; rfl
      have hrn := Lx.run_le Lx.blank (c :: t)
      have hcallb := len_blank s' (by omega) wr
      have hcalll := fun w => len_line s' (by omega) w
      rw [hst] at hcallb
      simp only [hst] at hcalll
      have hgm : (c :: t).length = gk := by rw [← hd, List.length_drop]; omega
      by_cases hb : Lx.blank c = true
      · have hr1 : 1 ≤ Lx.run Lx.blank (c :: t) := Lx.run_pos (by simp) (by simpa using hb)
        have hsk := Lx.skip_blank (c :: t)
        rw [← hd, List.drop_drop, hd] at hsk
        generalize hrr : Lx.run Lx.blank (c :: t) = r at *
        have hz : ((r : Int) == 0) = false := by rw [beq_eq_false_iff_ne]; omega
        have hpass := pass_any b s' (St.at x m) r
        rw [St.at_at] at hpass
        have HSK := Lib.hid hsk; have HK := Lib.hid hk; have HP := Lib.hid hpass; have HB := Lib.hid hcallb; have HSZ := Lib.hid hsz; have HGM := Lib.hid hgm; have HG := Lib.hid hg
        clear hrr hsk hk hpass hcallb hcalll hst hc0 hsz hd hgm hxl hg hstr
        go_wp2_with fail
        refine HB.out.mono ?_
        rintro e w2 ⟨rfl, hm2⟩
        have hS2 := hS.past hm2 (by simp)
        go_wp2_with fail
        refine (HP.out w2 hS2 (by rw [HSZ.out]; exact hrn) hl).mono ?_
        rintro e w3 ⟨rfl, s3, hS3, hm3⟩
        have hm3' := (hmr.trans hm2 (by simp)).trans hm3 (fun t ht => .inl ht)
        go_wp2_with fail
        go_roundg (gk - r)
        case measure => have := HGM.out; simp at this; omega
        case rel =>
          have h1 := HGM.out
          have h2 := HG.out
          exact ⟨m + r, s3, by rw [← h1] at h2 ⊢; omega, hS3, by rw [HK.out, HSK.out, Nat.add_assoc], hm3'⟩
      · have hb' : Lx.blank c = false := by simpa using hb
        have hrb : Lx.run Lx.blank (c :: t) = 0 := by rw [Lx.run_cons, hb']; rfl
        rw [hrb] at hcallb
        by_cases hc : c = 35
        · subst hc
          have hr1 : 1 ≤ Lx.run Lx.line (35 :: t) := Lx.run_pos (by simp) rfl
          have hrn := Lx.run_le Lx.line (35 :: t)
          have hsk := Lx.skip_remark t
          rw [← hd, List.drop_drop, hd] at hsk
          generalize hrr : Lx.run Lx.line (35 :: t) = r at *
          have hz : ((r : Int) == 0) = false := by rw [beq_eq_false_iff_ne]; omega
          have hpass := pass_any b s' (St.at x m) r
          rw [St.at_at] at hpass
          have hidx : ((s'[0].toNat : Int) == 35) = true := by rw [hc0]; rfl
          have HSK := Lib.hid hsk; have HK := Lib.hid hk; have HP := Lib.hid hpass; have HB := Lib.hid hcallb; have HL := Lib.hid hcalll; have HSZ := Lib.hid hsz; have HGM := Lib.hid hgm; have HG := Lib.hid hg
          clear hrr hsk hk hpass hcallb hcalll hst hc0 hsz hd hgm hxl hg hstr hrb
          go_wp2_with fail
          refine HB.out.mono ?_
          rintro e w2 ⟨rfl, hm2⟩
          have hS2 := hS.past hm2 (by simp)
          have q2 : w2.cell? ⟨b, 0, none⟩ = some (.string s') := hS2.cell 0
          go_wp2_with fail
          refine (HL.out _).mono ?_
          rintro e w3 ⟨rfl, hm3⟩
          have hS3 := hS2.past hm3 (by simp)
          go_wp2_with fail
          refine (HP.out w3 hS3 (by rw [HSZ.out]; exact hrn) hl).mono ?_
          rintro e w4 ⟨rfl, s4, hS4, hm4⟩
          have hm4' := ((hmr.trans hm2 (by simp)).trans hm3 (by simp)).trans hm4 (fun t ht => .inl ht)
          go_wp2_with fail
          go_roundg (gk - r)
          case measure => have := HGM.out; simp at this; omega
          case rel =>
            have h1 := HGM.out
            have h2 := HG.out
            exact ⟨m + r, s4, by rw [← h1] at h2 ⊢; omega, hS4, by rw [HK.out, HSK.out, Nat.add_assoc], hm4'⟩
        · have hsk := Lx.skip_none (t := t) hb' hc
          have hidx : ((s'[0].toNat : Int) == 35) = false := by rw [hc0, beq_eq_false_iff_ne]; omega
          have HSK := Lib.hid hsk; have HK := Lib.hid hk; have HB := Lib.hid hcallb; have HSZ := Lib.hid hsz; have HGM := Lib.hid hgm; have HG := Lib.hid hg; have HDD := Lib.hid hd
          clear hsk hk hcallb hcalll hst hc0 hsz hd hgm hxl hg hstr hrb hc
          go_wp2_with fail
          refine HB.out.mono ?_
          rintro e w2 ⟨rfl, hm2⟩
          have hS2 := hS.past hm2 (by simp)
          have q2 : w2.cell? ⟨b, 0, none⟩ = some (.string s') := hS2.cell 0
          go_wp2_with fail
          refine bodyPost_ret (results_none rfl _ _ _) rfl ?_
          refine ⟨rfl, s', ?_, hmr.trans hm2 (by simp)⟩
          have e : x.skip = St.at x m := by
            unfold Lx.St.skip St.at
            rw [HK.out, HSK.out]; rfl
          rw [e]; exact hS2
end Go.Proofs.YtppigckioalhhaaGreatDoorR
/- THE LIBRARY's CONTRACTS AT THIS DUMP, in plain words, as the kit's own tools write them. -/
namespace Go.Proofs
open Go.Shelf
def Tryz.laysC245_ren : Go.Shelf.Ren := ⟨fun | 245 => 142 | 279 => 157 | 280 => 158 | 281 => 159 | 282 => 160 | 316 => 166 | 171 => 168 | 205 => 167 | 243 => 172 | 246 => 173 | 283 => 174 | 284 => 175 | 285 => 176 | 286 => 177 | 129 => 179 | 317 => 178 | 318 => 180 | 319 => 181 | 320 => 182 | 337 => 183 | 338 => 184 | n => n, fun | 9 => 9 | 3 => 3 | 75 => 199 | 167 => 217 | 4 => 4 | 168 => 220 | 210 => 228 | 37 => 189 | 0 => 0 | 127 => 233 | 145 => 236 | 143 => 234 | 2 => 2 | 171 => 238 | 53 => 208 | 5 => 5 | 173 => 241 | 212 => 244 | 51 => 223 | 20 => 20 | 213 => 245 | 46 => 212 | 232 => 249 | 233 => 250 | 80 => 251 | n => n, fun | 15 => 2 | 16 => 3 | 17 => 4 | 18 => 5 | 19 => 6 | n => n⟩
theorem Tryz.laysC245 : Go.Proofs.LaysC.n245 Tryz.prog Tryz.laysC245_ren := {
  mixed := by kernel_rfl
  f129 := Tryz.func179.trans (congrArg some (by kernel_rfl))
  f171 := Tryz.func168.trans (congrArg some (by kernel_rfl))
  f205 := Tryz.func167.trans (congrArg some (by kernel_rfl))
  f243 := Tryz.func172.trans (congrArg some (by kernel_rfl))
  f245 := Tryz.func142.trans (congrArg some (by kernel_rfl))
  f246 := Tryz.func173.trans (congrArg some (by kernel_rfl))
  f279 := Tryz.func157.trans (congrArg some (by kernel_rfl))
  f280 := Tryz.func158.trans (congrArg some (by kernel_rfl))
  f281 := Tryz.func159.trans (congrArg some (by kernel_rfl))
  f282 := Tryz.func160.trans (congrArg some (by kernel_rfl))
  f283 := Tryz.func174.trans (congrArg some (by kernel_rfl))
  f284 := Tryz.func175.trans (congrArg some (by kernel_rfl))
  f285 := Tryz.func176.trans (congrArg some (by kernel_rfl))
  f286 := Tryz.func177.trans (congrArg some (by kernel_rfl))
  f316 := Tryz.func166.trans (congrArg some (by kernel_rfl))
  f317 := Tryz.func178.trans (congrArg some (by kernel_rfl))
  f318 := Tryz.func180.trans (congrArg some (by kernel_rfl))
  f319 := Tryz.func181.trans (congrArg some (by kernel_rfl))
  f320 := Tryz.func182.trans (congrArg some (by kernel_rfl))
  f337 := Tryz.func183.trans (congrArg some (by kernel_rfl))
  f338 := Tryz.func184.trans (congrArg some (by kernel_rfl))
  t0 := Tryz.underlying0
  a0 := Tryz.isAgg0
  z0 := Tryz.sizeOf0
  v0 := Tryz.zeroValue0
  t2 := Tryz.underlying2
  a2 := Tryz.isAgg2
  z2 := Tryz.sizeOf2
  v2 := Tryz.zeroValue2
  t3 := Tryz.underlying3
  a3 := Tryz.isAgg3
  z3 := Tryz.sizeOf3
  v3 := Tryz.zeroValue3
  t4 := Tryz.underlying4
  a4 := Tryz.isAgg4
  z4 := Tryz.sizeOf4
  v4 := Tryz.zeroValue4
  t5 := Tryz.underlying5
  a5 := Tryz.isAgg5
  z5 := Tryz.sizeOf5
  v5 := Tryz.zeroValue5
  t9 := Tryz.underlying9
  a9 := Tryz.isAgg9
  z9 := Tryz.sizeOf9
  v9 := Tryz.zeroValue9
  t20 := Tryz.underlying20
  a20 := Tryz.isAgg20
  z20 := Tryz.sizeOf20
  v20 := Tryz.zeroValue20
  t37 := Tryz.underlying189
  a37 := Tryz.isAgg189
  z37 := Tryz.sizeOf189
  v37 := Tryz.zeroValue189
  t46 := Tryz.underlying212
  a46 := Tryz.isAgg212
  z46 := Tryz.sizeOf212
  v46 := Tryz.zeroValue212
  t51 := Tryz.underlying223
  a51 := Tryz.isAgg223
  z51 := Tryz.sizeOf223
  v51 := Tryz.zeroValue223
  t53 := Tryz.underlying208
  a53 := Tryz.isAgg208
  z53 := Tryz.sizeOf208
  v53 := Tryz.zeroValue208
  t75 := Tryz.underlying199
  a75 := Tryz.isAgg199
  z75 := Tryz.sizeOf199
  v75 := Tryz.zeroValue199
  t127 := Tryz.underlying233
  a127 := Tryz.isAgg233
  z127 := Tryz.sizeOf233
  v127 := Tryz.zeroValue233
  t143 := Tryz.underlying234
  a143 := Tryz.isAgg234
  z143 := Tryz.sizeOf234
  v143 := Tryz.zeroValue234
  t145 := Tryz.underlying236
  a145 := Tryz.isAgg236
  z145 := Tryz.sizeOf236
  v145 := Tryz.zeroValue236
  t167 := Tryz.underlying217
  a167 := Tryz.isAgg217
  z167 := Tryz.sizeOf217
  v167 := Tryz.zeroValue217
  t168 := Tryz.underlying220
  a168 := Tryz.isAgg220
  z168 := Tryz.sizeOf220
  v168 := Tryz.zeroValue220
  t171 := Tryz.underlying238
  a171 := Tryz.isAgg238
  z171 := Tryz.sizeOf238
  v171 := Tryz.zeroValue238
  t173 := Tryz.underlying241
  a173 := Tryz.isAgg241
  z173 := Tryz.sizeOf241
  v173 := Tryz.zeroValue241
  t210 := Tryz.underlying228
  a210 := Tryz.isAgg228
  z210 := Tryz.sizeOf228
  v210 := Tryz.zeroValue228
  t212 := Tryz.underlying244
  a212 := Tryz.isAgg244
  z212 := Tryz.sizeOf244
  v212 := Tryz.zeroValue244
  t213 := Tryz.underlying245
  a213 := Tryz.isAgg245
  z213 := Tryz.sizeOf245
  t232 := Tryz.underlying249
  a232 := Tryz.isAgg249
  z232 := Tryz.sizeOf249
  v232 := Tryz.zeroValue249
  t233 := Tryz.underlying250
  a233 := Tryz.isAgg250
  z233 := Tryz.sizeOf250
  v233 := Tryz.zeroValue250
  g15 := by kernel_rfl
  g16 := by kernel_rfl
  g17 := by kernel_rfl
  g18 := by kernel_rfl
  g19 := by kernel_rfl
  t80 := Tryz.underlying251
  a80 := Tryz.isAgg251
  z80 := Tryz.sizeOf251
  v80 := Tryz.zeroValue251
  i0 := by kernel_rfl
  i2 := by kernel_rfl
  i3 := by kernel_rfl
  i4 := by kernel_rfl
  i5 := by kernel_rfl
  i9 := by kernel_rfl
  i20 := by kernel_rfl
  i37 := by kernel_rfl
  i46 := by kernel_rfl
  i51 := by kernel_rfl
  i53 := by kernel_rfl
  i75 := by kernel_rfl
  i80 := by kernel_rfl
  i127 := by kernel_rfl
  i143 := by kernel_rfl
  i145 := by kernel_rfl
  i167 := by kernel_rfl
  i168 := by kernel_rfl
  i171 := by kernel_rfl
  i173 := by kernel_rfl
  i210 := by kernel_rfl
  i212 := by kernel_rfl
  i232 := by kernel_rfl
  i233 := by kernel_rfl
  m15 := by kernel_rfl
  m16 := by kernel_rfl
  m17 := by kernel_rfl
  m18 := by kernel_rfl
  m19 := by kernel_rfl
  c0 := by kernel_rfl
  c2 := by kernel_rfl
  c3 := by kernel_rfl
  c4 := by kernel_rfl
  c5 := by kernel_rfl
  c9 := by kernel_rfl
  c20 := by kernel_rfl
  c37 := by kernel_rfl
  c46 := by kernel_rfl
  c51 := by kernel_rfl
  c53 := by kernel_rfl
  c75 := by kernel_rfl
  c80 := by kernel_rfl
  c127 := by kernel_rfl
  c143 := by kernel_rfl
  c145 := by kernel_rfl
  c167 := by kernel_rfl
  c168 := by kernel_rfl
  c171 := by kernel_rfl
  c173 := by kernel_rfl
  c210 := by kernel_rfl
  c212 := by kernel_rfl
  c213 := by kernel_rfl
  c232 := by kernel_rfl
  c233 := by kernel_rfl }
open Go.RowKit in
/-- strconv.toError, at the inner package's ErrSyntax: 'syntaxError(fn, s)' as an error: A *NumError IN A NEW BLOCK. (LAID: no walk: one application.) -/
theorem Tryz.strconv_toError_syntax (fn s : ByteArray) (base bits : Int) (ev : Value) (w : World) (hlim : s.size ≤ 281474976710656) (hv : w.cell? ⟨2, 0, none⟩ = some ev) (hev : ev = .nilIface ∨ ∃ te pe, ev = .iface te pe) :
    Calls Tryz.prog 142 #[.string fn, .string s, .int .i64 base, .int .i64 bits, .iface 217 (.int .i64 2)] w fun e w' => ∃ N, e = .returned (.iface 220 (.pointer (some ⟨N, 0, none⟩))) ∧ w.heap.size ≤ N ∧ w'.heap[N]? = some (.cells #[.string fn, .string s, ev] 228 (0, 0)) ∧ Below w.heap.size w w' := Any.strconv_toError_syntax Tryz.laysC245 fn s base bits ev w hlim hv hev
def Tryz.lays321_ren : Go.Shelf.Ren := ⟨fun | 321 => 169 | n => n, fun | 5 => 5 | n => n, fun | n => n⟩
theorem Tryz.lays321 : Go.Proofs.Lays.n321 Tryz.prog Tryz.lays321_ren := {
  mixed := by kernel_rfl
  f321 := Tryz.func169.trans (congrArg some (by kernel_rfl))
  t5 := Tryz.underlying5
  a5 := Tryz.isAgg5
  z5 := Tryz.sizeOf5
  v5 := Tryz.zeroValue5 }
open Go.RowKit in
/-- internal/strconv.lower: 'c | ('x' - 'X')': the bit 32 set. The world is as it was. (LAID: no walk: one application.) -/
theorem Tryz.internal_strconv_lower (c : Int) (w : World) :
    Calls Tryz.prog 169 #[.int .u8 c] w fun e w' => e = .returned (.int .u8 (bits .or .u8 c 32)) ∧ w' = w := Any.internal_strconv_lower Tryz.lays321 c w
def Tryz.laysC172_ren : Go.Shelf.Ren := ⟨fun | 172 => 133 | 244 => 141 | 245 => 142 | 247 => 156 | 279 => 157 | 280 => 158 | 281 => 159 | 282 => 160 | 287 => 161 | 316 => 166 | 171 => 168 | 205 => 167 | 321 => 169 | 322 => 170 | 243 => 172 | 246 => 173 | 283 => 174 | 284 => 175 | 285 => 176 | 286 => 177 | 129 => 179 | 317 => 178 | 318 => 180 | 319 => 181 | 320 => 182 | 337 => 183 | 338 => 184 | n => n, fun | 9 => 9 | 3 => 3 | 75 => 199 | 76 => 200 | 4 => 4 | 5 => 5 | 167 => 217 | 37 => 189 | 0 => 0 | 85 => 218 | 2 => 2 | 168 => 220 | 53 => 208 | 175 => 209 | 46 => 212 | 210 => 228 | 127 => 233 | 145 => 236 | 143 => 234 | 21 => 21 | 171 => 238 | 173 => 241 | 212 => 244 | 51 => 223 | 20 => 20 | 213 => 245 | 232 => 249 | 233 => 250 | 80 => 251 | n => n, fun | 15 => 2 | 16 => 3 | 17 => 4 | 18 => 5 | 19 => 6 | n => n⟩
theorem Tryz.laysC172 : Go.Proofs.LaysC.n172 Tryz.prog Tryz.laysC172_ren := {
  mixed := by kernel_rfl
  f129 := Tryz.func179.trans (congrArg some (by kernel_rfl))
  f171 := Tryz.func168.trans (congrArg some (by kernel_rfl))
  f172 := Tryz.func133.trans (congrArg some (by kernel_rfl))
  f205 := Tryz.func167.trans (congrArg some (by kernel_rfl))
  f243 := Tryz.func172.trans (congrArg some (by kernel_rfl))
  f244 := Tryz.func141.trans (congrArg some (by kernel_rfl))
  f245 := Tryz.func142.trans (congrArg some (by kernel_rfl))
  f246 := Tryz.func173.trans (congrArg some (by kernel_rfl))
  f247 := Tryz.func156.trans (congrArg some (by kernel_rfl))
  f279 := Tryz.func157.trans (congrArg some (by kernel_rfl))
  f280 := Tryz.func158.trans (congrArg some (by kernel_rfl))
  f281 := Tryz.func159.trans (congrArg some (by kernel_rfl))
  f282 := Tryz.func160.trans (congrArg some (by kernel_rfl))
  f283 := Tryz.func174.trans (congrArg some (by kernel_rfl))
  f284 := Tryz.func175.trans (congrArg some (by kernel_rfl))
  f285 := Tryz.func176.trans (congrArg some (by kernel_rfl))
  f286 := Tryz.func177.trans (congrArg some (by kernel_rfl))
  f287 := Tryz.func161.trans (congrArg some (by kernel_rfl))
  f316 := Tryz.func166.trans (congrArg some (by kernel_rfl))
  f317 := Tryz.func178.trans (congrArg some (by kernel_rfl))
  f318 := Tryz.func180.trans (congrArg some (by kernel_rfl))
  f319 := Tryz.func181.trans (congrArg some (by kernel_rfl))
  f320 := Tryz.func182.trans (congrArg some (by kernel_rfl))
  f321 := Tryz.func169.trans (congrArg some (by kernel_rfl))
  f322 := Tryz.func170.trans (congrArg some (by kernel_rfl))
  f337 := Tryz.func183.trans (congrArg some (by kernel_rfl))
  f338 := Tryz.func184.trans (congrArg some (by kernel_rfl))
  t0 := Tryz.underlying0
  a0 := Tryz.isAgg0
  z0 := Tryz.sizeOf0
  v0 := Tryz.zeroValue0
  t2 := Tryz.underlying2
  a2 := Tryz.isAgg2
  z2 := Tryz.sizeOf2
  v2 := Tryz.zeroValue2
  t3 := Tryz.underlying3
  a3 := Tryz.isAgg3
  z3 := Tryz.sizeOf3
  v3 := Tryz.zeroValue3
  t4 := Tryz.underlying4
  a4 := Tryz.isAgg4
  z4 := Tryz.sizeOf4
  v4 := Tryz.zeroValue4
  t5 := Tryz.underlying5
  a5 := Tryz.isAgg5
  z5 := Tryz.sizeOf5
  v5 := Tryz.zeroValue5
  t9 := Tryz.underlying9
  a9 := Tryz.isAgg9
  z9 := Tryz.sizeOf9
  v9 := Tryz.zeroValue9
  t20 := Tryz.underlying20
  a20 := Tryz.isAgg20
  z20 := Tryz.sizeOf20
  v20 := Tryz.zeroValue20
  t21 := Tryz.underlying21
  a21 := Tryz.isAgg21
  z21 := Tryz.sizeOf21
  v21 := Tryz.zeroValue21
  t37 := Tryz.underlying189
  a37 := Tryz.isAgg189
  z37 := Tryz.sizeOf189
  v37 := Tryz.zeroValue189
  t46 := Tryz.underlying212
  a46 := Tryz.isAgg212
  z46 := Tryz.sizeOf212
  v46 := Tryz.zeroValue212
  t51 := Tryz.underlying223
  a51 := Tryz.isAgg223
  z51 := Tryz.sizeOf223
  v51 := Tryz.zeroValue223
  t53 := Tryz.underlying208
  a53 := Tryz.isAgg208
  z53 := Tryz.sizeOf208
  v53 := Tryz.zeroValue208
  t75 := Tryz.underlying199
  a75 := Tryz.isAgg199
  z75 := Tryz.sizeOf199
  v75 := Tryz.zeroValue199
  t76 := Tryz.underlying200
  a76 := Tryz.isAgg200
  z76 := Tryz.sizeOf200
  v76 := Tryz.zeroValue200
  t85 := Tryz.underlying218
  a85 := Tryz.isAgg218
  z85 := Tryz.sizeOf218
  v85 := Tryz.zeroValue218
  t127 := Tryz.underlying233
  a127 := Tryz.isAgg233
  z127 := Tryz.sizeOf233
  v127 := Tryz.zeroValue233
  t143 := Tryz.underlying234
  a143 := Tryz.isAgg234
  z143 := Tryz.sizeOf234
  v143 := Tryz.zeroValue234
  t145 := Tryz.underlying236
  a145 := Tryz.isAgg236
  z145 := Tryz.sizeOf236
  v145 := Tryz.zeroValue236
  t167 := Tryz.underlying217
  a167 := Tryz.isAgg217
  z167 := Tryz.sizeOf217
  v167 := Tryz.zeroValue217
  t168 := Tryz.underlying220
  a168 := Tryz.isAgg220
  z168 := Tryz.sizeOf220
  v168 := Tryz.zeroValue220
  t171 := Tryz.underlying238
  a171 := Tryz.isAgg238
  z171 := Tryz.sizeOf238
  v171 := Tryz.zeroValue238
  t173 := Tryz.underlying241
  a173 := Tryz.isAgg241
  z173 := Tryz.sizeOf241
  v173 := Tryz.zeroValue241
  t175 := Tryz.underlying209
  a175 := Tryz.isAgg209
  z175 := Tryz.sizeOf209
  v175 := Tryz.zeroValue209
  t210 := Tryz.underlying228
  a210 := Tryz.isAgg228
  z210 := Tryz.sizeOf228
  v210 := Tryz.zeroValue228
  t212 := Tryz.underlying244
  a212 := Tryz.isAgg244
  z212 := Tryz.sizeOf244
  v212 := Tryz.zeroValue244
  t213 := Tryz.underlying245
  a213 := Tryz.isAgg245
  z213 := Tryz.sizeOf245
  t232 := Tryz.underlying249
  a232 := Tryz.isAgg249
  z232 := Tryz.sizeOf249
  v232 := Tryz.zeroValue249
  t233 := Tryz.underlying250
  a233 := Tryz.isAgg250
  z233 := Tryz.sizeOf250
  v233 := Tryz.zeroValue250
  g15 := by kernel_rfl
  g16 := by kernel_rfl
  g17 := by kernel_rfl
  g18 := by kernel_rfl
  g19 := by kernel_rfl
  t80 := Tryz.underlying251
  a80 := Tryz.isAgg251
  z80 := Tryz.sizeOf251
  v80 := Tryz.zeroValue251
  i0 := by kernel_rfl
  i2 := by kernel_rfl
  i3 := by kernel_rfl
  i4 := by kernel_rfl
  i5 := by kernel_rfl
  i9 := by kernel_rfl
  i20 := by kernel_rfl
  i21 := by kernel_rfl
  i37 := by kernel_rfl
  i46 := by kernel_rfl
  i51 := by kernel_rfl
  i53 := by kernel_rfl
  i75 := by kernel_rfl
  i76 := by kernel_rfl
  i80 := by kernel_rfl
  i85 := by kernel_rfl
  i127 := by kernel_rfl
  i143 := by kernel_rfl
  i145 := by kernel_rfl
  i167 := by kernel_rfl
  i168 := by kernel_rfl
  i171 := by kernel_rfl
  i173 := by kernel_rfl
  i175 := by kernel_rfl
  i210 := by kernel_rfl
  i212 := by kernel_rfl
  i232 := by kernel_rfl
  i233 := by kernel_rfl
  m15 := by kernel_rfl
  m16 := by kernel_rfl
  m17 := by kernel_rfl
  m18 := by kernel_rfl
  m19 := by kernel_rfl
  c0 := by kernel_rfl
  c2 := by kernel_rfl
  c3 := by kernel_rfl
  c4 := by kernel_rfl
  c5 := by kernel_rfl
  c9 := by kernel_rfl
  c20 := by kernel_rfl
  c21 := by kernel_rfl
  c37 := by kernel_rfl
  c46 := by kernel_rfl
  c51 := by kernel_rfl
  c53 := by kernel_rfl
  c75 := by kernel_rfl
  c76 := by kernel_rfl
  c80 := by kernel_rfl
  c85 := by kernel_rfl
  c127 := by kernel_rfl
  c143 := by kernel_rfl
  c145 := by kernel_rfl
  c167 := by kernel_rfl
  c168 := by kernel_rfl
  c171 := by kernel_rfl
  c173 := by kernel_rfl
  c175 := by kernel_rfl
  c210 := by kernel_rfl
  c212 := by kernel_rfl
  c213 := by kernel_rfl
  c232 := by kernel_rfl
  c233 := by kernel_rfl }
open Go.RowKit in
/-- strconv.Atoi, AT EVERY STRING THAT SPELLS AN int ('Lib.atoiAll .. = .ok v'; of whatever length: leading zeros count): v, AND NO ERROR. The world: as it was, or with the one new row that '[]byte(..)' lays. (LAID: no walk: one application.) -/
theorem Tryz.strconv_Atoi_ok (s : ByteArray) (hmax : s.size ≤ 9223372036854775806) (v : Int) (h : Lib.atoiAll s.data.toList = .ok v) (w : World) :
    Calls Tryz.prog 133 #[.string s] w fun e w' => e = .returned (.tuple #[.int .i64 v, .nilIface]) ∧ (w' = w ∨ ∃ t, w' = Lib.bytesWorld w 5 t) := Any.strconv_Atoi_ok Tryz.laysC172 s hmax v h w
open Go.RowKit in
theorem Tryz.strconv_Atoi_range_var (s : ByteArray) (hlim : s.size ≤ 281474976710656) (h : Lib.atoiAll s.data.toList = .range) (tp : TypeId) (p : Value) (w : World) (hvar : w.var? Tryz.prog "strconv.ErrRange" = some #[.iface tp p]) :
    Calls Tryz.prog 133 #[.string s] w fun e w' => ∃ N, e = .returned (.tuple #[.int .i64 (Lib.atoiSat s.data.toList), .iface 220 (.pointer (some ⟨N, 0, none⟩))]) ∧ w.heap.size ≤ N ∧ w'.heap[N]? = some (.cells #[.string ⟨#[65, 116, 111, 105]⟩, .string s, .iface tp p] 228 (0, 0)) ∧ Below w.heap.size w w' := Any.strconv_Atoi_range_var Tryz.laysC172 s hlim h tp p w hvar
def Tryz.lays138_ren : Go.Shelf.Ren := ⟨fun | 138 => 100 | 195 => 124 | 218 => 125 | 143 => 126 | 219 => 136 | 217 => 144 | 225 => 145 | 224 => 146 | 267 => 147 | 266 => 162 | 314 => 163 | n => n, fun | 9 => 9 | 3 => 3 | 4 => 4 | 5 => 5 | 0 => 0 | 46 => 212 | 146 => 224 | 51 => 223 | n => n, fun | 1 => 1 | n => n⟩
theorem Tryz.lays138 : Go.Proofs.Lays.n138 Tryz.prog Tryz.lays138_ren := {
  mixed := by kernel_rfl
  f138 := Tryz.func100.trans (congrArg some (by kernel_rfl))
  f143 := Tryz.func126.trans (congrArg some (by kernel_rfl))
  f195 := Tryz.func124.trans (congrArg some (by kernel_rfl))
  f217 := Tryz.func144.trans (congrArg some (by kernel_rfl))
  f218 := Tryz.func125.trans (congrArg some (by kernel_rfl))
  f219 := Tryz.func136.trans (congrArg some (by kernel_rfl))
  f224 := Tryz.func146.trans (congrArg some (by kernel_rfl))
  f225 := Tryz.func145.trans (congrArg some (by kernel_rfl))
  f266 := Tryz.func162.trans (congrArg some (by kernel_rfl))
  f267 := Tryz.func147.trans (congrArg some (by kernel_rfl))
  f314 := Tryz.func163.trans (congrArg some (by kernel_rfl))
  t0 := Tryz.underlying0
  a0 := Tryz.isAgg0
  z0 := Tryz.sizeOf0
  v0 := Tryz.zeroValue0
  t3 := Tryz.underlying3
  a3 := Tryz.isAgg3
  z3 := Tryz.sizeOf3
  v3 := Tryz.zeroValue3
  t4 := Tryz.underlying4
  a4 := Tryz.isAgg4
  z4 := Tryz.sizeOf4
  v4 := Tryz.zeroValue4
  t5 := Tryz.underlying5
  a5 := Tryz.isAgg5
  z5 := Tryz.sizeOf5
  v5 := Tryz.zeroValue5
  t9 := Tryz.underlying9
  a9 := Tryz.isAgg9
  z9 := Tryz.sizeOf9
  v9 := Tryz.zeroValue9
  t46 := Tryz.underlying212
  a46 := Tryz.isAgg212
  z46 := Tryz.sizeOf212
  v46 := Tryz.zeroValue212
  t51 := Tryz.underlying223
  a51 := Tryz.isAgg223
  z51 := Tryz.sizeOf223
  v51 := Tryz.zeroValue223
  t146 := Tryz.underlying224
  a146 := Tryz.isAgg224
  z146 := Tryz.sizeOf224
  v146 := Tryz.zeroValue224
  g1 := by kernel_rfl }
open Go.RowKit Go.Lib in
/-- strings.Count AT A substr OF ONE BYTE ('hp'): "Count counts the number of non-overlapping instances of substr in s.": IT RETURNS 'Lib.countByte s (that byte)'; the world is as it was. ✋ NO CONTRACT HERE YET at an empty substr (utf8.RuneCountInString) or at a longer one (a loop over strings.Index). (LAID: no walk: one application.) -/
theorem Tryz.strings_Count_one (s : ByteArray) (c : UInt8) (w : World) :
    Calls Tryz.prog 100 #[.string s, .string ⟨#[c]⟩] w fun e w' => e = .returned (.int .i64 (Lib.countByte s.data.toList c)) ∧ w' = w := Any.strings_Count_one Tryz.lays138 s c w
def Tryz.lays149_ren : Go.Shelf.Ren := ⟨fun | 149 => 101 | 222 => 127 | n => n, fun | 9 => 9 | 5 => 5 | 3 => 3 | 4 => 4 | n => n, fun | n => n⟩
theorem Tryz.lays149 : Go.Proofs.Lays.n149 Tryz.prog Tryz.lays149_ren := {
  mixed := by kernel_rfl
  f149 := Tryz.func101.trans (congrArg some (by kernel_rfl))
  f222 := Tryz.func127.trans (congrArg some (by kernel_rfl))
  t3 := Tryz.underlying3
  a3 := Tryz.isAgg3
  z3 := Tryz.sizeOf3
  v3 := Tryz.zeroValue3
  t4 := Tryz.underlying4
  a4 := Tryz.isAgg4
  z4 := Tryz.sizeOf4
  v4 := Tryz.zeroValue4
  t5 := Tryz.underlying5
  a5 := Tryz.isAgg5
  z5 := Tryz.sizeOf5
  v5 := Tryz.zeroValue5
  t9 := Tryz.underlying9
  a9 := Tryz.isAgg9
  z9 := Tryz.sizeOf9
  v9 := Tryz.zeroValue9 }
open Go.RowKit Go.Lib in
/-- strings.LastIndexByte: "LastIndexByte returns the index of the last instance of c in s, or -1 if c is not present in s." (LAID: no walk: one application.) -/
theorem Tryz.strings_LastIndexByte (s : ByteArray) (c : Int) (hs : s.size < 4611686018427387904) (w : World) :
    Calls Tryz.prog 101 #[.string s, .int .u8 c] w fun e w' => e = .returned (.int .i64 (Lib.lastIndexByte s c)) ∧ w' = w := Any.strings_LastIndexByte Tryz.lays149 s c hs w
def Tryz.lays99_ren : Go.Shelf.Ren := ⟨fun | 99 => 122 | 206 => 135 | n => n, fun | 9 => 9 | 4 => 4 | 3 => 3 | n => n, fun | n => n⟩
theorem Tryz.lays99 : Go.Proofs.Lays.n99 Tryz.prog Tryz.lays99_ren := {
  mixed := by kernel_rfl
  f99 := Tryz.func122.trans (congrArg some (by kernel_rfl))
  f206 := Tryz.func135.trans (congrArg some (by kernel_rfl))
  t3 := Tryz.underlying3
  a3 := Tryz.isAgg3
  z3 := Tryz.sizeOf3
  v3 := Tryz.zeroValue3
  t4 := Tryz.underlying4
  a4 := Tryz.isAgg4
  z4 := Tryz.sizeOf4
  v4 := Tryz.zeroValue4
  t9 := Tryz.underlying9
  a9 := Tryz.isAgg9
  z9 := Tryz.sizeOf9
  v9 := Tryz.zeroValue9 }
open Go.RowKit Go.Lib in
/-- strings.HasPrefix: "HasPrefix reports whether the string s begins with prefix.": IT RETURNS 'Lib.hasPrefix s prefix'; the world is as it was. (LAID: no walk: one application.) -/
theorem Tryz.strings_HasPrefix (s p : ByteArray) (w : World) :
    Calls Tryz.prog 122 #[.string s, .string p] w fun e w' => e = .returned (.bool (Lib.hasPrefix s.data.toList p.data.toList)) ∧ w' = w := Any.strings_HasPrefix Tryz.lays99 s p w
end Go.Proofs
/- TWO HEX DIGITS: strconv.ParseUint at them. -/
namespace Go.Proofs.YtppigckioalhhaaGreatDoorR
open Go.RowKit
set_option linter.unusedVariables false
set_option linter.unusedSimpArgs false
set_option maxRecDepth 100000

def lowF (c : Nat) : Nat := c ||| 32
theorem lower_any (c : Nat) (hc : c < 256) (w : World) :
    Calls Tryz.prog 169 #[.int .u8 (c : Int)] w fun e w' => e = .returned (.int .u8 (lowF c : Nat)) ∧ w = w' := by
  refine (Tryz.internal_strconv_lower (c : Int) w).mono ?_
  rintro e w' ⟨rfl, rfl⟩
  refine ⟨ret_int ?_, rfl⟩
  have : ∀ c : Fin 256, bits BinOp.or IntKind.u8 (c.1 : Int) 32 = (lowF c.1 : Nat) := by decide +kernel
  exact this ⟨c, hc⟩
theorem lowF_lt (c : Nat) (hc : c < 256) : lowF c < 256 := by
  have : ∀ c : Fin 256, lowF c.1 < 256 := by decide +kernel
  exact this ⟨c, hc⟩
theorem hex_cases (c : Nat) (hc : c < 256) : (48 ≤ c ∧ c ≤ 57 ∧ Lx.hexv c = some (c - 48)) ∨ (¬ (48 ≤ c ∧ c ≤ 57) ∧ 97 ≤ lowF c ∧ lowF c ≤ 102 ∧ Lx.hexv c = some (lowF c - 87)) ∨
    (¬ (48 ≤ c ∧ c ≤ 57) ∧ lowF c < 97 ∧ Lx.hexv c = none) ∨ (¬ (48 ≤ c ∧ c ≤ 57) ∧ 103 ≤ lowF c ∧ Lx.hexv c = none) := by
  have : ∀ c : Fin 256, (48 ≤ c.1 ∧ c.1 ≤ 57 ∧ Lx.hexv c.1 = some (c.1 - 48)) ∨ (¬ (48 ≤ c.1 ∧ c.1 ≤ 57) ∧ 97 ≤ lowF c.1 ∧ lowF c.1 ≤ 102 ∧ Lx.hexv c.1 = some (lowF c.1 - 87)) ∨
    (¬ (48 ≤ c.1 ∧ c.1 ≤ 57) ∧ lowF c.1 < 97 ∧ Lx.hexv c.1 = none) ∨ (¬ (48 ≤ c.1 ∧ c.1 ≤ 57) ∧ 103 ≤ lowF c.1 ∧ Lx.hexv c.1 = none) := by decide +kernel
  exact this ⟨c, hc⟩

def hexL (l : List Nat) : Option Nat := l.foldl (fun o c => match o, Lx.hexv c with | some n, some d => some (16 * n + d) | _, _ => none) (some 0)
def hexR : Option Nat → Value
  | some n => .tuple #[.int .u64 (n : Nat), .nilIface]
  | none => .tuple #[.int .u64 0, .iface 217 (.int .i64 2)]

theorem hexL_step (l : List Nat) (c : Nat) : hexL (l ++ [c]) = match hexL l, Lx.hexv c with | some n, some d => some (16 * n + d) | _, _ => none := by
  unfold hexL; rw [List.foldl_append]; rfl
theorem hexL_none (l : List Nat) (k : Nat) (h : ∀ n, hexL (l.take k) ≠ some n) : hexL l = none := by
  have key : ∀ (r a : List Nat), hexL a = none → hexL (a ++ r) = none := by
    intro r
    induction r with
    | nil => intro a h; simpa using h
    | cons c r ih =>
      intro a h
      have := ih (a ++ [c]) (by rw [hexL_step, h])
      simpa using this
  have h0 : hexL (l.take k) = none := by
    cases hx : hexL (l.take k) with
    | none => rfl
    | some n => exact absurd hx (h n)
  have := key (l.drop k) _ h0
  rwa [List.take_append_drop] at this
theorem getD_lt' {l : List Nat} (h : ∀ c ∈ l, c < 256) (i : Nat) : l.getD i 0 < 256 := by
  rcases Nat.lt_or_ge i l.length with hi | hi
  · rw [List.getD_eq_getElem?_getD, List.getElem?_eq_getElem hi]
    exact h _ (List.getElem_mem hi)
  · rw [List.getD_eq_getElem?_getD, List.getElem?_eq_none hi]
    decide
theorem bytes_read (w : World) (s : ByteArray) (cap : Nat) (fr : Nat × Nat) (k : Nat) (hk : k < s.size) :
    ((w.alloc (.cells (bytesRow s cap) 5 fr)).drew).cell? ⟨w.heap.size, k, none⟩ = some (.int .u8 ((Cod.str s).getD k 0 : Nat)) := by
  show (w.alloc (Obj.cells _ _ _)).cell? _ = _
  rw [World.cell?_alloc_mark, bytesRow_at _ _ k hk, Lx.get_str _ _ hk]
  rfl

set_option maxHeartbeats 2000000 in
theorem parse_inner (t : ByteArray) (ht : t.size = 2) (w : World) :
    Calls Tryz.prog 161 #[.string t, .int .i64 16, .int .i64 8] w fun e w' => e = .returned (hexR (hexL (Cod.str t))) ∧ Mod [] w w' := by
  have hcv := fun w s => run_bytes_of_string (P := Tryz.prog) w 9 189 5 s Tryz.underlying9 Tryz.underlying189 Tryz.underlying5
  have hem : t.toList.isEmpty = false := by rw [toList_isEmpty, ht]; rfl
  have hsz := Lib.hid ht
  have ht1 : t.size ≤ 2 := by omega
  have ht2 : 2 ≤ t.size := by omega
  clear ht
  go_enter Tryz.func161, Tryz.ntmps161
  go_wp2_with fail
  have hbyte : Hid (∀ k, k < t.size → ((w.alloc (Obj.cells (bytesRow t (grownCap w t.size 0 5)) 5 ((bytesRow t (grownCap w t.size 0 5)).size, (bytesRow t (grownCap w t.size 0 5)).size + 1))).drew).cell? ⟨w.heap.size, k, none⟩ = some (.int .u8 ((Cod.str t).getD k 0 : Nat))) := Lib.hid (fun k hk => bytes_read w t _ _ k hk)
  have hm0 : Mod [] w ((w.alloc (Obj.cells (bytesRow t (grownCap w t.size 0 5)) 5 ((bytesRow t (grownCap w t.size 0 5)).size, (bytesRow t (grownCap w t.size 0 5)).size + 1))).drew) := ((Mod.refl [] w).alloc _).drew
  have hlt := Cod.str_lt t
  have hll := Cod.str_len t
  generalize hw2 : ((w.alloc (Obj.cells (bytesRow t (grownCap w t.size 0 5)) 5 ((bytesRow t (grownCap w t.size 0 5)).size, (bytesRow t (grownCap w t.size 0 5)).size + 1))).drew) = w2 at *
  generalize grownCap w t.size 0 5 = cap at *
  have HLL := Lib.hid hll
  clear hcv hw2 hll
  obtain ⟨C, hC, hCe⟩ : ∃ C : Int, 1000 ≤ C ∧ C = 1152921504606846976 := ⟨_, by decide, rfl⟩
  rw [← hCe]
  clear hCe
  go_loopw [12, 13, 101] (fun u a i wr => ∃ (k n : Nat), u = .bool false ∧ k ≤ t.size ∧ i = .int .i64 (k : Int) ∧ a = .int .u64 (n : Int) ∧ hexL ((Cod.str t).take k) = some n ∧ n < 16 ^ k ∧ wr = w2) (fun _ _ i _ => 2 - (intOf i).toNat)
  case atStart => exact ⟨0, 0, rfl, Nat.zero_le _, rfl, rfl, rfl, by decide, rfl⟩
  case round =>
    obtain ⟨k, n, rfl, hk, rfl, rfl, hx, hn, rfl⟩ := hrel
    by_cases hlk : k < t.size
    · have hn1 : n ≤ 15 := by
        have : 16 ^ k ≤ 16 ^ 1 := Nat.pow_le_pow_right (by decide) (by omega)
        omega
      have hb := hbyte.out k hlk
      have hc := getD_lt' hlt k
      have hsn := take_snoc (Cod.str t) 0 k (by rw [HLL.out]; omega)
      have hxs : hexL ((Cod.str t).take (k + 1)) = match Lx.hexv ((Cod.str t).getD k 0) with | some d => some (16 * n + d) | none => none := by
        rw [hsn, hexL_step, hx]; cases Lx.hexv ((Cod.str t).getD k 0) <;> rfl
      have hall : (∀ n, hexL ((Cod.str t).take (k + 1)) ≠ some n) → hexL (Cod.str t) = none := fun h => hexL_none (Cod.str t) (k + 1) h
      generalize (Cod.str t).getD k 0 = c at *
      have h95 : ((c : Int) == 95) = decide (c = 95) := by rw [Bool.eq_iff_iff]; simp; omega
      rcases hex_cases c hc with ⟨h1, h2, hv⟩ | ⟨h1, h2, h3, hv⟩ | ⟨h1, h2, hv⟩ | ⟨h1, h2, hv⟩
      · rw [hv] at hxs
        have h95 : ((c : Int) == 95) = false := by rw [beq_eq_false_iff_ne]; omega
        have HX := Lib.hid hxs; have HN := Lib.hid hn
        clear hxs hsn hall hv hx hn hlt hem
        go_wp2_with fail
        go_roundw
        case rel =>
          refine ⟨k + 1, 16 * n + (c - 48), rfl, by omega, by go_num, ?_, HX.out, ?_, trivial⟩
          · congr 1; omega
          · have := HN.out; rw [Nat.pow_succ]; omega
        case measure => simp [intOf]; omega
      · rw [hv] at hxs
        have h95 : ¬ c = 95 := by
          intro h
          subst h
          revert hv; decide
        have hl := lowF_lt c hc
        have hd1 : ¬ ((48 : Int) ≤ (c : Int) ∧ (c : Int) ≤ 57) := by omega
        have hL : Hid (∀ w, Calls Tryz.prog 169 #[.int .u8 (c : Int)] w fun e w' => e = .returned (.int .u8 (lowF c : Nat)) ∧ w = w') := Lib.hid (lower_any c hc)
        generalize lowF c = u at *
        have HX := Lib.hid hxs; have HN := Lib.hid hn
        clear hxs hsn hall hv hx hn hlt hem
        have hcs : (c : Int) < 48 ∨ (57 < (c : Int) ∧ 48 ≤ (c : Int)) := by omega
        clear hd1 h1
        rcases hcs with hd1 | ⟨hd1, hd2⟩
        all_goals
          go_wp2_with fail
          refine (hL.out _).mono ?_
          rintro e w3 ⟨rfl, rfl⟩
          go_wp2_with fail
          refine (hL.out _).mono ?_
          rintro e w3 ⟨rfl, rfl⟩
          go_wp2_with fail
          refine (hL.out _).mono ?_
          rintro e w3 ⟨rfl, rfl⟩
          go_wp2_with fail
          go_roundw
          case rel =>
            refine ⟨k + 1, 16 * n + (u - 87), rfl, by omega, by go_num, ?_, HX.out, ?_, trivial⟩
            · congr 1; omega
            · have := HN.out; rw [Nat.pow_succ]; omega
          case measure => simp [intOf]; omega
      · rw [hv] at hxs
        have hR := Lib.hid (hall (by rw [hxs]; simp))
        have hl := lowF_lt c hc
        have hd1 : ¬ ((48 : Int) ≤ (c : Int) ∧ (c : Int) ≤ 57) := by omega
        have hL : Hid (∀ w, Calls Tryz.prog 169 #[.int .u8 (c : Int)] w fun e w' => e = .returned (.int .u8 (lowF c : Nat)) ∧ w = w') := Lib.hid (lower_any c hc)
        generalize lowF c = u at *
        clear hxs hsn hall hv hx hn hlt hem
        have hcs : (c : Int) < 48 ∨ (57 < (c : Int) ∧ 48 ≤ (c : Int)) := by omega
        clear hd1 h1
        have hb' := Lib.hid hb
        by_cases h95 : c = 95
        · subst h95
          clear hcs
          go_wp2_with fail
          refine (hL.out _).mono ?_
          rintro e w3 ⟨rfl, rfl⟩
          go_wp2_with fail
          go_ret2
          exact ⟨by rw [hR.out]; rfl, hm0⟩
        · rcases hcs with hd1 | ⟨hd1, hd2⟩
          all_goals
            go_wp2_with fail
            refine (hL.out _).mono ?_
            rintro e w3 ⟨rfl, rfl⟩
            go_wp2_with fail
            go_ret2
            exact ⟨by rw [hR.out]; rfl, hm0⟩
      · rw [hv] at hxs
        have hR := Lib.hid (hall (by rw [hxs]; simp))
        have hl := lowF_lt c hc
        have hd1 : ¬ ((48 : Int) ≤ (c : Int) ∧ (c : Int) ≤ 57) := by omega
        have hL : Hid (∀ w, Calls Tryz.prog 169 #[.int .u8 (c : Int)] w fun e w' => e = .returned (.int .u8 (lowF c : Nat)) ∧ w = w') := Lib.hid (lower_any c hc)
        generalize lowF c = u at *
        clear hxs hsn hall hv hx hn hlt hem
        have hcs : (c : Int) < 48 ∨ (57 < (c : Int) ∧ 48 ≤ (c : Int)) := by omega
        clear hd1 h1
        have hb' := Lib.hid hb
        rcases Nat.lt_or_ge 122 u with hu | hu
        · by_cases h95 : c = 95
          · subst h95
            clear hcs
            go_wp2_with fail
            refine (hL.out _).mono ?_
            rintro e w3 ⟨rfl, rfl⟩
            go_wp2_with fail
            refine (hL.out _).mono ?_
            rintro e w3 ⟨rfl, rfl⟩
            go_wp2_with fail
            go_ret2
            exact ⟨by rw [hR.out]; rfl, hm0⟩
          · rcases hcs with hd1 | ⟨hd1, hd2⟩
            all_goals
              go_wp2_with fail
              refine (hL.out _).mono ?_
              rintro e w3 ⟨rfl, rfl⟩
              go_wp2_with fail
              refine (hL.out _).mono ?_
              rintro e w3 ⟨rfl, rfl⟩
              go_wp2_with fail
              go_ret2
              exact ⟨by rw [hR.out]; rfl, hm0⟩
        · by_cases h95 : c = 95
          · subst h95
            clear hcs
            go_wp2_with fail
            refine (hL.out _).mono ?_
            rintro e w3 ⟨rfl, rfl⟩
            go_wp2_with fail
            refine (hL.out _).mono ?_
            rintro e w3 ⟨rfl, rfl⟩
            go_wp2_with fail
            refine (hL.out _).mono ?_
            rintro e w3 ⟨rfl, rfl⟩
            go_wp2_with fail
            go_ret2
            exact ⟨by rw [hR.out]; rfl, hm0⟩
          · rcases hcs with hd1 | ⟨hd1, hd2⟩
            all_goals
              go_wp2_with fail
              refine (hL.out _).mono ?_
              rintro e w3 ⟨rfl, rfl⟩
              go_wp2_with fail
              refine (hL.out _).mono ?_
              rintro e w3 ⟨rfl, rfl⟩
              go_wp2_with fail
              refine (hL.out _).mono ?_
              rintro e w3 ⟨rfl, rfl⟩
              go_wp2_with fail
              go_ret2
              exact ⟨by rw [hR.out]; rfl, hm0⟩
    · have e : (Cod.str t).take k = Cod.str t := by rw [List.take_of_length_le]; rw [HLL.out]; omega
      rw [e] at hx
      have HX := Lib.hid hx
      clear hx hn hlt hem
      go_wp2_with fail
      go_ret2
      exact ⟨by rw [HX.out]; rfl, hm0⟩
end Go.Proofs.YtppigckioalhhaaGreatDoorR
/- WHAT STANDS BEHIND A BACKSLASH: the program's escape. -/
namespace Go.Proofs.YtppigckioalhhaaGreatDoorR
open Go.RowKit
set_option linter.unusedVariables false
set_option linter.unusedSimpArgs false
set_option maxRecDepth 100000

/-- the package-level variables that these walks read -/
def markL : List (List Nat) := [[58, 45], [33, 61], [60, 61], [62, 61], [40], [41], [123], [125], [44], [46], [58], [61], [60], [62], [43], [45], [42], [47], [95]]
structure Glob (w : World) : Prop where
  marks : ∃ T fr, w.heap[0]? = some (.cells (markL.map fun l => Value.string (Lx.ofS l)).toArray T fr)
  syn : ∃ tp p T fr, w.heap[2]? = some (.cells #[.iface tp p] T fr)
  rng : ∃ tp p T fr, w.heap[3]? = some (.cells #[.iface tp p] T fr)
theorem Glob.keep {S : List Nat} {w w' : World} (h : Glob w) (hm : Mod S w w') (hS : ∀ t ∈ S, 4 ≤ t) : Glob w' := by
  obtain ⟨⟨T0, f0, h0⟩, ⟨t1, p1, T1, f1, h1⟩, ⟨t2, p2, T2, f2, h2⟩⟩ := h
  refine ⟨⟨T0, f0, hm.at h0 ?_⟩, ⟨t1, p1, T1, f1, hm.at h1 ?_⟩, ⟨t2, p2, T2, f2, hm.at h2 ?_⟩⟩
  all_goals
    intro hb
    have := hS _ hb
    omega
theorem Glob.size {w : World} (h : Glob w) : 4 ≤ w.heap.size := by
  obtain ⟨t2, p2, T2, f2, h2⟩ := h.rng
  have := lt_of_block h2
  omega
theorem Glob.past {S : List Nat} {w w' : World} (h : Glob w) (hm : Mod S w w') (hS : ∀ t ∈ S, w.heap.size ≤ t) : Glob w' :=
  h.keep hm (fun t ht => by have := hS t ht; have := h.size; omega)

theorem parse_outer (t : ByteArray) (ht : t.size = 2) (w : World) (hG : Glob w) :
    Calls Tryz.prog 143 #[.string t, .int .i64 16, .int .i64 8] w fun e w' => (match hexL (Cod.str t) with
      | some n => e = .returned (.tuple #[.int .u64 (n : Nat), .nilIface])
      | none => ∃ ty v, e = .returned (.tuple #[.int .u64 0, .iface ty v])) ∧ Mod [] w w' := by
  cases hx : hexL (Cod.str t) with
  | some n =>
    have hin := parse_inner t ht w
    rw [hx] at hin
    have HI := Lib.hid hin
    clear hin hx
    go_enter Tryz.func143, Tryz.ntmps143
    go_wp2_with fail
    refine HI.out.mono ?_
    rintro e w2 ⟨rfl, hm2⟩
    unfold hexR
    go_wp2_with fail
    go_ret2
    exact ⟨rfl, hm2⟩
  | none =>
    have hin := parse_inner t ht w
    rw [hx] at hin
    have HI := Lib.hid hin
    obtain ⟨tp, p, T, fr, hs⟩ := hG.syn
    have hs1 : w.cell? ⟨2, 0, none⟩ = some (.iface tp p) := by simp [World.cell?, hs]
    have HS := Lib.hid hs1
    have hts : t.size ≤ 281474976710656 := by omega
    clear hin hx hs hs1 hG
    go_enter Tryz.func143, Tryz.ntmps143
    go_wp2_with fail
    refine HI.out.mono ?_
    rintro e w2 ⟨rfl, hm2⟩
    have hs2 := hm2.cell HS.out (by simp)
    unfold hexR
    go_wp2_with fail
    refine (Tryz.strconv_toError_syntax _ t 16 8 _ _ hts hs2 (.inr ⟨_, _, rfl⟩)).mono ?_
    rintro e w3 ⟨N, rfl, -, -, hb3⟩
    go_wp2_with fail
    go_ret2
    exact ⟨⟨_, _, rfl⟩, hm2.trans (Mod.of_below hb3) (by simp)⟩

def escV (l : List Nat) : Nat × Nat := match Lx.esc l with | some (b, m) => (b, m) | none => (0, 0)

set_option maxHeartbeats 1000000 in
theorem escape_any (s : ByteArray) (hs : s.size ≤ 65536) (w : World) (hG : Glob w) :
    Calls Tryz.prog 134 #[.string s] w fun e w' => e = .returned (.tuple #[.int .u8 ((escV (Cod.str s)).1 : Nat), .int .i64 ((escV (Cod.str s)).2 : Nat)]) ∧ Mod [] w w' := by
  have hlt := Cod.str_lt s
  have hsz := Cod.str_len s
  cases hl : Cod.str s with
  | nil =>
    rw [hl] at hsz
    have hem : s.toList.isEmpty = true := by rw [toList_isEmpty, ← hsz]; rfl
    clear hsz hl hlt
    go_enter Tryz.func134, Tryz.ntmps134
    go_wp2_with fail
    go_ret2
    exact ⟨rfl, Mod.refl _ _⟩
  | cons c r =>
    rw [hl] at hsz
    have h0 : 0 < s.size := by rw [← hsz]; simp
    have hem : s.toList.isEmpty = false := by rw [toList_isEmpty, ← hsz]; rfl
    have hc0 : s[0].toNat = c := by rw [← Lx.get_str s 0 h0, hl]; rfl
    have hc : c < 256 := hlt c (by rw [hl]; simp)
    have hp : ∀ k : Nat, c = k → (s[0].toNat : Int) = (k : Int) := fun k h => by rw [hc0, h]
    have hn : ∀ k : Nat, c ≠ k → (¬ (s[0].toNat : Int) = (k : Int)) ∧ ((s[0].toNat : Int) == (k : Int)) = false ∧ ((s[0].toNat : Int) != (k : Int)) = true := fun k h => by
      rw [hc0]
      refine ⟨by omega, by rw [beq_eq_false_iff_ne]; omega, by rw [bne_iff_ne]; omega⟩
    by_cases h34 : c = 34
    · have e : Hid (escV (c :: r) = (c, 1)) := Lib.hid (by simp [escV, Lx.esc, h34])
      have p34 := hp 34 h34
      subst h34
      clear hsz hl hlt hp hn hc0
      go_enter Tryz.func134, Tryz.ntmps134
      go_wp2_with fail
      go_ret2
      rw [e.out]
      exact ⟨rfl, Mod.refl _ _⟩
    · by_cases h92 : c = 92
      · have e : Hid (escV (c :: r) = (c, 1)) := Lib.hid (by simp [escV, Lx.esc, h92])
        obtain ⟨a34, b34, d34⟩ := hn 34 h34
        have p92 := hp 92 h92
        subst h92
        clear hsz hl hlt hp hn hc0 h34
        go_enter Tryz.func134, Tryz.ntmps134
        go_wp2_with fail
        go_ret2
        rw [e.out]
        exact ⟨rfl, Mod.refl _ _⟩
      · by_cases h110 : c = 110
        · have e : Hid (escV (c :: r) = (10, 1)) := Lib.hid (by simp [escV, Lx.esc, h110])
          obtain ⟨a34, b34, d34⟩ := hn 34 h34
          obtain ⟨a92, b92, d92⟩ := hn 92 h92
          have p110 := hp 110 h110
          subst h110
          clear hsz hl hlt hp hn hc0 h34 h92
          go_enter Tryz.func134, Tryz.ntmps134
          go_wp2_with fail
          go_ret2
          rw [e.out]
          exact ⟨rfl, Mod.refl _ _⟩
        · by_cases h120 : c = 120
          · subst h120
            have p120 := hp 120 rfl
            rcases r with _ | ⟨a, _ | ⟨b, r⟩⟩
            · have e : Hid (escV [120] = (0, 0)) := Lib.hid rfl
              have h3 : s.size < 3 := by rw [← hsz]; simp
              clear hsz hl hlt hp hn hc0 h34 h92 h110
              go_enter Tryz.func134, Tryz.ntmps134
              go_wp2_with fail
              go_ret2
              rw [e.out]
              exact ⟨rfl, Mod.refl _ _⟩
            · have e : Hid (escV [120, a] = (0, 0)) := Lib.hid rfl
              have h3 : s.size < 3 := by rw [← hsz]; simp
              clear hsz hl hlt hp hn hc0 h34 h92 h110
              go_enter Tryz.func134, Tryz.ntmps134
              go_wp2_with fail
              go_ret2
              rw [e.out]
              exact ⟨rfl, Mod.refl _ _⟩
            · have h3 : 3 ≤ s.size := by rw [← hsz]; simp
              have hx : Cod.str (s.extract 1 3) = [a, b] := by rw [Lx.str_extract, hl]; simp
              have hex := parse_outer (s.extract 1 3) (by rw [ByteArray.size_extract]; omega) w hG
              rw [hx] at hex
              have hh : hexL [a, b] = match Lx.hexv a, Lx.hexv b with | some x, some y => some (16 * x + y) | _, _ => none := by
                unfold hexL
                cases h1 : Lx.hexv a <;> cases h2 : Lx.hexv b <;> simp [h1, h2]
              cases hy : hexL [a, b] with
              | none =>
                have e : Hid (escV (120 :: a :: b :: r) = (0, 0)) := Lib.hid (by
                  rw [hy] at hh
                  cases h1 : Lx.hexv a <;> cases h2 : Lx.hexv b <;> simp [h1, h2] at hh <;> simp [escV, Lx.esc, h1, h2])
                rw [hy] at hex
                have HE := Lib.hid hex
                clear hsz hl hlt hp hn hc0 h34 h92 h110 hx hex hh hy
                go_enter Tryz.func134, Tryz.ntmps134
                go_wp2_with fail
                refine HE.out.mono ?_
                rintro e w2 ⟨⟨ty, v, rfl⟩, hm2⟩
                go_wp2_with fail
                go_ret2
                rw [e.out]
                exact ⟨rfl, hm2⟩
              | some n =>
                have hn2 : n < 256 := by
                  rw [hy] at hh
                  cases h1 : Lx.hexv a with
                  | none => simp [h1] at hh
                  | some x =>
                    cases h2 : Lx.hexv b with
                    | none => simp [h1, h2] at hh
                    | some y =>
                      have := Lx.hexv_lt h1
                      have := Lx.hexv_lt h2
                      simp [h1, h2] at hh
                      omega
                have e : Hid (escV (120 :: a :: b :: r) = (n, 3)) := Lib.hid (by
                  rw [hy] at hh
                  cases h1 : Lx.hexv a <;> cases h2 : Lx.hexv b <;> simp [h1, h2] at hh <;> simp [escV, Lx.esc, h1, h2, hh])
                rw [hy] at hex
                have HE := Lib.hid hex
                clear hsz hl hlt hp hn hc0 h34 h92 h110 hx hex hh hy
                go_enter Tryz.func134, Tryz.ntmps134
                go_wp2_with fail
                refine HE.out.mono ?_
                rintro e w2 ⟨rfl, hm2⟩
                go_wp2_with fail
                go_ret2
                rw [e.out]
                exact ⟨rfl, hm2⟩
          · have e : Hid (escV (c :: r) = (0, 0)) := Lib.hid (by simp [escV, Lx.esc, h34, h92, h110, h120])
            obtain ⟨a34, b34, d34⟩ := hn 34 h34
            obtain ⟨a92, b92, d92⟩ := hn 92 h92
            obtain ⟨a110, b110, d110⟩ := hn 110 h110
            obtain ⟨a120, b120, d120⟩ := hn 120 h120
            clear hsz hl hlt hp hn hc0 h34 h92 h110 h120
            go_enter Tryz.func134, Tryz.ntmps134
            go_wp2_with fail
            all_goals first
              | (go_ret2; rw [e.out]; exact ⟨rfl, Mod.refl _ _⟩)
              | (exfalso; have hh : ((s[0].toNat : Int) == 34) = true ∨ ((s[0].toNat : Int) == 92) = true := by assumption
                 rcases hh with hh | hh
                 · exact absurd (hh.symm.trans b34) (by decide)
                 · exact absurd (hh.symm.trans b92) (by decide))
end Go.Proofs.YtppigckioalhhaaGreatDoorR
namespace Go.Proofs.YtppigckioalhhaaGreatDoorR
open Go.RowKit
set_option linter.unusedVariables false
set_option linter.unusedSimpArgs false
set_option maxRecDepth 100000

/-- the slice v reads as the bytes l -/
def Reads (w : World) (v : Value) (l : List Nat) : Prop :=
  (∀ c ∈ l, c < 256) ∧ l.length ≤ 140737488355328 ∧
  ((∃ x c, v = .slice x 0 c ∧ l = []) ∨
   ∃ b off cap, v = .slice (some ⟨b, off, none⟩) l.length cap ∧ ∀ i, i < l.length → w.cell? ⟨b, off + i, none⟩ = some (.int .u8 (l.getD i 0 : Nat)))

def toCells (l : List Nat) : List Value := l.map fun (c : Nat) => Value.int .u8 (c : Int)
theorem toCells_len (l : List Nat) : (toCells l).length = l.length := by simp [toCells]
theorem toCells_append (l k : List Nat) : toCells (l ++ k) = toCells l ++ toCells k := by simp [toCells]
theorem toCells_one (l : List Nat) : ∀ u ∈ toCells l, u.oneCell' = true := by
  intro u hu
  obtain ⟨_, _, rfl⟩ := List.mem_map.1 hu
  rfl
theorem toCells_get (l : List Nat) (i : Nat) (h : i < l.length) : (toCells l)[i]? = some (.int .u8 (l.getD i 0 : Nat)) := by
  simp [toCells, List.getD_eq_getElem?_getD, List.getElem?_eq_getElem h]

theorem Tryz.infoU8 : (Tryz.prog.info? 5).map (fun i => (i.zero, i.size, i.bytes)) = some (some (.int .u8 0), 1, 1) := by kernel_rfl

theorem addr_add (b o j : Nat) : (⟨b, o, none⟩ : Addr).add j = ⟨b, o + j, none⟩ := by
  unfold Addr.add; split <;> simp_all

theorem src_reads {w : World} {v : Value} {l : List Nat} (h : Reads w v l) : Src Tryz.prog 1 189 v l.length (toCells l) w := by
  obtain ⟨hb, hl, ⟨x, c, rfl, rfl⟩ | ⟨b, off, cap, rfl, hc⟩⟩ := h
  · cases x with
    | none => exact Src.ofNil (size := 1) w Tryz.underlying189 c
    | some a => exact Src.ofSlice w Tryz.underlying189 a 0 c [] rfl (by simp) (by simp)
  · refine Src.ofSlice w Tryz.underlying189 _ _ _ _ (by rw [toCells_len, Nat.mul_one]) (fun j u hu => ?_) (toCells_one l)
    have hj : j < l.length := by
      have := List.getElem?_eq_some_iff.1 hu
      obtain ⟨h, _⟩ := this
      rwa [toCells_len] at h
    rw [toCells_get l j hj] at hu
    cases hu
    rw [addr_add]
    exact hc j hj

theorem reads_own {w : World} {v : Value} {l : List Nat} (h : w.ownsRow 0 5 1 v l.length (toCells l)) (hb : ∀ c ∈ l, c < 256) (hl : l.length ≤ 140737488355328) : Reads w v l := by
  refine ⟨hb, hl, ?_⟩
  rcases h.2 with ⟨rfl, hn⟩ | ⟨g, cap, cur, rfl, h1, h2, h3, h4, h5, h6⟩
  · exact .inl ⟨_, _, rfl, List.eq_nil_of_length_eq_zero hn⟩
  · refine .inr ⟨g, 0, cap, rfl, fun i hi => ?_⟩
    have := h.cells (g := g) rfl i _ (toCells_get l i hi)
    rwa [addr_add] at this

theorem conv_reads {w : World} {v : Value} {l : List Nat} (h : Reads w v l) : (convert 189 9 v).run Tryz.prog w = .ok (.string (Lx.ofS l)) w := by
  obtain ⟨hb, hl, ⟨x, c, rfl, rfl⟩ | ⟨b, off, cap, rfl, hc⟩⟩ := h
  · cases x with
    | none => exact run_convert_bytes_nil w _ _ Tryz.underlying189 Tryz.underlying5 0 c _ Tryz.underlying9
    | some a =>
      rw [run_convert_bytes_string w _ _ _ _ _ _ Tryz.underlying189 Tryz.underlying5 Tryz.underlying9, run_bytesToString w a 0 c [] (run_loadCells_list w a [] (by simp))]
      rfl
  · have := run_convert_bytes_arg (P := Tryz.prog) w _ _ Tryz.underlying189 Tryz.underlying5 b off l.length cap (l.map fun (n : Nat) => (n : Int)) (by simp) (fun i hi => by
      rw [hc i hi]
      congr 2
      simp [List.getD_eq_getElem?_getD, List.getElem?_eq_getElem hi]) _ Tryz.underlying9
    rw [this]
    congr 2
    simp [strOfNums, Lx.ofS, List.map_map, Function.comp_def]

theorem fp_lt {w : World} {base : Nat} {e : TypeId} {size : Nat} {v : Value} {n : Nat} {xs : List Value} (h : w.ownsRow base e size v n xs) : ∀ k ∈ fp v, k < w.heap.size := by
  intro k hk
  rcases h.2 with ⟨rfl, _⟩ | ⟨g, cap, cur, rfl, hb, hg, _⟩
  · simp [fp] at hk
  · simp [fp] at hk
    subst hk
    exact lt_of_block hg
theorem Reads.past {S : List Nat} {w w' : World} {v : Value} {l : List Nat} (h : Reads w v l) (hm : Mod S w w') (hS : ∀ t ∈ S, w.heap.size ≤ t) : Reads w' v l := by
  obtain ⟨h1, h2, h3 | ⟨b, off, cap, rfl, hc⟩⟩ := h
  · exact ⟨h1, h2, .inl h3⟩
  · refine ⟨h1, h2, .inr ⟨b, off, cap, rfl, fun i hi => hm.cell (hc i hi) (fun hb => ?_)⟩⟩
    have := hS _ hb
    have := World.block_lt_of_cell? w _ (hc i hi)
    simp at *
    omega

theorem reads_one (w : World) (c : Nat) (hc : c < 256) : Reads (w.alloc (.cells #[.int .u8 (c : Int)] 5)) (.slice (some ⟨w.heap.size, 0, none⟩) 1 1) [c] := by
  refine ⟨by simpa using hc, by simp, .inr ⟨_, _, _, rfl, fun i hi => ?_⟩⟩
  obtain rfl : i = 0 := by simp at hi; omega
  exact cell_of_one (heap_alloc_new w _)

end Go.Proofs.YtppigckioalhhaaGreatDoorR
