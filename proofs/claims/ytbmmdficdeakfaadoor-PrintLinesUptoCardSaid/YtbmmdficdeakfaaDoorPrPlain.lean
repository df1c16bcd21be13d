/- PLAIN: programs and their texts. No program (of the machine) in sight. -/
import Derived.Test.YtbmmdficdeakfaaDoorVaTxtPlain
namespace Go.Proofs.YtbmmdficdeakfaaDoor.Pr
open Cod (str)
open Va (Val)
set_option linter.unusedSimpArgs false
set_option linter.unusedVariables false

structure Term where
  k : Int
  v : ByteArray
  x : Val
structure Atom where
  rel : ByteArray
  terms : List Term
inductive Ex where
  | mk (k : Int) (v : ByteArray) (x : Val) (op : Int) (args : List Ex)
inductive Li where
  | mk (k : Int) (atom : Atom) (op : Int) (left right : Ex) (fn : Int) (av : ByteArray) (of : Ex) (body : List Li) (line col : Int)
structure Rul where
  head : Atom
  body : List Li
  line : Int
  col : Int
structure Rel where
  name : ByteArray
  types : List Int
  line : Int
  col : Int
structure Prog where
  rels : List Rel
  rules : List Rul

def Ex.k : Ex → Int | .mk k _ _ _ _ => k
def Ex.v : Ex → ByteArray | .mk _ v _ _ _ => v
def Ex.x : Ex → Val | .mk _ _ x _ _ => x
def Ex.op : Ex → Int | .mk _ _ _ op _ => op
def Ex.args : Ex → List Ex | .mk _ _ _ _ args => args

def strength (op : Int) : Nat := if op = 1 ∨ op = 2 then 1 else if op = 3 ∨ op = 4 ∨ op = 5 then 2 else if op = 6 then 3 else 0
def binds (e : Ex) : Nat := if e.k = 4 then strength e.op else 4
def sign (op : Int) : List Nat := if op = 1 then [43] else if op = 2 then [45] else if op = 3 then [42] else if op = 4 then [47] else [109, 111, 100]

/-- an expression's text; none: there is none. The first number: one more than the depth that is left -/
def pE : Nat → Ex → Option (List Nat)
  | 0, _ => none
  | k + 1, e =>
    if e.k = 1 then (if Va.variable_ (str e.v) = true ∧ e.x = Va.zero ∧ e.op = 0 ∧ e.args.length = 0 then some (str e.v) else none)
    else if e.k = 2 then (if e.v.size = 0 ∧ e.op = 0 ∧ e.args.length = 0 ∧ Va.may e.x = true then some (Va.text e.x) else none)
    else if e.k = 4 then
      (if e.v.size = 0 ∧ e.x = Va.zero ∧ 0 < strength e.op then
        match k with
        | 0 => none
        | j + 1 =>
          match e.args with
          | [a] =>
            if e.op = 6 then
              (if binds a < 3 ∨ (a.k = 2 ∧ a.x.k = 1 ∧ 0 < a.x.n) then (pE j a).map (fun t => 40 :: (t ++ [41])) else pE (j + 1) a).map
                (fun t => 45 :: ((if a.k = 2 ∧ a.x.k = 1 ∧ a.x.n = 0 then [45] else []) ++ t))
            else none
          | [a, b] =>
            if e.op = 6 then none else
            match (if binds a < strength e.op then (pE j a).map (fun t => 40 :: (t ++ [41])) else pE (j + 1) a), (if binds b ≤ strength e.op then (pE j b).map (fun t => 40 :: (t ++ [41])) else pE (j + 1) b) with
            | some l, some r => some (l ++ (32 :: (sign e.op ++ (32 :: r))))
            | _, _ => none
          | _ => none
      else none)
    else none

/-- an operation's text -/
def pO : Nat → Ex → Option (List Nat)
  | 0, _ => none
  | j + 1, e =>
    match e.args with
    | [a] =>
      if e.op = 6 then
        (if binds a < 3 ∨ (a.k = 2 ∧ a.x.k = 1 ∧ 0 < a.x.n) then (pE j a).map (fun t => 40 :: (t ++ [41])) else pE (j + 1) a).map
          (fun t => 45 :: ((if a.k = 2 ∧ a.x.k = 1 ∧ a.x.n = 0 then [45] else []) ++ t))
      else none
    | [a, b] =>
      if e.op = 6 then none else
      match (if binds a < strength e.op then (pE j a).map (fun t => 40 :: (t ++ [41])) else pE (j + 1) a), (if binds b ≤ strength e.op then (pE j b).map (fun t => 40 :: (t ++ [41])) else pE (j + 1) b) with
      | some l, some r => some (l ++ (32 :: (sign e.op ++ (32 :: r))))
      | _, _ => none
    | _ => none
theorem pE_var (k : Nat) (e : Ex) (h : e.k = 1) : pE (k + 1) e = if Va.variable_ (str e.v) = true ∧ e.x = Va.zero ∧ e.op = 0 ∧ e.args.length = 0 then some (str e.v) else none := by
  unfold pE; rw [if_pos h]
theorem pE_val (k : Nat) (e : Ex) (h : e.k = 2) : pE (k + 1) e = if e.v.size = 0 ∧ e.op = 0 ∧ e.args.length = 0 ∧ Va.may e.x = true then some (Va.text e.x) else none := by
  unfold pE; rw [if_neg (by omega), if_pos h]
theorem pE_op (k : Nat) (e : Ex) (h : e.k = 4) : pE (k + 1) e = if e.v.size = 0 ∧ e.x = Va.zero ∧ 0 < strength e.op then pO k e else none := by
  cases k with
  | zero => unfold pE pO; rw [if_neg (by omega), if_neg (by omega), if_pos h]
  | succ j => unfold pE pO; rw [if_neg (by omega), if_neg (by omega), if_pos h]
theorem pE_other (k : Nat) (e : Ex) (h1 : e.k ≠ 1) (h2 : e.k ≠ 2) (h3 : e.k ≠ 4) : pE (k + 1) e = none := by
  unfold pE; rw [if_neg h1, if_neg h2, if_neg h3]

def seqO {α : Type} : List (Option α) → Option (List α)
  | [] => some []
  | o :: r => match o, seqO r with | some a, some l => some (a :: l) | _, _ => none
def commas (ls : List (List Nat)) : List Nat := [44, 32].intercalate ls
def pT (t : Term) : Option (List Nat) :=
  if t.k = 1 then (if Va.variable_ (str t.v) = true ∧ t.x = Va.zero then some (str t.v) else none)
  else if t.k = 2 then (if t.v.size = 0 ∧ Va.may t.x = true then some (Va.text t.x) else none)
  else if t.k = 3 then (if t.v.size = 0 ∧ t.x = Va.zero then some [95] else none)
  else none
def pA (a : Atom) : Option (List Nat) :=
  if Va.name (str a.rel) = true then (seqO (a.terms.map pT)).map (fun ls => str a.rel ++ (40 :: (commas ls ++ [41]))) else none
def noExpr (e : Ex) : Bool := decide (e.k = 0) && (decide (e.v.size = 0) && (decide (e.x = Va.zero) && (decide (e.op = 0) && decide (e.args.length = 0))))
def lacks (k : Int) (a : Atom) (op : Int) (l r : Ex) (fn : Int) (av : ByteArray) (of : Ex) (n : Nat) : Bool :=
  (decide (k = 1 ∨ k = 2) || (decide (a.rel.size = 0) && decide (a.terms.length = 0))) &&
  ((decide (k = 3) || (decide (op = 0) && (noExpr l && noExpr r))) &&
  (decide (k = 4) || (decide (fn = 0) && (decide (av.size = 0) && (noExpr of && decide (n = 0))))))
def cmp (op : Int) : List Nat := if op = 1 then [32, 61, 32] else if op = 2 then [32, 33, 61, 32] else if op = 3 then [32, 60, 32] else if op = 4 then [32, 60, 61, 32] else if op = 5 then [32, 62, 32] else [32, 62, 61, 32]
def word (fn : Int) : List Nat := if fn = 1 then [99, 111, 117, 110, 116] else if fn = 2 then [115, 117, 109] else if fn = 3 then [109, 105, 110] else [109, 97, 120]
/-- a literal's text; the number: how many braces may still be opened -/
def pL : Nat → Li → Option (List Nat)
  | b, .mk k a op l r fn av of body _ _ =>
    if lacks k a op l r fn av of body.length = true then
      if k = 1 then pA a
      else if k = 2 then (pA a).map (fun t => [110, 111, 116, 32] ++ t)
      else if k = 3 then
        (if 1 ≤ op ∧ op ≤ 6 then
          match pE 17 l, pE 17 r with
          | some s, some t => some (s ++ (cmp op ++ t))
          | _, _ => none
        else none)
      else if k = 4 then
        match b with
        | 0 => none
        | c + 1 =>
          if 1 ≤ fn ∧ fn ≤ 4 ∧ body.length ≠ 0 ∧ Va.variable_ (str av) = true then
            match (if fn = 1 then (if noExpr of = true then some [] else none) else (pE 17 of).map (fun t => t ++ [32, 58, 32])), seqO (body.map (pL c)) with
            | some o, some ls => some (str av ++ ([32, 61, 32] ++ (word fn ++ ([32, 123, 32] ++ (o ++ (commas ls ++ [32, 125]))))))
            | _, _ => none
          else none
      else none
    else none
termination_by b _ => b
def pB (b : Nat) (l : List Li) : Option (List Nat) := (seqO (l.map (pL b))).map commas
def pR (r : Rul) : Option (List Nat) :=
  match pA r.head with
  | none => none
  | some h => if r.body.length = 0 then some h else (pB 16 r.body).map (fun t => h ++ ([32, 58, 45, 32] ++ t))
def pTy (t : Int) : Option (List Nat) := if t = 1 then some [110, 117, 109] else if t = 2 then some [115, 121, 109] else none
def pD (x : Rel) : Option (List Nat) :=
  if Va.name (str x.name) = true then (seqO (x.types.map pTy)).map (fun ls => [114, 101, 108, 97, 116, 105, 111, 110, 32] ++ (str x.name ++ (40 :: (commas ls ++ [41])))) else none
def lines (ls : List (List Nat)) : List Nat := ls.flatMap (fun l => l ++ [46, 10])
def pP (p : Prog) : Option (List Nat) :=
  match seqO (p.rels.map pD), seqO (p.rules.map pR) with
  | some a, some b => some (lines a ++ lines b)
  | _, _ => none

theorem seqO_app {α : Type} : ∀ (a b : List (Option α)), seqO (a ++ b) = match seqO a, seqO b with | some x, some y => some (x ++ y) | _, _ => none
  | [], b => by simp [seqO]; cases seqO b <;> rfl
  | o :: r, b => by
    rw [List.cons_append]
    simp only [seqO]
    rw [seqO_app r b]
    cases o <;> cases seqO r <;> cases seqO b <;> simp
theorem seqO_snoc {α : Type} (a : List (Option α)) (o : Option α) : seqO (a ++ [o]) = match seqO a, o with | some x, some y => some (x ++ [y]) | _, _ => none := by
  rw [seqO_app]
  cases seqO a <;> cases o <;> simp [seqO]
end Go.Proofs.YtbmmdficdeakfaaDoor.Pr
