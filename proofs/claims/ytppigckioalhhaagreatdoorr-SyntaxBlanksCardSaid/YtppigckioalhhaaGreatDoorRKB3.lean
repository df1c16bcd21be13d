/- THE PARSER: value, term. -/
import Derived.Test.YtppigckioalhhaaGreatDoorRKB2
import Derived.Laws.StructEq
import Derived.Deep.DeepCutAuto
import Derived.Deep.RegionHeld3
import Derived.Test.YtppigckioalhhaaGreatDoorRKB1
/- PLAIN: programs and their texts. No program (of the machine) in sight. -/
namespace Go.Proofs.YtppigckioalhhaaGreatDoorR.Pr
open Cod (str)
open Va (Val)
set_option linter.unusedSimpArgs false
set_option linter.unusedVariables false

structure Term where
  k : Int
  v : ByteArray
  x : Val
structure Atom where
  rel : ByteArray
  terms : List Term
inductive Ex where
  | mk (k : Int) (v : ByteArray) (x : Val) (op : Int) (args : List Ex)
inductive Li where
  | mk (k : Int) (atom : Atom) (op : Int) (left right : Ex) (fn : Int) (av : ByteArray) (of : Ex) (body : List Li) (line col : Int)
structure Rul where
  head : Atom
  body : List Li
  line : Int
  col : Int
structure Rel where
  name : ByteArray
  types : List Int
  line : Int
  col : Int
structure Prog where
  rels : List Rel
  rules : List Rul

def Ex.k : Ex → Int | .mk k _ _ _ _ => k
def Ex.v : Ex → ByteArray | .mk _ v _ _ _ => v
def Ex.x : Ex → Val | .mk _ _ x _ _ => x
def Ex.op : Ex → Int | .mk _ _ _ op _ => op
def Ex.args : Ex → List Ex | .mk _ _ _ _ args => args

def strength (op : Int) : Nat := if op = 1 ∨ op = 2 then 1 else if op = 3 ∨ op = 4 ∨ op = 5 then 2 else if op = 6 then 3 else 0
def binds (e : Ex) : Nat := if e.k = 4 then strength e.op else 4
def sign (op : Int) : List Nat := if op = 1 then [43] else if op = 2 then [45] else if op = 3 then [42] else if op = 4 then [47] else [109, 111, 100]

/-- an expression's text; none: there is none. The first number: one more than the depth that is left -/
def pE : Nat → Ex → Option (List Nat)
  | 0, _ => none
  | k + 1, e =>
    if e.k = 1 then (if Va.variable_ (str e.v) = true ∧ e.x = Va.zero ∧ e.op = 0 ∧ e.args.length = 0 then some (str e.v) else none)
    else if e.k = 2 then (if e.v.size = 0 ∧ e.op = 0 ∧ e.args.length = 0 ∧ Va.may e.x = true then some (Va.text e.x) else none)
    else if e.k = 4 then
      (if e.v.size = 0 ∧ e.x = Va.zero ∧ 0 < strength e.op then
        match k with
        | 0 => none
        | j + 1 =>
          match e.args with
          | [a] =>
            if e.op = 6 then
              (if binds a < 3 ∨ (a.k = 2 ∧ a.x.k = 1 ∧ 0 < a.x.n) then (pE j a).map (fun t => 40 :: (t ++ [41])) else pE (j + 1) a).map
                (fun t => 45 :: ((if a.k = 2 ∧ a.x.k = 1 ∧ a.x.n = 0 then [45] else []) ++ t))
            else none
          | [a, b] =>
            if e.op = 6 then none else
            match (if binds a < strength e.op then (pE j a).map (fun t => 40 :: (t ++ [41])) else pE (j + 1) a), (if binds b ≤ strength e.op then (pE j b).map (fun t => 40 :: (t ++ [41])) else pE (j + 1) b) with
            | some l, some r => some (l ++ (32 :: (sign e.op ++ (32 :: r))))
            | _, _ => none
          | _ => none
      else none)
    else none

/-- an operation's text -/
def pO : Nat → Ex → Option (List Nat)
  | 0, _ => none
  | j + 1, e =>
    match e.args with
    | [a] =>
      if e.op = 6 then
        (if binds a < 3 ∨ (a.k = 2 ∧ a.x.k = 1 ∧ 0 < a.x.n) then (pE j a).map (fun t => 40 :: (t ++ [41])) else pE (j + 1) a).map
          (fun t => 45 :: ((if a.k = 2 ∧ a.x.k = 1 ∧ a.x.n = 0 then [45] else []) ++ t))
      else none
    | [a, b] =>
      if e.op = 6 then none else
      match (if binds a < strength e.op then (pE j a).map (fun t => 40 :: (t ++ [41])) else pE (j + 1) a), (if binds b ≤ strength e.op then (pE j b).map (fun t => 40 :: (t ++ [41])) else pE (j + 1) b) with
      | some l, some r => some (l ++ (32 :: (sign e.op ++ (32 :: r))))
      | _, _ => none
    | _ => none
theorem pE_var (k : Nat) (e : Ex) (h : e.k = 1) : pE (k + 1) e = if Va.variable_ (str e.v) = true ∧ e.x = Va.zero ∧ e.op = 0 ∧ e.args.length = 0 then some (str e.v) else none := by
  unfold pE; rw [if_pos h]
theorem pE_val (k : Nat) (e : Ex) (h : e.k = 2) : pE (k + 1) e = if e.v.size = 0 ∧ e.op = 0 ∧ e.args.length = 0 ∧ Va.may e.x = true then some (Va.text e.x) else none := by
  unfold pE; rw [if_neg (by omega), if_pos h]
theorem pE_op (k : Nat) (e : Ex) (h : e.k = 4) : pE (k + 1) e = if e.v.size = 0 ∧ e.x = Va.zero ∧ 0 < strength e.op then pO k e else none := by
  cases k with
  | zero => unfold pE pO; rw [if_neg (by omega), if_neg (by omega), if_pos h]
  | succ j => unfold pE pO; rw [if_neg (by omega), if_neg (by omega), if_pos h]
theorem pE_other (k : Nat) (e : Ex) (h1 : e.k ≠ 1) (h2 : e.k ≠ 2) (h3 : e.k ≠ 4) : pE (k + 1) e = none := by
  unfold pE; rw [if_neg h1, if_neg h2, if_neg h3]

def seqO {α : Type} : List (Option α) → Option (List α)
  | [] => some []
  | o :: r => match o, seqO r with | some a, some l => some (a :: l) | _, _ => none
def commas (ls : List (List Nat)) : List Nat := [44, 32].intercalate ls
def pT (t : Term) : Option (List Nat) :=
  if t.k = 1 then (if Va.variable_ (str t.v) = true ∧ t.x = Va.zero then some (str t.v) else none)
  else if t.k = 2 then (if t.v.size = 0 ∧ Va.may t.x = true then some (Va.text t.x) else none)
  else if t.k = 3 then (if t.v.size = 0 ∧ t.x = Va.zero then some [95] else none)
  else none
def pA (a : Atom) : Option (List Nat) :=
  if Va.name (str a.rel) = true then (seqO (a.terms.map pT)).map (fun ls => str a.rel ++ (40 :: (commas ls ++ [41]))) else none
def noExpr (e : Ex) : Bool := decide (e.k = 0) && (decide (e.v.size = 0) && (decide (e.x = Va.zero) && (decide (e.op = 0) && decide (e.args.length = 0))))
def lacks (k : Int) (a : Atom) (op : Int) (l r : Ex) (fn : Int) (av : ByteArray) (of : Ex) (n : Nat) : Bool :=
  (decide (k = 1 ∨ k = 2) || (decide (a.rel.size = 0) && decide (a.terms.length = 0))) &&
  ((decide (k = 3) || (decide (op = 0) && (noExpr l && noExpr r))) &&
  (decide (k = 4) || (decide (fn = 0) && (decide (av.size = 0) && (noExpr of && decide (n = 0))))))
def cmp (op : Int) : List Nat := if op = 1 then [32, 61, 32] else if op = 2 then [32, 33, 61, 32] else if op = 3 then [32, 60, 32] else if op = 4 then [32, 60, 61, 32] else if op = 5 then [32, 62, 32] else [32, 62, 61, 32]
def word (fn : Int) : List Nat := if fn = 1 then [99, 111, 117, 110, 116] else if fn = 2 then [115, 117, 109] else if fn = 3 then [109, 105, 110] else [109, 97, 120]
/-- a literal's text; the number: how many braces may still be opened -/
def pL : Nat → Li → Option (List Nat)
  | b, .mk k a op l r fn av of body _ _ =>
    if lacks k a op l r fn av of body.length = true then
      if k = 1 then pA a
      else if k = 2 then (pA a).map (fun t => [110, 111, 116, 32] ++ t)
      else if k = 3 then
        (if 1 ≤ op ∧ op ≤ 6 then
          match pE 17 l, pE 17 r with
          | some s, some t => some (s ++ (cmp op ++ t))
          | _, _ => none
        else none)
      else if k = 4 then
        match b with
        | 0 => none
        | c + 1 =>
          if 1 ≤ fn ∧ fn ≤ 4 ∧ body.length ≠ 0 ∧ Va.variable_ (str av) = true then
            match (if fn = 1 then (if noExpr of = true then some [] else none) else (pE 17 of).map (fun t => t ++ [32, 58, 32])), seqO (body.map (pL c)) with
            | some o, some ls => some (str av ++ ([32, 61, 32] ++ (word fn ++ ([32, 123, 32] ++ (o ++ (commas ls ++ [32, 125]))))))
            | _, _ => none
          else none
      else none
    else none
termination_by b _ => b
def pB (b : Nat) (l : List Li) : Option (List Nat) := (seqO (l.map (pL b))).map commas
def pR (r : Rul) : Option (List Nat) :=
  match pA r.head with
  | none => none
  | some h => if r.body.length = 0 then some h else (pB 16 r.body).map (fun t => h ++ ([32, 58, 45, 32] ++ t))
def pTy (t : Int) : Option (List Nat) := if t = 1 then some [110, 117, 109] else if t = 2 then some [115, 121, 109] else none
def pD (x : Rel) : Option (List Nat) :=
  if Va.name (str x.name) = true then (seqO (x.types.map pTy)).map (fun ls => [114, 101, 108, 97, 116, 105, 111, 110, 32] ++ (str x.name ++ (40 :: (commas ls ++ [41])))) else none
def lines (ls : List (List Nat)) : List Nat := ls.flatMap (fun l => l ++ [46, 10])
def pP (p : Prog) : Option (List Nat) :=
  match seqO (p.rels.map pD), seqO (p.rules.map pR) with
  | some a, some b => some (lines a ++ lines b)
  | _, _ => none

theorem seqO_app {α : Type} : ∀ (a b : List (Option α)), seqO (a ++ b) = match seqO a, seqO b with | some x, some y => some (x ++ y) | _, _ => none
  | [], b => by simp [seqO]; cases seqO b <;> rfl
  | o :: r, b => by
    rw [List.cons_append]
    simp only [seqO]
    rw [seqO_app r b]
    cases o <;> cases seqO r <;> cases seqO b <;> simp
theorem seqO_snoc {α : Type} (a : List (Option α)) (o : Option α) : seqO (a ++ [o]) = match seqO a, o with | some x, some y => some (x ++ [y]) | _, _ => none := by
  rw [seqO_app]
  cases seqO a <;> cases o <;> simp [seqO]
end Go.Proofs.YtppigckioalhhaaGreatDoorR.Pr
/- PLAIN: the parser: what it reads of a list of words. No program (of the machine) in sight. -/
namespace Go.Proofs.YtppigckioalhhaaGreatDoorR.Sy
open Lx (Tok)
open Va (Val)
open Pr (Term Atom Ex Li Rul Rel Prog)
set_option linter.unusedVariables false

abbrev Flt := Nat × Nat × Nat
/-- a text's words; why no further one can be read -/
structure Env where
  ws : List Tok
  last : Flt
def zT : Tok := ⟨0, [], 0, 0, [], 0, 0⟩
def Env.tk (v : Env) (i : Nat) : Tok := v.ws.getD i zT
def Env.give (v : Env) (c i : Nat) : Flt := if i < v.ws.length then (c, (v.tk i).line, (v.tk i).col) else v.last
def sign (t : Tok) (s : List Nat) : Bool := decide (t.text = s) && (decide (t.kind = 5) || decide (t.kind = 1))
def resW : List (List Nat) := [[114, 101, 108, 97, 116, 105, 111, 110], [110, 111, 116], [110, 117, 109], [115, 121, 109], [109, 111, 100], [99, 111, 117, 110, 116], [115, 117, 109], [109, 105, 110], [109, 97, 120]]
def plain (t : Tok) : Bool := decide (t.kind = 1) && !(resW.contains t.text)

/-- what is read, and the place behind it; or the fault -/
inductive PR (α : Type) where
  | ok (a : α) (i : Nat)
  | err (f : Flt)
def PR.bind {α β : Type} (p : PR α) (f : α → Nat → PR β) : PR β := match p with | .ok a i => f a i | .err e => .err e
@[simp] theorem PR.bind_ok {α β : Type} (a : α) (i : Nat) (f : α → Nat → PR β) : (PR.ok a i).bind f = f a i := rfl
@[simp] theorem PR.bind_err {α β : Type} (e : Flt) (f : α → Nat → PR β) : (PR.err e : PR α).bind f = .err e := rfl

def must (v : Env) (s : List Nat) (i : Nat) : PR Unit := if sign (v.tk i) s = true then .ok () (i + 1) else .err (v.give 40 i)
/-- what stands behind the first of a list -/
def listF {α : Type} (v : Env) (fin : List Nat) (one : Nat → PR α) : Nat → List α → Nat → PR (List α)
  | 0, _, _ => .err v.last
  | k + 1, acc, i => if sign (v.tk i) [44] = true then (one (i + 1)).bind fun a j => listF v fin one k (acc ++ [a]) j else (must v fin i).bind fun _ j => .ok acc j
def list {α : Type} (v : Env) (fin : List Nat) (one : Nat → PR α) (i : Nat) : PR (List α) :=
  if sign (v.tk i) fin = true then .ok [] (i + 1) else (one i).bind fun a j => listF v fin one (v.ws.length + 1) [a] j

def txt (l : List Nat) : ByteArray := Lx.ofS l
def name (v : Env) (i : Nat) : PR Tok := if plain (v.tk i) = true then .ok (v.tk i) (i + 1) else .err (v.give 40 i)
/-- a constant, and how many words it has -/
def constant (v : Env) (i : Nat) : Option (Val × Nat) :=
  if (v.tk i).kind = 3 ∨ (v.tk i).kind = 4 then some (⟨(v.tk i).vk, (v.tk i).num, (v.tk i).sym⟩, 1)
  else if plain (v.tk i) = true then some (⟨2, 0, (v.tk i).text⟩, 1)
  else if sign (v.tk i) [45] = true ∧ (v.tk (i + 1)).kind = 3 then some (⟨1, -((v.tk (i + 1)).num : Int), []⟩, 2)
  else none
def value (v : Env) (i : Nat) : PR Val :=
  match constant v i with
  | some (c, n) => .ok c (i + n)
  | none => .err (v.give 40 (if sign (v.tk i) [45] = true then i + 1 else i))
def term (v : Env) (i : Nat) : PR Term :=
  if (v.tk i).kind = 2 then .ok ⟨1, txt (v.tk i).text, Va.zero⟩ (i + 1)
  else if sign (v.tk i) [95] = true then .ok ⟨3, txt [], Va.zero⟩ (i + 1)
  else (value v i).bind fun c j => .ok ⟨2, txt [], c⟩ j
def atom (v : Env) (i : Nat) : PR Atom :=
  (name v i).bind fun t j => (must v [40] j).bind fun _ j => (list v [41] (term v) j).bind fun l j => .ok ⟨txt t.text, l⟩ j
def fact (v : Env) (i : Nat) : PR (ByteArray × List Val) :=
  (name v i).bind fun t j => (must v [40] j).bind fun _ j => (list v [41] (value v) j).bind fun l j => .ok (txt t.text, l) j

/-- an operation's line of the grammar, and the operation -/
def level (t : Tok) : Nat × Nat :=
  if sign t [43] = true then (1, 1) else if sign t [45] = true then (1, 2) else if sign t [42] = true then (2, 3)
  else if sign t [47] = true then (2, 4) else if sign t [109, 111, 100] = true then (2, 5) else (0, 0)
def operand (t : Tok) : Bool :=
  decide (t.kind = 2) || (decide (t.kind = 3) || (decide (t.kind = 4) || (plain t || (sign t [45] || sign t [40]))))
def chainF (v : Env) (line : Nat) (sub : Nat → Nat → PR (Ex × Nat)) (above : Nat) : Nat → Ex → Nat → Nat → PR (Ex × Nat)
  | 0, _, _, _ => .err v.last
  | k + 1, e, d, i =>
    if (level (v.tk i)).1 ≠ line then .ok (e, d) i
    else if 16 < above + d + 1 then .err (v.give 41 i)
    else (sub (above + 1) (i + 1)).bind fun r j => chainF v line sub above k (.mk 4 (txt []) Va.zero (level (v.tk i)).2 [e, r.1]) (1 + max d r.2) j
def exprF (v : Env) : Nat → Nat → Nat → Nat → PR (Ex × Nat)
  | 0, _, _, _ => .err v.last
  | k + 1, line, above, i =>
    if line = 3 then
      if (v.tk i).kind = 2 then .ok (.mk 1 (txt (v.tk i).text) Va.zero 0 [], 0) (i + 1)
      else match constant v i with
        | some (c, n) => .ok (.mk 2 (txt []) c 0 [], 0) (i + n)
        | none =>
          if sign (v.tk i) [45] = true then
            if 16 ≤ above ∧ operand (v.tk (i + 1)) = true then .err (v.give 41 (i + 1))
            else (exprF v k 3 (above + 1) (i + 1)).bind fun r j => .ok (.mk 4 (txt []) Va.zero 6 [r.1], r.2 + 1) j
          else if sign (v.tk i) [40] = true ∧ 16 ≤ above then .err (v.give 41 i)
          else (must v [40] i).bind fun _ j => (exprF v k 1 (above + 1) j).bind fun r j => (must v [41] j).bind fun _ j => .ok (r.1, r.2 + 1) j
    else
      (exprF v k (line + 1) above i).bind fun r j => chainF v line (exprF v k (line + 1)) above (v.ws.length + 1) r.1 r.2 j
def expr (v : Env) (i : Nat) : PR Ex := (exprF v 60 1 0 i).bind fun r j => .ok r.1 j

def placeF (t : Tok) : List (List Nat) → Nat → Nat
  | [], _ => 0
  | s :: r, k => if sign t s = true then k + 1 else placeF t r (k + 1)
def place (t : Tok) (l : List (List Nat)) : Nat := placeF t l 0
def fnOf (t : Tok) : Nat := place t [[99, 111, 117, 110, 116], [115, 117, 109], [109, 105, 110], [109, 97, 120]]
def cmpOf (t : Tok) : Nat := place t [[61], [33, 61], [60], [60, 61], [62], [62, 61]]
def tyOf (t : Tok) : Nat := place t [[110, 117, 109], [115, 121, 109]]

def ex0 : Ex := .mk 0 (txt []) Va.zero 0 []
def at0 : Atom := ⟨txt [], []⟩
def bodyF (v : Env) (one : Nat → PR Li) : Nat → List Li → Nat → PR (List Li)
  | 0, _, _ => .err v.last
  | k + 1, acc, i => if sign (v.tk i) [44] = true then (one (i + 1)).bind fun a j => bodyF v one k (acc ++ [a]) j else .ok acc i
def bodyOf (v : Env) (one : Nat → PR Li) (i : Nat) : PR (List Li) := (one i).bind fun a j => bodyF v one (v.ws.length + 1) [a] j
/-- an aggregate: its function, its variable, what it is of, its body -/
structure Ag where
  fn : Int
  av : ByteArray
  of : Ex
  body : List Li
def aggOf (v : Env) (one : Nat → PR Li) (br i : Nat) : PR Ag :=
  if sign (v.tk (i + 3)) [123] = true ∧ 16 ≤ br then .err (v.give 41 (i + 3))
  else (must v [123] (i + 3)).bind fun _ j =>
    (if fnOf (v.tk (i + 2)) ≠ 1 then (expr v j).bind fun e j => (must v [58] j).bind fun _ j => .ok e j else .ok ex0 j).bind fun o j =>
      (bodyOf v one j).bind fun b j => (must v [125] j).bind fun _ j => .ok ⟨(fnOf (v.tk (i + 2)) : Nat), txt (v.tk i).text, o, b⟩ j
def litF (v : Env) : Nat → Nat → Nat → PR Li
  | 0, _, _ => .err v.last
  | k + 1, br, i =>
    if sign (v.tk i) [110, 111, 116] = true then (atom v (i + 1)).bind fun a j => .ok (.mk 2 a 0 ex0 ex0 0 (txt []) ex0 [] (v.tk i).line (v.tk i).col) j
    else if plain (v.tk i) = true ∧ sign (v.tk (i + 1)) [40] = true then (atom v i).bind fun a j => .ok (.mk 1 a 0 ex0 ex0 0 (txt []) ex0 [] (v.tk i).line (v.tk i).col) j
    else if (v.tk i).kind = 2 ∧ sign (v.tk (i + 1)) [61] = true ∧ 0 < fnOf (v.tk (i + 2)) then
      (aggOf v (litF v k (br + 1)) br i).bind fun g j => .ok (.mk 4 at0 0 ex0 ex0 g.fn g.av g.of g.body (v.tk i).line (v.tk i).col) j
    else (expr v i).bind fun l j => if cmpOf (v.tk j) = 0 then .err (v.give 40 j)
      else (expr v (j + 1)).bind fun r j2 => .ok (.mk 3 at0 (cmpOf (v.tk j) : Nat) l r 0 (txt []) ex0 [] (v.tk i).line (v.tk i).col) j2
def lit (v : Env) (br i : Nat) : PR Li := litF v (18 - br) br i
def body (v : Env) (i : Nat) : PR (List Li) := bodyOf v (lit v 0) i
def rule (v : Env) (i : Nat) : PR Rul :=
  (atom v i).bind fun h j => (if sign (v.tk j) [58, 45] = true then body v (j + 1) else .ok [] j).bind fun b j => .ok ⟨h, b, (v.tk i).line, (v.tk i).col⟩ j
def ty (v : Env) (i : Nat) : PR Int := if tyOf (v.tk i) = 0 then .err (v.give 40 i) else .ok (tyOf (v.tk i) : Nat) (i + 1)
def relation (v : Env) (i : Nat) : PR Rel :=
  (name v i).bind fun t j => (must v [40] j).bind fun _ j => (list v [41] (ty v) j).bind fun l j => .ok ⟨txt t.text, l, t.line, t.col⟩ j
def progF (v : Env) : Nat → Prog → Nat → PR Prog
  | 0, _, _ => .err v.last
  | k + 1, p, i =>
    if i < v.ws.length then
      if sign (v.tk i) [114, 101, 108, 97, 116, 105, 111, 110] = true then (relation v (i + 1)).bind fun x j => (must v [46] j).bind fun _ j => progF v k ⟨p.rels ++ [x], p.rules⟩ j
      else (rule v i).bind fun x j => (must v [46] j).bind fun _ j => progF v k ⟨p.rels, p.rules ++ [x]⟩ j
    else .ok p i
def prog (v : Env) (i : Nat) : PR Prog := progF v (v.ws.length + 1) ⟨[], []⟩ i

/-- a whole text's words -/
def whole {α : Type} (v : Env) (one : Nat → PR α) : PR α :=
  (one 0).bind fun a i => if i < v.ws.length ∨ v.last.1 ≠ 42 then .err (v.give 40 i) else .ok a i
/-- the place behind a text -/
def eot (s : List Nat) : Nat × Nat := (1 + s.count 10, 1 + (s.reverse.takeWhile (fun c => !(c == 10))).length)
def envOf (s : List Nat) : Env := ⟨(Lx.given s).1, if (Lx.given s).2.code = 0 then (42, eot s) else ((Lx.given s).2.code, (Lx.given s).2.fp)⟩
end Go.Proofs.YtppigckioalhhaaGreatDoorR.Sy
/- THE PARSER: its reader in memory; give, peek, sign, is, may, must, plain, name. -/
namespace Go.Proofs.YtppigckioalhhaaGreatDoorR
open Go.RowKit
set_option linter.unusedVariables false
set_option linter.unusedSimpArgs false
set_option maxRecDepth 100000

/-- a text's words: not too many, their numbers small -/
structure EnvOk (v : Sy.Env) : Prop where
  len : v.ws.length ≤ 65536
  num : ∀ t ∈ v.ws, t.num ≤ 2147483647
  byte : ∀ t ∈ v.ws, ∀ c ∈ t.text, c < 256
theorem cell_at {w : World} {b : Nat} {cs : Array Value} {T : TypeId} {fr : Nat × Nat} (h : w.heap[b]? = some (.cells cs T fr)) (i : Nat) : w.cell? ⟨b, i, none⟩ = cs[i]? := by simp [World.cell?, h]
theorem free_at {w : World} {b : Nat} {cs : Array Value} {T : TypeId} (h : w.heap[b]? = some (.cells cs T (0, 0))) (i : Nat) : w.frozen? ⟨b, i, none⟩ = false := by simp [World.frozen?, h]

/-- block b holds a reader that stands at word i -/
structure RdP (w : World) (b : Nat) (ra : Option Addr) (rc : Nat) (f : Value) (v : Sy.Env) (i : Nat) : Prop where
  at_ : w.heap[b]? = some (.cells #[.slice ra v.ws.length rc, .int .i64 (i : Nat), .int .i64 (v.last.1 : Nat), .int .i64 (v.last.2.1 : Nat), .int .i64 (v.last.2.2 : Nat), f] 128 (0, 0))
  row : TokRow w 0 (.slice ra v.ws.length rc) v.ws
  out : b ∉ fp (.slice ra v.ws.length rc)
theorem RdP.lt {w : World} {b : Nat} {ra : Option Addr} {rc : Nat} {f : Value} {v : Sy.Env} {i : Nat} (h : RdP w b ra rc f v i) : b < w.heap.size := lt_of_block h.at_
theorem RdP.keep {S : List Nat} {w w' : World} {b : Nat} {ra : Option Addr} {rc : Nat} {f : Value} {v : Sy.Env} {i : Nat} (h : RdP w b ra rc f v i) (hm : Mod S w w') (hb : b ∉ S) (hS : ∀ k ∈ fp (.slice ra v.ws.length rc), k ∉ S) : RdP w' b ra rc f v i :=
  ⟨hm.at h.at_ hb, h.row.keep hm hS, h.out⟩
theorem RdP.past {S : List Nat} {w w' : World} {b : Nat} {ra : Option Addr} {rc : Nat} {f : Value} {v : Sy.Env} {i : Nat} (h : RdP w b ra rc f v i) (hm : Mod S w w') (hS : ∀ t ∈ S, w.heap.size ≤ t) : RdP w' b ra rc f v i :=
  h.keep hm (fun hb => by have := hS b hb; have := h.lt; omega) (fun k hk hs => by have := hS k hs; have := fp_lt h.row.row k hk; omega)
theorem RdP.cells {w : World} {b : Nat} {ra : Option Addr} {rc : Nat} {f : Value} {v : Sy.Env} {i : Nat} (h : RdP w b ra rc f v i) :
    w.cell? ⟨b, 0, none⟩ = some (.slice ra v.ws.length rc) ∧ w.cell? ⟨b, 1, none⟩ = some (.int .i64 (i : Nat)) ∧ w.cell? ⟨b, 2, none⟩ = some (.int .i64 (v.last.1 : Nat)) ∧ w.cell? ⟨b, 3, none⟩ = some (.int .i64 (v.last.2.1 : Nat)) ∧
      w.cell? ⟨b, 4, none⟩ = some (.int .i64 (v.last.2.2 : Nat)) ∧ w.cell? ⟨b, 5, none⟩ = some f ∧ w.frozen? ⟨b, 1, none⟩ = false :=
  ⟨cell_at h.at_ 0, cell_at h.at_ 1, cell_at h.at_ 2, cell_at h.at_ 3, cell_at h.at_ 4, cell_at h.at_ 5, free_at h.at_ 1⟩
/-- the place turned -/
theorem RdP.to {w : World} {b : Nat} {ra : Option Addr} {rc : Nat} {f : Value} {v : Sy.Env} {i : Nat} (h : RdP w b ra rc f v i) (j : Nat) :
    RdP (w.setCell ⟨b, 1, none⟩ (.int .i64 (j : Nat))) b ra rc f v j ∧ Mod [b] w (w.setCell ⟨b, 1, none⟩ (.int .i64 (j : Nat))) := by
  have hm : Mod [b] w (w.setCell ⟨b, 1, none⟩ (.int .i64 (j : Nat))) := (Mod.refl [b] w).setCell (p := ⟨b, 1, none⟩) (.inl (by simp)) _
  refine ⟨⟨?_, h.row.keep hm (fun k hk hs => h.out (by simp at hs; exact hs ▸ hk)), h.out⟩, hm⟩
  have := setCell_at h.at_ 1 (.int .i64 (j : Nat))
  simpa using this
/-- a word's cells, where there is one -/
theorem RdP.word {w : World} {b : Nat} {ra : Option Addr} {rc : Nat} {f : Value} {v : Sy.Env} {i : Nat} (h : RdP w b ra rc f v i) (k : Nat) (hk : k < v.ws.length) :
    ∃ g, ra = some ⟨g, 0, none⟩ ∧ w.cell? ⟨g, k * 7, none⟩ = some (.int .i64 ((v.tk k).kind : Nat)) ∧ w.cell? ⟨g, k * 7 + 1, none⟩ = some (.string (Lx.ofS (v.tk k).text)) ∧ w.cell? ⟨g, k * 7 + 2, none⟩ = some (.int .i64 ((v.tk k).vk : Nat)) ∧
      w.cell? ⟨g, k * 7 + 3, none⟩ = some (.int .i64 ((v.tk k).num : Nat)) ∧ w.cell? ⟨g, k * 7 + 4, none⟩ = some (.string (Lx.ofS (v.tk k).sym)) ∧ w.cell? ⟨g, k * 7 + 5, none⟩ = some (.int .i64 ((v.tk k).line : Nat)) ∧ w.cell? ⟨g, k * 7 + 6, none⟩ = some (.int .i64 ((v.tk k).col : Nat)) := by
  have he : v.ws[k]? = some (v.tk k) := by unfold Sy.Env.tk; rw [List.getD_eq_getElem?_getD, List.getElem?_eq_getElem hk]; rfl
  obtain ⟨g, c, e, hc⟩ := h.row.at k _ he
  simp only [Value.slice.injEq] at e
  exact ⟨g, e.1, hc⟩
theorem tk_none {v : Sy.Env} {k : Nat} (hk : ¬ k < v.ws.length) : v.tk k = Sy.zT := by
  unfold Sy.Env.tk
  rw [List.getD_eq_getElem?_getD, List.getElem?_eq_none (by omega)]; rfl

theorem tk_mem {v : Sy.Env} (k : Nat) : v.tk k ∈ v.ws ∨ v.tk k = Sy.zT := by
  by_cases hk : k < v.ws.length
  · left
    unfold Sy.Env.tk
    rw [List.getD_eq_getElem?_getD, List.getElem?_eq_getElem hk]
    exact List.getElem_mem hk
  · exact .inr (tk_none hk)
theorem EnvOk.tbyte {v : Sy.Env} (h : EnvOk v) (k : Nat) : ∀ c ∈ (v.tk k).text, c < 256 := by
  rcases tk_mem (v := v) k with hm | hm
  · exact h.byte _ hm
  · rw [hm]; simp [Sy.zT]
theorem EnvOk.tnum {v : Sy.Env} (h : EnvOk v) (k : Nat) : (v.tk k).num ≤ 2147483647 := by
  rcases tk_mem (v := v) k with hm | hm
  · exact h.num _ hm
  · rw [hm]; simp [Sy.zT]
/-- how a panic of the reader's ends -/
def stopE (g : Sy.Flt) : Ending := .panicked [{ v := .iface 176 (.agg #[.int .i64 (g.1 : Nat), .int .i64 (g.2.1 : Nat), .int .i64 (g.2.2 : Nat)]), recovered := false }]

set_option maxHeartbeats 1000000 in
theorem give_any (b : Nat) (ra : Option Addr) (rc : Nat) (f : Value) (v : Sy.Env) (i c : Nat) (w : World) (h : RdP w b ra rc f v i) (hv : EnvOk v) (hi : i ≤ 70000) :
    Calls Tryz.prog 77 #[.pointer (some ⟨b, 0, none⟩), .int .i64 (c : Nat)] w fun e w' => e = stopE (v.give c i) ∧ Mod [] w w' := by
  obtain ⟨c0, c1, c2, c3, c4, c5, fz⟩ := h.cells
  have hl := hv.len
  by_cases hlt : i < v.ws.length
  · obtain ⟨g, rfl, t0, t1, t2, t3, t4, t5, t6⟩ := h.word i hlt
    have hiI : (i : Int) < (v.ws.length : Int) := by omega
    have hi0 : (0 : Int) ≤ (i : Int) := by omega
    have HG : Hid (v.give c i = (c, (v.tk i).line, (v.tk i).col)) := Lib.hid (by unfold Sy.Env.give; rw [if_pos hlt])
    clear h
    go_enter Tryz.func77, Tryz.ntmps77
    go_wp2_with fail
    go_quiet (fail)
    go_wp2_with fail
    refine wp_region_still_tail 15 (by kernel_rfl) (by kernel_rfl) ?_
    simp only [List.take_succ_cons, List.take_zero, List.drop_succ_cons, List.drop_zero]
    show wpStill Tryz.prog _ (World.drew (w.drewN nq)) (fun a' => wpList Tryz.prog _ _ _ a' (World.drew (w.drewN nq))) _ _
    repeat still_step
    try refine wpStill_nil ?_
    go_wp2_with fail
    exact ⟨rfl, by rw [HG.out]; rfl, ((Mod.refl [] w).drewN nq).drew⟩
  · have hiI : ¬ (i : Int) < (v.ws.length : Int) := by omega
    have HG : Hid (v.give c i = v.last) := Lib.hid (by unfold Sy.Env.give; rw [if_neg hlt])
    clear h
    go_enter Tryz.func77, Tryz.ntmps77
    go_wp2_with fail
    go_quiet (fail)
    go_wp2_with fail
    exact ⟨rfl, by rw [HG.out]; rfl, (Mod.refl [] w).drewN nq⟩

theorem drew_cells {w : World} {b : Nat} {cs : Array Value} {T : TypeId} {fr : Nat × Nat} (h : w.heap[b]? = some (.cells cs T fr)) : w.drew.heap[b]? = some (.cells cs T fr) := h
set_option maxHeartbeats 1000000 in
theorem peek_any (b : Nat) (ra : Option Addr) (rc : Nat) (f : Value) (v : Sy.Env) (i k : Nat) (w : World) (h : RdP w b ra rc f v i) (hv : EnvOk v) (hi : i ≤ 70000) (hk : k ≤ 10) :
    Calls Tryz.prog 70 #[.pointer (some ⟨b, 0, none⟩), .int .i64 (k : Nat)] w fun e w' => e = .returned (.agg (tokC (v.tk (i + k)))) ∧ Mod [] w w' := by
  have hl := hv.len
  have hbl := h.lt
  have mA := (Mod.refl [] w).alloc (Obj.cells #[Value.int IntKind.i64 0, Value.string { data := #[] }, Value.int IntKind.i64 0, Value.int IntKind.i64 0, Value.string { data := #[] }, Value.int IntKind.i64 0, Value.int IntKind.i64 0] 74)
  have hA := h.past mA (by simp)
  have eA := heap_alloc_new w (Obj.cells #[Value.int IntKind.i64 0, Value.string { data := #[] }, Value.int IntKind.i64 0, Value.int IntKind.i64 0, Value.string { data := #[] }, Value.int IntKind.i64 0, Value.int IntKind.i64 0] 74)
  obtain ⟨c0, c1, c2, c3, c4, c5, fz⟩ := hA.cells
  have fA : ∀ j, (w.alloc (Obj.cells #[Value.int IntKind.i64 0, Value.string { data := #[] }, Value.int IntKind.i64 0, Value.int IntKind.i64 0, Value.string { data := #[] }, Value.int IntKind.i64 0, Value.int IntKind.i64 0] 74)).frozen? ⟨w.heap.size, j, none⟩ = false := fun j => free_at eA j
  have x0 := cell_at eA 0
  have x1 := cell_at eA 1
  have x2 := cell_at eA 2
  have x3 := cell_at eA 3
  have x4 := cell_at eA 4
  have x5 := cell_at eA 5
  have x6 := cell_at eA 6
  simp only [List.getElem?_toArray, List.getElem?_cons_zero, List.getElem?_cons_succ] at x0 x1 x2 x3 x4 x5 x6
  have HA := Lib.hid hA; have EA := Lib.hid eA; have MA := Lib.hid mA
  clear h hA eA mA
  by_cases hlt : i + k < v.ws.length
  · obtain ⟨g, rfl, t0, t1, t2, t3, t4, t5, t6⟩ := HA.out.word (i + k) hlt
    have hiI : (i : Int) + (k : Int) < (v.ws.length : Int) := by omega
    have hi0 : (0 : Int) ≤ (i : Int) + (k : Int) := by omega
    have hN : ((i : Int) + (k : Int)).toNat = i + k := by omega
    have hW : IntKind.i64.wrap ((i : Int) + (k : Int)) = (i : Int) + (k : Int) := IntWalk.i64_in _ (by omega)
    go_enter Tryz.func70, Tryz.ntmps70
    go_upto_region 1 with fail
    generalize w.alloc (Obj.cells #[Value.int IntKind.i64 0, Value.string { data := #[] }, Value.int IntKind.i64 0, Value.int IntKind.i64 0, Value.string { data := #[] }, Value.int IntKind.i64 0, Value.int IntKind.i64 0] 74) = wA at *
    go_quiet (fail)
    go_wp2_with fail
    refine wp_region_still_tail 12 (by kernel_rfl) (by kernel_rfl) ?_
    simp only [List.take_succ_cons, List.take_zero, List.drop_succ_cons, List.drop_zero]
    show wpStill Tryz.prog _ (World.drew (wA.drewN nq)) (fun a' => wpList Tryz.prog _ _ _ a' (World.drew (wA.drewN nq))) _ _
    repeat still_step
    try refine wpStill_nil ?_
    clear hW
    go_wp2_with fail
    refine bodyPost_ret (results_cell_row rfl _ _ _ _ _ _ _ rfl (store_tok (drew_cells EA.out) _ _ _ _ _ _ _) Tryz.underlying74 rfl (by kernel_rfl)) rfl ⟨rfl, ?_⟩
    exact mod_tok (MA.out.drewN nq).drew (.inr (Nat.le_refl _)) _ _ _ _ _ _ _
  · have hiI : ¬ (i : Int) + (k : Int) < (v.ws.length : Int) := by omega
    have HT := Lib.hid (tk_none hlt)
    go_enter Tryz.func70, Tryz.ntmps70
    go_upto_region 1 with fail
    generalize w.alloc (Obj.cells #[Value.int IntKind.i64 0, Value.string { data := #[] }, Value.int IntKind.i64 0, Value.int IntKind.i64 0, Value.string { data := #[] }, Value.int IntKind.i64 0, Value.int IntKind.i64 0] 74) = wA at *
    go_quiet (fail)
    go_wp2_with fail
    refine bodyPost_ret (results_cell_row rfl _ _ _ _ _ _ _ rfl (store_tok (w := wA.drewN nq) EA.out _ _ _ _ _ _ _) Tryz.underlying74 rfl (by kernel_rfl)) rfl ⟨by rw [HT.out]; rfl, ?_⟩
    exact mod_tok (MA.out.drewN nq) (.inr (Nat.le_refl _)) _ _ _ _ _ _ _

theorem ofS_inj {a l : List Nat} (ha : ∀ c ∈ a, c < 256) (hl : ∀ c ∈ l, c < 256) (h : Lx.ofS a = Lx.ofS l) : a = l := by rw [← Lx.str_ofS ha, ← Lx.str_ofS hl, h]
theorem ofS_beq {a l : List Nat} (ha : ∀ c ∈ a, c < 256) (hl : ∀ c ∈ l, c < 256) : ((Lx.ofS a).toList == (Lx.ofS l).toList) = decide (a = l) := by
  have h1 : ∀ x y : ByteArray, (x.toList == y.toList) = decide (x = y) := by
    intro x y
    rw [ByteArray.toList_eq, ByteArray.toList_eq, Bool.eq_iff_iff]
    obtain ⟨⟨x⟩⟩ := x
    obtain ⟨⟨y⟩⟩ := y
    simp
  rw [h1]
  by_cases h : a = l
  · rw [h]; simp
  · have : Lx.ofS a ≠ Lx.ofS l := fun e => h (ofS_inj ha hl e)
    simp [h, this]
theorem int_beqN (a b : Nat) : ((a : Int) == (b : Int)) = decide (a = b) := by rw [Bool.eq_iff_iff]; simp; omega
set_option maxHeartbeats 1000000 in
theorem sign_any (t : Lx.Tok) (l : List Nat) (s : ByteArray) (w : World) (hs : Lx.ofS l = s) (ht : ∀ c ∈ t.text, c < 256) (hl : ∀ c ∈ l, c < 256) :
    Calls Tryz.prog 72 #[.agg (tokC t), .string s] w fun e w' => e = .returned (.bool (Sy.sign t l)) ∧ Mod [] w w' := by
  subst hs
  have hq := ofS_beq ht hl
  have eA := heap_alloc_new w (Obj.cells (tokC t) 74)
  obtain ⟨x0, x1, x2, x3, x4, x5, x6⟩ := tok_cells eA
  have MA := Lib.hid ((Mod.refl [] w).alloc (Obj.cells (tokC t) 74))
  unfold tokC at *
  obtain ⟨kd, tx, vk, nu, sy, ln, cl⟩ := t
  dsimp only at *
  have hr : Hid (Sy.sign ⟨kd, tx, vk, nu, sy, ln, cl⟩ l = (decide (tx = l) && (decide (kd = 5) || decide (kd = 1)))) := Lib.hid rfl
  by_cases h1 : tx = l
  · rw [decide_eq_true h1] at hq
    have HR : Hid (Sy.sign ⟨kd, tx, vk, nu, sy, ln, cl⟩ l = (decide (kd = 5) || decide (kd = 1))) := Lib.hid (by rw [hr.out, decide_eq_true h1]; rfl)
    clear h1 eA ht hl hr
    by_cases h5 : kd = 5
    · have k5 : ((kd : Int) == 5) = true := by rw [h5]; rfl
      have HR2 : Hid (Sy.sign ⟨kd, tx, vk, nu, sy, ln, cl⟩ l = true) := Lib.hid (by rw [HR.out, decide_eq_true h5]; rfl)
      clear h5 HR
      go_enter Tryz.func72, Tryz.ntmps72
      go_wp2_with fail
      go_ret
      exact ⟨by rw [HR2.out]; rfl, MA.out⟩
    · have k5 : ((kd : Int) == 5) = false := by rw [beq_eq_false_iff_ne]; omega
      by_cases h1 : kd = 1
      · have k1 : ((kd : Int) == 1) = true := by rw [h1]; rfl
        have HR2 : Hid (Sy.sign ⟨kd, tx, vk, nu, sy, ln, cl⟩ l = true) := Lib.hid (by rw [HR.out, decide_eq_true h1]; simp)
        clear h5 h1 HR
        go_enter Tryz.func72, Tryz.ntmps72
        go_wp2_with fail
        go_ret
        exact ⟨by rw [HR2.out]; rfl, MA.out⟩
      · have k1 : ((kd : Int) == 1) = false := by rw [beq_eq_false_iff_ne]; omega
        have HR2 : Hid (Sy.sign ⟨kd, tx, vk, nu, sy, ln, cl⟩ l = false) := Lib.hid (by rw [HR.out, decide_eq_false h1, decide_eq_false h5]; rfl)
        clear h5 h1 HR
        go_enter Tryz.func72, Tryz.ntmps72
        go_wp2_with fail
        go_ret
        exact ⟨by rw [HR2.out]; rfl, MA.out⟩
  · rw [decide_eq_false h1] at hq
    have HR : Hid (Sy.sign ⟨kd, tx, vk, nu, sy, ln, cl⟩ l = false) := Lib.hid (by rw [hr.out, decide_eq_false h1]; rfl)
    clear h1 eA ht hl hr
    go_enter Tryz.func72, Tryz.ntmps72
    go_wp2_with fail
    go_ret
    exact ⟨by rw [HR.out]; rfl, MA.out⟩
end Go.Proofs.YtppigckioalhhaaGreatDoorR
/- THE PARSER: is, may, must, plain, name, operand, place, level. -/
namespace Go.Proofs.YtppigckioalhhaaGreatDoorR
open Go.RowKit
set_option linter.unusedVariables false
set_option linter.unusedSimpArgs false
set_option maxRecDepth 100000

/-- all that the reader leans on lies below n -/
def RdL (b : Nat) (ra : Option Addr) (rc : Nat) (f : Value) (v : Sy.Env) (n : Nat) : Prop := b < n ∧ ∀ k ∈ fp (.slice ra v.ws.length rc), k < n
theorem RdP.low {b : Nat} {ra : Option Addr} {rc : Nat} {f : Value} {v : Sy.Env} {i : Nat} {w : World} (h : RdP w b ra rc f v i) : RdL b ra rc f v w.heap.size := ⟨h.lt, fun k hk => fp_lt h.row.row k hk⟩
theorem RdP.new {b : Nat} {ra : Option Addr} {rc : Nat} {f : Value} {v : Sy.Env} {i n : Nat} {S : List Nat} {w w' : World} (h : RdP w b ra rc f v i) (hl : RdL b ra rc f v n) (hm : Mod S w w') (hS : ∀ t ∈ S, n ≤ t) : RdP w' b ra rc f v i :=
  h.keep hm (fun hb => by have := hS b hb; have := hl.1; omega) (fun k hk hs => by have := hS k hs; have := hl.2 k hk; omega)
theorem peek0 (b : Nat) (ra : Option Addr) (rc : Nat) (f : Value) (v : Sy.Env) (i : Nat) (w : World) (h : RdP w b ra rc f v i) (hv : EnvOk v) (hi : i ≤ 70000) :
    Calls Tryz.prog 70 #[.pointer (some ⟨b, 0, none⟩), .int .i64 0] w fun e w' => e = .returned (.agg (tokC (v.tk i))) ∧ Mod [] w w' := peek_any b ra rc f v i 0 w h hv hi (by omega)
theorem peek1 (b : Nat) (ra : Option Addr) (rc : Nat) (f : Value) (v : Sy.Env) (i : Nat) (w : World) (h : RdP w b ra rc f v i) (hv : EnvOk v) (hi : i ≤ 70000) :
    Calls Tryz.prog 70 #[.pointer (some ⟨b, 0, none⟩), .int .i64 1] w fun e w' => e = .returned (.agg (tokC (v.tk (i + 1)))) ∧ Mod [] w w' := peek_any b ra rc f v i 1 w h hv hi (by omega)
theorem peek2 (b : Nat) (ra : Option Addr) (rc : Nat) (f : Value) (v : Sy.Env) (i : Nat) (w : World) (h : RdP w b ra rc f v i) (hv : EnvOk v) (hi : i ≤ 70000) :
    Calls Tryz.prog 70 #[.pointer (some ⟨b, 0, none⟩), .int .i64 2] w fun e w' => e = .returned (.agg (tokC (v.tk (i + 2)))) ∧ Mod [] w w' := peek_any b ra rc f v i 2 w h hv hi (by omega)

theorem is_any (b : Nat) (ra : Option Addr) (rc : Nat) (f : Value) (v : Sy.Env) (i : Nat) (l : List Nat) (s : ByteArray) (w : World) (h : RdP w b ra rc f v i) (hv : EnvOk v) (hi : i ≤ 70000) (hs : Lx.ofS l = s) (hl : ∀ c ∈ l, c < 256) :
    Calls Tryz.prog 103 #[.pointer (some ⟨b, 0, none⟩), .string s] w fun e w' => e = .returned (.bool (Sy.sign (v.tk i) l)) ∧ Mod [] w w' := by
  have HP := Lib.hid (peek0 b ra rc f v i w h hv hi)
  have HB := Lib.hid (hv.tbyte i)
  generalize v.tk i = t at *
  generalize hr : Sy.sign t l = r
  have HR := Lib.hid hr; have HL := Lib.hid hl; have HS := Lib.hid hs
  clear h hr hl hs
  go_enter Tryz.func103, Tryz.ntmps103
  go_wp2_with fail
  refine HP.out.mono ?_
  rintro e1 w1 ⟨rfl, m1⟩
  have M1 := Lib.hid m1
  clear m1
  go_wp2_with fail
  refine (sign_any t l s w1 HS.out HB.out HL.out).mono ?_
  rintro e2 w2 ⟨rfl, m2⟩
  have M2 := Lib.hid (M1.out.trans m2 (by simp))
  clear m2
  rw [HR.out]
  go_wp2_with fail
  go_ret
  exact ⟨rfl, M2.out⟩

/-- what may leaves -/
def MayR (b : Nat) (ra : Option Addr) (rc : Nat) (f : Value) (v : Sy.Env) (r : Bool) (i : Nat) (w : World) (e : Ending) (w' : World) : Prop := e = .returned (.bool r) ∧ RdP w' b ra rc f v (if r then i + 1 else i) ∧ Mod [b] w w'
theorem may_any (b : Nat) (ra : Option Addr) (rc : Nat) (f : Value) (v : Sy.Env) (i : Nat) (l : List Nat) (s : ByteArray) (w : World) (h : RdP w b ra rc f v i) (hv : EnvOk v) (hi : i ≤ 70000) (hs : Lx.ofS l = s) (hl : ∀ c ∈ l, c < 256) :
    Calls Tryz.prog 59 #[.pointer (some ⟨b, 0, none⟩), .string s] w (MayR b ra rc f v (Sy.sign (v.tk i) l) i w) := by
  have HI := Lib.hid (is_any b ra rc f v i l s w h hv hi hs hl)
  have HH := Lib.hid h
  generalize Sy.sign (v.tk i) l = r at *
  clear h hl hs
  go_enter Tryz.func59, Tryz.ntmps59
  go_wp2_with fail
  refine HI.out.mono ?_
  rintro e1 w1 ⟨rfl, m1⟩
  have h1 := HH.out.past m1 (by simp)
  obtain ⟨c0, c1, c2, c3, c4, c5, fz⟩ := h1.cells
  have H1 := Lib.hid h1; have M1 := Lib.hid m1
  clear m1 h1
  cases r
  · go_wp2_with fail
    go_ret
    exact ⟨rfl, H1.out, M1.out.mono (by simp)⟩
  · go_wp2_with fail
    go_ret
    exact ⟨rfl, (H1.out.to (i + 1)).1, (M1.out.mono (T := [b]) (by simp)).trans (H1.out.to (i + 1)).2 (by simp)⟩

/-- what a call of the reader's leaves: the thing that val speaks of, or the panic -/
def PRes {α : Type} (b : Nat) (ra : Option Addr) (rc : Nat) (f : Value) (v : Sy.Env) (r : Sy.PR α) (val : α → World → Value → Prop) (w : World) (e : Ending) (w' : World) : Prop :=
  match r with
  | .ok a j => ∃ x, e = .returned x ∧ val a w' x ∧ RdP w' b ra rc f v j ∧ Mod [b] w w'
  | .err g => e = stopE g ∧ Mod [b] w w'
def valU : Unit → World → Value → Prop := fun _ _ x => x = .tuple #[]
theorem must_any (b : Nat) (ra : Option Addr) (rc : Nat) (f : Value) (v : Sy.Env) (i : Nat) (l : List Nat) (s : ByteArray) (w : World) (h : RdP w b ra rc f v i) (hv : EnvOk v) (hi : i ≤ 70000) (hs : Lx.ofS l = s) (hl : ∀ c ∈ l, c < 256) :
    Calls Tryz.prog 61 #[.pointer (some ⟨b, 0, none⟩), .string s] w (PRes b ra rc f v (Sy.must v l i) valU w) := by
  have HM := Lib.hid (may_any b ra rc f v i l s w h hv hi hs hl)
  have HR : Hid (Sy.must v l i = if Sy.sign (v.tk i) l = true then .ok () (i + 1) else .err (v.give 40 i)) := Lib.hid rfl
  generalize Sy.sign (v.tk i) l = r at *
  generalize Sy.must v l i = q at *
  clear h hl hs
  cases r
  · obtain rfl : q = .err (v.give 40 i) := HR.out
    clear HR
    go_enter Tryz.func61, Tryz.ntmps61
    go_wp2_with fail
    refine HM.out.mono ?_
    rintro e1 w1 ⟨rfl, h1, m1⟩
    have M1 := Lib.hid m1; have H1 := Lib.hid h1
    clear m1 h1
    go_wp2_with fail
    refine (give_any b ra rc f v i 40 w1 H1.out hv hi).mono ?_
    rintro e2 w2 ⟨rfl, m2⟩
    have M2 := Lib.hid (M1.out.trans m2 (by simp))
    clear m2
    unfold stopE
    go_wp2_with fail
    exact ⟨rfl, rfl, M2.out⟩
  · obtain rfl : q = .ok () (i + 1) := HR.out
    clear HR
    go_enter Tryz.func61, Tryz.ntmps61
    go_wp2_with fail
    refine HM.out.mono ?_
    rintro e1 w1 ⟨rfl, h1, m1⟩
    have M1 := Lib.hid m1; have H1 := Lib.hid h1
    clear m1 h1
    go_wp2_with fail
    go_end0
    exact ⟨_, rfl, rfl, H1.out, M1.out⟩
end Go.Proofs.YtppigckioalhhaaGreatDoorR
/- THE PARSER: what a word is: reserved, plain, operand, place, level. -/
namespace Go.Proofs.YtppigckioalhhaaGreatDoorR
open Go.RowKit
set_option linter.unusedVariables false
set_option linter.unusedSimpArgs false
set_option maxRecDepth 100000

def resU : List (List UInt8) := [[114, 101, 108, 97, 116, 105, 111, 110], [110, 111, 116], [110, 117, 109], [115, 121, 109], [109, 111, 100], [99, 111, 117, 110, 116], [115, 117, 109], [109, 105, 110], [109, 97, 120]]
def resB (s : ByteArray) : Bool := resU.contains s.toList
theorem Reserved_any (s : ByteArray) (w : World) :
    Calls Tryz.prog 107 #[.string s] w fun e w' => e = .returned (.bool (resB s)) ∧ w' = w := by
  go_enter Tryz.func107, Tryz.ntmps107
  go_wp2
  all_goals (first | (exfalso; simp_all; done) | (go_ret; exact ⟨by congr 1; simp_all [resB, resU], rfl⟩))
theorem toList_ofS (l : List Nat) : (Lx.ofS l).toList = l.map UInt8.ofNat := by rw [ByteArray.toList_eq]; simp [Lx.ofS]
theorem map_beq {a l : List Nat} (ha : ∀ c ∈ a, c < 256) (hl : ∀ c ∈ l, c < 256) : (a.map UInt8.ofNat == l.map UInt8.ofNat) = decide (a = l) := by
  rw [← toList_ofS, ← toList_ofS]; exact ofS_beq ha hl
theorem contains_map (R : List (List Nat)) (hR : ∀ l ∈ R, ∀ c ∈ l, c < 256) {a : List Nat} (ha : ∀ c ∈ a, c < 256) : (R.map (·.map UInt8.ofNat)).contains (a.map UInt8.ofNat) = R.contains a := by
  induction R with
  | nil => rfl
  | cons l r ih =>
    rw [List.map_cons, List.contains_cons, List.contains_cons, ih (fun x hx => hR x (List.mem_cons_of_mem _ hx)), map_beq ha (hR l List.mem_cons_self)]
    by_cases h : a = l <;> simp [h]
theorem resB_ofS {tx : List Nat} (h : ∀ c ∈ tx, c < 256) : resB (Lx.ofS tx) = Sy.resW.contains tx := by
  unfold resB
  rw [toList_ofS, ← contains_map Sy.resW (by decide) h]
  rfl
theorem plain_any (t : Lx.Tok) (w : World) (ht : ∀ c ∈ t.text, c < 256) :
    Calls Tryz.prog 71 #[.agg (tokC t)] w fun e w' => e = .returned (.bool (Sy.plain t)) ∧ Mod [] w w' := by
  have hq := resB_ofS ht
  have eA := heap_alloc_new w (Obj.cells (tokC t) 74)
  obtain ⟨x0, x1, x2, x3, x4, x5, x6⟩ := tok_cells eA
  have MA := Lib.hid ((Mod.refl [] w).alloc (Obj.cells (tokC t) 74))
  have hr : Hid (Sy.plain t = (decide (t.kind = 1) && !(Sy.resW.contains t.text))) := Lib.hid rfl
  have hW := fun w => Reserved_any (Lx.ofS t.text) w
  rw [hq] at hW
  generalize Sy.resW.contains t.text = q at *
  have HW := Lib.hid hW
  unfold tokC at *
  clear eA ht hq hW
  by_cases h1 : t.kind = 1
  · have k1 : ((t.kind : Int) == 1) = true := by rw [h1]; rfl
    have HR : Hid (Sy.plain t = !q) := Lib.hid (by rw [hr.out, decide_eq_true h1]; rfl)
    clear h1 hr
    go_enter Tryz.func71, Tryz.ntmps71
    go_wp2_with fail
    refine (HW.out _).mono ?_
    rintro e1 w1 ⟨rfl, rfl⟩
    go_wp2_with fail
    go_ret
    exact ⟨by rw [HR.out]; rfl, MA.out⟩
  · have k1 : ((t.kind : Int) == 1) = false := by rw [beq_eq_false_iff_ne]; omega
    have HR : Hid (Sy.plain t = false) := Lib.hid (by rw [hr.out, decide_eq_false h1]; rfl)
    clear h1 hr
    go_enter Tryz.func71, Tryz.ntmps71
    go_wp2_with fail
    go_ret
    exact ⟨by rw [HR.out]; rfl, MA.out⟩

def valT : Lx.Tok → World → Value → Prop := fun t _ x => x = .agg (tokC t)
theorem name_any (b : Nat) (ra : Option Addr) (rc : Nat) (f : Value) (v : Sy.Env) (i : Nat) (w : World) (h : RdP w b ra rc f v i) (hv : EnvOk v) (hi : i ≤ 70000) :
    Calls Tryz.prog 86 #[.pointer (some ⟨b, 0, none⟩)] w (PRes b ra rc f v (Sy.name v i) valT w) := by
  have mA := (Mod.refl [] w).alloc (Obj.cells #[Value.int IntKind.i64 0, Value.string { data := #[] }, Value.int IntKind.i64 0, Value.int IntKind.i64 0, Value.string { data := #[] }, Value.int IntKind.i64 0, Value.int IntKind.i64 0] 74)
  have hA := h.past mA (by simp)
  have eA := heap_alloc_new w (Obj.cells #[Value.int IntKind.i64 0, Value.string { data := #[] }, Value.int IntKind.i64 0, Value.int IntKind.i64 0, Value.string { data := #[] }, Value.int IntKind.i64 0, Value.int IntKind.i64 0] 74)
  have HP := Lib.hid (peek0 b ra rc f v i _ hA hv hi)
  have HB := Lib.hid (hv.tbyte i)
  have HR : Hid (Sy.name v i = if Sy.plain (v.tk i) = true then .ok (v.tk i) (i + 1) else .err (v.give 40 i)) := Lib.hid rfl
  have HPl := Lib.hid (fun w => plain_any (v.tk i) w HB.out)
  have HH := Lib.hid hA; have EA := Lib.hid eA; have MA := Lib.hid mA
  have hbl := h.lt
  have HLo := Lib.hid h.low
  clear h hA eA mA HB
  generalize v.tk i = t at *
  generalize Sy.plain t = r at *
  generalize Sy.name v i = q at *
  go_enter Tryz.func86, Tryz.ntmps86
  go_upto_region 1 with fail
  have hsA : (w.alloc (Obj.cells #[Value.int IntKind.i64 0, Value.string { data := #[] }, Value.int IntKind.i64 0, Value.int IntKind.i64 0, Value.string { data := #[] }, Value.int IntKind.i64 0, Value.int IntKind.i64 0] 74)).heap.size = w.heap.size + 1 := by simp
  generalize w.alloc (Obj.cells #[Value.int IntKind.i64 0, Value.string { data := #[] }, Value.int IntKind.i64 0, Value.int IntKind.i64 0, Value.string { data := #[] }, Value.int IntKind.i64 0, Value.int IntKind.i64 0] 74) = wA at *
  go_wp2_with fail
  refine HP.out.mono ?_
  rintro e1 w1 ⟨rfl, m1⟩
  have s1 := m1.size
  have mB := (Mod.refl [] w1).alloc (Obj.cells (tokC t) 74)
  have eB := heap_alloc_new w1 (Obj.cells (tokC t) 74)
  have HH := Lib.hid ((HH.out.past m1 (by simp)).past mB (by simp)); have EA := Lib.hid (mB.at (m1.at EA.out (by simp)) (by simp)); have MA := Lib.hid ((MA.out.trans m1 (by simp)).trans mB (by simp)); have EB := Lib.hid eB
  obtain ⟨x0, x1, x2, x3, x4, x5, x6⟩ := tok_cells eB
  clear m1 mB eB
  unfold tokC at *
  go_upto_region 2 with fail
  generalize w1.alloc (Obj.cells _ 74) = wB at *
  go_wp2_with fail
  refine (HPl.out wB).mono ?_
  rintro e2 w2 ⟨rfl, m2⟩
  have h2 := HH.out.past m2 (by simp)
  have e2 := m2.at EB.out (by simp)
  have a2 := m2.at EA.out (by simp)
  obtain ⟨c0, c1, c2, c3, c4, c5, fz⟩ := h2.cells
  have H2 := Lib.hid h2; have M2 := Lib.hid (MA.out.trans m2 (by simp)); have EA2 := Lib.hid a2; have EB2 := Lib.hid e2
  clear h2 m2 x0 x1 x2 x3 x4 x5 x6
  cases r
  · obtain rfl : q = .err (v.give 40 i) := HR.out
    clear HR e2 a2
    go_wp2_with fail
    refine (give_any b ra rc f v i 40 w2 H2.out hv hi).mono ?_
    rintro e3 w3 ⟨rfl, m3⟩
    have M3 := Lib.hid (M2.out.trans m3 (by simp))
    clear m3
    unfold stopE
    go_wp2_with fail
    exact ⟨rfl, rfl, M3.out.mono (by simp)⟩
  · obtain rfl : q = .ok t (i + 1) := HR.out
    have hT := H2.out.to (i + 1)
    have hA3 : (w2.setCell ⟨b, 1, none⟩ (.int .i64 ((i : Int) + 1))).heap[w.heap.size]? = _ := hT.2.at EA2.out (by simp; omega)
    have hB3 : (w2.setCell ⟨b, 1, none⟩ (.int .i64 ((i : Int) + 1))).heap[w1.heap.size]? = _ := hT.2.at EB2.out (by simp; omega)
    have HT : Hid (RdP (w2.setCell ⟨b, 1, none⟩ (.int .i64 ((i : Int) + 1))) b ra rc f v (i + 1) ∧ Mod [b] w (w2.setCell ⟨b, 1, none⟩ (.int .i64 ((i : Int) + 1)))) := Lib.hid ⟨hT.1, (M2.out.mono (T := [b]) (by simp)).trans hT.2 (by simp)⟩
    obtain ⟨x0, x1, x2, x3, x4, x5, x6⟩ := tok_cells hB3
    have fA : ∀ j, (w2.setCell ⟨b, 1, none⟩ (.int .i64 ((i : Int) + 1))).frozen? ⟨w.heap.size, j, none⟩ = false := fun j => free_at hA3 j
    have y0 := cell_at hA3 0
    have y1 := cell_at hA3 1
    have y2 := cell_at hA3 2
    have y3 := cell_at hA3 3
    have y4 := cell_at hA3 4
    have y5 := cell_at hA3 5
    have y6 := cell_at hA3 6
    simp only [List.getElem?_toArray, List.getElem?_cons_zero, List.getElem?_cons_succ] at y0 y1 y2 y3 y4 y5 y6
    have HA3 := Lib.hid hA3
    clear HR hT e2 a2 hA3 hB3
    go_upto_region 5 with fail
    generalize w2.setCell ⟨b, 1, none⟩ (.int .i64 ((i : Int) + 1)) = w3 at *
    go_wp2_with fail
    have mR := mod_tok (b := w.heap.size) (Mod.refl [w.heap.size] w3) (.inl (by simp)) (.int .i64 (t.kind : Nat)) (.string (Lx.ofS t.text)) (.int .i64 (t.vk : Nat)) (.int .i64 (t.num : Nat)) (.string (Lx.ofS t.sym)) (.int .i64 (t.line : Nat)) (.int .i64 (t.col : Nat))
    refine bodyPost_ret (results_cell_row rfl _ _ _ _ _ _ _ rfl (store_tok HA3.out _ _ _ _ _ _ _) Tryz.underlying74 rfl (by kernel_rfl)) rfl ⟨_, rfl, rfl, HT.out.1.new HLo.out mR (by simp), HT.out.2.trans mR (by simp)⟩
end Go.Proofs.YtppigckioalhhaaGreatDoorR
/- THE PARSER: operand, place, function, level; rows of cells written whole. -/
namespace Go.Proofs.YtppigckioalhhaaGreatDoorR
open Go.RowKit
set_option linter.unusedVariables false
set_option linter.unusedSimpArgs false
set_option maxRecDepth 100000

/-- cells written one behind the other -/
def setCs (w : World) (b : Nat) : Nat → List Value → World
  | _, [] => w
  | o, v :: r => setCs (w.setCell ⟨b, o, none⟩ v) b (o + 1) r
theorem setCs_mod (b : Nat) : ∀ (vs : List Value) (o : Nat) (w : World), Mod [b] w (setCs w b o vs)
  | [], o, w => Mod.refl _ _
  | v :: r, o, w => ((Mod.refl [b] w).setCell (p := ⟨b, o, none⟩) (.inl (by simp)) v).trans (setCs_mod b r (o + 1) _) (by simp)
def putL (cs : List Value) : Nat → List Value → List Value
  | _, [] => cs
  | o, v :: r => putL (cs.set o v) (o + 1) r
theorem setCs_heap {b : Nat} {T : TypeId} {fr : Nat × Nat} : ∀ (vs : List Value) (o : Nat) (cs : List Value) (w : World), w.heap[b]? = some (.cells cs.toArray T fr) →
    (setCs w b o vs).heap[b]? = some (.cells (putL cs o vs).toArray T fr)
  | [], o, cs, w, h => h
  | v :: r, o, cs, w, h => by
    have := setCell_at h o v
    rw [List.setIfInBounds_toArray] at this
    exact setCs_heap r (o + 1) (cs.set o v) _ this
theorem putL_len : ∀ (vs : List Value) (o : Nat) (cs : List Value), (putL cs o vs).length = cs.length
  | [], o, cs => rfl
  | v :: r, o, cs => by rw [putL, putL_len r]; simp
theorem putL_get : ∀ (vs : List Value) (o : Nat) (cs : List Value) (j : Nat), o + vs.length ≤ cs.length → (putL cs o vs)[j]? = if j < o then cs[j]? else if j < o + vs.length then vs[j - o]? else cs[j]?
  | [], o, cs, j, _ => by
    by_cases h : j < o
    · rw [if_pos h]; rfl
    · rw [if_neg h, if_neg (by simp; omega)]; rfl
  | v :: r, o, cs, j, h => by
    simp only [List.length_cons] at h ⊢
    rw [putL, putL_get r (o + 1) (cs.set o v) j (by simp; omega)]
    by_cases h1 : j < o
    · rw [if_pos (by omega), if_pos h1, List.getElem?_set_ne (by omega)]
    · rw [if_neg h1]
      by_cases h2 : j = o
      · subst h2
        rw [if_pos (by omega), if_pos (by omega), List.getElem?_set_self (by omega)]; simp
      · rw [if_neg (by omega)]
        by_cases h3 : j < o + (r.length + 1)
        · rw [if_pos (by omega), if_pos h3, show j - o = (j - (o + 1)) + 1 by omega, List.getElem?_cons_succ]
        · rw [if_neg (by omega), if_neg h3, List.getElem?_set_ne (by omega)]
/-- a row written whole -/
theorem setCs_row {w : World} {b : Nat} {cs : Array Value} {T : TypeId} {fr : Nat × Nat} {vs : List Value} (h : w.heap[b]? = some (.cells cs T fr)) (hn : cs.size = vs.length) : (setCs w b 0 vs).heap[b]? = some (.cells vs.toArray T fr) := by
  have h2 := setCs_heap vs 0 cs.toList w (by simpa using h)
  rw [h2]
  congr 2
  refine congrArg List.toArray ?_
  apply List.ext_getElem?
  intro j
  rw [putL_get _ _ _ _ (by simp [hn])]
  rw [if_neg (by omega)]
  by_cases hj : j < vs.length
  · rw [if_pos (by omega)]; simp
  · rw [if_neg (by omega), List.getElem?_eq_none (by simp; omega), List.getElem?_eq_none (by omega)]

theorem placeF_hit {t : Lx.Tok} : ∀ (l : List (List Nat)) (n k : Nat) (hk : k < l.length), (∀ j (h : j < k), Sy.sign t (l[j]'(by omega)) = false) → Sy.sign t l[k] = true → Sy.placeF t l n = n + k + 1
  | s :: r, n, 0, hk, _, h => by simp [Sy.placeF, show Sy.sign t s = true from h]
  | s :: r, n, k + 1, hk, hb, h => by
    have h0 := hb 0 (by omega)
    rw [Sy.placeF, if_neg (by simpa using h0), placeF_hit r (n + 1) k (by simpa using hk) (fun j hj => by simpa using hb (j + 1) (by omega)) (by simpa using h)]
    omega
theorem placeF_miss {t : Lx.Tok} : ∀ (l : List (List Nat)) (n : Nat), (∀ s ∈ l, Sy.sign t s = false) → Sy.placeF t l n = 0
  | [], n, _ => rfl
  | s :: r, n, h => by
    rw [Sy.placeF, if_neg (by simpa using h s List.mem_cons_self), placeF_miss r (n + 1) (fun x hx => h x (List.mem_cons_of_mem _ hx))]

set_option maxHeartbeats 1000000 in
theorem place_any (t : Lx.Tok) (g c : Nat) (ss : List (List Nat)) (w : World) (ht : ∀ c ∈ t.text, c < 256) (hss : ∀ s ∈ ss, ∀ c ∈ s, c < 256) (hn : ss.length ≤ 100)
    (hc : ∀ i (h : i < ss.length), w.cell? ⟨g, i, none⟩ = some (.string (Lx.ofS ss[i]))) :
    Calls Tryz.prog 76 #[.agg (tokC t), .slice (some ⟨g, 0, none⟩) ss.length c] w fun e w' => e = .returned (.int .i64 (Sy.place t ss : Nat)) ∧ Mod [] w w' := by
  have eA := heap_alloc_new w (Obj.cells (tokC t) 74)
  have mA := (Mod.refl [] w).alloc (Obj.cells (tokC t) 74)
  have HT := Lib.hid ht; have HSS := Lib.hid hss; have HC := Lib.hid (fun i h => mA.cell (hc i h) (by simp)); have EA := Lib.hid eA; have MA := Lib.hid mA
  have HS := Lib.hid (fun (s : List Nat) (w : World) (hs : ∀ c ∈ s, c < 256) => sign_any t s (Lx.ofS s) w rfl ht hs)
  clear ht hss hc eA mA
  unfold tokC at *
  go_enter Tryz.func76, Tryz.ntmps76
  go_wp2_with fail
  generalize w.alloc (Obj.cells _ 74) = wA at *
  go_loopg [9] ss.length (fun gk iv wr => ∃ k : Nat, ss.length = gk + k ∧ iv = .int .i64 (k : Nat) ∧ Mod [] wA wr ∧ (∀ j (h : j < k) (h2 : j < ss.length), Sy.sign t ss[j] = false))
  case atStart => exact ⟨0, rfl, rfl, Mod.refl _ _, fun j h => by omega⟩
  case round =>
    obtain ⟨k, hg, rfl, hm, hb⟩ := hrel
    by_cases hk : k < ss.length
    · have hkI : (k : Int) < (ss.length : Int) := by omega
      have hk0 : (0 : Int) ≤ (k : Int) := by omega
      have hcell := hm.cell (HC.out k hk) (by simp)
      obtain ⟨x0, x1, x2, x3, x4, x5, x6⟩ := tok_cells (hm.at EA.out (by simp))
      have HM := Lib.hid hm; have HB := Lib.hid hb; have HG := Lib.hid hg
      have HS1 := Lib.hid (HS.out ss[k] wr (HSS.out _ (List.getElem_mem hk)))
      have HP : Hid (Sy.sign t ss[k] = true → Sy.place t ss = k + 1) := Lib.hid (fun h => by
        have := placeF_hit ss 0 k hk (fun j hj => hb j hj (by omega)) h
        unfold Sy.place; omega)
      have HN : Hid (Sy.sign t ss[k] = false → ∀ j (h : j < k + 1) (h2 : j < ss.length), Sy.sign t ss[j] = false) := Lib.hid (fun h j hj h2 => by
        by_cases e : j = k
        · subst e; exact h
        · exact hb j (by omega) h2)
      generalize ss[k] = s at *
      generalize Sy.sign t s = r at *
      clear hm hb hg
      go_wp2_with fail
      refine HS1.out.mono ?_
      rintro e1 w1 ⟨rfl, m1⟩
      have M1 := Lib.hid (HM.out.trans m1 (by simp))
      clear m1 x0 x1 x2 x3 x4 x5 x6
      cases r
      · have HN2 := Lib.hid (HN.out rfl)
        clear HN HP
        go_wp2_with fail
        go_roundg (gk - 1)
        case measure => have := HG.out; omega
        case rel => exact ⟨k + 1, by have := HG.out; omega, by go_num, M1.out, HN2.out⟩
      · have HP2 := Lib.hid (HP.out rfl)
        clear HN HP
        go_wp2_with fail
        go_ret
        exact ⟨by rw [HP2.out]; rfl, MA.out.trans M1.out (by simp)⟩
    · have hkI : ¬ (k : Int) < (ss.length : Int) := by omega
      have HM := Lib.hid hm
      have HP : Hid (Sy.place t ss = 0) := Lib.hid (placeF_miss ss 0 (fun s hs => by
        obtain ⟨j, hj, rfl⟩ := List.getElem_of_mem hs
        exact hb j (by omega) hj))
      clear hm hb hg
      go_wp2_with fail
      go_ret
      exact ⟨by rw [HP.out]; rfl, MA.out.trans HM.out (by simp)⟩
end Go.Proofs.YtppigckioalhhaaGreatDoorR
/- THE PARSER: function, level, operand. -/
namespace Go.Proofs.YtppigckioalhhaaGreatDoorR
open Go.RowKit
set_option linter.unusedVariables false
set_option linter.unusedSimpArgs false
set_option maxRecDepth 100000

theorem function_any (t : Lx.Tok) (w : World) (ht : ∀ c ∈ t.text, c < 256) :
    Calls Tryz.prog 73 #[.agg (tokC t)] w fun e w' => e = .returned (.int .i64 (Sy.fnOf t : Nat)) ∧ Mod [] w w' := by
  have eA := heap_alloc_new w (Obj.cells (tokC t) 74)
  have mA := (Mod.refl [] w).alloc (Obj.cells (tokC t) 74)
  obtain ⟨x0, x1, x2, x3, x4, x5, x6⟩ := tok_cells eA
  have HA := Lib.hid mA
  have HP := Lib.hid (fun g w hc => place_any t g 4 [[99, 111, 117, 110, 116], [115, 117, 109], [109, 105, 110], [109, 97, 120]] w ht (by decide) (by decide) hc)
  clear eA mA ht
  unfold tokC at *
  go_enter Tryz.func73, Tryz.ntmps73
  go_wp2_with fail
  have hsz : (w.alloc (Obj.cells #[Value.int .i64 (t.kind : Nat), Value.string (Lx.ofS t.text), Value.int .i64 (t.vk : Nat), Value.int .i64 (t.num : Nat), Value.string (Lx.ofS t.sym), Value.int .i64 (t.line : Nat), Value.int .i64 (t.col : Nat)] 74)).heap.size = w.heap.size + 1 := by simp
  generalize w.alloc (Obj.cells _ 74) = wA at *
  refine (HP.out _ _ (fun i hi => ?_)).mono ?_
  · have eB := alloc_at (w0 := wA) (n := w.heap.size + 1) (Obj.cells #[Value.string { data := #[99, 111, 117, 110, 116] }, Value.string { data := #[115, 117, 109] }, Value.string { data := #[109, 105, 110] }, Value.string { data := #[109, 97, 120] }] 9) hsz
    have : i = 0 ∨ i = 1 ∨ i = 2 ∨ i = 3 := by simp at hi; omega
    rcases this with rfl | rfl | rfl | rfl
    · exact cell_at eB 0
    · exact cell_at eB 1
    · exact cell_at eB 2
    · exact cell_at eB 3
  · rintro e1 w1 ⟨rfl, m1⟩
    have M1 := Lib.hid ((HA.out.alloc _).trans m1 (by simp))
    clear m1
    go_wp2_with fail
    go_ret
    exact ⟨rfl, M1.out⟩

def levS : List (List Nat) := [[43], [45], [42], [47], [109, 111, 100]]
theorem level_eq (t : Lx.Tok) : Sy.level t = if Sy.sign t [43] = true then (1, 1) else if Sy.sign t [45] = true then (1, 2) else if Sy.sign t [42] = true then (2, 3) else if Sy.sign t [47] = true then (2, 4) else if Sy.sign t [109, 111, 100] = true then (2, 5) else (0, 0) := rfl
def levV : Array Value := #[Value.string { data := #[43] }, Value.string { data := #[45] }, Value.string { data := #[42] }, Value.string { data := #[47] }, Value.string { data := #[109, 111, 100] }]
theorem lev_index (k : Int) (h : 0 ≤ k ∧ k < 5) (w : World) : (Instr.index 196 (.agg #[Value.string { data := #[43] }, Value.string { data := #[45] }, Value.string { data := #[42] }, Value.string { data := #[47] }, Value.string { data := #[109, 111, 100] }]) (.int .i64 k)).run Tryz.prog w = .ok (levV.getD k.toNat undef) w := by
  have : k = 0 ∨ k = 1 ∨ k = 2 ∨ k = 3 ∨ k = 4 := by omega
  rcases this with rfl | rfl | rfl | rfl | rfl <;> rfl
set_option maxHeartbeats 2000000 in
theorem level_any (t : Lx.Tok) (w : World) (ht : ∀ c ∈ t.text, c < 256) :
    Calls Tryz.prog 109 #[.agg (tokC t)] w fun e w' => e = .returned (.tuple #[.int .i64 ((Sy.level t).1 : Nat), .int .i64 ((Sy.level t).2 : Nat)]) ∧ Mod [] w w' := by
  have eA := heap_alloc_new w (Obj.cells (tokC t) 74)
  have mA := (Mod.refl [] w).alloc (Obj.cells (tokC t) 74)
  have EA := Lib.hid eA; have MA := Lib.hid mA
  have HL := Lib.hid (level_eq t)
  have S0 := Lib.hid (fun w => sign_any t [43] { data := #[43] } w rfl ht (by decide))
  have S1 := Lib.hid (fun w => sign_any t [45] { data := #[45] } w rfl ht (by decide))
  have S2 := Lib.hid (fun w => sign_any t [42] { data := #[42] } w rfl ht (by decide))
  have S3 := Lib.hid (fun w => sign_any t [47] { data := #[47] } w rfl ht (by decide))
  have S4 := Lib.hid (fun w => sign_any t [109, 111, 100] { data := #[109, 111, 100] } w rfl ht (by decide))
  generalize Sy.sign t [43] = r0 at *
  generalize Sy.sign t [45] = r1 at *
  generalize Sy.sign t [42] = r2 at *
  generalize Sy.sign t [47] = r3 at *
  generalize Sy.sign t [109, 111, 100] = r4 at *
  generalize Sy.level t = q at *
  clear eA mA ht
  unfold tokC at *
  go_enter Tryz.func109, Tryz.ntmps109
  go_wp2_with fail
  generalize w.alloc (Obj.cells _ 74) = wA at *
  go_loopg [7] 5 (fun gk iv wr => ∃ k : Nat, 5 = gk + k ∧ iv = .int .i64 (k : Nat) ∧ Mod [] wA wr ∧ (∀ j, j < k → [r0, r1, r2, r3, r4][j]? = some false))
  case atStart => exact ⟨0, rfl, rfl, Mod.refl _ _, fun j h => by omega⟩
  case round =>
    obtain ⟨k, hg, rfl, hm, hb⟩ := hrel
    obtain ⟨x0, x1, x2, x3, x4, x5, x6⟩ := tok_cells (hm.at EA.out (by simp))
    have HM := Lib.hid hm
    have : k = 0 ∨ k = 1 ∨ k = 2 ∨ k = 3 ∨ k = 4 ∨ k = 5 := by omega
    rcases this with rfl | rfl | rfl | rfl | rfl | rfl
    · have HG := Lib.hid hg
      have hix := fun w => lev_index 0 (by omega) w
      simp only [levV] at hix
      clear hg hm hb
      simp only [Int.ofNat_zero, Int.ofNat_one, Int.cast_ofNat_Int]
      go_wp2_with fail
      refine (S0.out wr).mono ?_
      rintro e1 w1 ⟨rfl, m1⟩
      have M1 := Lib.hid (HM.out.trans m1 (by simp))
      clear m1 x0 x1 x2 x3 x4 x5 x6 hix
      cases r0
      · go_wp2_with fail
        go_roundg (gk - 1)
        case measure => have := HG.out; omega
        case rel => exact ⟨1, by have := HG.out; omega, by go_num, M1.out, fun j h => by
          have : j = 0 := by omega
          rcases this with rfl <;> rfl⟩
      · have HQ : Hid (q = (1, 1)) := Lib.hid HL.out
        clear HL
        go_wp2_with fail
        go_ret2
        exact ⟨by rw [HQ.out]; rfl, MA.out.trans M1.out (by simp)⟩
    · have HG := Lib.hid hg
      have hix := fun w => lev_index 1 (by omega) w
      simp only [levV] at hix
      obtain rfl : r0 = false := by simpa using hb 0 (by omega)
      clear hg hm hb
      simp only [Int.ofNat_zero, Int.ofNat_one, Int.cast_ofNat_Int]
      go_wp2_with fail
      refine (S1.out wr).mono ?_
      rintro e1 w1 ⟨rfl, m1⟩
      have M1 := Lib.hid (HM.out.trans m1 (by simp))
      clear m1 x0 x1 x2 x3 x4 x5 x6 hix
      cases r1
      · go_wp2_with fail
        go_roundg (gk - 1)
        case measure => have := HG.out; omega
        case rel => exact ⟨2, by have := HG.out; omega, by go_num, M1.out, fun j h => by
          have : j = 0 ∨ j = 1 := by omega
          rcases this with rfl | rfl <;> rfl⟩
      · have HQ : Hid (q = (1, 2)) := Lib.hid HL.out
        clear HL
        go_wp2_with fail
        go_ret2
        exact ⟨by rw [HQ.out]; rfl, MA.out.trans M1.out (by simp)⟩
    · have HG := Lib.hid hg
      have hix := fun w => lev_index 2 (by omega) w
      simp only [levV] at hix
      obtain rfl : r0 = false := by simpa using hb 0 (by omega)
      obtain rfl : r1 = false := by simpa using hb 1 (by omega)
      clear hg hm hb
      simp only [Int.ofNat_zero, Int.ofNat_one, Int.cast_ofNat_Int]
      go_wp2_with fail
      refine (S2.out wr).mono ?_
      rintro e1 w1 ⟨rfl, m1⟩
      have M1 := Lib.hid (HM.out.trans m1 (by simp))
      clear m1 x0 x1 x2 x3 x4 x5 x6 hix
      cases r2
      · go_wp2_with fail
        go_roundg (gk - 1)
        case measure => have := HG.out; omega
        case rel => exact ⟨3, by have := HG.out; omega, by go_num, M1.out, fun j h => by
          have : j = 0 ∨ j = 1 ∨ j = 2 := by omega
          rcases this with rfl | rfl | rfl <;> rfl⟩
      · have HQ : Hid (q = (2, 3)) := Lib.hid HL.out
        clear HL
        go_wp2_with fail
        go_ret2
        exact ⟨by rw [HQ.out]; rfl, MA.out.trans M1.out (by simp)⟩
    · have HG := Lib.hid hg
      have hix := fun w => lev_index 3 (by omega) w
      simp only [levV] at hix
      obtain rfl : r0 = false := by simpa using hb 0 (by omega)
      obtain rfl : r1 = false := by simpa using hb 1 (by omega)
      obtain rfl : r2 = false := by simpa using hb 2 (by omega)
      clear hg hm hb
      simp only [Int.ofNat_zero, Int.ofNat_one, Int.cast_ofNat_Int]
      go_wp2_with fail
      refine (S3.out wr).mono ?_
      rintro e1 w1 ⟨rfl, m1⟩
      have M1 := Lib.hid (HM.out.trans m1 (by simp))
      clear m1 x0 x1 x2 x3 x4 x5 x6 hix
      cases r3
      · go_wp2_with fail
        go_roundg (gk - 1)
        case measure => have := HG.out; omega
        case rel => exact ⟨4, by have := HG.out; omega, by go_num, M1.out, fun j h => by
          have : j = 0 ∨ j = 1 ∨ j = 2 ∨ j = 3 := by omega
          rcases this with rfl | rfl | rfl | rfl <;> rfl⟩
      · have HQ : Hid (q = (2, 4)) := Lib.hid HL.out
        clear HL
        go_wp2_with fail
        go_ret2
        exact ⟨by rw [HQ.out]; rfl, MA.out.trans M1.out (by simp)⟩
    · have HG := Lib.hid hg
      have hix := fun w => lev_index 4 (by omega) w
      simp only [levV] at hix
      obtain rfl : r0 = false := by simpa using hb 0 (by omega)
      obtain rfl : r1 = false := by simpa using hb 1 (by omega)
      obtain rfl : r2 = false := by simpa using hb 2 (by omega)
      obtain rfl : r3 = false := by simpa using hb 3 (by omega)
      clear hg hm hb
      simp only [Int.ofNat_zero, Int.ofNat_one, Int.cast_ofNat_Int]
      go_wp2_with fail
      refine (S4.out wr).mono ?_
      rintro e1 w1 ⟨rfl, m1⟩
      have M1 := Lib.hid (HM.out.trans m1 (by simp))
      clear m1 x0 x1 x2 x3 x4 x5 x6 hix
      cases r4
      · go_wp2_with fail
        go_roundg (gk - 1)
        case measure => have := HG.out; omega
        case rel => exact ⟨5, by have := HG.out; omega, by go_num, M1.out, fun j h => by
          have : j = 0 ∨ j = 1 ∨ j = 2 ∨ j = 3 ∨ j = 4 := by omega
          rcases this with rfl | rfl | rfl | rfl | rfl <;> rfl⟩
      · have HQ : Hid (q = (2, 5)) := Lib.hid HL.out
        clear HL
        go_wp2_with fail
        go_ret2
        exact ⟨by rw [HQ.out]; rfl, MA.out.trans M1.out (by simp)⟩
    · obtain rfl : r0 = false := by simpa using hb 0 (by omega)
      obtain rfl : r1 = false := by simpa using hb 1 (by omega)
      obtain rfl : r2 = false := by simpa using hb 2 (by omega)
      obtain rfl : r3 = false := by simpa using hb 3 (by omega)
      obtain rfl : r4 = false := by simpa using hb 4 (by omega)
      have HQ : Hid (q = (0, 0)) := Lib.hid HL.out
      clear hg hm hb HL
      simp only [Int.ofNat_zero, Int.ofNat_one, Int.cast_ofNat_Int]
      go_wp2_with fail
      go_ret2
      exact ⟨by rw [HQ.out]; rfl, MA.out.trans HM.out (by simp)⟩
end Go.Proofs.YtppigckioalhhaaGreatDoorR
/- THE PARSER: operand. -/
namespace Go.Proofs.YtppigckioalhhaaGreatDoorR
open Go.RowKit
set_option linter.unusedVariables false
set_option linter.unusedSimpArgs false
set_option maxRecDepth 100000

set_option maxHeartbeats 1000000 in
theorem operand_any (t : Lx.Tok) (w : World) (ht : ∀ c ∈ t.text, c < 256) :
    Calls Tryz.prog 130 #[.agg (tokC t)] w fun e w' => e = .returned (.bool (Sy.operand t)) ∧ Mod [] w w' := by
  have eA := heap_alloc_new w (Obj.cells (tokC t) 74)
  have mA := (Mod.refl [] w).alloc (Obj.cells (tokC t) 74)
  have EA := Lib.hid eA; have MA := Lib.hid mA
  obtain ⟨x0, x1, x2, x3, x4, x5, x6⟩ := tok_cells eA
  have HO : Hid (Sy.operand t = (decide (t.kind = 2) || (decide (t.kind = 3) || (decide (t.kind = 4) || (Sy.plain t || (Sy.sign t [45] || Sy.sign t [40])))))) := Lib.hid rfl
  have HP := Lib.hid (fun w => plain_any t w ht)
  have S1 := Lib.hid (fun w => sign_any t [45] { data := #[45] } w rfl ht (by decide))
  have S2 := Lib.hid (fun w => sign_any t [40] { data := #[40] } w rfl ht (by decide))
  generalize Sy.plain t = rp at *
  generalize Sy.sign t [45] = r1 at *
  generalize Sy.sign t [40] = r2 at *
  generalize Sy.operand t = q at *
  clear eA mA ht
  unfold tokC at *
  by_cases h2 : t.kind = 2
  · have k2 : ((t.kind : Int) == 2) = true := by rw [h2]; rfl
    have HQ : Hid (q = true) := Lib.hid (by rw [HO.out, decide_eq_true h2]; simp)
    clear h2 HO
    go_enter Tryz.func130, Tryz.ntmps130
    go_wp2_with fail
    go_ret
    exact ⟨by rw [HQ.out]; rfl, MA.out⟩
  have k2 : ((t.kind : Int) == 2) = false := by rw [beq_eq_false_iff_ne]; omega
  by_cases h3 : t.kind = 3
  · have k3 : ((t.kind : Int) == 3) = true := by rw [h3]; rfl
    have HQ : Hid (q = true) := Lib.hid (by rw [HO.out, decide_eq_true h3]; simp)
    clear h2 h3 HO
    go_enter Tryz.func130, Tryz.ntmps130
    go_wp2_with fail
    go_ret
    exact ⟨by rw [HQ.out]; rfl, MA.out⟩
  have k3 : ((t.kind : Int) == 3) = false := by rw [beq_eq_false_iff_ne]; omega
  by_cases h4 : t.kind = 4
  · have k4 : ((t.kind : Int) == 4) = true := by rw [h4]; rfl
    have HQ : Hid (q = true) := Lib.hid (by rw [HO.out, decide_eq_true h4]; simp)
    clear h2 h3 h4 HO
    go_enter Tryz.func130, Tryz.ntmps130
    go_wp2_with fail
    go_ret
    exact ⟨by rw [HQ.out]; rfl, MA.out⟩
  have k4 : ((t.kind : Int) == 4) = false := by rw [beq_eq_false_iff_ne]; omega
  have HO2 : Hid (q = (rp || (r1 || r2))) := Lib.hid (by rw [HO.out, decide_eq_false h2, decide_eq_false h3, decide_eq_false h4]; rfl)
  clear h2 h3 h4 HO
  go_enter Tryz.func130, Tryz.ntmps130
  go_wp2_with fail
  refine (HP.out _).mono ?_
  rintro e1 w1 ⟨rfl, m1⟩
  have E1 := Lib.hid (m1.at EA.out (by simp)); have M1 := Lib.hid (MA.out.trans m1 (by simp))
  clear m1 x0 x1 x2 x3 x4 x5 x6
  obtain ⟨x0, x1, x2, x3, x4, x5, x6⟩ := tok_cells (t := t) E1.out
  cases rp
  · go_wp2_with fail
    refine (S1.out _).mono ?_
    rintro e2 w2 ⟨rfl, m2⟩
    have E2 := Lib.hid (m2.at E1.out (by simp)); have M2 := Lib.hid (M1.out.trans m2 (by simp))
    clear m2 x0 x1 x2 x3 x4 x5 x6
    obtain ⟨x0, x1, x2, x3, x4, x5, x6⟩ := tok_cells (t := t) E2.out
    cases r1
    · go_wp2_with fail
      refine (S2.out _).mono ?_
      rintro e3 w3 ⟨rfl, m3⟩
      have M3 := Lib.hid (M2.out.trans m3 (by simp))
      clear m3 x0 x1 x2 x3 x4 x5 x6
      have HQ : Hid (q = r2) := Lib.hid HO2.out
      clear HO2
      go_wp2_with fail
      go_ret
      exact ⟨by rw [HQ.out]; rfl, M3.out⟩
    · have HQ : Hid (q = true) := Lib.hid HO2.out
      clear HO2
      go_wp2_with fail
      go_ret
      exact ⟨by rw [HQ.out]; rfl, M2.out⟩
  · have HQ : Hid (q = true) := Lib.hid HO2.out
    clear HO2
    go_wp2_with fail
    go_ret
    exact ⟨by rw [HQ.out]; rfl, M1.out⟩
end Go.Proofs.YtppigckioalhhaaGreatDoorR
/- TREES IN MEMORY: expressions, terms, literals, rules, relations, programs; in which blocks (F) they lie. -/
namespace Go.Proofs.YtppigckioalhhaaGreatDoorR
open Go.RowKit
set_option linter.unusedVariables false
set_option linter.unusedSimpArgs false
set_option maxRecDepth 100000

def CellsAt (w : World) (b o : Nat) (xs : Array Value) : Prop := ∀ (i : Nat) (x : Value), xs[i]? = some x → w.cell? ⟨b, o + i, none⟩ = some x
theorem CellsAt.keep {S : List Nat} {w w' : World} {b o : Nat} {xs : Array Value} (h : CellsAt w b o xs) (hm : Mod S w w') (hb : b ∉ S) : CellsAt w' b o xs := fun i x hx => hm.cell (h i x hx) hb
theorem CellsAt.of {w : World} {b : Nat} {xs : Array Value} {T : TypeId} {fr : Nat × Nat} (h : w.heap[b]? = some (.cells xs T fr)) : CellsAt w b 0 xs := by
  intro i x hx
  simp only [World.cell?, h, Nat.zero_add]
  exact hx
theorem CellsAt.sub {w : World} {b o : Nat} {xs ys : Array Value} (h : CellsAt w b o xs) (k : Nat) (hk : ∀ i x, ys[i]? = some x → xs[k + i]? = some x) : CellsAt w b (o + k) ys := fun i x hx => by
  have := h (k + i) x (hk i x hx)
  rwa [← Nat.add_assoc] at this

def valV (x : Va.Val) : Array Value := #[.int .i64 x.k, .int .i64 x.n, .string (Lx.ofS x.s)]
def exV (e : Pr.Ex) (u : Value) : Array Value := #[.int .i64 e.k, .string e.v, .int .i64 e.x.k, .int .i64 e.x.n, .string (Lx.ofS e.x.s), .int .i64 e.op, u]
def tmV (t : Pr.Term) : Array Value := #[.int .i64 t.k, .string t.v, .int .i64 t.x.k, .int .i64 t.x.n, .string (Lx.ofS t.x.s)]
/-- an expression's arguments, in blocks of F -/
inductive EB (F : Nat → Prop) (w : World) : Pr.Ex → Value → Prop
  | nil {k : Int} {v : ByteArray} {x : Va.Val} {op : Int} {a : Option Addr} {c : Nat} : EB F w (.mk k v x op []) (.slice a 0 c)
  | row {k : Int} {v : ByteArray} {x : Va.Val} {op : Int} {args : List Pr.Ex} {b off c : Nat} {us : Nat → Value} (hF : F b) (hb : b < w.heap.size)
      (h1 : ∀ i (h : i < args.length), CellsAt w b (off + i * 7) (exV args[i] (us i))) (h2 : ∀ i (h : i < args.length), EB F w args[i] (us i)) :
      EB F w (.mk k v x op args) (.slice (some ⟨b, off, none⟩) args.length c)
theorem EB.keep {F : Nat → Prop} {S : List Nat} {w w' : World} {e : Pr.Ex} {u : Value} (h : EB F w e u) (hm : Mod S w w') (hS : ∀ s ∈ S, ¬ F s) : EB F w' e u := by
  induction h with
  | nil => exact .nil
  | row hF hb h1 h2 ih => exact .row hF (Nat.lt_of_lt_of_le hb hm.size) (fun i h => (h1 i h).keep hm (fun hs => hS _ hs hF)) ih
theorem EB.mono {F F' : Nat → Prop} {w : World} {e : Pr.Ex} {u : Value} (h : EB F w e u) (hF : ∀ k, F k → k < w.heap.size → F' k) : EB F' w e u := by
  induction h with
  | nil => exact .nil
  | row hf hb h1 h2 ih => exact .row (hF _ hf hb) hb h1 ih
theorem EB.lit {F : Nat → Prop} {w : World} {e : Pr.Ex} {u : Value} (h : EB F w e u) : ∃ a c, u = .slice a e.args.length c := by
  cases h with
  | nil => exact ⟨_, _, rfl⟩
  | row hF hb h1 h2 => exact ⟨_, _, rfl⟩
theorem EB.at {F : Nat → Prop} {w : World} {e : Pr.Ex} {a : Option Addr} {c : Nat} (h : EB F w e (.slice a e.args.length c)) (i : Nat) (hi : i < e.args.length) :
    ∃ b off u, a = some ⟨b, off, none⟩ ∧ CellsAt w b (off + i * 7) (exV e.args[i] u) ∧ EB F w e.args[i] u := by
  generalize hu : Value.slice a e.args.length c = u at h
  cases h with
  | nil => simp [Pr.Ex.args] at hi
  | row hF hb h1 h2 =>
    simp only [Value.slice.injEq] at hu
    exact ⟨_, _, _, hu.1, h1 i hi, h2 i hi⟩
/-- one argument -/
theorem EB.one {F : Nat → Prop} {w : World} {k : Int} {v : ByteArray} {x : Va.Val} {op : Int} {a : Pr.Ex} {u : Value} {g : Nat} {T : TypeId} (hg : w.heap[g]? = some (.cells (exV a u) T (0, 0))) (hF : F g) (ha : EB F w a u) (c : Nat) :
    EB F w (.mk k v x op [a]) (.slice (some ⟨g, 0, none⟩) 1 c) := by
  refine .row (us := fun _ => u) hF (lt_of_block hg) (fun i hi => ?_) (fun i hi => ?_)
  · obtain rfl : i = 0 := by simpa using hi
    exact CellsAt.of hg
  · obtain rfl : i = 0 := by simpa using hi
    exact ha
/-- two arguments -/
theorem EB.two {F : Nat → Prop} {w : World} {k : Int} {v : ByteArray} {x : Va.Val} {op : Int} {a b : Pr.Ex} {u u' : Value} {g : Nat} {T : TypeId} (hg : w.heap[g]? = some (.cells (exV a u ++ exV b u') T (0, 0))) (hF : F g) (ha : EB F w a u) (hb : EB F w b u') (c : Nat) :
    EB F w (.mk k v x op [a, b]) (.slice (some ⟨g, 0, none⟩) 2 c) := by
  have hc := CellsAt.of hg
  refine .row (us := fun i => if i = 0 then u else u') hF (lt_of_block hg) (fun i hi => ?_) (fun i hi => ?_)
  · have : i = 0 ∨ i = 1 := by simp at hi; omega
    rcases this with rfl | rfl
    · exact hc.sub 0 (fun i x hx => by
        rw [Nat.zero_add]
        exact (Array.getElem?_append_left (by
          have := (Array.getElem?_eq_some_iff.1 hx).1
          simpa using this)).trans hx)
    · exact hc.sub 7 (fun i x hx => by
        have h7 : (exV a u).size = 7 := rfl
        rw [Array.getElem?_append_right (by omega), h7, Nat.add_sub_cancel_left]
        exact hx)
  · have : i = 0 ∨ i = 1 := by simp at hi; omega
    rcases this with rfl | rfl
    · exact ha
    · exact hb

/-- a list of things of n cells, in blocks of F -/
inductive RowB {α : Type} (F : Nat → Prop) (w : World) (n : Nat) (cs : α → Array Value) : List α → Value → Prop
  | nil {a : Option Addr} {c : Nat} : RowB F w n cs [] (.slice a 0 c)
  | row {l : List α} {b off c : Nat} (hF : F b) (hb : b < w.heap.size) (h1 : ∀ i (h : i < l.length), CellsAt w b (off + i * n) (cs l[i])) : RowB F w n cs l (.slice (some ⟨b, off, none⟩) l.length c)
section
variable {α : Type} {F F' : Nat → Prop} {S : List Nat} {w w' : World} {n : Nat} {cs : α → Array Value} {l : List α} {u : Value}
theorem RowB.keep (h : RowB F w n cs l u) (hm : Mod S w w') (hS : ∀ s ∈ S, ¬ F s) : RowB F w' n cs l u := by
  cases h with
  | nil => exact .nil
  | row hF hb h1 => exact .row hF (Nat.lt_of_lt_of_le hb hm.size) (fun i h => (h1 i h).keep hm (fun hs => hS _ hs hF))
theorem RowB.mono (h : RowB F w n cs l u) (hF : ∀ k, F k → k < w.heap.size → F' k) : RowB F' w n cs l u := by
  cases h with
  | nil => exact .nil
  | row hf hb h1 => exact .row (hF _ hf hb) hb h1
theorem RowB.lit (h : RowB F w n cs l u) : ∃ a c, u = .slice a l.length c := by
  cases h with
  | nil => exact ⟨_, _, rfl⟩
  | row hF hb h1 => exact ⟨_, _, rfl⟩
theorem RowB.at {a : Option Addr} {c : Nat} (h : RowB F w n cs l (.slice a l.length c)) (i : Nat) (hi : i < l.length) : ∃ b off, a = some ⟨b, off, none⟩ ∧ CellsAt w b (off + i * n) (cs l[i]) := by
  generalize hu : Value.slice a l.length c = u at h
  cases h with
  | nil => simp at hi
  | row hF hb h1 =>
    simp only [Value.slice.injEq] at hu
    exact ⟨_, _, hu.1, h1 i hi⟩
/-- cells of a list -/
def rowCells (cs : α → Array Value) (l : List α) : List Value := l.flatMap fun x => (cs x).toList
theorem rowCells_len (hn : ∀ x, (cs x).size = n) (l : List α) : (rowCells cs l).length = l.length * n := by
  induction l with
  | nil => simp [rowCells]
  | cons t r ih =>
    simp only [rowCells, List.flatMap_cons, List.length_append, List.length_cons] at ih ⊢
    rw [ih, Array.length_toList, hn, Nat.add_mul]; omega
theorem rowCells_snoc (l : List α) (x : α) : rowCells cs (l ++ [x]) = rowCells cs l ++ (cs x).toList := by simp [rowCells]
theorem rowCells_get (hn : ∀ x, (cs x).size = n) : ∀ (l : List α) (i : Nat) (hi : i < l.length) (j : Nat) (x : Value), (cs l[i])[j]? = some x → (rowCells cs l)[i * n + j]? = some x
  | t :: r, 0, hi, j, x, h => by
    have hj : j < (cs t).size := (Array.getElem?_eq_some_iff.1 h).1
    rw [rowCells, List.flatMap_cons, Nat.zero_mul, Nat.zero_add, List.getElem?_append_left (by simpa using hj)]
    simpa using h
  | t :: r, i + 1, hi, j, x, h => by
    rw [rowCells, List.flatMap_cons, List.getElem?_append_right (by rw [Array.length_toList, hn, Nat.add_mul]; omega)]
    have := rowCells_get hn r i (by simpa using hi) j x (by simpa using h)
    rw [rowCells] at this
    rw [← this]
    congr 1
    rw [Array.length_toList, hn, Nat.add_mul]; omega
/-- a row that the call owns is such a list -/
theorem RowB.of_owns {T : TypeId} {base : Nat} (hn : ∀ x, (cs x).size = n) (h : w.ownsRow base T n u l.length (rowCells cs l)) (hF : ∀ k ∈ fp u, F k) : RowB F w n cs l u := by
  rcases h.2 with ⟨rfl, h0⟩ | ⟨g, cap, cur, rfl, hb, hg, hc, hm, hs, ht⟩
  · have hl : l = [] := List.eq_nil_of_length_eq_zero h0
    subst hl
    exact .nil
  · refine .row (hF g (by simp [fp])) (lt_of_block hg) (fun i hi j x hx => ?_)
    have hk := rowCells_get hn l i hi j x hx
    have hlt : i * n + j < (rowCells cs l).length := (List.getElem?_eq_some_iff.1 hk).1
    rw [Nat.zero_add]
    simp only [World.cell?, hg]
    rw [← ht, List.getElem?_take] at hk
    rw [rowCells_len hn] at hlt
    rw [if_pos (by first | exact hlt | (rw [ht] at *; simpa using hlt))] at hk
    simpa using hk
end
end Go.Proofs.YtppigckioalhhaaGreatDoorR
/- THE PARSER: constant, value, term. -/
namespace Go.Proofs.YtppigckioalhhaaGreatDoorR
open Go.RowKit
set_option linter.unusedVariables false
set_option linter.unusedSimpArgs false
set_option maxRecDepth 100000

def ConV (o : Option (Va.Val × Nat)) : Value := .tuple #[.agg (valV ((o.map (·.1)).getD Va.zero)), .bool o.isSome]
/-- what constant leaves -/
def ConR (b : Nat) (ra : Option Addr) (rc : Nat) (f : Value) (v : Sy.Env) (o : Option (Va.Val × Nat)) (i : Nat) (w : World) (e : Ending) (w' : World) : Prop :=
  e = .returned (ConV o) ∧ RdP w' b ra rc f v (i + ((o.map (·.2)).getD 0)) ∧ Mod [b] w w'
theorem cells3 {w : World} {b : Nat} {a0 a1 a2 : Value} {T : TypeId} {fr : Nat × Nat} (h : w.heap[b]? = some (.cells #[a0, a1, a2] T fr)) :
    w.cell? ⟨b, 0, none⟩ = some a0 ∧ w.cell? ⟨b, 1, none⟩ = some a1 ∧ w.cell? ⟨b, 2, none⟩ = some a2 := ⟨cell_at h 0, cell_at h 1, cell_at h 2⟩
theorem Tryz.sizeVal : (Tryz.prog.info? 42).map (·.size) = some 3 := by kernel_rfl
theorem res_val {fn : Func} {p u : Tmp} (h : fn.results = #[.cell p 42, .tmp u]) (tmps : Array Value) (w : World) (b : Nat) (cs : Array Value) (T : TypeId) (fr : Nat × Nat) (x : Value)
    (hp : tmps.getD p undef = .pointer (some ⟨b, 0, none⟩)) (hx : tmps.getD u undef = x) (hg : w.heap[b]? = some (.cells cs T fr)) (hc : cs.size = 3) :
    (results fn tmps).run Tryz.prog w = .ok (.tuple #[.agg cs, x]) w := by
  have hl := run_loadVar_row (P := Tryz.prog) w b T 42 cs fr _ hg Tryz.underlying42 rfl (by rw [Tryz.sizeVal, hc])
  rw [results_cell_tmp h, hp, hx]
  simp [asAddr, hl]

set_option maxHeartbeats 2000000 in
theorem constant_any (b : Nat) (ra : Option Addr) (rc : Nat) (f : Value) (v : Sy.Env) (i : Nat) (w : World) (h : RdP w b ra rc f v i) (hv : EnvOk v) (hi : i ≤ 70000) :
    Calls Tryz.prog 112 #[.pointer (some ⟨b, 0, none⟩)] w (ConR b ra rc f v (Sy.constant v i) i w) := by
  have mA := (Mod.refl [] w).alloc (Obj.cells #[Value.int IntKind.i64 0, Value.int IntKind.i64 0, Value.string { data := #[] }] 42)
  have hA := h.past mA (by simp)
  have eA := heap_alloc_new w (Obj.cells #[Value.int IntKind.i64 0, Value.int IntKind.i64 0, Value.string { data := #[] }] 42)
  have hsA : (w.alloc (Obj.cells #[Value.int IntKind.i64 0, Value.int IntKind.i64 0, Value.string { data := #[] }] 42)).heap.size = w.heap.size + 1 := by simp
  have HR : Hid (Sy.constant v i = if (v.tk i).kind = 3 ∨ (v.tk i).kind = 4 then some (⟨(v.tk i).vk, (v.tk i).num, (v.tk i).sym⟩, 1)
    else if Sy.plain (v.tk i) = true then some (⟨2, 0, (v.tk i).text⟩, 1)
    else if Sy.sign (v.tk i) [45] = true ∧ (v.tk (i + 1)).kind = 3 then some (⟨1, -((v.tk (i + 1)).num : Int), []⟩, 2)
    else none) := Lib.hid rfl
  have HPl := Lib.hid (fun w => plain_any (v.tk i) w (hv.tbyte i))
  have HSg := Lib.hid (fun w => sign_any (v.tk i) [45] { data := #[45] } w rfl (hv.tbyte i) (by decide))
  have HP0 := Lib.hid (fun w h => peek0 b ra rc f v i w h hv hi)
  have HP1 := Lib.hid (fun w h => peek1 b ra rc f v i w h hv hi)
  have hnum := hv.tnum (i + 1)
  have HLo := Lib.hid h.low
  have hbl := h.lt
  have HH := Lib.hid hA; have EA := Lib.hid eA; have MA := Lib.hid mA
  clear h hA eA mA
  generalize v.tk i = t at *
  generalize v.tk (i + 1) = u at *
  generalize Sy.plain t = rp at *
  generalize Sy.sign t [45] = rs at *
  generalize Sy.constant v i = q at *
  go_enter Tryz.func112, Tryz.ntmps112
  go_upto_region 1 with fail
  generalize w.alloc (Obj.cells #[Value.int IntKind.i64 0, Value.int IntKind.i64 0, Value.string { data := #[] }] 42) = wA at *
  go_wp2_with fail
  refine (HP0.out wA HH.out).mono ?_
  rintro e1 w1 ⟨rfl, m1⟩
  have h1 := HH.out.past m1 (by simp)
  have z1 := m1.size
  have M1 := Lib.hid (MA.out.trans m1 (by simp)); have E1 := Lib.hid (m1.at EA.out (by simp))
  clear m1
  go_wp2_with fail
  refine (HP1.out w1 h1).mono ?_
  rintro e2 w2 ⟨rfl, m2⟩
  have z2 := m2.size
  have mB := ((Mod.refl [] w2).alloc (Obj.cells (tokC t) 74)).alloc (Obj.cells (tokC u) 74)
  have hB := (h1.past m2 (by simp)).past mB (by simp)
  have aB := mB.at (m2.at E1.out (by simp)) (by simp)
  have tB := ((Mod.refl [] (w2.alloc (Obj.cells (tokC t) 74))).alloc (Obj.cells (tokC u) 74)).at (heap_alloc_new w2 (Obj.cells (tokC t) 74)) (by simp)
  have uB := alloc_at (w0 := w2.alloc (Obj.cells (tokC t) 74)) (n := w2.heap.size + 1) (Obj.cells (tokC u) 74) (by simp)
  have M2 := Lib.hid ((M1.out.trans m2 (by simp)).trans mB (by simp))
  have zB : ((w2.alloc (Obj.cells (tokC t) 74)).alloc (Obj.cells (tokC u) 74)).heap.size = w2.heap.size + 2 := by simp
  clear m2 mB h1
  unfold tokC at *
  go_upto_region 2 with fail
  generalize (w2.alloc (Obj.cells _ 74)).alloc (Obj.cells _ 74) = wB at *
  have AB := Lib.hid aB; have TB := Lib.hid tB; have UB := Lib.hid uB; have HB := Lib.hid hB
  obtain ⟨x0, x1, x2, x3, x4, x5, x6⟩ := tok_cells tB
  clear aB uB tB hB
  by_cases k34 : t.kind = 3 ∨ t.kind = 4
  · have HQ : Hid (q = some (⟨t.vk, t.num, t.sym⟩, 1)) := Lib.hid (by rw [HR.out, if_pos k34])
    have hq := HQ.out
    subst hq
    clear HR HQ
    by_cases k3 : t.kind = 3
    · have b3 : ((t.kind : Int) == 3) = true := by rw [k3]; rfl
      clear k34 k3
      obtain ⟨c0, c1, c2, c3, c4, c5, fz⟩ := HB.out.cells
      have hT := HB.out.to (i + 1)
      have aC : (wB.setCell ⟨b, 1, none⟩ (.int .i64 ((i : Int) + 1))).heap[w.heap.size]? = _ := hT.2.at AB.out (by simp; omega)
      have tC : (wB.setCell ⟨b, 1, none⟩ (.int .i64 ((i : Int) + 1))).heap[w2.heap.size]? = _ := hT.2.at TB.out (by simp; omega)
      have uC : (wB.setCell ⟨b, 1, none⟩ (.int .i64 ((i : Int) + 1))).heap[w2.heap.size + 1]? = _ := hT.2.at UB.out (by simp; omega)
      have HC : Hid (RdP (wB.setCell ⟨b, 1, none⟩ (.int .i64 ((i : Int) + 1))) b ra rc f v (i + 1)) := Lib.hid hT.1
      have MC : Hid (Mod [b] w (wB.setCell ⟨b, 1, none⟩ (.int .i64 ((i : Int) + 1)))) := Lib.hid ((M2.out.mono (T := [b]) (by simp)).trans hT.2 (by simp))
      clear hT
      go_upto_region 4 with fail
      generalize wB.setCell ⟨b, 1, none⟩ (.int .i64 ((i : Int) + 1)) = wC at *
      obtain ⟨x0, x1, x2, x3, x4, x5, x6⟩ := tok_cells (t := t) tC
      obtain ⟨u0, u1, u2, u3, u4, u5, u6⟩ := tok_cells (t := u) uC
      obtain ⟨y0, y1, y2⟩ := cells3 aC
      have fA : ∀ j, wC.frozen? ⟨w.heap.size, j, none⟩ = false := fun j => free_at aC j
      have AC := Lib.hid aC
      clear aC tC uC c0 c1 c2 c3 c4 c5 fz
      go_wp2_with fail
      have mR := setCs_mod w.heap.size [.int .i64 (t.vk : Nat), .int .i64 (t.num : Nat), .string (Lx.ofS t.sym)] 0 wC
      refine bodyPost_ret (res_val rfl _ _ _ _ _ _ _ rfl rfl (setCs_row (vs := [.int .i64 (t.vk : Nat), .int .i64 (t.num : Nat), .string (Lx.ofS t.sym)]) AC.out rfl) rfl) rfl ⟨rfl, HC.out.new HLo.out mR (by simp), MC.out.trans mR (by simp)⟩
    · have b3 : ((t.kind : Int) == 3) = false := by rw [beq_eq_false_iff_ne]; omega
      have b4 : ((t.kind : Int) == 4) = true := by rw [beq_iff_eq]; omega
      clear k34 k3
      obtain ⟨c0, c1, c2, c3, c4, c5, fz⟩ := HB.out.cells
      have hT := HB.out.to (i + 1)
      have aC : (wB.setCell ⟨b, 1, none⟩ (.int .i64 ((i : Int) + 1))).heap[w.heap.size]? = _ := hT.2.at AB.out (by simp; omega)
      have tC : (wB.setCell ⟨b, 1, none⟩ (.int .i64 ((i : Int) + 1))).heap[w2.heap.size]? = _ := hT.2.at TB.out (by simp; omega)
      have uC : (wB.setCell ⟨b, 1, none⟩ (.int .i64 ((i : Int) + 1))).heap[w2.heap.size + 1]? = _ := hT.2.at UB.out (by simp; omega)
      have HC : Hid (RdP (wB.setCell ⟨b, 1, none⟩ (.int .i64 ((i : Int) + 1))) b ra rc f v (i + 1)) := Lib.hid hT.1
      have MC : Hid (Mod [b] w (wB.setCell ⟨b, 1, none⟩ (.int .i64 ((i : Int) + 1)))) := Lib.hid ((M2.out.mono (T := [b]) (by simp)).trans hT.2 (by simp))
      clear hT
      go_upto_region 4 with fail
      generalize wB.setCell ⟨b, 1, none⟩ (.int .i64 ((i : Int) + 1)) = wC at *
      obtain ⟨x0, x1, x2, x3, x4, x5, x6⟩ := tok_cells (t := t) tC
      obtain ⟨u0, u1, u2, u3, u4, u5, u6⟩ := tok_cells (t := u) uC
      obtain ⟨y0, y1, y2⟩ := cells3 aC
      have fA : ∀ j, wC.frozen? ⟨w.heap.size, j, none⟩ = false := fun j => free_at aC j
      have AC := Lib.hid aC
      clear aC tC uC c0 c1 c2 c3 c4 c5 fz
      go_wp2_with fail
      have mR := setCs_mod w.heap.size [.int .i64 (t.vk : Nat), .int .i64 (t.num : Nat), .string (Lx.ofS t.sym)] 0 wC
      refine bodyPost_ret (res_val rfl _ _ _ _ _ _ _ rfl rfl (setCs_row (vs := [.int .i64 (t.vk : Nat), .int .i64 (t.num : Nat), .string (Lx.ofS t.sym)]) AC.out rfl) rfl) rfl ⟨rfl, HC.out.new HLo.out mR (by simp), MC.out.trans mR (by simp)⟩
  · have b3 : ((t.kind : Int) == 3) = false := by rw [beq_eq_false_iff_ne]; omega
    have b4 : ((t.kind : Int) == 4) = false := by rw [beq_eq_false_iff_ne]; omega
    have HR2 : Hid (q = if rp = true then some (⟨2, 0, t.text⟩, 1) else if rs = true ∧ u.kind = 3 then some (⟨1, -(u.num : Int), []⟩, 2) else none) := Lib.hid (by rw [HR.out, if_neg k34])
    clear HR k34
    go_wp2_with fail
    refine (HPl.out wB).mono ?_
    rintro e3 w3 ⟨rfl, m3⟩
    have A3 := Lib.hid (m3.at AB.out (by simp)); have T3 := Lib.hid (m3.at TB.out (by simp)); have U3 := Lib.hid (m3.at UB.out (by simp)); have H3 := Lib.hid (HB.out.past m3 (by simp)); have M3 := Lib.hid (M2.out.trans m3 (by simp))
    have z3 := m3.size
    clear m3 x0 x1 x2 x3 x4 x5 x6
    obtain ⟨x0, x1, x2, x3, x4, x5, x6⟩ := tok_cells (t := t) T3.out
    cases rp
    · have HR3 : Hid (q = if rs = true ∧ u.kind = 3 then some (⟨1, -(u.num : Int), []⟩, 2) else none) := Lib.hid HR2.out
      clear HR2
      go_wp2_with fail
      refine (HSg.out w3).mono ?_
      rintro e4 w4 ⟨rfl, m4⟩
      have A4 := Lib.hid (m4.at A3.out (by simp)); have T4 := Lib.hid (m4.at T3.out (by simp)); have U4 := Lib.hid (m4.at U3.out (by simp)); have H4 := Lib.hid (H3.out.past m4 (by simp)); have M4 := Lib.hid (M3.out.trans m4 (by simp))
      have z4 := m4.size
      clear m4 x0 x1 x2 x3 x4 x5 x6
      obtain ⟨x0, x1, x2, x3, x4, x5, x6⟩ := tok_cells (t := t) T4.out
      obtain ⟨u0, u1, u2, u3, u4, u5, u6⟩ := tok_cells (t := u) U4.out
      obtain ⟨y0, y1, y2⟩ := cells3 A4.out
      have fA : ∀ j, w4.frozen? ⟨w.heap.size, j, none⟩ = false := fun j => free_at A4.out j
      cases rs
      · have HQ : Hid (q = none) := Lib.hid HR3.out
        have hq := HQ.out
        subst hq
        clear HR3 HQ
        go_wp2_with fail
        have mR := setCs_mod w.heap.size [.int .i64 0, .int .i64 0, .string { data := #[] }] 0 w4
        refine bodyPost_ret (res_val rfl _ _ _ _ _ _ _ rfl rfl (setCs_row (vs := [.int .i64 0, .int .i64 0, .string { data := #[] }]) A4.out rfl) rfl) rfl ⟨rfl, H4.out.new HLo.out mR (by simp), (M4.out.trans mR (by simp)).mono (by simp)⟩
      · by_cases ku : u.kind = 3
        · have bu : ((u.kind : Int) == 3) = true := by rw [ku]; rfl
          have HQ : Hid (q = some (⟨1, -(u.num : Int), []⟩, 2)) := Lib.hid (by rw [HR3.out, if_pos ⟨rfl, ku⟩])
          have hq := HQ.out
          subst hq
          have hng : wrap64 (-(u.num : Int)) = -(u.num : Int) := by unfold wrap64; omega
          have hng2 : IntKind.i64.wrap (-(u.num : Int)) = -(u.num : Int) := IntWalk.i64_in _ (by omega)
          clear HR3 HQ ku x0 x1 x2 x3 x4 x5 x6 u1 u2 u3 u4 u5 u6 y0 y1 y2 fA
          obtain ⟨c0, c1, c2, c3, c4, c5, fz⟩ := H4.out.cells
          have hT := H4.out.to (i + 2)
          have aC : (w4.setCell ⟨b, 1, none⟩ (.int .i64 ((i : Int) + 2))).heap[w.heap.size]? = _ := hT.2.at A4.out (by simp; omega)
          have tC : (w4.setCell ⟨b, 1, none⟩ (.int .i64 ((i : Int) + 2))).heap[w2.heap.size]? = _ := hT.2.at T4.out (by simp; omega)
          have uC : (w4.setCell ⟨b, 1, none⟩ (.int .i64 ((i : Int) + 2))).heap[w2.heap.size + 1]? = _ := hT.2.at U4.out (by simp; omega)
          have HC : Hid (RdP (w4.setCell ⟨b, 1, none⟩ (.int .i64 ((i : Int) + 2))) b ra rc f v (i + 2)) := Lib.hid hT.1
          have MC : Hid (Mod [b] w (w4.setCell ⟨b, 1, none⟩ (.int .i64 ((i : Int) + 2)))) := Lib.hid ((M4.out.mono (T := [b]) (by simp)).trans hT.2 (by simp))
          clear hT
          go_upto_region 10 with fail
          generalize w4.setCell ⟨b, 1, none⟩ (.int .i64 ((i : Int) + 2)) = wC at *
          obtain ⟨x0, x1, x2, x3, x4, x5, x6⟩ := tok_cells (t := t) tC
          obtain ⟨u0, u1, u2, u3, u4, u5, u6⟩ := tok_cells (t := u) uC
          obtain ⟨y0, y1, y2⟩ := cells3 aC
          have fA : ∀ j, wC.frozen? ⟨w.heap.size, j, none⟩ = false := fun j => free_at aC j
          have AC := Lib.hid aC
          clear aC tC uC c0 c1 c2 c3 c4 c5 fz
          go_wp2_with fail
          have mR := setCs_mod w.heap.size [.int .i64 1, .int .i64 (-(u.num : Int)), .string { data := #[] }] 0 wC
          refine bodyPost_ret (res_val rfl _ _ _ _ _ _ _ rfl rfl (setCs_row (vs := [.int .i64 1, .int .i64 (-(u.num : Int)), .string { data := #[] }]) AC.out rfl) rfl) rfl ⟨rfl, HC.out.new HLo.out mR (by simp), MC.out.trans mR (by simp)⟩
        · have bu : ((u.kind : Int) == 3) = false := by rw [beq_eq_false_iff_ne]; omega
          have HQ : Hid (q = none) := Lib.hid (by rw [HR3.out, if_neg (fun h => ku h.2)])
          have hq := HQ.out
          subst hq
          clear HR3 HQ ku
          go_wp2_with fail
          have mR := setCs_mod w.heap.size [.int .i64 0, .int .i64 0, .string { data := #[] }] 0 w4
          refine bodyPost_ret (res_val rfl _ _ _ _ _ _ _ rfl rfl (setCs_row (vs := [.int .i64 0, .int .i64 0, .string { data := #[] }]) A4.out rfl) rfl) rfl ⟨rfl, H4.out.new HLo.out mR (by simp), (M4.out.trans mR (by simp)).mono (by simp)⟩
    · have HQ : Hid (q = some (⟨2, 0, t.text⟩, 1)) := Lib.hid HR2.out
      have hq := HQ.out
      subst hq
      clear HR2 HQ x0 x1 x2 x3 x4 x5 x6
      obtain ⟨c0, c1, c2, c3, c4, c5, fz⟩ := H3.out.cells
      have hT := H3.out.to (i + 1)
      have aC : (w3.setCell ⟨b, 1, none⟩ (.int .i64 ((i : Int) + 1))).heap[w.heap.size]? = _ := hT.2.at A3.out (by simp; omega)
      have tC : (w3.setCell ⟨b, 1, none⟩ (.int .i64 ((i : Int) + 1))).heap[w2.heap.size]? = _ := hT.2.at T3.out (by simp; omega)
      have uC : (w3.setCell ⟨b, 1, none⟩ (.int .i64 ((i : Int) + 1))).heap[w2.heap.size + 1]? = _ := hT.2.at U3.out (by simp; omega)
      have HC : Hid (RdP (w3.setCell ⟨b, 1, none⟩ (.int .i64 ((i : Int) + 1))) b ra rc f v (i + 1)) := Lib.hid hT.1
      have MC : Hid (Mod [b] w (w3.setCell ⟨b, 1, none⟩ (.int .i64 ((i : Int) + 1)))) := Lib.hid ((M3.out.mono (T := [b]) (by simp)).trans hT.2 (by simp))
      clear hT
      go_upto_region 7 with fail
      generalize w3.setCell ⟨b, 1, none⟩ (.int .i64 ((i : Int) + 1)) = wC at *
      obtain ⟨x0, x1, x2, x3, x4, x5, x6⟩ := tok_cells (t := t) tC
      obtain ⟨u0, u1, u2, u3, u4, u5, u6⟩ := tok_cells (t := u) uC
      obtain ⟨y0, y1, y2⟩ := cells3 aC
      have fA : ∀ j, wC.frozen? ⟨w.heap.size, j, none⟩ = false := fun j => free_at aC j
      have AC := Lib.hid aC
      clear aC tC uC c0 c1 c2 c3 c4 c5 fz
      go_wp2_with fail
      have mR := setCs_mod w.heap.size [.int .i64 2, .int .i64 0, .string (Lx.ofS t.text)] 0 wC
      refine bodyPost_ret (res_val rfl _ _ _ _ _ _ _ rfl rfl (setCs_row (vs := [.int .i64 2, .int .i64 0, .string (Lx.ofS t.text)]) AC.out rfl) rfl) rfl ⟨rfl, HC.out.new HLo.out mR (by simp), MC.out.trans mR (by simp)⟩
end Go.Proofs.YtppigckioalhhaaGreatDoorR
/- PLAIN: what is read lies within the words. -/
namespace Go.Proofs.YtppigckioalhhaaGreatDoorR.Sy
open Lx (Tok)
open Pr (Term Atom Ex Li Rul Rel Prog)
set_option linter.unusedVariables false
set_option linter.unusedSimpArgs false

/-- it goes on, and not beyond the words -/
def Adv {α : Type} (v : Env) (one : Nat → PR α) : Prop := ∀ j a k, j ≤ v.ws.length → one j = .ok a k → j ≤ k ∧ k ≤ v.ws.length
theorem bind_ok {α β : Type} {p : PR α} {f : α → Nat → PR β} {b : β} {k : Nat} (h : p.bind f = .ok b k) : ∃ a j, p = .ok a j ∧ f a j = .ok b k := by
  cases p with
  | ok a j => exact ⟨a, j, rfl, h⟩
  | err e => cases h
theorem tk_lt {v : Env} {i : Nat} (h : v.tk i ≠ zT) : i < v.ws.length := by
  by_cases hk : i < v.ws.length
  · exact hk
  · exact absurd (by unfold Env.tk; rw [List.getD_eq_getElem?_getD, List.getElem?_eq_none (by omega)]; rfl) h
theorem kind_lt {v : Env} {i : Nat} (h : (v.tk i).kind ≠ 0) : i < v.ws.length := tk_lt (fun e => h (by rw [e]; rfl))
theorem sign_kind {t : Tok} {s : List Nat} (h : sign t s = true) : t.kind ≠ 0 := by
  unfold sign at h
  simp only [Bool.and_eq_true, Bool.or_eq_true, decide_eq_true_eq] at h
  omega
theorem sign_lt {v : Env} {i : Nat} {s : List Nat} (h : sign (v.tk i) s = true) : i < v.ws.length := kind_lt (sign_kind h)
theorem plain_lt {v : Env} {i : Nat} (h : plain (v.tk i) = true) : i < v.ws.length := by
  refine kind_lt ?_
  unfold plain at h
  simp only [Bool.and_eq_true, decide_eq_true_eq] at h
  omega
theorem placeF_pos {t : Tok} : ∀ (l : List (List Nat)) (n : Nat), 0 < placeF t l n → t.kind ≠ 0
  | [], n, h => by simp [placeF] at h
  | s :: r, n, h => by
    rw [placeF] at h
    split at h
    · rename_i hs; exact sign_kind hs
    · exact placeF_pos r (n + 1) h
theorem adv_must (v : Env) (s : List Nat) : Adv v (must v s) := by
  intro j a k hj h
  unfold must at h
  split at h
  · rename_i hs
    have := sign_lt hs
    cases h; omega
  · cases h
theorem adv_name (v : Env) : Adv v (name v) := by
  intro j a k hj h
  unfold name at h
  split at h
  · rename_i hs
    have := plain_lt hs
    cases h; omega
  · cases h
theorem constant_adv {v : Env} {j : Nat} {c : Va.Val} {n : Nat} (h : constant v j = some (c, n)) : 0 < n ∧ j + n ≤ v.ws.length := by
  unfold constant at h
  split at h
  · rename_i hk
    have : j < v.ws.length := kind_lt (by omega)
    cases h; omega
  · split at h
    · rename_i hp
      have := plain_lt hp
      cases h; omega
    · split at h
      · rename_i hs
        have : j + 1 < v.ws.length := kind_lt (by rw [hs.2]; omega)
        cases h; omega
      · cases h
theorem adv_value (v : Env) : Adv v (value v) := by
  intro j a k hj h
  unfold value at h
  split at h
  · rename_i c n hc
    have := constant_adv hc
    cases h; omega
  · cases h
theorem adv_term (v : Env) : Adv v (term v) := by
  intro j a k hj h
  unfold term at h
  split at h
  · rename_i hk
    have : j < v.ws.length := kind_lt (by omega)
    cases h; omega
  · split at h
    · rename_i hs
      have := sign_lt hs
      cases h; omega
    · obtain ⟨c, m, h1, h2⟩ := bind_ok h
      cases h2
      exact adv_value v j c k hj h1
theorem adv_listF {α : Type} {v : Env} {fin : List Nat} {one : Nat → PR α} (hone : Adv v one) : ∀ (n : Nat) (acc : List α), Adv v (listF v fin one n acc)
  | 0, acc => fun j a k hj h => by cases h
  | n + 1, acc => by
    intro j a k hj h
    rw [listF] at h
    split at h
    · rename_i hs
      have := sign_lt hs
      obtain ⟨x, m, h1, h2⟩ := bind_ok h
      have h3 := hone (j + 1) x m (by omega) h1
      have h4 := adv_listF hone n (acc ++ [x]) m a k h3.2 h2
      omega
    · obtain ⟨x, m, h1, h2⟩ := bind_ok h
      have h3 := adv_must v fin j x m hj h1
      cases h2
      omega
theorem adv_list {α : Type} {v : Env} {fin : List Nat} {one : Nat → PR α} (hone : Adv v one) : Adv v (list v fin one) := by
  intro j a k hj h
  unfold list at h
  split at h
  · rename_i hs
    have := sign_lt hs
    cases h; omega
  · obtain ⟨x, m, h1, h2⟩ := bind_ok h
    have h3 := hone j x m hj h1
    have h4 := adv_listF hone _ [x] m a k h3.2 h2
    omega
theorem adv_atom (v : Env) : Adv v (atom v) := by
  intro j a k hj h
  obtain ⟨t, m, h1, h2⟩ := bind_ok h
  obtain ⟨_, m2, h3, h4⟩ := bind_ok h2
  obtain ⟨l, m3, h5, h6⟩ := bind_ok h4
  cases h6
  have a1 := adv_name v j t m hj h1
  have a2 := adv_must v _ m _ m2 a1.2 h3
  have a3 := adv_list (adv_term v) m2 l k a2.2 h5
  omega
theorem adv_fact (v : Env) : Adv v (fact v) := by
  intro j a k hj h
  obtain ⟨t, m, h1, h2⟩ := bind_ok h
  obtain ⟨_, m2, h3, h4⟩ := bind_ok h2
  obtain ⟨l, m3, h5, h6⟩ := bind_ok h4
  cases h6
  have a1 := adv_name v j t m hj h1
  have a2 := adv_must v _ m _ m2 a1.2 h3
  have a3 := adv_list (adv_value v) m2 l k a2.2 h5
  omega
theorem adv_ty (v : Env) : Adv v (ty v) := by
  intro j a k hj h
  unfold ty at h
  split at h
  · cases h
  · rename_i hn
    have : j < v.ws.length := kind_lt (placeF_pos _ _ (Nat.pos_of_ne_zero hn))
    cases h; omega
theorem adv_relation (v : Env) : Adv v (relation v) := by
  intro j a k hj h
  obtain ⟨t, m, h1, h2⟩ := bind_ok h
  obtain ⟨_, m2, h3, h4⟩ := bind_ok h2
  obtain ⟨l, m3, h5, h6⟩ := bind_ok h4
  cases h6
  have a1 := adv_name v j t m hj h1
  have a2 := adv_must v _ m _ m2 a1.2 h3
  have a3 := adv_list (adv_ty v) m2 l k a2.2 h5
  omega
theorem level_lt {v : Env} {i : Nat} (h : (level (v.tk i)).1 ≠ 0) : i < v.ws.length := by
  unfold level at h
  split at h
  · exact sign_lt ‹_›
  · split at h
    · exact sign_lt ‹_›
    · split at h
      · exact sign_lt ‹_›
      · split at h
        · exact sign_lt ‹_›
        · split at h
          · exact sign_lt ‹_›
          · exact absurd rfl h
theorem adv_chainF {v : Env} {line : Nat} {sub : Nat → Nat → PR (Ex × Nat)} {above : Nat} (hl : line ≠ 0) (hs : ∀ ab, Adv v (sub ab)) : ∀ (n : Nat) (e : Ex) (d : Nat), Adv v (chainF v line sub above n e d)
  | 0, e, d => fun j a k hj h => by cases h
  | n + 1, e, d => by
    intro j a k hj h
    rw [chainF] at h
    split at h
    · cases h; omega
    · rename_i hne
      have hj2 : j < v.ws.length := level_lt (by omega)
      split at h
      · cases h
      · obtain ⟨x, m, h1, h2⟩ := bind_ok h
        have h3 := hs _ (j + 1) x m (by omega) h1
        have h4 := adv_chainF hl hs n _ _ m a k h3.2 h2
        omega
theorem adv_exprF (v : Env) : ∀ (n line above : Nat), line ≠ 0 → Adv v (exprF v n line above)
  | 0, line, above, _ => fun j a k hj h => by cases h
  | n + 1, line, above, hl => by
    intro j a k hj h
    rw [exprF] at h
    split at h
    · split at h
      · rename_i hk
        have : j < v.ws.length := kind_lt (by omega)
        cases h; omega
      · split at h
        · rename_i c m hc
          have := constant_adv hc
          cases h; omega
        · split at h
          · rename_i hs
            have := sign_lt hs
            split at h
            · cases h
            · obtain ⟨x, m, h1, h2⟩ := bind_ok h
              cases h2
              have := adv_exprF v n 3 (above + 1) (by omega) (j + 1) _ k (by omega) h1
              omega
          · split at h
            · cases h
            · obtain ⟨_, m, h1, h2⟩ := bind_ok h
              obtain ⟨x, m2, h3, h4⟩ := bind_ok h2
              obtain ⟨_, m3, h5, h6⟩ := bind_ok h4
              cases h6
              have a1 := adv_must v _ j _ m hj h1
              have a2 := adv_exprF v n 1 (above + 1) (by omega) m x m2 a1.2 h3
              have a3 := adv_must v _ m2 _ k a2.2 h5
              omega
    · obtain ⟨x, m, h1, h2⟩ := bind_ok h
      have a1 := adv_exprF v n (line + 1) above (by omega) j x m hj h1
      have a2 := adv_chainF hl (fun ab => adv_exprF v n (line + 1) ab (by omega)) _ _ _ m a k a1.2 h2
      omega
theorem adv_expr (v : Env) : Adv v (expr v) := by
  intro j a k hj h
  obtain ⟨x, m, h1, h2⟩ := bind_ok h
  cases h2
  exact adv_exprF v 60 1 0 (by omega) j _ k hj h1
theorem adv_bodyF {v : Env} {one : Nat → PR Li} (hone : Adv v one) : ∀ (n : Nat) (acc : List Li), Adv v (bodyF v one n acc)
  | 0, acc => fun j a k hj h => by cases h
  | n + 1, acc => by
    intro j a k hj h
    rw [bodyF] at h
    split at h
    · rename_i hs
      have := sign_lt hs
      obtain ⟨x, m, h1, h2⟩ := bind_ok h
      have h3 := hone (j + 1) x m (by omega) h1
      have h4 := adv_bodyF hone n (acc ++ [x]) m a k h3.2 h2
      omega
    · cases h; omega
theorem adv_bodyOf {v : Env} {one : Nat → PR Li} (hone : Adv v one) : Adv v (bodyOf v one) := by
  intro j a k hj h
  obtain ⟨x, m, h1, h2⟩ := bind_ok h
  have h3 := hone j x m hj h1
  have h4 := adv_bodyF hone _ [x] m a k h3.2 h2
  omega
theorem adv_aggOf {v : Env} {one : Nat → PR Li} (hone : Adv v one) (br : Nat) {j k : Nat} {a : Ag} (hj : j + 3 ≤ v.ws.length) (h : aggOf v one br j = .ok a k) : j + 3 ≤ k ∧ k ≤ v.ws.length := by
  unfold aggOf at h
  split at h
  · cases h
  · obtain ⟨_, m, h1, h2⟩ := bind_ok h
    obtain ⟨o, m2, h3, h4⟩ := bind_ok h2
    obtain ⟨bd, m3, h5, h6⟩ := bind_ok h4
    obtain ⟨_, m4, h7, h8⟩ := bind_ok h6
    cases h8
    have a1 := adv_must v _ (j + 3) _ m hj h1
    have a2 : m ≤ m2 ∧ m2 ≤ v.ws.length := by
      split at h3
      · obtain ⟨x, n1, g1, g2⟩ := bind_ok h3
        obtain ⟨_, n2, g3, g4⟩ := bind_ok g2
        cases g4
        have b1 := adv_expr v m _ n1 a1.2 g1
        have b2 := adv_must v _ n1 _ m2 b1.2 g3
        omega
      · cases h3; omega
    have a3 := adv_bodyOf hone m2 bd m3 a2.2 h5
    have a4 := adv_must v _ m3 _ k a3.2 h7
    omega
theorem adv_litF (v : Env) : ∀ (n br : Nat), Adv v (litF v n br)
  | 0, br => fun j a k hj h => by cases h
  | n + 1, br => by
    intro j a k hj h
    rw [litF] at h
    split at h
    · rename_i hs
      have := sign_lt hs
      obtain ⟨x, m, h1, h2⟩ := bind_ok h
      cases h2
      have := adv_atom v (j + 1) _ k (by omega) h1
      omega
    · split at h
      · obtain ⟨x, m, h1, h2⟩ := bind_ok h
        cases h2
        exact adv_atom v j _ k hj h1
      · split at h
        · rename_i hc
          have : j + 2 < v.ws.length := kind_lt (placeF_pos _ _ hc.2.2)
          obtain ⟨g, m, h1, h2⟩ := bind_ok h
          cases h2
          have := adv_aggOf (adv_litF v n (br + 1)) br (by omega) h1
          omega
        · obtain ⟨l, m, h1, h2⟩ := bind_ok h
          have a1 := adv_expr v j l m hj h1
          split at h2
          · cases h2
          · rename_i hc
            have : m < v.ws.length := kind_lt (placeF_pos _ _ (Nat.pos_of_ne_zero hc))
            obtain ⟨r, m2, h3, h4⟩ := bind_ok h2
            cases h4
            have a2 := adv_expr v (m + 1) r k (by omega) h3
            omega
theorem adv_lit (v : Env) (br : Nat) : Adv v (lit v br) := adv_litF v _ br
theorem adv_body (v : Env) : Adv v (body v) := adv_bodyOf (adv_lit v 0)
theorem adv_rule (v : Env) : Adv v (rule v) := by
  intro j a k hj h
  obtain ⟨x, m, h1, h2⟩ := bind_ok h
  obtain ⟨b, m2, h3, h4⟩ := bind_ok h2
  cases h4
  have a1 := adv_atom v j x m hj h1
  split at h3
  · rename_i hs
    have := sign_lt hs
    have := adv_body v (m + 1) b k (by omega) h3
    omega
  · cases h3; omega
end Go.Proofs.YtppigckioalhhaaGreatDoorR.Sy
namespace Go.Proofs.YtppigckioalhhaaGreatDoorR
open Go.RowKit
set_option linter.unusedVariables false
set_option linter.unusedSimpArgs false
set_option maxRecDepth 100000

def valC : Va.Val → World → Value → Prop := fun c _ x => x = .agg (valV c)
set_option maxHeartbeats 1000000 in
theorem value_any (b : Nat) (ra : Option Addr) (rc : Nat) (f : Value) (v : Sy.Env) (i : Nat) (w : World) (h : RdP w b ra rc f v i) (hv : EnvOk v) (hi : i ≤ 69000) :
    Calls Tryz.prog 93 #[.pointer (some ⟨b, 0, none⟩)] w (PRes b ra rc f v (Sy.value v i) valC w) := by
  have mA := (Mod.refl [] w).alloc (Obj.cells #[Value.int IntKind.i64 0, Value.int IntKind.i64 0, Value.string { data := #[] }] 42)
  have hA := h.past mA (by simp)
  have eA := heap_alloc_new w (Obj.cells #[Value.int IntKind.i64 0, Value.int IntKind.i64 0, Value.string { data := #[] }] 42)
  have HC := Lib.hid (constant_any b ra rc f v i _ hA hv (by omega))
  have HR : Hid (Sy.value v i = match Sy.constant v i with | some (c, n) => .ok c (i + n) | none => .err (v.give 40 (if Sy.sign (v.tk i) [45] = true then i + 1 else i))) := Lib.hid rfl
  have HMy := Lib.hid (fun w h => may_any b ra rc f v i [45] { data := #[45] } w h hv (by omega) rfl (by decide))
  have HLo := Lib.hid h.low
  have hbl := h.lt
  have EA := Lib.hid eA; have MA := Lib.hid mA
  clear h hA eA mA
  generalize Sy.constant v i = o at *
  generalize Sy.sign (v.tk i) [45] = rs at *
  generalize Sy.value v i = q at *
  go_enter Tryz.func93, Tryz.ntmps93
  go_upto_region 1 with fail
  generalize w.alloc (Obj.cells #[Value.int IntKind.i64 0, Value.int IntKind.i64 0, Value.string { data := #[] }] 42) = wA at *
  cases o with
  | none =>
    cases rs
    · have hq : q = .err (v.give 40 i) := HR.out
      subst hq
      clear HR
      go_wp2_with fail
      refine HC.out.mono ?_
      rintro e1 w1 ⟨rfl, h1, m1⟩
      have H1 := Lib.hid (show RdP w1 b ra rc f v i from h1); have M1 := Lib.hid ((MA.out.mono (T := [b]) (by simp)).trans m1 (by simp))
      clear h1 m1 HC
      unfold ConV
      simp only [Option.map_none, Option.getD_none, Option.isSome_none, valV, Va.zero]
      have mB := (Mod.refl [] w1).alloc (Obj.cells #[Value.int .i64 0, Value.int .i64 0, Value.string (Lx.ofS [])] 42)
      have H2 := Lib.hid (H1.out.past mB (by simp)); have M2 := Lib.hid (M1.out.trans mB (by simp))
      clear mB
      go_wp2_with fail
      refine (HMy.out _ H2.out).mono ?_
      rintro e3 w3 ⟨rfl, h3, m3⟩
      have H3 := Lib.hid (show RdP w3 b ra rc f v i from h3); have M3 := Lib.hid (M2.out.trans m3 (by simp))
      clear h3 m3
      go_wp2_with fail
      refine (give_any b ra rc f v i 40 w3 H3.out hv (by omega)).mono ?_
      rintro e4 w4 ⟨rfl, m4⟩
      have M4 := Lib.hid (M3.out.trans m4 (by simp))
      clear m4
      unfold stopE
      go_wp2_with fail
      exact ⟨rfl, rfl, M4.out⟩
    · have hq : q = .err (v.give 40 (i + 1)) := HR.out
      subst hq
      clear HR
      go_wp2_with fail
      refine HC.out.mono ?_
      rintro e1 w1 ⟨rfl, h1, m1⟩
      have H1 := Lib.hid (show RdP w1 b ra rc f v i from h1); have M1 := Lib.hid ((MA.out.mono (T := [b]) (by simp)).trans m1 (by simp))
      clear h1 m1 HC
      unfold ConV
      simp only [Option.map_none, Option.getD_none, Option.isSome_none, valV, Va.zero]
      have mB := (Mod.refl [] w1).alloc (Obj.cells #[Value.int .i64 0, Value.int .i64 0, Value.string (Lx.ofS [])] 42)
      have H2 := Lib.hid (H1.out.past mB (by simp)); have M2 := Lib.hid (M1.out.trans mB (by simp))
      clear mB
      go_wp2_with fail
      refine (HMy.out _ H2.out).mono ?_
      rintro e3 w3 ⟨rfl, h3, m3⟩
      have H3 := Lib.hid (show RdP w3 b ra rc f v (i + 1) from h3); have M3 := Lib.hid (M2.out.trans m3 (by simp))
      clear h3 m3
      go_wp2_with fail
      refine (give_any b ra rc f v (i + 1) 40 w3 H3.out hv (by omega)).mono ?_
      rintro e4 w4 ⟨rfl, m4⟩
      have M4 := Lib.hid (M3.out.trans m4 (by simp))
      clear m4
      unfold stopE
      go_wp2_with fail
      exact ⟨rfl, rfl, M4.out⟩
  | some p =>
    obtain ⟨c, n⟩ := p
    have hq : q = .ok c (i + n) := HR.out
    subst hq
    clear HR
    go_wp2_with fail
    refine HC.out.mono ?_
    rintro e1 w1 ⟨rfl, h1, m1⟩
    have H1 := Lib.hid (show RdP w1 b ra rc f v (i + n) from h1); have M1 := Lib.hid ((MA.out.mono (T := [b]) (by simp)).trans m1 (by simp))
    have hnb : w.heap.size ∉ [b] := by simp; omega
    have E1 := Lib.hid (m1.at EA.out hnb)
    have z1 := lt_of_block E1.out
    clear h1 m1 HC
    unfold ConV
    simp only [Option.map_some, Option.getD_some, Option.isSome_some, valV]
    have mB := (Mod.refl [] w1).alloc (Obj.cells #[Value.int .i64 c.k, Value.int .i64 c.n, Value.string (Lx.ofS c.s)] 42)
    have bB := heap_alloc_new w1 (Obj.cells #[Value.int .i64 c.k, Value.int .i64 c.n, Value.string (Lx.ofS c.s)] 42)
    have aB := mB.at E1.out (by simp)
    have H2 := Lib.hid (H1.out.past mB (by simp)); have M2 := Lib.hid (M1.out.trans mB (by simp))
    obtain ⟨x0, x1, x2⟩ := cells3 bB
    obtain ⟨y0, y1, y2⟩ := cells3 aB
    have fA : ∀ j, (w1.alloc (Obj.cells #[Value.int .i64 c.k, Value.int .i64 c.n, Value.string (Lx.ofS c.s)] 42)).frozen? ⟨w.heap.size, j, none⟩ = false := fun j => free_at aB j
    have AB := Lib.hid aB
    clear mB aB bB
    go_upto_region 5 with fail
    generalize w1.alloc (Obj.cells #[Value.int .i64 c.k, Value.int .i64 c.n, Value.string (Lx.ofS c.s)] 42) = wB at *
    go_wp2_with fail
    have mR := setCs_mod w.heap.size [.int .i64 c.k, .int .i64 c.n, .string (Lx.ofS c.s)] 0 wB
    refine bodyPost_ret (results_cell_row rfl _ _ _ _ _ _ _ rfl (setCs_row (vs := [.int .i64 c.k, .int .i64 c.n, .string (Lx.ofS c.s)]) AB.out rfl) Tryz.underlying42 rfl (by kernel_rfl)) rfl ⟨_, rfl, rfl, H2.out.new HLo.out mR (by simp), M2.out.trans mR (by simp)⟩

def valM : Pr.Term → World → Value → Prop := fun c _ x => x = .agg (tmV c)
theorem cells5 {w : World} {b : Nat} {a0 a1 a2 a3 a4 : Value} {T : TypeId} {fr : Nat × Nat} (h : w.heap[b]? = some (.cells #[a0, a1, a2, a3, a4] T fr)) :
    w.cell? ⟨b, 0, none⟩ = some a0 ∧ w.cell? ⟨b, 1, none⟩ = some a1 ∧ w.cell? ⟨b, 2, none⟩ = some a2 ∧ w.cell? ⟨b, 3, none⟩ = some a3 ∧ w.cell? ⟨b, 4, none⟩ = some a4 := ⟨cell_at h 0, cell_at h 1, cell_at h 2, cell_at h 3, cell_at h 4⟩
set_option maxHeartbeats 1000000 in
theorem term_any (b : Nat) (ra : Option Addr) (rc : Nat) (f : Value) (v : Sy.Env) (i : Nat) (w : World) (h : RdP w b ra rc f v i) (hv : EnvOk v) (hi : i ≤ 69000) :
    Calls Tryz.prog 89 #[.pointer (some ⟨b, 0, none⟩)] w (PRes b ra rc f v (Sy.term v i) valM w) := by
  have mA := (Mod.refl [] w).alloc (Obj.cells #[Value.int IntKind.i64 0, Value.string { data := #[] }, Value.int IntKind.i64 0, Value.int IntKind.i64 0, Value.string { data := #[] }] 113)
  have hA := h.past mA (by simp)
  have eA := heap_alloc_new w (Obj.cells #[Value.int IntKind.i64 0, Value.string { data := #[] }, Value.int IntKind.i64 0, Value.int IntKind.i64 0, Value.string { data := #[] }] 113)
  have HP := Lib.hid (peek0 b ra rc f v i _ hA hv (by omega))
  have HR : Hid (Sy.term v i = if (v.tk i).kind = 2 then .ok ⟨1, Sy.txt (v.tk i).text, Va.zero⟩ (i + 1)
    else if Sy.sign (v.tk i) [95] = true then .ok ⟨3, Sy.txt [], Va.zero⟩ (i + 1)
    else (Sy.value v i).bind fun c j => .ok ⟨2, Sy.txt [], c⟩ j) := Lib.hid rfl
  have HMy := Lib.hid (fun w h => may_any b ra rc f v i [95] { data := #[95] } w h hv (by omega) rfl (by decide))
  have HV := Lib.hid (fun w h => value_any b ra rc f v i w h hv hi)
  have HLo := Lib.hid h.low
  have hbl := h.lt
  have HH := Lib.hid hA; have EA := Lib.hid eA; have MA := Lib.hid mA
  clear h hA eA mA
  generalize Sy.sign (v.tk i) [95] = rs at *
  generalize Sy.value v i = o at *
  generalize Sy.term v i = q at *
  generalize v.tk i = t at *
  go_enter Tryz.func89, Tryz.ntmps89
  go_upto_region 1 with fail
  generalize w.alloc (Obj.cells #[Value.int IntKind.i64 0, Value.string { data := #[] }, Value.int IntKind.i64 0, Value.int IntKind.i64 0, Value.string { data := #[] }] 113) = wA at *
  go_wp2_with fail
  refine HP.out.mono ?_
  rintro e1 w1 ⟨rfl, m1⟩
  have E1 := Lib.hid (m1.at EA.out (by simp))
  have z1 := lt_of_block E1.out
  have mB := (Mod.refl [] w1).alloc (Obj.cells (tokC t) 74)
  have bB := heap_alloc_new w1 (Obj.cells (tokC t) 74)
  have HB := Lib.hid ((HH.out.past m1 (by simp)).past mB (by simp)); have AB := Lib.hid (mB.at E1.out (by simp)); have BB := Lib.hid bB; have MB := Lib.hid ((MA.out.trans m1 (by simp)).trans mB (by simp))
  have zB : (w1.alloc (Obj.cells (tokC t) 74)).heap.size = w1.heap.size + 1 := by simp
  clear m1 mB bB HP
  unfold tokC at *
  go_upto_region 2 with fail
  generalize w1.alloc (Obj.cells _ 74) = wB at *
  obtain ⟨x0, x1, x2, x3, x4, x5, x6⟩ := tok_cells (t := t) BB.out
  obtain ⟨c0, c1, c2, c3, c4, c5, fz⟩ := HB.out.cells
  have hnb : w.heap.size ∉ [b] := by simp; omega
  by_cases k2 : t.kind = 2
  · have hq : q = .ok ⟨1, Sy.txt t.text, Va.zero⟩ (i + 1) := by rw [HR.out, if_pos k2]
    subst hq
    have b2 : ((t.kind : Int) == 2) = true := by rw [k2]; rfl
    have hT := HB.out.to (i + 1)
    have hnb1 : w1.heap.size ∉ [b] := by simp; omega
    have aC : (wB.setCell ⟨b, 1, none⟩ (.int .i64 ((i : Int) + 1))).heap[w.heap.size]? = _ := hT.2.at AB.out hnb
    have tC : (wB.setCell ⟨b, 1, none⟩ (.int .i64 ((i : Int) + 1))).heap[w1.heap.size]? = _ := hT.2.at BB.out hnb1
    have HC : Hid (RdP (wB.setCell ⟨b, 1, none⟩ (.int .i64 ((i : Int) + 1))) b ra rc f v (i + 1)) := Lib.hid hT.1
    have MC : Hid (Mod [b] w (wB.setCell ⟨b, 1, none⟩ (.int .i64 ((i : Int) + 1)))) := Lib.hid ((MB.out.mono (T := [b]) (by simp)).trans hT.2 (by simp))
    clear hT HR k2
    go_upto_region 4 with fail
    generalize wB.setCell ⟨b, 1, none⟩ (.int .i64 ((i : Int) + 1)) = wC at *
    clear x0 x1 x2 x3 x4 x5 x6 c0 c1 c2 c3 c4 c5 fz
    obtain ⟨x0, x1, x2, x3, x4, x5, x6⟩ := tok_cells (t := t) tC
    obtain ⟨y0, y1, y2, y3, y4⟩ := cells5 aC
    have fA : ∀ j, wC.frozen? ⟨w.heap.size, j, none⟩ = false := fun j => free_at aC j
    have AC := Lib.hid aC
    clear aC tC
    go_wp2_with fail
    have mR := setCs_mod w.heap.size [.int .i64 1, .string (Lx.ofS t.text), .int .i64 0, .int .i64 0, .string { data := #[] }] 0 wC
    refine bodyPost_ret (results_cell_row rfl _ _ _ _ _ _ _ rfl (setCs_row (vs := [.int .i64 1, .string (Lx.ofS t.text), .int .i64 0, .int .i64 0, .string { data := #[] }]) AC.out rfl) Tryz.underlying113 rfl (by kernel_rfl)) rfl ⟨_, rfl, rfl, HC.out.new HLo.out mR (by simp), MC.out.trans mR (by simp)⟩
  · have b2 : ((t.kind : Int) == 2) = false := by rw [beq_eq_false_iff_ne]; omega
    have HR2 : Hid (q = if rs = true then .ok ⟨3, Sy.txt [], Va.zero⟩ (i + 1) else o.bind fun c j => .ok ⟨2, Sy.txt [], c⟩ j) := Lib.hid (by rw [HR.out, if_neg k2])
    clear HR k2 c0 c1 c2 c3 c4 c5 fz
    go_wp2_with fail
    refine (HMy.out wB HB.out).mono ?_
    rintro e2 w2 ⟨rfl, h2, m2⟩
    have M2 := Lib.hid ((MB.out.mono (T := [b]) (by simp)).trans m2 (by simp)); have A2 := Lib.hid (m2.at AB.out hnb)
    clear x0 x1 x2 x3 x4 x5 x6 m2
    cases rs
    · have hq : q = o.bind fun c j => .ok ⟨2, Sy.txt [], c⟩ j := HR2.out
      have H2 := Lib.hid (show RdP w2 b ra rc f v i from h2)
      clear h2 HR2
      cases o with
      | err g =>
        have hq2 : q = .err g := hq
        subst hq2
        clear hq
        go_wp2_with fail
        refine (HV.out w2 H2.out).mono ?_
        rintro e3 w3 ⟨rfl, m3⟩
        have M3 := Lib.hid (M2.out.trans m3 (by simp))
        clear m3
        unfold stopE
        go_wp2_with fail
        exact ⟨rfl, rfl, M3.out⟩
      | ok c j =>
        have hq2 : q = .ok ⟨2, Sy.txt [], c⟩ j := hq
        subst hq2
        clear hq
        go_wp2_with fail
        refine (HV.out w2 H2.out).mono ?_
        rintro e3 w3 ⟨x, rfl, hx, h3, m3⟩
        unfold valC at hx
        subst hx
        have H3 := Lib.hid h3; have M3 := Lib.hid (M2.out.trans m3 (by simp)); have a3 := m3.at A2.out hnb
        obtain ⟨y0, y1, y2, y3, y4⟩ := cells5 a3
        have fA : ∀ j, w3.frozen? ⟨w.heap.size, j, none⟩ = false := fun j => free_at a3 j
        have A3 := Lib.hid a3
        clear h3 m3 a3
        unfold valV
        go_wp2_with fail
        have mR := setCs_mod w.heap.size [.int .i64 2, .string { data := #[] }, .int .i64 c.k, .int .i64 c.n, .string (Lx.ofS c.s)] 0 w3
        refine bodyPost_ret (results_cell_row rfl _ _ _ _ _ _ _ rfl (setCs_row (vs := [.int .i64 2, .string { data := #[] }, .int .i64 c.k, .int .i64 c.n, .string (Lx.ofS c.s)]) A3.out rfl) Tryz.underlying113 rfl (by kernel_rfl)) rfl ⟨_, rfl, rfl, H3.out.new HLo.out mR (by simp), M3.out.trans mR (by simp)⟩
    · have hq : q = .ok ⟨3, Sy.txt [], Va.zero⟩ (i + 1) := HR2.out
      subst hq
      have H2 := Lib.hid (show RdP w2 b ra rc f v (i + 1) from h2)
      obtain ⟨y0, y1, y2, y3, y4⟩ := cells5 A2.out
      have fA : ∀ j, w2.frozen? ⟨w.heap.size, j, none⟩ = false := fun j => free_at A2.out j
      clear h2 HR2
      go_wp2_with fail
      have mR := setCs_mod w.heap.size [.int .i64 3, .string { data := #[] }, .int .i64 0, .int .i64 0, .string { data := #[] }] 0 w2
      refine bodyPost_ret (results_cell_row rfl _ _ _ _ _ _ _ rfl (setCs_row (vs := [.int .i64 3, .string { data := #[] }, .int .i64 0, .int .i64 0, .string { data := #[] }]) A2.out rfl) Tryz.underlying113 rfl (by kernel_rfl)) rfl ⟨_, rfl, rfl, H2.out.new HLo.out mR (by simp), M2.out.trans mR (by simp)⟩
end Go.Proofs.YtppigckioalhhaaGreatDoorR
