/- THE TEXTS MERGED: PrPlain PrWt LxRune LxFn LxScan LxSkip Shelf LxHex Bytes LxQuo LxNext LxToks SyPlain SyBase SyTok2. -/
import Derived.Test.YtohnmnfhmbmoaaaDoorKA1
import Derived.Laws.RangeAny
import Derived.Deep.LoopGhost
import Derived.Outline
import Derived.Shelf.Strings.Builder1
import Derived.Shelf.Strconv.Itoa0
import Derived.Shelf.Strconv.Itoa1
import Derived.Shelf.LaysM
import Derived.Shelf.Strconv.Itoa2
import Derived.Shelf.Strconv.Itoa3
import Derived.Test.YtohnmnfhmbmoaaaDoorProg
import Derived.Laws.StructEq
import Derived.Deep.DeepCutAuto
import Derived.Deep.RegionHeld3
namespace Go.Proofs.YtohnmnfhmbmoaaaDoor.Pr
open Cod (str)
open Va (Val)
set_option linter.unusedSimpArgs false
set_option linter.unusedVariables false
structure Term where
 k:Int
 v:ByteArray
 x:Val
structure Atom where
 rel:ByteArray
 terms:List Term
inductive Ex where
 | mk (k:Int) (v:ByteArray) (x:Val) (op:Int) (args:List Ex)
inductive Li where
 | mk (k:Int) (atom:Atom) (op:Int) (left right:Ex) (fn:Int) (av:ByteArray) (of:Ex) (body:List Li) (line col:Int)
structure Rul where
 head:Atom
 body:List Li
 line:Int
 col:Int
structure Rel where
 name:ByteArray
 types:List Int
 line:Int
 col:Int
structure Prog where
 rels:List Rel
 rules:List Rul
def Ex.k:Ex->Int | .mk k _ _ _ _=>k
def Ex.v:Ex->ByteArray | .mk _ v _ _ _=>v
def Ex.x:Ex->Val | .mk _ _ x _ _=>x
def Ex.op:Ex->Int | .mk _ _ _ op _=>op
def Ex.args:Ex->List Ex | .mk _ _ _ _ args=>args
def strength (op:Int):Nat:=if op=1\/op=2 then 1 else if op=3\/op=4\/op=5 then 2 else if op=6 then 3 else 0
def binds (e:Ex):Nat:=if e.k=4 then strength e.op else 4
def sign (op:Int):List Nat:=if op=1 then [43] else if op=2 then [45] else if op=3 then [42] else if op=4 then [47] else [109,111,100]
/-- an expression's text; none: there is none. The first number: one more than the depth that is left -/
def pE:Nat->Ex->Option (List Nat)
 | 0,_=>none
 | k+1,e =>
  if e.k=1 then (if Va.variable_ (str e.v)=true/\e.x=Va.zero/\e.op=0/\e.args.length=0 then some (str e.v) else none)
  else if e.k=2 then (if e.v.size=0/\e.op=0/\e.args.length=0/\Va.may e.x=true then some (Va.text e.x) else none)
  else if e.k=4 then
   (if e.v.size=0/\e.x=Va.zero/\0<strength e.op then
    match k with
    | 0=>none
    | j+1 =>
     match e.args with
     | [a] =>
      if e.op=6 then
       (if binds a<3\/(a.k=2/\a.x.k=1/\0<a.x.n) then (pE j a).map (fun t=>40 :: (t++[41])) else pE (j+1) a).map
        (fun t=>45 :: ((if a.k=2/\a.x.k=1/\a.x.n=0 then [45] else [])++t))
      else none
     | [a,b] =>
      if e.op=6 then none else
      match (if binds a<strength e.op then (pE j a).map (fun t=>40 :: (t++[41])) else pE (j+1) a),(if binds b<=strength e.op then (pE j b).map (fun t=>40 :: (t++[41])) else pE (j+1) b) with
      | some l,some r=>some (l++(32 :: (sign e.op++(32 :: r))))
      | _,_=>none
     | _=>none
   else none)
  else none
/-- an operation's text -/
def pO:Nat->Ex->Option (List Nat)
 | 0,_=>none
 | j+1,e =>
  match e.args with
  | [a] =>
   if e.op=6 then
    (if binds a<3\/(a.k=2/\a.x.k=1/\0<a.x.n) then (pE j a).map (fun t=>40 :: (t++[41])) else pE (j+1) a).map
     (fun t=>45 :: ((if a.k=2/\a.x.k=1/\a.x.n=0 then [45] else [])++t))
   else none
  | [a,b] =>
   if e.op=6 then none else
   match (if binds a<strength e.op then (pE j a).map (fun t=>40 :: (t++[41])) else pE (j+1) a),(if binds b<=strength e.op then (pE j b).map (fun t=>40 :: (t++[41])) else pE (j+1) b) with
   | some l,some r=>some (l++(32 :: (sign e.op++(32 :: r))))
   | _,_=>none
  | _=>none
theorem pE_var (k:Nat) (e:Ex) (h:e.k=1):pE (k+1) e=if Va.variable_ (str e.v)=true/\e.x=Va.zero/\e.op=0/\e.args.length=0 then some (str e.v) else none:=by
 unfold pE;rw [if_pos h]
theorem pE_val (k:Nat) (e:Ex) (h:e.k=2):pE (k+1) e=if e.v.size=0/\e.op=0/\e.args.length=0/\Va.may e.x=true then some (Va.text e.x) else none:=by
 unfold pE;rw [if_neg (by omega),if_pos h]
theorem pE_op (k:Nat) (e:Ex) (h:e.k=4):pE (k+1) e=if e.v.size=0/\e.x=Va.zero/\0<strength e.op then pO k e else none:=by
 cases k with
 | zero=>unfold pE pO;rw [if_neg (by omega),if_neg (by omega),if_pos h]
 | succ j=>unfold pE pO;rw [if_neg (by omega),if_neg (by omega),if_pos h]
theorem pE_other (k:Nat) (e:Ex) (h1:e.k≠1) (h2:e.k≠2) (h3:e.k≠4):pE (k+1) e=none:=by
 unfold pE;rw [if_neg h1,if_neg h2,if_neg h3]
def seqO {α:Type}:List (Option α)->Option (List α)
 | []=>some []
 | o :: r=>match o,seqO r with | some a,some l=>some (a :: l) | _,_=>none
def commas (ls:List (List Nat)):List Nat:=[44,32].intercalate ls
def pT (t:Term):Option (List Nat) :=
 if t.k=1 then (if Va.variable_ (str t.v)=true/\t.x=Va.zero then some (str t.v) else none)
 else if t.k=2 then (if t.v.size=0/\Va.may t.x=true then some (Va.text t.x) else none)
 else if t.k=3 then (if t.v.size=0/\t.x=Va.zero then some [95] else none)
 else none
def pA (a:Atom):Option (List Nat) :=
 if Va.name (str a.rel)=true then (seqO (a.terms.map pT)).map (fun ls=>str a.rel++(40 :: (commas ls++[41]))) else none
def noExpr (e:Ex):Bool:=decide (e.k=0) && (decide (e.v.size=0) && (decide (e.x=Va.zero) && (decide (e.op=0) && decide (e.args.length=0))))
def lacks (k:Int) (a:Atom) (op:Int) (l r:Ex) (fn:Int) (av:ByteArray) (of:Ex) (n:Nat):Bool :=
 (decide (k=1\/k=2) || (decide (a.rel.size=0) && decide (a.terms.length=0))) &&
 ((decide (k=3) || (decide (op=0) && (noExpr l && noExpr r))) &&
 (decide (k=4) || (decide (fn=0) && (decide (av.size=0) && (noExpr of && decide (n=0))))))
def cmp (op:Int):List Nat:=if op=1 then [32,61,32] else if op=2 then [32,33,61,32] else if op=3 then [32,60,32] else if op=4 then [32,60,61,32] else if op=5 then [32,62,32] else [32,62,61,32]
def word (fn:Int):List Nat:=if fn=1 then [99,111,117,110,116] else if fn=2 then [115,117,109] else if fn=3 then [109,105,110] else [109,97,120]
/-- a literal's text; the number: how many braces may still be opened -/
def pL:Nat->Li->Option (List Nat)
 | b,.mk k a op l r fn av of body _ _ =>
  if lacks k a op l r fn av of body.length=true then
   if k=1 then pA a
   else if k=2 then (pA a).map (fun t=>[110,111,116,32]++t)
   else if k=3 then
    (if 1<=op/\op<=6 then
     match pE 17 l,pE 17 r with
     | some s,some t=>some (s++(cmp op++t))
     | _,_=>none
    else none)
   else if k=4 then
    match b with
    | 0=>none
    | c+1 =>
     if 1<=fn/\fn<=4/\body.length≠0/\Va.variable_ (str av)=true then
      match (if fn=1 then (if noExpr of=true then some [] else none) else (pE 17 of).map (fun t=>t++[32,58,32])),seqO (body.map (pL c)) with
      | some o,some ls=>some (str av++([32,61,32]++(word fn++([32,123,32]++(o++(commas ls++[32,125]))))))
      | _,_=>none
     else none
   else none
  else none
termination_by b _=>b
def pB (b:Nat) (l:List Li):Option (List Nat):=(seqO (l.map (pL b))).map commas
def pR (r:Rul):Option (List Nat) :=
 match pA r.head with
 | none=>none
 | some h=>if r.body.length=0 then some h else (pB 16 r.body).map (fun t=>h++([32,58,45,32]++t))
def pTy (t:Int):Option (List Nat):=if t=1 then some [110,117,109] else if t=2 then some [115,121,109] else none
def pD (x:Rel):Option (List Nat) :=
 if Va.name (str x.name)=true then (seqO (x.types.map pTy)).map (fun ls=>[114,101,108,97,116,105,111,110,32]++(str x.name++(40 :: (commas ls++[41])))) else none
def lines (ls:List (List Nat)):List Nat:=ls.flatMap (fun l=>l++[46,10])
def pP (p:Prog):Option (List Nat) :=
 match seqO (p.rels.map pD),seqO (p.rules.map pR) with
 | some a,some b=>some (lines a++lines b)
 | _,_=>none
theorem seqO_app {α:Type}:∀ (a b:List (Option α)),seqO (a++b)=match seqO a,seqO b with | some x,some y=>some (x++y) | _,_=>none
 | [],b=>by simp [seqO];cases seqO b <;> rfl
 | o :: r,b=>by
  rw [List.cons_append]
  simp only [seqO]
  rw [seqO_app r b]
  cases o <;> cases seqO r <;> cases seqO b <;> simp
theorem seqO_snoc {α:Type} (a:List (Option α)) (o:Option α):seqO (a++[o])=match seqO a,o with | some x,some y=>some (x++[y]) | _,_=>none:=by
 rw [seqO_app]
 cases seqO a <;> cases o <;> simp [seqO]
end Go.Proofs.YtohnmnfhmbmoaaaDoor.Pr
namespace Go.Proofs.YtohnmnfhmbmoaaaDoor
set_option linter.unusedVariables false
mutual
def exWt:Pr.Ex->Nat
 | .mk _ v _ _ args=>v.size+300+exWts args
def exWts:List Pr.Ex->Nat
 | []=>0
 | e :: r=>exWt e+exWts r
end
def tsWt (ts:List Pr.Term):Nat:=(ts.map fun t=>t.v.size+300).sum
def aWt (a:Pr.Atom):Nat:=a.rel.size+300+tsWt a.terms
mutual
def lWt:Pr.Li->Nat
 | .mk k a op l r fn av of body ln cl=>aWt a+exWt l+exWt r+exWt of+av.size+1000+lsWt body
def lsWt:List Pr.Li->Nat
 | []=>0
 | e :: r=>lWt e+lsWt r
end
def rWt (r:Pr.Rul):Nat:=aWt r.head+lsWt r.body+10
def dWt (x:Pr.Rel):Nat:=x.name.size+30+10 * x.types.length
def dsWt (l:List Pr.Rel):Nat:=(l.map fun x=>dWt x+2).sum
def rsWt (l:List Pr.Rul):Nat:=(l.map fun x=>rWt x+2).sum
end Go.Proofs.YtohnmnfhmbmoaaaDoor
namespace Go.Proofs.YtohnmnfhmbmoaaaDoor.Lx
open Cod (str)
set_option linter.unusedSimpArgs false
theorem get_str (s:ByteArray) (i:Nat) (h:i<s.size):(str s).getD i 0=(s[i]'h).toNat:=by
 unfold str
 have h':i<s.data.toList.length:=by rw [Array.length_toList];exact h
 rw [List.getD_eq_getElem?_getD,List.getElem?_map,List.getElem?_eq_getElem h']
 simp
 rfl
theorem get_bang (s:ByteArray) (i:Nat) (h:i<s.size):(s.get! i).toNat=(str s).getD i 0:=by
 rw [get_str s i h]
 have:=get_at s i h
 simp only [Nat.add_zero] at this
 rw [this]
/-- a rune's bytes behind the first are no letters -/
theorem decode_cont (s:ByteArray) (pos:Nat) (h:pos<s.size) (ha:128<=(str s).getD pos 0) (i:Nat) (hi:i<(Utf8.decode s pos).2):pos+i<s.size/\128<=(str s).getD (pos+i) 0:=by
 have hn:¬ (s.get! (pos+0)).toNat<128:=by
  rw [Nat.add_zero,get_bang s pos h];omega
 have key:∀ k,(decide (pos+k<s.size) && (s.get! (pos+k)).toNat / 64 == 2)=true->pos+k<s.size/\128<=(str s).getD (pos+k) 0:=by
  intro k hk
  simp at hk
  rw [<-get_bang s (pos+k) hk.1]
  exact ⟨hk.1,by omega⟩
 have h0:pos+0<s.size/\128<=(str s).getD (pos+0) 0:=⟨h,ha⟩
 have one:∀ {a:Nat},i<(a,1).2->pos+i<s.size/\128<=(str s).getD (pos+i) 0:=by
  intro a hi
  have:i=0:=by simp at hi;exact hi
  subst this
  exact h0
 simp only [Utf8.decode,hn,if_false] at hi
 split at hi
 ·rename_i h1
  rw [Bool.and_eq_true] at h1
  have k1:=key 1 h1.2
  split at hi
  ·have:i=0\/i=1:=by simp at hi;omega
   rcases this with rfl | rfl
   ·exact h0
   ·exact k1
  ·exact one hi
 ·split at hi
  ·rename_i h1
   rw [Bool.and_eq_true,Bool.and_eq_true] at h1
   have k1:=key 1 h1.1.2
   have k2:=key 2 h1.2
   split at hi
   ·have:i=0\/i=1\/i=2:=by simp at hi;omega
    rcases this with rfl | rfl | rfl
    ·exact h0
    ·exact k1
    ·exact k2
   ·exact one hi
  ·split at hi
   ·rename_i h1
    rw [Bool.and_eq_true,Bool.and_eq_true,Bool.and_eq_true] at h1
    have k1:=key 1 h1.1.1.2
    have k2:=key 2 h1.1.2
    have k3:=key 3 h1.2
    split at hi
    ·have:i=0\/i=1\/i=2\/i=3:=by simp at hi;omega
     rcases this with rfl | rfl | rfl | rfl
     ·exact h0
     ·exact k1
     ·exact k2
     ·exact k3
    ·exact one hi
   ·exact one hi
theorem run_ge_succ (q:Nat->Bool):∀ (l:List Nat) (n:Nat),n<=run q l->n<l.length->q (l.getD n 0)=true->n+1<=run q l
 | [],n,_,h,_=>by simp at h
 | c :: r,0,_,_,h=>by rw [run_cons];simp at h;simp [h]
 | c :: r,n+1,hn,hl,h=>by
  rw [run_cons] at hn ⊢
  by_cases hc:q c=true
  ·rw [if_pos hc] at hn ⊢
   have:=run_ge_succ q r n (by omega) (by simpa using hl) (by simpa using h)
   omega
  ·rw [if_neg hc] at hn;omega
theorem run_stop (q:Nat->Bool):∀ (l:List Nat) (n:Nat),n<=run q l->n<l.length->q (l.getD n 0)=false->run q l=n
 | [],n,_,h,_=>by simp at h
 | c :: r,0,_,_,h=>by rw [run_cons];simp at h;simp [h]
 | c :: r,n+1,hn,hl,h=>by
  rw [run_cons] at hn ⊢
  by_cases hc:q c=true
  ·rw [if_pos hc] at hn ⊢
   have:=run_stop q r n (by omega) (by simpa using hl) (by simpa using h)
   omega
  ·rw [if_neg hc] at hn;omega
theorem run_many (q:Nat->Bool) (l:List Nat) (n:Nat) (hn:n<=run q l):∀ k,(∀ i,i<k->n+i<l.length/\q (l.getD (n+i) 0)=true)->n+k<=run q l
 | 0,_=>by simpa using hn
 | k+1,h=>by
  have:=run_many q l n hn k (fun i hi=>h i (by omega))
  have h2:=h k (by omega)
  exact run_ge_succ q l (n+k) this h2.1 h2.2
/-- a kind of runes and a kind of bytes are the same, and beyond the letters all is one -/
structure Alike (p:Int->Bool) (q:Nat->Bool) (d:Bool):Prop where
 low:∀ c:Nat,c<128->p (c:Int)=q c
 high:∀ c:Nat,128<=c->p (c:Int)=d
 byte:∀ c:Nat,128<=c->q c=d
theorem Alike.step {p:Int->Bool} {q:Nat->Bool} {d:Bool} (h:Alike p q d) (s:ByteArray) (pos:Nat) (hp:pos<s.size) (hr:pos<=run q (str s)) (hd:p ((Utf8.decode s pos).1:Int)=true) :
  pos+(Utf8.decode s pos).2<=run q (str s)/\1<=(Utf8.decode s pos).2:=by
 have hg:=get_str s pos hp
 rcases Nat.lt_or_ge ((str s).getD pos 0) 128 with ha | ha
 ·have e:=decode_ascii s pos hp (by omega)
  rw [e] at hd ⊢
  simp only at hd ⊢
  rw [<-hg,h.low _ ha] at hd
  exact ⟨run_ge_succ q _ pos hr (by rw [Cod.str_len];exact hp) hd,Nat.le_refl _⟩
 ·have e:=decode_high s pos hp (by omega)
  rw [h.high _ e.1] at hd
  subst hd
  refine ⟨run_many q _ pos hr _ (fun i hi=>?_),e.2⟩
  have:=decode_cont s pos hp ha i hi
  exact ⟨by rw [Cod.str_len];exact this.1,h.byte _ this.2⟩
theorem Alike.stop {p:Int->Bool} {q:Nat->Bool} {d:Bool} (h:Alike p q d) (s:ByteArray) (pos:Nat) (hp:pos<s.size) (hr:pos<=run q (str s)) (hd:p ((Utf8.decode s pos).1:Int)=false) :
  run q (str s)=pos:=by
 have hg:=get_str s pos hp
 refine run_stop q _ pos hr (by rw [Cod.str_len];exact hp) ?_
 rcases Nat.lt_or_ge ((str s).getD pos 0) 128 with ha | ha
 ·have e:=decode_ascii s pos hp (by omega)
  rw [e] at hd
  simp only at hd
  rw [<-hg,h.low _ ha] at hd
  exact hd
 ·have e:=decode_high s pos hp (by omega)
  rw [h.high _ e.1] at hd
  rw [h.byte _ ha];exact hd
end Go.Proofs.YtohnmnfhmbmoaaaDoor.Lx
namespace Go.Proofs.YtohnmnfhmbmoaaaDoor
open Go.RowKit
set_option linter.unusedVariables false
set_option linter.unusedSimpArgs false
set_option maxRecDepth 100000
def smallI (c:Int):Bool:=decide (97<=c) && decide (c<=122)
def capitalI (c:Int):Bool:=decide (65<=c) && decide (c<=90)
def digitI (c:Int):Bool:=decide (48<=c) && decide (c<=57)
def restI (c:Int):Bool:=smallI c || (capitalI c || (digitI c || decide (c=95)))
theorem ret_bool {a b:Bool} (h:a=b):Ending.returned (.bool a)=.returned (.bool b):=by rw [h]
theorem alike_rest:Lx.Alike restI Lx.goes false:=by
 refine ⟨fun c hc=>?_,fun c hc=>?_,fun c hc=>?_⟩
 ·rw [Bool.eq_iff_iff];simp [restI,smallI,capitalI,digitI,Lx.goes,Lx.small,Lx.capital,Lx.digit];omega
 ·rw [<-Bool.not_eq_true,];simp [restI,smallI,capitalI,digitI];omega
 ·rw [<-Bool.not_eq_true];simp [Lx.goes,Lx.small,Lx.capital,Lx.digit];omega
theorem mod_iter (w:World) (s:ByteArray) (pos:Nat):Mod [] w (w.iter s pos):=(Mod.refl [] w).alloc _
theorem enter_of {f : FuncId} {fn : Func} {c : Code} (hf : Tryd.prog.funcs[f]? = some fn) (h1 : (fn.name == "runtime.NumGoroutine") = false) (hb : fn.body = some c) (args : Array Value) (w : World) :
  (callFunc f args).run Tryd.prog w=.ok (.enter f args) w:=by
 have h2 : fn.name ≠ "runtime.NumGoroutine" := by simpa using h1
 simp [callFunc,hf,h2,hb]
theorem take_snoc {α:Type} (l:List α) (d:α) (k:Nat) (h:k<l.length):l.take (k+1)=l.take k++[l.getD k d]:=by
 rw [List.take_succ_eq_append_getElem h,List.getD_eq_getElem?_getD,List.getElem?_eq_getElem h];rfl
theorem setCell_at {w:World} {b:Nat} {cs:Array Value} {T:TypeId} {fr:Nat × Nat} (h:w.heap[b]?=some (.cells cs T fr)) (i:Nat) (v:Value) :
  (w.setCell ⟨b,i,none⟩ v).heap[b]?=some (.cells (cs.setIfInBounds i v) T fr):=by
 simp [World.setCell,Array.getElem?_modify,h]
def St.at (x:Lx.St) (m:Nat):Lx.St:={ x with s:=x.s.drop m,pos:=Lx.adv x.pos (x.s.take m) }
theorem toList_isEmpty (s:ByteArray):s.toList.isEmpty=decide (s.size=0):=by
 rw [ByteArray.toList_eq]
 obtain ⟨⟨l⟩⟩:=s
 cases l <;> simp [ByteArray.size]
end Go.Proofs.YtohnmnfhmbmoaaaDoor
namespace Go.Proofs
open Go.Shelf
def Tryd.laysM171_ren:Go.Shelf.Ren:=⟨fun | 171=>76 | 243=>81 | 246=>84 | 283=>85 | 284=>86 | 285=>87 | 286=>88 | 129=>90 | 317=>89 | 318=>91 | 319=>92 | 320=>93 | 337=>94 | 338=>95 | n=>n,fun | 3=>3 | 9=>9 | 2=>2 | 4=>4 | 171=>127 | 0=>0 | 53=>128 | 37=>65 | 5=>5 | 173=>131 | 212=>134 | 51=>135 | 20=>20 | 213=>136 | 46=>124 | 232=>140 | 233=>141 | n=>n,fun | 17=>0 | 18=>1 | 19=>2 | n=>n⟩
theorem Tryd.laysM171:Go.Proofs.LaysM.n171 Tryd.prog Tryd.laysM171_ren:={
 mixed:=by kernel_rfl
 f129:=Tryd.func90.trans (congrArg some (by kernel_rfl))
 f171:=Tryd.func76.trans (congrArg some (by kernel_rfl))
 f243:=Tryd.func81.trans (congrArg some (by kernel_rfl))
 f246:=Tryd.func84.trans (congrArg some (by kernel_rfl))
 f283:=Tryd.func85.trans (congrArg some (by kernel_rfl))
 f284:=Tryd.func86.trans (congrArg some (by kernel_rfl))
 f285:=Tryd.func87.trans (congrArg some (by kernel_rfl))
 f286:=Tryd.func88.trans (congrArg some (by kernel_rfl))
 f317:=Tryd.func89.trans (congrArg some (by kernel_rfl))
 f318:=Tryd.func91.trans (congrArg some (by kernel_rfl))
 f319:=Tryd.func92.trans (congrArg some (by kernel_rfl))
 f320:=Tryd.func93.trans (congrArg some (by kernel_rfl))
 f337:=Tryd.func94.trans (congrArg some (by kernel_rfl))
 f338:=Tryd.func95.trans (congrArg some (by kernel_rfl))
 t0:=Tryd.underlying0
 a0:=Tryd.isAgg0
 z0:=Tryd.sizeOf0
 v0:=Tryd.zeroValue0
 t2:=Tryd.underlying2
 a2:=Tryd.isAgg2
 z2:=Tryd.sizeOf2
 v2:=Tryd.zeroValue2
 t3:=Tryd.underlying3
 a3:=Tryd.isAgg3
 z3:=Tryd.sizeOf3
 v3:=Tryd.zeroValue3
 t4:=Tryd.underlying4
 a4:=Tryd.isAgg4
 z4:=Tryd.sizeOf4
 v4:=Tryd.zeroValue4
 t5:=Tryd.underlying5
 a5:=Tryd.isAgg5
 z5:=Tryd.sizeOf5
 v5:=Tryd.zeroValue5
 t9:=Tryd.underlying9
 a9:=Tryd.isAgg9
 z9:=Tryd.sizeOf9
 v9:=Tryd.zeroValue9
 t20:=Tryd.underlying20
 a20:=Tryd.isAgg20
 z20:=Tryd.sizeOf20
 v20:=Tryd.zeroValue20
 t37:=Tryd.underlying65
 a37:=Tryd.isAgg65
 z37:=Tryd.sizeOf65
 v37:=Tryd.zeroValue65
 t46:=Tryd.underlying124
 a46:=Tryd.isAgg124
 z46:=Tryd.sizeOf124
 v46:=Tryd.zeroValue124
 t51:=Tryd.underlying135
 a51:=Tryd.isAgg135
 z51:=Tryd.sizeOf135
 v51:=Tryd.zeroValue135
 t53:=Tryd.underlying128
 a53:=Tryd.isAgg128
 z53:=Tryd.sizeOf128
 v53:=Tryd.zeroValue128
 t171:=Tryd.underlying127
 a171:=Tryd.isAgg127
 z171:=Tryd.sizeOf127
 v171:=Tryd.zeroValue127
 t173:=Tryd.underlying131
 a173:=Tryd.isAgg131
 z173:=Tryd.sizeOf131
 v173:=Tryd.zeroValue131
 t212:=Tryd.underlying134
 a212:=Tryd.isAgg134
 z212:=Tryd.sizeOf134
 v212:=Tryd.zeroValue134
 t213:=Tryd.underlying136
 a213:=Tryd.isAgg136
 z213:=Tryd.sizeOf136
 t232:=Tryd.underlying140
 a232:=Tryd.isAgg140
 z232:=Tryd.sizeOf140
 v232:=Tryd.zeroValue140
 t233:=Tryd.underlying141
 a233:=Tryd.isAgg141
 z233:=Tryd.sizeOf141
 v233:=Tryd.zeroValue141
 g17:=by kernel_rfl
 g18:=by kernel_rfl
 g19:=by kernel_rfl
 i0:=by kernel_rfl
 i2:=by kernel_rfl
 i3:=by kernel_rfl
 i4:=by kernel_rfl
 i5:=by kernel_rfl
 i9:=by kernel_rfl
 i20:=by kernel_rfl
 i37:=by kernel_rfl
 i46:=by kernel_rfl
 i51:=by kernel_rfl
 i53:=by kernel_rfl
 i171:=by kernel_rfl
 i173:=by kernel_rfl
 i212:=by kernel_rfl
 i232:=by kernel_rfl
 i233:=by kernel_rfl
 m17:=by kernel_rfl
 m18:=by kernel_rfl
 m19:=by kernel_rfl }
open Go.RowKit Go.Sort Go.Lib in
/-- strconv.Itoa: "Itoa is equivalent to FormatInt(int64(i), 10).": i's DECIMAL NUMERAL ('Lib.itoa': a '-' where i is negative, then the digits), FOR EVERY int. The world behind the call: the world before it, new blocks behind the heap (the library's 'var a [24]byte'), draws. (LAID: no walk: one application.) -/
theorem Tryd.strconv_Itoa (n : Int) (h0 : -9223372036854775808 ≤ n) (h1 : n ≤ 9223372036854775807) (w : World) (htab : Lib.TabIs Tryd.prog w "internal/strconv.uint64pow10" .u64 Lib.pow10Tab) :
  Calls Tryd.prog 76 #[.int .i64 n] w fun e w'=>e=.returned (.string ⟨(Lib.itoa n).toArray⟩)/\∃ k os,w'=grow (w.drewN k) os:=Any.strconv_Itoa Tryd.laysM171 n h0 h1 w htab
end Go.Proofs
namespace Go.Proofs.YtohnmnfhmbmoaaaDoor
open Go.RowKit
set_option linter.unusedVariables false
set_option linter.unusedSimpArgs false
set_option maxRecDepth 100000
theorem getD_lt' {l:List Nat} (h:∀ c∈l,c<256) (i:Nat):l.getD i 0<256:=by
 rcases Nat.lt_or_ge i l.length with hi | hi
 ·rw [List.getD_eq_getElem?_getD,List.getElem?_eq_getElem hi]
  exact h _ (List.getElem_mem hi)
 ·rw [List.getD_eq_getElem?_getD,List.getElem?_eq_none hi]
  decide
theorem bytes_read (w:World) (s:ByteArray) (cap:Nat) (fr:Nat × Nat) (k:Nat) (hk:k<s.size) :
  ((w.alloc (.cells (bytesRow s cap) 5 fr)).drew).cell? ⟨w.heap.size,k,none⟩=some (.int .u8 ((Cod.str s).getD k 0:Nat)):=by
 show (w.alloc (Obj.cells _ _ _)).cell? _=_
 rw [World.cell?_alloc_mark,bytesRow_at _ _ k hk,Lx.get_str _ _ hk]
 rfl
/-- the slice v reads as the bytes l -/
def Reads (w:World) (v:Value) (l:List Nat):Prop :=
  (∀ c∈l,c<256)/\l.length<=140737488355328 /\
  ((∃ x c,v=.slice x 0 c/\l=[]) \/
   ∃ b off cap,v=.slice (some ⟨b,off,none⟩) l.length cap/\∀ i,i<l.length->w.cell? ⟨b,off+i,none⟩=some (.int .u8 (l.getD i 0:Nat)))
def toCells (l:List Nat):List Value:=l.map fun (c:Nat)=>Value.int .u8 (c:Int)
theorem toCells_len (l:List Nat):(toCells l).length=l.length:=by simp [toCells]
theorem toCells_append (l k:List Nat):toCells (l++k)=toCells l++toCells k:=by simp [toCells]
theorem toCells_one (l:List Nat):∀ u∈toCells l,u.oneCell'=true:=by
  intro u hu
  obtain ⟨_,_,rfl⟩:=List.mem_map.1 hu
  rfl
theorem toCells_get (l:List Nat) (i:Nat) (h:i<l.length):(toCells l)[i]?=some (.int .u8 (l.getD i 0:Nat)):=by
  simp [toCells,List.getD_eq_getElem?_getD,List.getElem?_eq_getElem h]
theorem Tryd.infoU8:(Tryd.prog.info? 5).map (fun i=>(i.zero,i.size,i.bytes))=some (some (.int .u8 0),1,1):=by kernel_rfl
theorem addr_add (b o j:Nat):(⟨b,o,none⟩:Addr).add j=⟨b,o+j,none⟩:=by
  unfold Addr.add;split <;> simp_all
theorem reads_own {w:World} {v:Value} {l:List Nat} (h:w.ownsRow 0 5 1 v l.length (toCells l)) (hb:∀ c∈l,c<256) (hl:l.length<=140737488355328):Reads w v l:=by
  refine ⟨hb,hl,?_⟩
  rcases h.2 with ⟨rfl,hn⟩ | ⟨g,cap,cur,rfl,h1,h2,h3,h4,h5,h6⟩
  · exact .inl ⟨_,_,rfl,List.eq_nil_of_length_eq_zero hn⟩
  · refine .inr ⟨g,0,cap,rfl,fun i hi=>?_⟩
    have:=h.cells (g:=g) rfl i _ (toCells_get l i hi)
    rwa [addr_add] at this
theorem conv_reads {w:World} {v:Value} {l:List Nat} (h:Reads w v l):(convert 65 9 v).run Tryd.prog w=.ok (.string (Lx.ofS l)) w:=by
  obtain ⟨hb,hl,⟨x,c,rfl,rfl⟩ | ⟨b,off,cap,rfl,hc⟩⟩:=h
  · cases x with
    | none=>exact run_convert_bytes_nil w _ _ Tryd.underlying65 Tryd.underlying5 0 c _ Tryd.underlying9
    | some a =>
      rw [run_convert_bytes_string w _ _ _ _ _ _ Tryd.underlying65 Tryd.underlying5 Tryd.underlying9,run_bytesToString w a 0 c [] (run_loadCells_list w a [] (by simp))]
      rfl
  · have:=run_convert_bytes_arg (P:=Tryd.prog) w _ _ Tryd.underlying65 Tryd.underlying5 b off l.length cap (l.map fun (n:Nat)=>(n:Int)) (by simp) (fun i hi=>by
      rw [hc i hi]
      congr 2
      simp [List.getD_eq_getElem?_getD,List.getElem?_eq_getElem hi]) _ Tryd.underlying9
    rw [this]
    congr 2
    simp [strOfNums,Lx.ofS,List.map_map,Function.comp_def]
theorem fp_lt {w:World} {base:Nat} {e:TypeId} {size:Nat} {v:Value} {n:Nat} {xs:List Value} (h:w.ownsRow base e size v n xs):∀ k∈fp v,k<w.heap.size:=by
  intro k hk
  rcases h.2 with ⟨rfl,_⟩ | ⟨g,cap,cur,rfl,hb,hg,_⟩
  · simp [fp] at hk
  · simp [fp] at hk
    subst hk
    exact lt_of_block hg
theorem Reads.past {S:List Nat} {w w':World} {v:Value} {l:List Nat} (h:Reads w v l) (hm:Mod S w w') (hS:∀ t∈S,w.heap.size<=t):Reads w' v l:=by
  obtain ⟨h1,h2,h3 | ⟨b,off,cap,rfl,hc⟩⟩:=h
  · exact ⟨h1,h2,.inl h3⟩
  · refine ⟨h1,h2,.inr ⟨b,off,cap,rfl,fun i hi=>hm.cell (hc i hi) (fun hb=>?_)⟩⟩
    have:=hS _ hb
    have:=World.block_lt_of_cell? w _ (hc i hi)
    simp at *
    omega
theorem drew_at {X:World} {b:Nat} {o:Option Obj} (h:X.heap[b]?=o):X.drew.heap[b]?=o:=h
theorem ofS_size (l:List Nat):(Lx.ofS l).size=l.length:=by simp [Lx.ofS,ByteArray.size]
def St.len (x:Lx.St):Nat:=x.s.length
/-- what is still to come, one call of Next done -/
def rest (k:Nat) (r:Lx.St × Option Lx.Tok):List Lx.Tok × Lx.St :=
 match r with
 | (y,none)=>([],y)
 | (y,some t)=>(t :: (Lx.allF k y).1,(Lx.allF k y).2)
end Go.Proofs.YtohnmnfhmbmoaaaDoor
namespace Go.Proofs.YtohnmnfhmbmoaaaDoor.Sy
open Lx (Tok)
open Va (Val)
open Pr (Term Atom Ex Li Rul Rel Prog)
set_option linter.unusedVariables false
abbrev Flt:=Nat × Nat × Nat
/-- a text's words; why no further one can be read -/
structure Env where
 ws:List Tok
 last:Flt
def zT:Tok:=⟨0,[],0,0,[],0,0⟩
def Env.tk (v:Env) (i:Nat):Tok:=v.ws.getD i zT
def Env.give (v:Env) (c i:Nat):Flt:=if i<v.ws.length then (c,(v.tk i).line,(v.tk i).col) else v.last
def sign (t:Tok) (s:List Nat):Bool:=decide (t.text=s) && (decide (t.kind=5) || decide (t.kind=1))
def resW:List (List Nat):=[[114,101,108,97,116,105,111,110],[110,111,116],[110,117,109],[115,121,109],[109,111,100],[99,111,117,110,116],[115,117,109],[109,105,110],[109,97,120]]
def plain (t:Tok):Bool:=decide (t.kind=1) && !(resW.contains t.text)
/-- what is read, and the place behind it; or the fault -/
inductive PR (α:Type) where
 | ok (a:α) (i:Nat)
 | err (f:Flt)
def PR.bind {α β:Type} (p:PR α) (f:α->Nat->PR β):PR β:=match p with | .ok a i=>f a i | .err e=>.err e
@[simp] theorem PR.bind_ok {α β:Type} (a:α) (i:Nat) (f:α->Nat->PR β):(PR.ok a i).bind f=f a i:=rfl
@[simp] theorem PR.bind_err {α β:Type} (e:Flt) (f:α->Nat->PR β):(PR.err e:PR α).bind f=.err e:=rfl
def must (v:Env) (s:List Nat) (i:Nat):PR Unit:=if sign (v.tk i) s=true then .ok () (i+1) else .err (v.give 40 i)
/-- what stands behind the first of a list -/
def listF {α:Type} (v:Env) (fin:List Nat) (one:Nat->PR α):Nat->List α->Nat->PR (List α)
 | 0,_,_=>.err v.last
 | k+1,acc,i=>if sign (v.tk i) [44]=true then (one (i+1)).bind fun a j=>listF v fin one k (acc++[a]) j else (must v fin i).bind fun _ j=>.ok acc j
def list {α:Type} (v:Env) (fin:List Nat) (one:Nat->PR α) (i:Nat):PR (List α) :=
 if sign (v.tk i) fin=true then .ok [] (i+1) else (one i).bind fun a j=>listF v fin one (v.ws.length+1) [a] j
def txt (l:List Nat):ByteArray:=Lx.ofS l
def name (v:Env) (i:Nat):PR Tok:=if plain (v.tk i)=true then .ok (v.tk i) (i+1) else .err (v.give 40 i)
/-- a constant, and how many words it has -/
def constant (v:Env) (i:Nat):Option (Val × Nat) :=
 if (v.tk i).kind=3\/(v.tk i).kind=4 then some (⟨(v.tk i).vk,(v.tk i).num,(v.tk i).sym⟩,1)
 else if plain (v.tk i)=true then some (⟨2,0,(v.tk i).text⟩,1)
 else if sign (v.tk i) [45]=true/\(v.tk (i+1)).kind=3 then some (⟨1,-((v.tk (i+1)).num:Int),[]⟩,2)
 else none
def value (v:Env) (i:Nat):PR Val :=
 match constant v i with
 | some (c,n)=>.ok c (i+n)
 | none=>.err (v.give 40 (if sign (v.tk i) [45]=true then i+1 else i))
def term (v:Env) (i:Nat):PR Term :=
 if (v.tk i).kind=2 then .ok ⟨1,txt (v.tk i).text,Va.zero⟩ (i+1)
 else if sign (v.tk i) [95]=true then .ok ⟨3,txt [],Va.zero⟩ (i+1)
 else (value v i).bind fun c j=>.ok ⟨2,txt [],c⟩ j
def atom (v:Env) (i:Nat):PR Atom :=
 (name v i).bind fun t j=>(must v [40] j).bind fun _ j=>(list v [41] (term v) j).bind fun l j=>.ok ⟨txt t.text,l⟩ j
/-- an operation's line of the grammar, and the operation -/
def level (t:Tok):Nat × Nat :=
 if sign t [43]=true then (1,1) else if sign t [45]=true then (1,2) else if sign t [42]=true then (2,3)
 else if sign t [47]=true then (2,4) else if sign t [109,111,100]=true then (2,5) else (0,0)
def operand (t:Tok):Bool :=
 decide (t.kind=2) || (decide (t.kind=3) || (decide (t.kind=4) || (plain t || (sign t [45] || sign t [40]))))
def chainF (v:Env) (line:Nat) (sub:Nat->Nat->PR (Ex × Nat)) (above:Nat):Nat->Ex->Nat->Nat->PR (Ex × Nat)
 | 0,_,_,_=>.err v.last
 | k+1,e,d,i =>
  if (level (v.tk i)).1≠line then .ok (e,d) i
  else if 16<above+d+1 then .err (v.give 41 i)
  else (sub (above+1) (i+1)).bind fun r j=>chainF v line sub above k (.mk 4 (txt []) Va.zero (level (v.tk i)).2 [e,r.1]) (1+max d r.2) j
def exprF (v:Env):Nat->Nat->Nat->Nat->PR (Ex × Nat)
 | 0,_,_,_=>.err v.last
 | k+1,line,above,i =>
  if line=3 then
   if (v.tk i).kind=2 then .ok (.mk 1 (txt (v.tk i).text) Va.zero 0 [],0) (i+1)
   else match constant v i with
    | some (c,n)=>.ok (.mk 2 (txt []) c 0 [],0) (i+n)
    | none =>
     if sign (v.tk i) [45]=true then
      if 16<=above/\operand (v.tk (i+1))=true then .err (v.give 41 (i+1))
      else (exprF v k 3 (above+1) (i+1)).bind fun r j=>.ok (.mk 4 (txt []) Va.zero 6 [r.1],r.2+1) j
     else if sign (v.tk i) [40]=true/\16<=above then .err (v.give 41 i)
     else (must v [40] i).bind fun _ j=>(exprF v k 1 (above+1) j).bind fun r j=>(must v [41] j).bind fun _ j=>.ok (r.1,r.2+1) j
  else
   (exprF v k (line+1) above i).bind fun r j=>chainF v line (exprF v k (line+1)) above (v.ws.length+1) r.1 r.2 j
def expr (v:Env) (i:Nat):PR Ex:=(exprF v 60 1 0 i).bind fun r j=>.ok r.1 j
def placeF (t:Tok):List (List Nat)->Nat->Nat
 | [],_=>0
 | s :: r,k=>if sign t s=true then k+1 else placeF t r (k+1)
def place (t:Tok) (l:List (List Nat)):Nat:=placeF t l 0
def fnOf (t:Tok):Nat:=place t [[99,111,117,110,116],[115,117,109],[109,105,110],[109,97,120]]
def cmpOf (t:Tok):Nat:=place t [[61],[33,61],[60],[60,61],[62],[62,61]]
def tyOf (t:Tok):Nat:=place t [[110,117,109],[115,121,109]]
def ex0:Ex:=.mk 0 (txt []) Va.zero 0 []
def at0:Atom:=⟨txt [],[]⟩
def bodyF (v:Env) (one:Nat->PR Li):Nat->List Li->Nat->PR (List Li)
 | 0,_,_=>.err v.last
 | k+1,acc,i=>if sign (v.tk i) [44]=true then (one (i+1)).bind fun a j=>bodyF v one k (acc++[a]) j else .ok acc i
def bodyOf (v:Env) (one:Nat->PR Li) (i:Nat):PR (List Li):=(one i).bind fun a j=>bodyF v one (v.ws.length+1) [a] j
/-- an aggregate: its function, its variable, what it is of, its body -/
structure Ag where
 fn:Int
 av:ByteArray
 of:Ex
 body:List Li
def aggOf (v:Env) (one:Nat->PR Li) (br i:Nat):PR Ag :=
 if sign (v.tk (i+3)) [123]=true/\16<=br then .err (v.give 41 (i+3))
 else (must v [123] (i+3)).bind fun _ j =>
  (if fnOf (v.tk (i+2))≠1 then (expr v j).bind fun e j=>(must v [58] j).bind fun _ j=>.ok e j else .ok ex0 j).bind fun o j =>
   (bodyOf v one j).bind fun b j=>(must v [125] j).bind fun _ j=>.ok ⟨(fnOf (v.tk (i+2)):Nat),txt (v.tk i).text,o,b⟩ j
def litF (v:Env):Nat->Nat->Nat->PR Li
 | 0,_,_=>.err v.last
 | k+1,br,i =>
  if sign (v.tk i) [110,111,116]=true then (atom v (i+1)).bind fun a j=>.ok (.mk 2 a 0 ex0 ex0 0 (txt []) ex0 [] (v.tk i).line (v.tk i).col) j
  else if plain (v.tk i)=true/\sign (v.tk (i+1)) [40]=true then (atom v i).bind fun a j=>.ok (.mk 1 a 0 ex0 ex0 0 (txt []) ex0 [] (v.tk i).line (v.tk i).col) j
  else if (v.tk i).kind=2/\sign (v.tk (i+1)) [61]=true/\0<fnOf (v.tk (i+2)) then
   (aggOf v (litF v k (br+1)) br i).bind fun g j=>.ok (.mk 4 at0 0 ex0 ex0 g.fn g.av g.of g.body (v.tk i).line (v.tk i).col) j
  else (expr v i).bind fun l j=>if cmpOf (v.tk j)=0 then .err (v.give 40 j)
   else (expr v (j+1)).bind fun r j2=>.ok (.mk 3 at0 (cmpOf (v.tk j):Nat) l r 0 (txt []) ex0 [] (v.tk i).line (v.tk i).col) j2
def lit (v:Env) (br i:Nat):PR Li:=litF v (18 - br) br i
def body (v:Env) (i:Nat):PR (List Li):=bodyOf v (lit v 0) i
def rule (v:Env) (i:Nat):PR Rul :=
 (atom v i).bind fun h j=>(if sign (v.tk j) [58,45]=true then body v (j+1) else .ok [] j).bind fun b j=>.ok ⟨h,b,(v.tk i).line,(v.tk i).col⟩ j
def ty (v:Env) (i:Nat):PR Int:=if tyOf (v.tk i)=0 then .err (v.give 40 i) else .ok (tyOf (v.tk i):Nat) (i+1)
def relation (v:Env) (i:Nat):PR Rel :=
 (name v i).bind fun t j=>(must v [40] j).bind fun _ j=>(list v [41] (ty v) j).bind fun l j=>.ok ⟨txt t.text,l,t.line,t.col⟩ j
def progF (v:Env):Nat->Prog->Nat->PR Prog
 | 0,_,_=>.err v.last
 | k+1,p,i =>
  if i<v.ws.length then
   if sign (v.tk i) [114,101,108,97,116,105,111,110]=true then (relation v (i+1)).bind fun x j=>(must v [46] j).bind fun _ j=>progF v k ⟨p.rels++[x],p.rules⟩ j
   else (rule v i).bind fun x j=>(must v [46] j).bind fun _ j=>progF v k ⟨p.rels,p.rules++[x]⟩ j
  else .ok p i
def prog (v:Env) (i:Nat):PR Prog:=progF v (v.ws.length+1) ⟨[],[]⟩ i
/-- a whole text's words -/
def whole {α:Type} (v:Env) (one:Nat->PR α):PR α :=
 (one 0).bind fun a i=>if i<v.ws.length\/v.last.1≠42 then .err (v.give 40 i) else .ok a i
end Go.Proofs.YtohnmnfhmbmoaaaDoor.Sy
namespace Go.Proofs.YtohnmnfhmbmoaaaDoor
open Go.RowKit
set_option linter.unusedVariables false
set_option linter.unusedSimpArgs false
set_option maxRecDepth 100000
theorem cell_at {w:World} {b:Nat} {cs:Array Value} {T:TypeId} {fr:Nat × Nat} (h:w.heap[b]?=some (.cells cs T fr)) (i:Nat):w.cell? ⟨b,i,none⟩=cs[i]?:=by simp [World.cell?,h]
theorem free_at {w:World} {b:Nat} {cs:Array Value} {T:TypeId} (h:w.heap[b]?=some (.cells cs T (0,0))) (i:Nat):w.frozen? ⟨b,i,none⟩=false:=by simp [World.frozen?,h]
/-- cells written one behind the other -/
def setCs (w:World) (b:Nat):Nat->List Value->World
 | _,[]=>w
 | o,v :: r=>setCs (w.setCell ⟨b,o,none⟩ v) b (o+1) r
theorem setCs_mod (b:Nat):∀ (vs:List Value) (o:Nat) (w:World),Mod [b] w (setCs w b o vs)
 | [],o,w=>Mod.refl _ _
 | v :: r,o,w=>((Mod.refl [b] w).setCell (p:=⟨b,o,none⟩) (.inl (by simp)) v).trans (setCs_mod b r (o+1) _) (by simp)
def putL (cs:List Value):Nat->List Value->List Value
 | _,[]=>cs
 | o,v :: r=>putL (cs.set o v) (o+1) r
theorem setCs_heap {b:Nat} {T:TypeId} {fr:Nat × Nat}:∀ (vs:List Value) (o:Nat) (cs:List Value) (w:World),w.heap[b]?=some (.cells cs.toArray T fr) ->
  (setCs w b o vs).heap[b]?=some (.cells (putL cs o vs).toArray T fr)
 | [],o,cs,w,h=>h
 | v :: r,o,cs,w,h=>by
  have:=setCell_at h o v
  rw [List.setIfInBounds_toArray] at this
  exact setCs_heap r (o+1) (cs.set o v) _ this
theorem putL_get:∀ (vs:List Value) (o:Nat) (cs:List Value) (j:Nat),o+vs.length<=cs.length->(putL cs o vs)[j]?=if j<o then cs[j]? else if j<o+vs.length then vs[j - o]? else cs[j]?
 | [],o,cs,j,_=>by
  by_cases h:j<o
  ·rw [if_pos h];rfl
  ·rw [if_neg h,if_neg (by simp;omega)];rfl
 | v :: r,o,cs,j,h=>by
  simp only [List.length_cons] at h ⊢
  rw [putL,putL_get r (o+1) (cs.set o v) j (by simp;omega)]
  by_cases h1:j<o
  ·rw [if_pos (by omega),if_pos h1,List.getElem?_set_ne (by omega)]
  ·rw [if_neg h1]
   by_cases h2:j=o
   ·subst h2
    rw [if_pos (by omega),if_pos (by omega),List.getElem?_set_self (by omega)];simp
   ·rw [if_neg (by omega)]
    by_cases h3:j<o+(r.length+1)
    ·rw [if_pos (by omega),if_pos h3,show j - o=(j - (o+1))+1 by omega,List.getElem?_cons_succ]
    ·rw [if_neg (by omega),if_neg h3,List.getElem?_set_ne (by omega)]
/-- a row written whole -/
theorem setCs_row {w:World} {b:Nat} {cs:Array Value} {T:TypeId} {fr:Nat × Nat} {vs:List Value} (h:w.heap[b]?=some (.cells cs T fr)) (hn:cs.size=vs.length):(setCs w b 0 vs).heap[b]?=some (.cells vs.toArray T fr):=by
 have h2:=setCs_heap vs 0 cs.toList w (by simpa using h)
 rw [h2]
 congr 2
 refine congrArg List.toArray ?_
 apply List.ext_getElem?
 intro j
 rw [putL_get _ _ _ _ (by simp [hn])]
 rw [if_neg (by omega)]
 by_cases hj:j<vs.length
 ·rw [if_pos (by omega)];simp
 ·rw [if_neg (by omega),List.getElem?_eq_none (by simp;omega),List.getElem?_eq_none (by omega)]
end Go.Proofs.YtohnmnfhmbmoaaaDoor
