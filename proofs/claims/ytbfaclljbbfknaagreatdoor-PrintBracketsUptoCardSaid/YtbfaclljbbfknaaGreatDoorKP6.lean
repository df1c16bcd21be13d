/- THE TEXTS MERGED: SyPlain SyBase SyFn SyTok. -/
import Derived.Test.YtbfaclljbbfknaaGreatDoorKP5
import Derived.Laws.StructEq
import Derived.Deep.DeepCutAuto
import Derived.Deep.RegionHeld3
namespace Go.Proofs.YtbfaclljbbfknaaGreatDoor.Sy
open Lx (Tok)
open Va (Val)
open Pr (Term Atom Ex Li Rul Rel Prog)
set_option linter.unusedVariables false
abbrev Flt:=Nat × Nat × Nat
/-- a text's words; why no further one can be read -/
structure Env where
 ws:List Tok
 last:Flt
def zT:Tok:=⟨0,[],0,0,[],0,0⟩
def Env.tk (v:Env) (i:Nat):Tok:=v.ws.getD i zT
def Env.give (v:Env) (c i:Nat):Flt:=if i<v.ws.length then (c,(v.tk i).line,(v.tk i).col) else v.last
def sign (t:Tok) (s:List Nat):Bool:=decide (t.text=s) && (decide (t.kind=5) || decide (t.kind=1))
def resW:List (List Nat):=[[114,101,108,97,116,105,111,110],[110,111,116],[110,117,109],[115,121,109],[109,111,100],[99,111,117,110,116],[115,117,109],[109,105,110],[109,97,120]]
def plain (t:Tok):Bool:=decide (t.kind=1) && !(resW.contains t.text)
/-- what is read, and the place behind it; or the fault -/
inductive PR (α:Type) where
 | ok (a:α) (i:Nat)
 | err (f:Flt)
def PR.bind {α β:Type} (p:PR α) (f:α->Nat->PR β):PR β:=match p with | .ok a i=>f a i | .err e=>.err e
@[simp] theorem PR.bind_ok {α β:Type} (a:α) (i:Nat) (f:α->Nat->PR β):(PR.ok a i).bind f=f a i:=rfl
@[simp] theorem PR.bind_err {α β:Type} (e:Flt) (f:α->Nat->PR β):(PR.err e:PR α).bind f=.err e:=rfl
def must (v:Env) (s:List Nat) (i:Nat):PR Unit:=if sign (v.tk i) s=true then .ok () (i+1) else .err (v.give 40 i)
/-- what stands behind the first of a list -/
def listF {α:Type} (v:Env) (fin:List Nat) (one:Nat->PR α):Nat->List α->Nat->PR (List α)
 | 0,_,_=>.err v.last
 | k+1,acc,i=>if sign (v.tk i) [44]=true then (one (i+1)).bind fun a j=>listF v fin one k (acc++[a]) j else (must v fin i).bind fun _ j=>.ok acc j
def list {α:Type} (v:Env) (fin:List Nat) (one:Nat->PR α) (i:Nat):PR (List α) :=
 if sign (v.tk i) fin=true then .ok [] (i+1) else (one i).bind fun a j=>listF v fin one (v.ws.length+1) [a] j
def txt (l:List Nat):ByteArray:=Lx.ofS l
def name (v:Env) (i:Nat):PR Tok:=if plain (v.tk i)=true then .ok (v.tk i) (i+1) else .err (v.give 40 i)
/-- a constant, and how many words it has -/
def constant (v:Env) (i:Nat):Option (Val × Nat) :=
 if (v.tk i).kind=3\/(v.tk i).kind=4 then some (⟨(v.tk i).vk,(v.tk i).num,(v.tk i).sym⟩,1)
 else if plain (v.tk i)=true then some (⟨2,0,(v.tk i).text⟩,1)
 else if sign (v.tk i) [45]=true/\(v.tk (i+1)).kind=3 then some (⟨1,-((v.tk (i+1)).num:Int),[]⟩,2)
 else none
def value (v:Env) (i:Nat):PR Val :=
 match constant v i with
 | some (c,n)=>.ok c (i+n)
 | none=>.err (v.give 40 (if sign (v.tk i) [45]=true then i+1 else i))
def term (v:Env) (i:Nat):PR Term :=
 if (v.tk i).kind=2 then .ok ⟨1,txt (v.tk i).text,Va.zero⟩ (i+1)
 else if sign (v.tk i) [95]=true then .ok ⟨3,txt [],Va.zero⟩ (i+1)
 else (value v i).bind fun c j=>.ok ⟨2,txt [],c⟩ j
def atom (v:Env) (i:Nat):PR Atom :=
 (name v i).bind fun t j=>(must v [40] j).bind fun _ j=>(list v [41] (term v) j).bind fun l j=>.ok ⟨txt t.text,l⟩ j
/-- an operation's line of the grammar, and the operation -/
def level (t:Tok):Nat × Nat :=
 if sign t [43]=true then (1,1) else if sign t [45]=true then (1,2) else if sign t [42]=true then (2,3)
 else if sign t [47]=true then (2,4) else if sign t [109,111,100]=true then (2,5) else (0,0)
def operand (t:Tok):Bool :=
 decide (t.kind=2) || (decide (t.kind=3) || (decide (t.kind=4) || (plain t || (sign t [45] || sign t [40]))))
def chainF (v:Env) (line:Nat) (sub:Nat->Nat->PR (Ex × Nat)) (above:Nat):Nat->Ex->Nat->Nat->PR (Ex × Nat)
 | 0,_,_,_=>.err v.last
 | k+1,e,d,i =>
  if (level (v.tk i)).1≠line then .ok (e,d) i
  else if 16<above+d+1 then .err (v.give 41 i)
  else (sub (above+1) (i+1)).bind fun r j=>chainF v line sub above k (.mk 4 (txt []) Va.zero (level (v.tk i)).2 [e,r.1]) (1+max d r.2) j
def exprF (v:Env):Nat->Nat->Nat->Nat->PR (Ex × Nat)
 | 0,_,_,_=>.err v.last
 | k+1,line,above,i =>
  if line=3 then
   if (v.tk i).kind=2 then .ok (.mk 1 (txt (v.tk i).text) Va.zero 0 [],0) (i+1)
   else match constant v i with
    | some (c,n)=>.ok (.mk 2 (txt []) c 0 [],0) (i+n)
    | none =>
     if sign (v.tk i) [45]=true then
      if 16<=above/\operand (v.tk (i+1))=true then .err (v.give 41 (i+1))
      else (exprF v k 3 (above+1) (i+1)).bind fun r j=>.ok (.mk 4 (txt []) Va.zero 6 [r.1],r.2+1) j
     else if sign (v.tk i) [40]=true/\16<=above then .err (v.give 41 i)
     else (must v [40] i).bind fun _ j=>(exprF v k 1 (above+1) j).bind fun r j=>(must v [41] j).bind fun _ j=>.ok (r.1,r.2+1) j
  else
   (exprF v k (line+1) above i).bind fun r j=>chainF v line (exprF v k (line+1)) above (v.ws.length+1) r.1 r.2 j
def expr (v:Env) (i:Nat):PR Ex:=(exprF v 60 1 0 i).bind fun r j=>.ok r.1 j
def placeF (t:Tok):List (List Nat)->Nat->Nat
 | [],_=>0
 | s :: r,k=>if sign t s=true then k+1 else placeF t r (k+1)
def place (t:Tok) (l:List (List Nat)):Nat:=placeF t l 0
def fnOf (t:Tok):Nat:=place t [[99,111,117,110,116],[115,117,109],[109,105,110],[109,97,120]]
def cmpOf (t:Tok):Nat:=place t [[61],[33,61],[60],[60,61],[62],[62,61]]
def tyOf (t:Tok):Nat:=place t [[110,117,109],[115,121,109]]
def ex0:Ex:=.mk 0 (txt []) Va.zero 0 []
def at0:Atom:=⟨txt [],[]⟩
def bodyF (v:Env) (one:Nat->PR Li):Nat->List Li->Nat->PR (List Li)
 | 0,_,_=>.err v.last
 | k+1,acc,i=>if sign (v.tk i) [44]=true then (one (i+1)).bind fun a j=>bodyF v one k (acc++[a]) j else .ok acc i
def bodyOf (v:Env) (one:Nat->PR Li) (i:Nat):PR (List Li):=(one i).bind fun a j=>bodyF v one (v.ws.length+1) [a] j
/-- an aggregate: its function, its variable, what it is of, its body -/
structure Ag where
 fn:Int
 av:ByteArray
 of:Ex
 body:List Li
def aggOf (v:Env) (one:Nat->PR Li) (br i:Nat):PR Ag :=
 if sign (v.tk (i+3)) [123]=true/\16<=br then .err (v.give 41 (i+3))
 else (must v [123] (i+3)).bind fun _ j =>
  (if fnOf (v.tk (i+2))≠1 then (expr v j).bind fun e j=>(must v [58] j).bind fun _ j=>.ok e j else .ok ex0 j).bind fun o j =>
   (bodyOf v one j).bind fun b j=>(must v [125] j).bind fun _ j=>.ok ⟨(fnOf (v.tk (i+2)):Nat),txt (v.tk i).text,o,b⟩ j
def litF (v:Env):Nat->Nat->Nat->PR Li
 | 0,_,_=>.err v.last
 | k+1,br,i =>
  if sign (v.tk i) [110,111,116]=true then (atom v (i+1)).bind fun a j=>.ok (.mk 2 a 0 ex0 ex0 0 (txt []) ex0 [] (v.tk i).line (v.tk i).col) j
  else if plain (v.tk i)=true/\sign (v.tk (i+1)) [40]=true then (atom v i).bind fun a j=>.ok (.mk 1 a 0 ex0 ex0 0 (txt []) ex0 [] (v.tk i).line (v.tk i).col) j
  else if (v.tk i).kind=2/\sign (v.tk (i+1)) [61]=true/\0<fnOf (v.tk (i+2)) then
   (aggOf v (litF v k (br+1)) br i).bind fun g j=>.ok (.mk 4 at0 0 ex0 ex0 g.fn g.av g.of g.body (v.tk i).line (v.tk i).col) j
  else (expr v i).bind fun l j=>if cmpOf (v.tk j)=0 then .err (v.give 40 j)
   else (expr v (j+1)).bind fun r j2=>.ok (.mk 3 at0 (cmpOf (v.tk j):Nat) l r 0 (txt []) ex0 [] (v.tk i).line (v.tk i).col) j2
def lit (v:Env) (br i:Nat):PR Li:=litF v (18 - br) br i
def body (v:Env) (i:Nat):PR (List Li):=bodyOf v (lit v 0) i
def rule (v:Env) (i:Nat):PR Rul :=
 (atom v i).bind fun h j=>(if sign (v.tk j) [58,45]=true then body v (j+1) else .ok [] j).bind fun b j=>.ok ⟨h,b,(v.tk i).line,(v.tk i).col⟩ j
def ty (v:Env) (i:Nat):PR Int:=if tyOf (v.tk i)=0 then .err (v.give 40 i) else .ok (tyOf (v.tk i):Nat) (i+1)
def relation (v:Env) (i:Nat):PR Rel :=
 (name v i).bind fun t j=>(must v [40] j).bind fun _ j=>(list v [41] (ty v) j).bind fun l j=>.ok ⟨txt t.text,l,t.line,t.col⟩ j
def progF (v:Env):Nat->Prog->Nat->PR Prog
 | 0,_,_=>.err v.last
 | k+1,p,i =>
  if i<v.ws.length then
   if sign (v.tk i) [114,101,108,97,116,105,111,110]=true then (relation v (i+1)).bind fun x j=>(must v [46] j).bind fun _ j=>progF v k ⟨p.rels++[x],p.rules⟩ j
   else (rule v i).bind fun x j=>(must v [46] j).bind fun _ j=>progF v k ⟨p.rels,p.rules++[x]⟩ j
  else .ok p i
def prog (v:Env) (i:Nat):PR Prog:=progF v (v.ws.length+1) ⟨[],[]⟩ i
/-- a whole text's words -/
def whole {α:Type} (v:Env) (one:Nat->PR α):PR α :=
 (one 0).bind fun a i=>if i<v.ws.length\/v.last.1≠42 then .err (v.give 40 i) else .ok a i
/-- the place behind a text -/
def eot (s:List Nat):Nat × Nat:=(1+s.count 10,1+(s.reverse.takeWhile (fun c=>!(c == 10))).length)
def envOf (s:List Nat):Env:=⟨(Lx.given s).1,if (Lx.given s).2.code=0 then (42,eot s) else ((Lx.given s).2.code,(Lx.given s).2.fp)⟩
end Go.Proofs.YtbfaclljbbfknaaGreatDoor.Sy
namespace Go.Proofs.YtbfaclljbbfknaaGreatDoor
open Go.RowKit
set_option linter.unusedVariables false
set_option linter.unusedSimpArgs false
set_option maxRecDepth 100000
/-- a text's words: not too many, their numbers small -/
structure EnvOk (v:Sy.Env):Prop where
 len:v.ws.length<=65536
 num:∀ t∈v.ws,t.num<=2147483647
 byte:∀ t∈v.ws,∀ c∈t.text,c<256
theorem cell_at {w:World} {b:Nat} {cs:Array Value} {T:TypeId} {fr:Nat × Nat} (h:w.heap[b]?=some (.cells cs T fr)) (i:Nat):w.cell? ⟨b,i,none⟩=cs[i]?:=by simp [World.cell?,h]
theorem free_at {w:World} {b:Nat} {cs:Array Value} {T:TypeId} (h:w.heap[b]?=some (.cells cs T (0,0))) (i:Nat):w.frozen? ⟨b,i,none⟩=false:=by simp [World.frozen?,h]
/-- block b holds a reader that stands at word i -/
structure RdP (w:World) (b:Nat) (ra:Option Addr) (rc:Nat) (f:Value) (v:Sy.Env) (i:Nat):Prop where
 at_:w.heap[b]?=some (.cells #[.slice ra v.ws.length rc,.int .i64 (i:Nat),.int .i64 (v.last.1:Nat),.int .i64 (v.last.2.1:Nat),.int .i64 (v.last.2.2:Nat),f] 90 (0,0))
 row:TokRow w 0 (.slice ra v.ws.length rc) v.ws
 out:b∉fp (.slice ra v.ws.length rc)
theorem RdP.lt {w:World} {b:Nat} {ra:Option Addr} {rc:Nat} {f:Value} {v:Sy.Env} {i:Nat} (h:RdP w b ra rc f v i):b<w.heap.size:=lt_of_block h.at_
theorem RdP.keep {S:List Nat} {w w':World} {b:Nat} {ra:Option Addr} {rc:Nat} {f:Value} {v:Sy.Env} {i:Nat} (h:RdP w b ra rc f v i) (hm:Mod S w w') (hb:b∉S) (hS:∀ k∈fp (.slice ra v.ws.length rc),k∉S):RdP w' b ra rc f v i :=
 ⟨hm.at h.at_ hb,h.row.keep hm hS,h.out⟩
theorem RdP.past {S:List Nat} {w w':World} {b:Nat} {ra:Option Addr} {rc:Nat} {f:Value} {v:Sy.Env} {i:Nat} (h:RdP w b ra rc f v i) (hm:Mod S w w') (hS:∀ t∈S,w.heap.size<=t):RdP w' b ra rc f v i :=
 h.keep hm (fun hb=>by have:=hS b hb;have:=h.lt;omega) (fun k hk hs=>by have:=hS k hs;have:=fp_lt h.row.row k hk;omega)
theorem RdP.cells {w:World} {b:Nat} {ra:Option Addr} {rc:Nat} {f:Value} {v:Sy.Env} {i:Nat} (h:RdP w b ra rc f v i) :
  w.cell? ⟨b,0,none⟩=some (.slice ra v.ws.length rc)/\w.cell? ⟨b,1,none⟩=some (.int .i64 (i:Nat))/\w.cell? ⟨b,2,none⟩=some (.int .i64 (v.last.1:Nat))/\w.cell? ⟨b,3,none⟩=some (.int .i64 (v.last.2.1:Nat)) /\
   w.cell? ⟨b,4,none⟩=some (.int .i64 (v.last.2.2:Nat))/\w.cell? ⟨b,5,none⟩=some f/\w.frozen? ⟨b,1,none⟩=false :=
 ⟨cell_at h.at_ 0,cell_at h.at_ 1,cell_at h.at_ 2,cell_at h.at_ 3,cell_at h.at_ 4,cell_at h.at_ 5,free_at h.at_ 1⟩
/-- the place turned -/
theorem RdP.to {w:World} {b:Nat} {ra:Option Addr} {rc:Nat} {f:Value} {v:Sy.Env} {i:Nat} (h:RdP w b ra rc f v i) (j:Nat) :
  RdP (w.setCell ⟨b,1,none⟩ (.int .i64 (j:Nat))) b ra rc f v j/\Mod [b] w (w.setCell ⟨b,1,none⟩ (.int .i64 (j:Nat))):=by
 have hm:Mod [b] w (w.setCell ⟨b,1,none⟩ (.int .i64 (j:Nat))):=(Mod.refl [b] w).setCell (p:=⟨b,1,none⟩) (.inl (by simp)) _
 refine ⟨⟨?_,h.row.keep hm (fun k hk hs=>h.out (by simp at hs;exact hs ▸ hk)),h.out⟩,hm⟩
 have:=setCell_at h.at_ 1 (.int .i64 (j:Nat))
 simpa using this
/-- a word's cells, where there is one -/
theorem RdP.word {w:World} {b:Nat} {ra:Option Addr} {rc:Nat} {f:Value} {v:Sy.Env} {i:Nat} (h:RdP w b ra rc f v i) (k:Nat) (hk:k<v.ws.length) :
  ∃ g,ra=some ⟨g,0,none⟩/\w.cell? ⟨g,k * 7,none⟩=some (.int .i64 ((v.tk k).kind:Nat))/\w.cell? ⟨g,k * 7+1,none⟩=some (.string (Lx.ofS (v.tk k).text))/\w.cell? ⟨g,k * 7+2,none⟩=some (.int .i64 ((v.tk k).vk:Nat)) /\
   w.cell? ⟨g,k * 7+3,none⟩=some (.int .i64 ((v.tk k).num:Nat))/\w.cell? ⟨g,k * 7+4,none⟩=some (.string (Lx.ofS (v.tk k).sym))/\w.cell? ⟨g,k * 7+5,none⟩=some (.int .i64 ((v.tk k).line:Nat))/\w.cell? ⟨g,k * 7+6,none⟩=some (.int .i64 ((v.tk k).col:Nat)):=by
 have he:v.ws[k]?=some (v.tk k):=by unfold Sy.Env.tk;rw [List.getD_eq_getElem?_getD,List.getElem?_eq_getElem hk];rfl
 obtain ⟨g,c,e,hc⟩:=h.row.at k _ he
 simp only [Value.slice.injEq] at e
 exact ⟨g,e.1,hc⟩
theorem tk_none {v:Sy.Env} {k:Nat} (hk:¬ k<v.ws.length):v.tk k=Sy.zT:=by
 unfold Sy.Env.tk
 rw [List.getD_eq_getElem?_getD,List.getElem?_eq_none (by omega)];rfl
theorem tk_mem {v:Sy.Env} (k:Nat):v.tk k∈v.ws\/v.tk k=Sy.zT:=by
 by_cases hk:k<v.ws.length
 ·left
  unfold Sy.Env.tk
  rw [List.getD_eq_getElem?_getD,List.getElem?_eq_getElem hk]
  exact List.getElem_mem hk
 ·exact .inr (tk_none hk)
theorem EnvOk.tbyte {v:Sy.Env} (h:EnvOk v) (k:Nat):∀ c∈(v.tk k).text,c<256:=by
 rcases tk_mem (v:=v) k with hm | hm
 ·exact h.byte _ hm
 ·rw [hm];simp [Sy.zT]
theorem EnvOk.tnum {v:Sy.Env} (h:EnvOk v) (k:Nat):(v.tk k).num<=2147483647:=by
 rcases tk_mem (v:=v) k with hm | hm
 ·exact h.num _ hm
 ·rw [hm];simp [Sy.zT]
/-- how a panic of the reader's ends -/
def stopE (g:Sy.Flt):Ending:=.panicked [{ v:=.iface 125 (.agg #[.int .i64 (g.1:Nat),.int .i64 (g.2.1:Nat),.int .i64 (g.2.2:Nat)]),recovered:=false }]
set_option maxHeartbeats 1000000 in
theorem give_any (b:Nat) (ra:Option Addr) (rc:Nat) (f:Value) (v:Sy.Env) (i c:Nat) (w:World) (h:RdP w b ra rc f v i) (hv:EnvOk v) (hi:i<=70000) :
  Calls Tryz.prog 41 #[.pointer (some ⟨b,0,none⟩),.int .i64 (c:Nat)] w fun e w'=>e=stopE (v.give c i)/\Mod [] w w':=by
 obtain ⟨c0,c1,c2,c3,c4,c5,fz⟩:=h.cells
 have hl:=hv.len
 by_cases hlt:i<v.ws.length
 ·obtain ⟨g,rfl,t0,t1,t2,t3,t4,t5,t6⟩:=h.word i hlt
  have hiI:(i:Int)<(v.ws.length:Int):=by omega
  have hi0:(0:Int)<=(i:Int):=by omega
  have HG:Hid (v.give c i=(c,(v.tk i).line,(v.tk i).col)):=Hxq (by unfold Sy.Env.give;rw [if_pos hlt])
  clear h
  go_enter Tryz.func41,Tryz.ntmps41
  go_wp2_with fail
  go_quiet (fail)
  go_wp2_with fail
  refine wp_region_still_tail 15 (by kernel_rfl) (by kernel_rfl) ?_
  simp only [List.take_succ_cons,List.take_zero,List.drop_succ_cons,List.drop_zero]
  show wpStill Tryz.prog _ (World.drew (w.drewN nq)) (fun a'=>wpList Tryz.prog _ _ _ a' (World.drew (w.drewN nq))) _ _
  repeat still_step
  try refine wpStill_nil ?_
  go_wp2_with fail
  exact ⟨rfl,by rw [HG.out];rfl,((Mod.refl [] w).drewN nq).drew⟩
 ·have hiI:¬ (i:Int)<(v.ws.length:Int):=by omega
  have HG:Hid (v.give c i=v.last):=Hxq (by unfold Sy.Env.give;rw [if_neg hlt])
  clear h
  go_enter Tryz.func41,Tryz.ntmps41
  go_wp2_with fail
  go_quiet (fail)
  go_wp2_with fail
  exact ⟨rfl,by rw [HG.out];rfl,(Mod.refl [] w).drewN nq⟩
theorem drew_cells {w:World} {b:Nat} {cs:Array Value} {T:TypeId} {fr:Nat × Nat} (h:w.heap[b]?=some (.cells cs T fr)):w.drew.heap[b]?=some (.cells cs T fr):=h
set_option maxHeartbeats 1000000 in
theorem peek_any (b:Nat) (ra:Option Addr) (rc:Nat) (f:Value) (v:Sy.Env) (i k:Nat) (w:World) (h:RdP w b ra rc f v i) (hv:EnvOk v) (hi:i<=70000) (hk:k<=10) :
  Calls Tryz.prog 32 #[.pointer (some ⟨b,0,none⟩),.int .i64 (k:Nat)] w fun e w'=>e=.returned (.agg (tokC (v.tk (i+k))))/\Mod [] w w':=by
 have hl:=hv.len
 have hbl:=h.lt
 have mA:=(Mod.refl [] w).alloc (Obj.cells #[Value.int IntKind.i64 0,Value.string ⟨#[]⟩,Value.int IntKind.i64 0,Value.int IntKind.i64 0,Value.string ⟨#[]⟩,Value.int IntKind.i64 0,Value.int IntKind.i64 0] 93)
 have hA:=h.past mA (by simp)
 have eA:=heap_alloc_new w (Obj.cells #[Value.int IntKind.i64 0,Value.string ⟨#[]⟩,Value.int IntKind.i64 0,Value.int IntKind.i64 0,Value.string ⟨#[]⟩,Value.int IntKind.i64 0,Value.int IntKind.i64 0] 93)
 obtain ⟨c0,c1,c2,c3,c4,c5,fz⟩:=hA.cells
 have fA:∀ j,(w.alloc (Obj.cells #[Value.int IntKind.i64 0,Value.string ⟨#[]⟩,Value.int IntKind.i64 0,Value.int IntKind.i64 0,Value.string ⟨#[]⟩,Value.int IntKind.i64 0,Value.int IntKind.i64 0] 93)).frozen? ⟨w.heap.size,j,none⟩=false:=fun j=>free_at eA j
 have x0:=cell_at eA 0
 have x1:=cell_at eA 1
 have x2:=cell_at eA 2
 have x3:=cell_at eA 3
 have x4:=cell_at eA 4
 have x5:=cell_at eA 5
 have x6:=cell_at eA 6
 simp only [List.getElem?_toArray,List.getElem?_cons_zero,List.getElem?_cons_succ] at x0 x1 x2 x3 x4 x5 x6
 have HA:=Lib.hid hA;have EA:=Lib.hid eA;have MA:=Lib.hid mA
 clear h hA eA mA
 by_cases hlt:i+k<v.ws.length
 ·obtain ⟨g,rfl,t0,t1,t2,t3,t4,t5,t6⟩:=HA.out.word (i+k) hlt
  have hiI:(i:Int)+(k:Int)<(v.ws.length:Int):=by omega
  have hi0:(0:Int)<=(i:Int)+(k:Int):=by omega
  have hN:((i:Int)+(k:Int)).toNat=i+k:=by omega
  have hW:IntKind.i64.wrap ((i:Int)+(k:Int))=(i:Int)+(k:Int):=IntWalk.i64_in _ (by omega)
  go_enter Tryz.func32,Tryz.ntmps32
  go_upto_region 1 with fail
  generalize w.alloc (Obj.cells #[Value.int IntKind.i64 0,Value.string ⟨#[]⟩,Value.int IntKind.i64 0,Value.int IntKind.i64 0,Value.string ⟨#[]⟩,Value.int IntKind.i64 0,Value.int IntKind.i64 0] 93)=wA at *
  go_quiet (fail)
  go_wp2_with fail
  refine wp_region_still_tail 12 (by kernel_rfl) (by kernel_rfl) ?_
  simp only [List.take_succ_cons,List.take_zero,List.drop_succ_cons,List.drop_zero]
  show wpStill Tryz.prog _ (World.drew (wA.drewN nq)) (fun a'=>wpList Tryz.prog _ _ _ a' (World.drew (wA.drewN nq))) _ _
  repeat still_step
  try refine wpStill_nil ?_
  clear hW
  go_wp2_with fail
  refine bodyPost_ret (results_cell_row rfl _ _ _ _ _ _ _ rfl (store_tok (drew_cells EA.out) _ _ _ _ _ _ _) Tryz.underlying93 rfl (by kernel_rfl)) rfl ⟨rfl,?_⟩
  exact mod_tok (MA.out.drewN nq).drew (.inr (Nat.le_refl _)) _ _ _ _ _ _ _
 ·have hiI:¬ (i:Int)+(k:Int)<(v.ws.length:Int):=by omega
  have HT:=Hxq (tk_none hlt)
  go_enter Tryz.func32,Tryz.ntmps32
  go_upto_region 1 with fail
  generalize w.alloc (Obj.cells #[Value.int IntKind.i64 0,Value.string ⟨#[]⟩,Value.int IntKind.i64 0,Value.int IntKind.i64 0,Value.string ⟨#[]⟩,Value.int IntKind.i64 0,Value.int IntKind.i64 0] 93)=wA at *
  go_quiet (fail)
  go_wp2_with fail
  refine bodyPost_ret (results_cell_row rfl _ _ _ _ _ _ _ rfl (store_tok (w:=wA.drewN nq) EA.out _ _ _ _ _ _ _) Tryz.underlying93 rfl (by kernel_rfl)) rfl ⟨by rw [HT.out];rfl,?_⟩
  exact mod_tok (MA.out.drewN nq) (.inr (Nat.le_refl _)) _ _ _ _ _ _ _
theorem ofS_inj {a l:List Nat} (ha:∀ c∈a,c<256) (hl:∀ c∈l,c<256) (h:Lx.ofS a=Lx.ofS l):a=l:=by rw [<-Lx.str_ofS ha,<-Lx.str_ofS hl,h]
theorem ofS_beq {a l:List Nat} (ha:∀ c∈a,c<256) (hl:∀ c∈l,c<256):((Lx.ofS a).toList == (Lx.ofS l).toList)=decide (a=l):=by
 have h1:∀ x y:ByteArray,(x.toList == y.toList)=decide (x=y):=by
  intro x y
  rw [ByteArray.toList_eq,ByteArray.toList_eq,Bool.eq_iff_iff]
  obtain ⟨⟨x⟩⟩:=x
  obtain ⟨⟨y⟩⟩:=y
  simp
 rw [h1]
 by_cases h:a=l
 ·rw [h];simp
 ·have:Lx.ofS a≠Lx.ofS l:=fun e=>h (ofS_inj ha hl e)
  simp [h,this]
set_option maxHeartbeats 1000000 in
theorem sign_any (t:Lx.Tok) (l:List Nat) (s:ByteArray) (w:World) (hs:Lx.ofS l=s) (ht:∀ c∈t.text,c<256) (hl:∀ c∈l,c<256) :
  Calls Tryz.prog 36 #[.agg (tokC t),.string s] w fun e w'=>e=.returned (.bool (Sy.sign t l))/\Mod [] w w':=by
 subst hs
 have hq:=ofS_beq ht hl
 have eA:=heap_alloc_new w (Obj.cells (tokC t) 93)
 obtain ⟨x0,x1,x2,x3,x4,x5,x6⟩:=tok_cells eA
 have MA:=Hxq ((Mod.refl [] w).alloc (Obj.cells (tokC t) 93))
 unfold tokC at *
 obtain ⟨kd,tx,vk,nu,sy,ln,cl⟩:=t
 dsimp only at *
 have hr:Hid (Sy.sign ⟨kd,tx,vk,nu,sy,ln,cl⟩ l=(decide (tx=l) && (decide (kd=5) || decide (kd=1)))):=Lib.hid rfl
 by_cases h1:tx=l
 ·rw [decide_eq_true h1] at hq
  have HR:Hid (Sy.sign ⟨kd,tx,vk,nu,sy,ln,cl⟩ l=(decide (kd=5) || decide (kd=1))):=Hxq (by rw [hr.out,decide_eq_true h1];rfl)
  clear h1 eA ht hl hr
  by_cases h5:kd=5
  ·have k5:((kd:Int) == 5)=true:=by rw [h5];rfl
   have HR2:Hid (Sy.sign ⟨kd,tx,vk,nu,sy,ln,cl⟩ l=true):=Hxq (by rw [HR.out,decide_eq_true h5];rfl)
   clear h5 HR
   go_enter Tryz.func36,Tryz.ntmps36
   go_wp2_with fail
   go_ret
   exact ⟨by rw [HR2.out];rfl,MA.out⟩
  ·have k5:((kd:Int) == 5)=false:=by rw [beq_eq_false_iff_ne];omega
   by_cases h1:kd=1
   ·have k1:((kd:Int) == 1)=true:=by rw [h1];rfl
    have HR2:Hid (Sy.sign ⟨kd,tx,vk,nu,sy,ln,cl⟩ l=true):=Hxq (by rw [HR.out,decide_eq_true h1];simp)
    clear h5 h1 HR
    go_enter Tryz.func36,Tryz.ntmps36
    go_wp2_with fail
    go_ret
    exact ⟨by rw [HR2.out];rfl,MA.out⟩
   ·have k1:((kd:Int) == 1)=false:=by rw [beq_eq_false_iff_ne];omega
    have HR2:Hid (Sy.sign ⟨kd,tx,vk,nu,sy,ln,cl⟩ l=false):=Hxq (by rw [HR.out,decide_eq_false h1,decide_eq_false h5];rfl)
    clear h5 h1 HR
    go_enter Tryz.func36,Tryz.ntmps36
    go_wp2_with fail
    go_ret
    exact ⟨by rw [HR2.out];rfl,MA.out⟩
 ·rw [decide_eq_false h1] at hq
  have HR:Hid (Sy.sign ⟨kd,tx,vk,nu,sy,ln,cl⟩ l=false):=Hxq (by rw [hr.out,decide_eq_false h1];rfl)
  clear h1 eA ht hl hr
  go_enter Tryz.func36,Tryz.ntmps36
  go_wp2_with fail
  go_ret
  exact ⟨by rw [HR.out];rfl,MA.out⟩
/-- all that the reader leans on lies below n -/
def RdL (b:Nat) (ra:Option Addr) (rc:Nat) (f:Value) (v:Sy.Env) (n:Nat):Prop:=b<n/\∀ k∈fp (.slice ra v.ws.length rc),k<n
theorem RdP.low {b:Nat} {ra:Option Addr} {rc:Nat} {f:Value} {v:Sy.Env} {i:Nat} {w:World} (h:RdP w b ra rc f v i):RdL b ra rc f v w.heap.size:=⟨h.lt,fun k hk=>fp_lt h.row.row k hk⟩
theorem RdP.new {b:Nat} {ra:Option Addr} {rc:Nat} {f:Value} {v:Sy.Env} {i n:Nat} {S:List Nat} {w w':World} (h:RdP w b ra rc f v i) (hl:RdL b ra rc f v n) (hm:Mod S w w') (hS:∀ t∈S,n<=t):RdP w' b ra rc f v i :=
 h.keep hm (fun hb=>by have:=hS b hb;have:=hl.1;omega) (fun k hk hs=>by have:=hS k hs;have:=hl.2 k hk;omega)
theorem peek0 (b:Nat) (ra:Option Addr) (rc:Nat) (f:Value) (v:Sy.Env) (i:Nat) (w:World) (h:RdP w b ra rc f v i) (hv:EnvOk v) (hi:i<=70000) :
  Calls Tryz.prog 32 #[.pointer (some ⟨b,0,none⟩),.int .i64 0] w fun e w'=>e=.returned (.agg (tokC (v.tk i)))/\Mod [] w w':=peek_any b ra rc f v i 0 w h hv hi (by omega)
theorem peek1 (b:Nat) (ra:Option Addr) (rc:Nat) (f:Value) (v:Sy.Env) (i:Nat) (w:World) (h:RdP w b ra rc f v i) (hv:EnvOk v) (hi:i<=70000) :
  Calls Tryz.prog 32 #[.pointer (some ⟨b,0,none⟩),.int .i64 1] w fun e w'=>e=.returned (.agg (tokC (v.tk (i+1))))/\Mod [] w w':=peek_any b ra rc f v i 1 w h hv hi (by omega)
theorem peek2 (b:Nat) (ra:Option Addr) (rc:Nat) (f:Value) (v:Sy.Env) (i:Nat) (w:World) (h:RdP w b ra rc f v i) (hv:EnvOk v) (hi:i<=70000) :
  Calls Tryz.prog 32 #[.pointer (some ⟨b,0,none⟩),.int .i64 2] w fun e w'=>e=.returned (.agg (tokC (v.tk (i+2))))/\Mod [] w w':=peek_any b ra rc f v i 2 w h hv hi (by omega)
theorem is_any (b:Nat) (ra:Option Addr) (rc:Nat) (f:Value) (v:Sy.Env) (i:Nat) (l:List Nat) (s:ByteArray) (w:World) (h:RdP w b ra rc f v i) (hv:EnvOk v) (hi:i<=70000) (hs:Lx.ofS l=s) (hl:∀ c∈l,c<256) :
  Calls Tryz.prog 56 #[.pointer (some ⟨b,0,none⟩),.string s] w fun e w'=>e=.returned (.bool (Sy.sign (v.tk i) l))/\Mod [] w w':=by
 have HP:=Hxq (peek0 b ra rc f v i w h hv hi)
 have HB:=Hxq (hv.tbyte i)
 generalize v.tk i=t at *
 generalize hr:Sy.sign t l=r
 have HR:=Lib.hid hr;have HL:=Lib.hid hl;have HS:=Lib.hid hs
 clear h hr hl hs
 go_enter Tryz.func56,Tryz.ntmps56
 go_wp2_with fail
 refine HP.out.mono ?_
 rintro e1 w1 ⟨rfl,m1⟩
 have M1:=Lib.hid m1
 clear m1
 go_wp2_with fail
 refine (sign_any t l s w1 HS.out HB.out HL.out).mono ?_
 rintro e2 w2 ⟨rfl,m2⟩
 have M2:=Hxq (M1.out.trans m2 (by simp))
 clear m2
 rw [HR.out]
 go_wp2_with fail
 go_ret
 exact ⟨rfl,M2.out⟩
/-- what may leaves -/
def MayR (b:Nat) (ra:Option Addr) (rc:Nat) (f:Value) (v:Sy.Env) (r:Bool) (i:Nat) (w:World) (e:Ending) (w':World):Prop:=e=.returned (.bool r)/\RdP w' b ra rc f v (if r then i+1 else i)/\Mod [b] w w'
theorem may_any (b:Nat) (ra:Option Addr) (rc:Nat) (f:Value) (v:Sy.Env) (i:Nat) (l:List Nat) (s:ByteArray) (w:World) (h:RdP w b ra rc f v i) (hv:EnvOk v) (hi:i<=70000) (hs:Lx.ofS l=s) (hl:∀ c∈l,c<256) :
  Calls Tryz.prog 33 #[.pointer (some ⟨b,0,none⟩),.string s] w (MayR b ra rc f v (Sy.sign (v.tk i) l) i w):=by
 have HI:=Hxq (is_any b ra rc f v i l s w h hv hi hs hl)
 have HH:=Lib.hid h
 generalize Sy.sign (v.tk i) l=r at *
 clear h hl hs
 go_enter Tryz.func33,Tryz.ntmps33
 go_wp2_with fail
 refine HI.out.mono ?_
 rintro e1 w1 ⟨rfl,m1⟩
 have h1:=HH.out.past m1 (by simp)
 obtain ⟨c0,c1,c2,c3,c4,c5,fz⟩:=h1.cells
 have H1:=Lib.hid h1;have M1:=Lib.hid m1
 clear m1 h1
 cases r
 ·go_wp2_with fail
  go_ret
  exact ⟨rfl,H1.out,M1.out.mono (by simp)⟩
 ·go_wp2_with fail
  go_ret
  exact ⟨rfl,(H1.out.to (i+1)).1,(M1.out.mono (T:=[b]) (by simp)).trans (H1.out.to (i+1)).2 (by simp)⟩
/-- what a call of the reader's leaves: the thing that val speaks of, or the panic -/
def PRes {α:Type} (b:Nat) (ra:Option Addr) (rc:Nat) (f:Value) (v:Sy.Env) (r:Sy.PR α) (val:α->World->Value->Prop) (w:World) (e:Ending) (w':World):Prop :=
 match r with
 | .ok a j=>∃ x,e=.returned x/\val a w' x/\RdP w' b ra rc f v j/\Mod [b] w w'
 | .err g=>e=stopE g/\Mod [b] w w'
def valU:Unit->World->Value->Prop:=fun _ _ x=>x=.tuple #[]
theorem must_any (b:Nat) (ra:Option Addr) (rc:Nat) (f:Value) (v:Sy.Env) (i:Nat) (l:List Nat) (s:ByteArray) (w:World) (h:RdP w b ra rc f v i) (hv:EnvOk v) (hi:i<=70000) (hs:Lx.ofS l=s) (hl:∀ c∈l,c<256) :
  Calls Tryz.prog 58 #[.pointer (some ⟨b,0,none⟩),.string s] w (PRes b ra rc f v (Sy.must v l i) valU w):=by
 have HM:=Hxq (may_any b ra rc f v i l s w h hv hi hs hl)
 have HR:Hid (Sy.must v l i=if Sy.sign (v.tk i) l=true then .ok () (i+1) else .err (v.give 40 i)):=Lib.hid rfl
 generalize Sy.sign (v.tk i) l=r at *
 generalize Sy.must v l i=q at *
 clear h hl hs
 cases r
 ·obtain rfl:q=.err (v.give 40 i):=HR.out
  clear HR
  go_enter Tryz.func58,Tryz.ntmps58
  go_wp2_with fail
  refine HM.out.mono ?_
  rintro e1 w1 ⟨rfl,h1,m1⟩
  have M1:=Lib.hid m1;have H1:=Lib.hid h1
  clear m1 h1
  go_wp2_with fail
  refine (give_any b ra rc f v i 40 w1 H1.out hv hi).mono ?_
  rintro e2 w2 ⟨rfl,m2⟩
  have M2:=Hxq (M1.out.trans m2 (by simp))
  clear m2
  unfold stopE
  go_wp2_with fail
  exact ⟨rfl,rfl,M2.out⟩
 ·obtain rfl:q=.ok () (i+1):=HR.out
  clear HR
  go_enter Tryz.func58,Tryz.ntmps58
  go_wp2_with fail
  refine HM.out.mono ?_
  rintro e1 w1 ⟨rfl,h1,m1⟩
  have M1:=Lib.hid m1;have H1:=Lib.hid h1
  clear m1 h1
  go_wp2_with fail
  go_end0
  exact ⟨_,rfl,rfl,H1.out,M1.out⟩
def resU:List (List UInt8):=[[114,101,108,97,116,105,111,110],[110,111,116],[110,117,109],[115,121,109],[109,111,100],[99,111,117,110,116],[115,117,109],[109,105,110],[109,97,120]]
def resB (s:ByteArray):Bool:=resU.contains s.toList
theorem Reserved_any (s:ByteArray) (w:World) :
  Calls Tryz.prog 62 #[.string s] w fun e w'=>e=.returned (.bool (resB s))/\w'=w:=by
 go_enter Tryz.func62,Tryz.ntmps62
 go_wp2
 all_goals (first | (exfalso;simp_all;done) | (go_ret;exact ⟨by congr 1;simp_all [resB,resU],rfl⟩))
theorem toList_ofS (l:List Nat):(Lx.ofS l).toList=l.map UInt8.ofNat:=by rw [ByteArray.toList_eq];simp [Lx.ofS]
theorem map_beq {a l:List Nat} (ha:∀ c∈a,c<256) (hl:∀ c∈l,c<256):(a.map UInt8.ofNat == l.map UInt8.ofNat)=decide (a=l):=by
 rw [<-toList_ofS,<-toList_ofS];exact ofS_beq ha hl
theorem contains_map (R:List (List Nat)) (hR:∀ l∈R,∀ c∈l,c<256) {a:List Nat} (ha:∀ c∈a,c<256):(R.map (·.map UInt8.ofNat)).contains (a.map UInt8.ofNat)=R.contains a:=by
 induction R with
 | nil=>rfl
 | cons l r ih =>
  rw [List.map_cons,List.contains_cons,List.contains_cons,ih (fun x hx=>hR x (List.mem_cons_of_mem _ hx)),map_beq ha (hR l List.mem_cons_self)]
  by_cases h:a=l <;> simp [h]
theorem resB_ofS {tx:List Nat} (h:∀ c∈tx,c<256):resB (Lx.ofS tx)=Sy.resW.contains tx:=by
 unfold resB
 rw [toList_ofS,<-contains_map Sy.resW (by decide) h]
 rfl
theorem plain_any (t:Lx.Tok) (w:World) (ht:∀ c∈t.text,c<256) :
  Calls Tryz.prog 35 #[.agg (tokC t)] w fun e w'=>e=.returned (.bool (Sy.plain t))/\Mod [] w w':=by
 have hq:=resB_ofS ht
 have eA:=heap_alloc_new w (Obj.cells (tokC t) 93)
 obtain ⟨x0,x1,x2,x3,x4,x5,x6⟩:=tok_cells eA
 have MA:=Hxq ((Mod.refl [] w).alloc (Obj.cells (tokC t) 93))
 have hr:Hid (Sy.plain t=(decide (t.kind=1) && !(Sy.resW.contains t.text))):=Lib.hid rfl
 have hW:=fun w=>Reserved_any (Lx.ofS t.text) w
 rw [hq] at hW
 generalize Sy.resW.contains t.text=q at *
 have HW:=Lib.hid hW
 unfold tokC at *
 clear eA ht hq hW
 by_cases h1:t.kind=1
 ·have k1:((t.kind:Int) == 1)=true:=by rw [h1];rfl
  have HR:Hid (Sy.plain t=!q):=Hxq (by rw [hr.out,decide_eq_true h1];rfl)
  clear h1 hr
  go_enter Tryz.func35,Tryz.ntmps35
  go_wp2_with fail
  refine (HW.out _).mono ?_
  rintro e1 w1 ⟨rfl,rfl⟩
  go_wp2_with fail
  go_ret
  exact ⟨by rw [HR.out];rfl,MA.out⟩
 ·have k1:((t.kind:Int) == 1)=false:=by rw [beq_eq_false_iff_ne];omega
  have HR:Hid (Sy.plain t=false):=Hxq (by rw [hr.out,decide_eq_false h1];rfl)
  clear h1 hr
  go_enter Tryz.func35,Tryz.ntmps35
  go_wp2_with fail
  go_ret
  exact ⟨by rw [HR.out];rfl,MA.out⟩
def valT:Lx.Tok->World->Value->Prop:=fun t _ x=>x=.agg (tokC t)
theorem name_any (b:Nat) (ra:Option Addr) (rc:Nat) (f:Value) (v:Sy.Env) (i:Nat) (w:World) (h:RdP w b ra rc f v i) (hv:EnvOk v) (hi:i<=70000) :
  Calls Tryz.prog 57 #[.pointer (some ⟨b,0,none⟩)] w (PRes b ra rc f v (Sy.name v i) valT w):=by
 have mA:=(Mod.refl [] w).alloc (Obj.cells #[Value.int IntKind.i64 0,Value.string ⟨#[]⟩,Value.int IntKind.i64 0,Value.int IntKind.i64 0,Value.string ⟨#[]⟩,Value.int IntKind.i64 0,Value.int IntKind.i64 0] 93)
 have hA:=h.past mA (by simp)
 have eA:=heap_alloc_new w (Obj.cells #[Value.int IntKind.i64 0,Value.string ⟨#[]⟩,Value.int IntKind.i64 0,Value.int IntKind.i64 0,Value.string ⟨#[]⟩,Value.int IntKind.i64 0,Value.int IntKind.i64 0] 93)
 have HP:=Hxq (peek0 b ra rc f v i _ hA hv hi)
 have HB:=Hxq (hv.tbyte i)
 have HR:Hid (Sy.name v i=if Sy.plain (v.tk i)=true then .ok (v.tk i) (i+1) else .err (v.give 40 i)):=Lib.hid rfl
 have HPl:=Hxq (fun w=>plain_any (v.tk i) w HB.out)
 have HH:=Lib.hid hA;have EA:=Lib.hid eA;have MA:=Lib.hid mA
 have hbl:=h.lt
 have HLo:=Lib.hid h.low
 clear h hA eA mA HB
 generalize v.tk i=t at *
 generalize Sy.plain t=r at *
 generalize Sy.name v i=q at *
 go_enter Tryz.func57,Tryz.ntmps57
 go_upto_region 1 with fail
 have hsA:(w.alloc (Obj.cells #[Value.int IntKind.i64 0,Value.string ⟨#[]⟩,Value.int IntKind.i64 0,Value.int IntKind.i64 0,Value.string ⟨#[]⟩,Value.int IntKind.i64 0,Value.int IntKind.i64 0] 93)).heap.size=w.heap.size+1:=by simp
 generalize w.alloc (Obj.cells #[Value.int IntKind.i64 0,Value.string ⟨#[]⟩,Value.int IntKind.i64 0,Value.int IntKind.i64 0,Value.string ⟨#[]⟩,Value.int IntKind.i64 0,Value.int IntKind.i64 0] 93)=wA at *
 go_wp2_with fail
 refine HP.out.mono ?_
 rintro e1 w1 ⟨rfl,m1⟩
 have s1:=m1.size
 have mB:=(Mod.refl [] w1).alloc (Obj.cells (tokC t) 93)
 have eB:=heap_alloc_new w1 (Obj.cells (tokC t) 93)
 have HH:=Hxq ((HH.out.past m1 (by simp)).past mB (by simp));have EA:=Hxq (mB.at (m1.at EA.out (by simp)) (by simp));have MA:=Hxq ((MA.out.trans m1 (by simp)).trans mB (by simp));have EB:=Lib.hid eB
 obtain ⟨x0,x1,x2,x3,x4,x5,x6⟩:=tok_cells eB
 clear m1 mB eB
 unfold tokC at *
 go_upto_region 2 with fail
 generalize w1.alloc (Obj.cells _ 93)=wB at *
 go_wp2_with fail
 refine (HPl.out wB).mono ?_
 rintro e2 w2 ⟨rfl,m2⟩
 have h2:=HH.out.past m2 (by simp)
 have e2:=m2.at EB.out (by simp)
 have a2:=m2.at EA.out (by simp)
 obtain ⟨c0,c1,c2,c3,c4,c5,fz⟩:=h2.cells
 have H2:=Lib.hid h2;have M2:=Hxq (MA.out.trans m2 (by simp));have EA2:=Lib.hid a2;have EB2:=Lib.hid e2
 clear h2 m2 x0 x1 x2 x3 x4 x5 x6
 cases r
 ·obtain rfl:q=.err (v.give 40 i):=HR.out
  clear HR e2 a2
  go_wp2_with fail
  refine (give_any b ra rc f v i 40 w2 H2.out hv hi).mono ?_
  rintro e3 w3 ⟨rfl,m3⟩
  have M3:=Hxq (M2.out.trans m3 (by simp))
  clear m3
  unfold stopE
  go_wp2_with fail
  exact ⟨rfl,rfl,M3.out.mono (by simp)⟩
 ·obtain rfl:q=.ok t (i+1):=HR.out
  have hT:=H2.out.to (i+1)
  have hA3:(w2.setCell ⟨b,1,none⟩ (.int .i64 ((i:Int)+1))).heap[w.heap.size]?=_:=hT.2.at EA2.out (by simp;omega)
  have hB3:(w2.setCell ⟨b,1,none⟩ (.int .i64 ((i:Int)+1))).heap[w1.heap.size]?=_:=hT.2.at EB2.out (by simp;omega)
  have HT:Hid (RdP (w2.setCell ⟨b,1,none⟩ (.int .i64 ((i:Int)+1))) b ra rc f v (i+1)/\Mod [b] w (w2.setCell ⟨b,1,none⟩ (.int .i64 ((i:Int)+1)))):=Lib.hid ⟨hT.1,(M2.out.mono (T:=[b]) (by simp)).trans hT.2 (by simp)⟩
  obtain ⟨x0,x1,x2,x3,x4,x5,x6⟩:=tok_cells hB3
  have fA:∀ j,(w2.setCell ⟨b,1,none⟩ (.int .i64 ((i:Int)+1))).frozen? ⟨w.heap.size,j,none⟩=false:=fun j=>free_at hA3 j
  have y0:=cell_at hA3 0
  have y1:=cell_at hA3 1
  have y2:=cell_at hA3 2
  have y3:=cell_at hA3 3
  have y4:=cell_at hA3 4
  have y5:=cell_at hA3 5
  have y6:=cell_at hA3 6
  simp only [List.getElem?_toArray,List.getElem?_cons_zero,List.getElem?_cons_succ] at y0 y1 y2 y3 y4 y5 y6
  have HA3:=Lib.hid hA3
  clear HR hT e2 a2 hA3 hB3
  go_upto_region 5 with fail
  generalize w2.setCell ⟨b,1,none⟩ (.int .i64 ((i:Int)+1))=w3 at *
  go_wp2_with fail
  have mR:=mod_tok (b:=w.heap.size) (Mod.refl [w.heap.size] w3) (.inl (by simp)) (.int .i64 (t.kind:Nat)) (.string (Lx.ofS t.text)) (.int .i64 (t.vk:Nat)) (.int .i64 (t.num:Nat)) (.string (Lx.ofS t.sym)) (.int .i64 (t.line:Nat)) (.int .i64 (t.col:Nat))
  refine bodyPost_ret (results_cell_row rfl _ _ _ _ _ _ _ rfl (store_tok HA3.out _ _ _ _ _ _ _) Tryz.underlying93 rfl (by kernel_rfl)) rfl ⟨_,rfl,rfl,HT.out.1.new HLo.out mR (by simp),HT.out.2.trans mR (by simp)⟩
end Go.Proofs.YtbfaclljbbfknaaGreatDoor
