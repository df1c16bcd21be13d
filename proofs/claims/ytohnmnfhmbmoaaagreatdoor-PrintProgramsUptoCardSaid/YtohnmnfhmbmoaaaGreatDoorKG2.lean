/- THE TEXTS MERGED: Bytes LxQuo LxNext LxToks VaPlain VaTxtPlain PrPlain SyPlain SyBase SyTok2. -/
import Derived.Test.YtohnmnfhmbmoaaaGreatDoorKG1
import Derived.Lib.AtoiAll
import Derived.Lib.Atoi
import Derived.Lib.ItoaNum
import Derived.Laws.StructEq
import Derived.Deep.DeepCutAuto
import Derived.Deep.RegionHeld3
namespace Go.Proofs.YtohnmnfhmbmoaaaGreatDoor
open Go.RowKit
set_option linter.unusedVariables false
set_option linter.unusedSimpArgs false
set_option maxRecDepth 100000
/-- the slice v reads as the bytes l -/
def Reads (w:World) (v:Value) (l:List Nat):Prop :=
  (∀ c∈l,c<256)/\l.length<=140737488355328 /\
  ((∃ x c,v=.slice x 0 c/\l=[]) \/
   ∃ b off cap,v=.slice (some ⟨b,off,none⟩) l.length cap/\∀ i,i<l.length->w.cell? ⟨b,off+i,none⟩=some (.int .u8 (l.getD i 0:Nat)))
def toCells (l:List Nat):List Value:=l.map fun (c:Nat)=>Value.int .u8 (c:Int)
theorem toCells_len (l:List Nat):(toCells l).length=l.length:=by simp [toCells]
theorem toCells_append (l k:List Nat):toCells (l++k)=toCells l++toCells k:=by simp [toCells]
theorem toCells_one (l:List Nat):∀ u∈toCells l,u.oneCell'=true:=by
  intro u hu
  obtain ⟨_,_,rfl⟩:=List.mem_map.1 hu
  rfl
theorem toCells_get (l:List Nat) (i:Nat) (h:i<l.length):(toCells l)[i]?=some (.int .u8 (l.getD i 0:Nat)):=by
  simp [toCells,List.getD_eq_getElem?_getD,List.getElem?_eq_getElem h]
theorem Tryz.infoU8:(Tryz.prog.info? 5).map (fun i=>(i.zero,i.size,i.bytes))=some (some (.int .u8 0),1,1):=by kernel_rfl
theorem addr_add (b o j:Nat):(⟨b,o,none⟩:Addr).add j=⟨b,o+j,none⟩:=by
  unfold Addr.add;split <;> simp_all
theorem reads_own {w:World} {v:Value} {l:List Nat} (h:w.ownsRow 0 5 1 v l.length (toCells l)) (hb:∀ c∈l,c<256) (hl:l.length<=140737488355328):Reads w v l:=by
  refine ⟨hb,hl,?_⟩
  rcases h.2 with ⟨rfl,hn⟩ | ⟨g,cap,cur,rfl,h1,h2,h3,h4,h5,h6⟩
  · exact .inl ⟨_,_,rfl,List.eq_nil_of_length_eq_zero hn⟩
  · refine .inr ⟨g,0,cap,rfl,fun i hi=>?_⟩
    have:=h.cells (g:=g) rfl i _ (toCells_get l i hi)
    rwa [addr_add] at this
theorem conv_reads {w:World} {v:Value} {l:List Nat} (h:Reads w v l):(convert 76 9 v).run Tryz.prog w=.ok (.string (Lx.ofS l)) w:=by
  obtain ⟨hb,hl,⟨x,c,rfl,rfl⟩ | ⟨b,off,cap,rfl,hc⟩⟩:=h
  · cases x with
    | none=>exact run_convert_bytes_nil w _ _ Tryz.underlying76 Tryz.underlying5 0 c _ Tryz.underlying9
    | some a =>
      rw [run_convert_bytes_string w _ _ _ _ _ _ Tryz.underlying76 Tryz.underlying5 Tryz.underlying9,run_bytesToString w a 0 c [] (run_loadCells_list w a [] (by simp))]
      rfl
  · have:=run_convert_bytes_arg (P:=Tryz.prog) w _ _ Tryz.underlying76 Tryz.underlying5 b off l.length cap (l.map fun (n:Nat)=>(n:Int)) (by simp) (fun i hi=>by
      rw [hc i hi]
      congr 2
      simp [List.getD_eq_getElem?_getD,List.getElem?_eq_getElem hi]) _ Tryz.underlying9
    rw [this]
    congr 2
    simp [strOfNums,Lx.ofS,List.map_map,Function.comp_def]
theorem fp_lt {w:World} {base:Nat} {e:TypeId} {size:Nat} {v:Value} {n:Nat} {xs:List Value} (h:w.ownsRow base e size v n xs):∀ k∈fp v,k<w.heap.size:=by
  intro k hk
  rcases h.2 with ⟨rfl,_⟩ | ⟨g,cap,cur,rfl,hb,hg,_⟩
  · simp [fp] at hk
  · simp [fp] at hk
    subst hk
    exact lt_of_block hg
theorem Reads.past {S:List Nat} {w w':World} {v:Value} {l:List Nat} (h:Reads w v l) (hm:Mod S w w') (hS:∀ t∈S,w.heap.size<=t):Reads w' v l:=by
  obtain ⟨h1,h2,h3 | ⟨b,off,cap,rfl,hc⟩⟩:=h
  · exact ⟨h1,h2,.inl h3⟩
  · refine ⟨h1,h2,.inr ⟨b,off,cap,rfl,fun i hi=>hm.cell (hc i hi) (fun hb=>?_)⟩⟩
    have:=hS _ hb
    have:=World.block_lt_of_cell? w _ (hc i hi)
    simp at *
    omega
theorem drew_at {X:World} {b:Nat} {o:Option Obj} (h:X.heap[b]?=o):X.drew.heap[b]?=o:=h
theorem ofS_size (l:List Nat):(Lx.ofS l).size=l.length:=by simp [Lx.ofS,ByteArray.size]
def St.len (x:Lx.St):Nat:=x.s.length
/-- what is still to come, one call of Next done -/
def rest (k:Nat) (r:Lx.St × Option Lx.Tok):List Lx.Tok × Lx.St :=
 match r with
 | (y,none)=>([],y)
 | (y,some t)=>(t :: (Lx.allF k y).1,(Lx.allF k y).2)
end Go.Proofs.YtohnmnfhmbmoaaaGreatDoor
namespace Go.Proofs.YtohnmnfhmbmoaaaGreatDoor.Va
open Cod (str)
set_option linter.unusedSimpArgs false
set_option linter.unusedVariables false
structure Val where
 k:Int
 n:Int
 s:List Nat
deriving DecidableEq
def zero:Val:=⟨0,0,[]⟩
def may (v:Val):Bool:=(v.k == 1 && (v.s == [] && (decide (-2147483647<=v.n) && decide (v.n<=2147483647)))) || (v.k == 2 && (v.n == 0 && decide (v.s.length<=64)))
def resW:List (List Nat):=[[114,101,108,97,116,105,111,110],[110,111,116],[110,117,109],[115,121,109],[109,111,100],[99,111,117,110,116],[115,117,109],[109,105,110],[109,97,120]]
def wordB (p:Nat->Bool) (l:List Nat):Bool:=decide (l≠[]) && (decide (l.length<=32) && (p (l.headD 0) && decide (Lx.run Lx.goes l=l.length)))
def name (l:List Nat):Bool:=!resW.contains l && wordB Lx.small l
def variable_ (l:List Nat):Bool:=wordB Lx.capital l
def hexd (n:Nat):Nat:=if n<10 then 48+n else 55+n
def qb (c:Nat):List Nat:=if c=34\/c=92 then [92,c] else if c=10 then [92,110] else if c<32\/126<c then [92,120,hexd (c / 16),hexd (c % 16)] else [c]
def quoted (l:List Nat):List Nat:=34 :: (l.flatMap qb++[34])
def itoa (n:Int):List Nat:=(Lib.itoa n).map UInt8.toNat
def text (v:Val):List Nat:=if v.k=1 then itoa v.n else if name v.s then v.s else quoted v.s
theorem decFrom_snoc:∀ (l:List UInt8) (acc n:Nat) (b:UInt8) (d:Nat),Lib.decFrom acc l=some n->Lib.digitVal b=some d->Lib.decFrom acc (l++[b])=some (n * 10+d)
 | [],acc,n,b,d,h,hd=>by
  simp only [Lib.decFrom,Option.some.injEq] at h
  subst h
  simp [Lib.decFrom,hd]
 | c :: r,acc,n,b,d,h,hd=>by
  simp only [List.cons_append,Lib.decFrom] at h ⊢
  cases hc:Lib.digitVal c with
  | none=>rw [hc] at h;simp at h
  | some e =>
   rw [hc] at h
   simp only at h ⊢
   exact decFrom_snoc r _ n b d h hd
theorem digitVal_of {d:Nat} (h:d<10):Lib.digitVal (UInt8.ofNat (48+d))=some d:=by
 unfold Lib.digitVal
 have:(UInt8.ofNat (48+d)).toNat=48+d:=by simp;omega
 rw [this,if_pos (by omega)]
 simp
theorem decDigits_val (u:Nat):Lib.decFrom 0 (Lib.decDigits u)=some u:=by
 induction u using Nat.strongRecOn with
 | _ u ih =>
  rw [Lib.decDigits]
  by_cases h:u<10
  ·rw [dif_pos h]
   simp only [Lib.decFrom,digitVal_of h]
   congr 1;omega
  ·rw [dif_neg h]
   have:=decFrom_snoc _ 0 (u / 10) (UInt8.ofNat (48+u % 10)) (u % 10) (ih (u / 10) (by omega)) (digitVal_of (by omega))
   rw [this]
   congr 1;omega
theorem decDigits_head (u:Nat):∃ c r,Lib.decDigits u=c :: r/\48<=c.toNat/\c.toNat<=57:=by
 have h1:=decDigits_val u
 cases hl:Lib.decDigits u with
 | nil =>
  have:=Lib.decDigits_length u
  rw [hl] at this
  have:=Lib.nDigits_pos u
  simp at *
  omega
 | cons c r =>
  refine ⟨c,r,rfl,?_⟩
  rw [hl] at h1
  simp only [Lib.decFrom] at h1
  unfold Lib.digitVal at h1
  by_cases hc:48<=c.toNat/\c.toNat<=57
  ·exact hc
  ·rw [if_neg hc] at h1;simp at h1
theorem itoa_lt (n:Int):∀ c∈itoa n,c<256:=by
 intro c hc
 unfold itoa at hc
 obtain ⟨b,_,rfl⟩:=List.mem_map.1 hc
 exact b.toNat_lt
theorem map_back (l:List UInt8):(l.map UInt8.toNat).map UInt8.ofNat=l:=by
 rw [List.map_map]
 conv=>rhs;rw [<-List.map_id l]
 exact List.map_congr_left (fun c _=>by simp)
def hf (c:Nat):Option Nat:=if 48<=c/\c<=57 then some (c - 48) else if 65<=c/\c<=70 then some (c - 55) else none
def dcF:Nat->Nat->List Nat->Option Nat
 | _,n,[]=>some n
 | i,n,c :: r=>if Lx.digit c=true/\i<=11 then dcF (i+1) (n * 10+(c - 48)) r else none
def dec (l:List Nat):Option Int:=if l.headD 0=45 then (dcF 0 0 (l.drop 1)).map (fun (n:Nat)=>-(n:Int)) else (dcF 0 0 l).map (fun (n:Nat)=>(n:Int))
def hx2 (r:List Nat):Option Nat:=match hf (r.headD 0),hf ((r.drop 1).headD 0) with | some a,some b=>some (a * 16+b) | _,_=>none
def ruqF:Nat->List Nat->List Nat
 | k+1,c :: x :: r =>
  if c≠92 then c :: ruqF k (x :: r)
  else if x=110 then 10 :: ruqF k r
  else match (if x=120/\3<=r.length then hx2 r else none) with
   | some b=>b :: ruqF k (r.drop 2)
   | none=>x :: ruqF k r
 | _,_=>[]
def ruq (l:List Nat):List Nat:=ruqF (l.length+1) (l.drop 1)
def rguess (l:List Nat):Option Val :=
 if l.headD 0=45\/Lx.digit (l.headD 0)=true then (dec l).map (fun n=>⟨1,n,[]⟩)
 else if l.headD 0=34 then some ⟨2,0,ruq l⟩ else some ⟨2,0,l⟩
theorem hf_hexd {n:Nat} (h:n<16):hf (hexd n)=some n:=by
 have:∀ m:Fin 16,hf (hexd m.val)=some m.val:=by decide
 exact this ⟨n,h⟩
theorem ruqF_one (k c x:Nat) (r:List Nat) (h:c≠92):ruqF (k+1) (c :: x :: r)=c :: ruqF k (x :: r):=by
 simp only [ruqF];rw [if_pos h]
theorem ruqF_esc (k x:Nat) (r:List Nat):ruqF (k+1) (92 :: x :: r)=if x=110 then 10 :: ruqF k r else match (if x=120/\3<=r.length then hx2 r else none) with | some b=>b :: ruqF k (r.drop 2) | none=>x :: ruqF k r:=by
 simp only [ruqF];rw [if_neg (by simp)]
theorem ruqF_end (k:Nat) (l:List Nat) (h:l.length<2):ruqF k l=[]:=by
 match k,l,h with
 | 0,_,_=>unfold ruqF;rfl
 | k+1,[],_=>unfold ruqF;rfl
 | k+1,[_],_=>unfold ruqF;rfl
theorem ruqF_q:∀ (l:List Nat) (k:Nat),(∀ c∈l,c<256)->(l.flatMap qb).length<k->ruqF k (l.flatMap qb++[34])=l
 | [],k,_,h=>ruqF_end _ _ (by simp)
 | c :: r,k,hb,h=>by
  obtain ⟨j,rfl⟩:∃ j,k=j+1:=⟨k - 1,by omega⟩
  have hc:=hb c (by simp)
  have ih:=fun j hj=>ruqF_q r j (fun x hx=>hb x (by simp [hx])) hj
  rw [List.flatMap_cons] at h ⊢
  generalize List.flatMap qb r=u at *
  by_cases h1:c=34\/c=92
  ·have hq:qb c=[92,c]:=by unfold qb;rw [if_pos h1]
   rw [hq] at h ⊢
   simp only [List.cons_append,List.nil_append,List.length_cons] at h ⊢
   rw [ruqF_esc,if_neg (by omega),if_neg (by omega)]
   simp only
   rw [ih j (by omega)]
  ·by_cases h2:c=10
   ·have hq:qb c=[92,110]:=by unfold qb;rw [if_neg h1,if_pos h2]
    rw [hq] at h ⊢
    simp only [List.cons_append,List.nil_append,List.length_cons] at h ⊢
    rw [ruqF_esc,if_pos rfl,ih j (by omega),h2]
   ·by_cases h3:c<32\/126<c
    ·have hq:qb c=[92,120,hexd (c / 16),hexd (c % 16)]:=by unfold qb;rw [if_neg h1,if_neg h2,if_pos h3]
     rw [hq] at h ⊢
     simp only [List.cons_append,List.nil_append,List.length_cons] at h ⊢
     have hx:hx2 (hexd (c / 16) :: hexd (c % 16) :: (u++[34]))=some c:=by
      unfold hx2
      simp only [List.headD_cons,List.drop_succ_cons,List.drop_zero]
      rw [hf_hexd (by omega),hf_hexd (by omega)]
      simp only
      congr 1;omega
     rw [ruqF_esc,if_neg (by omega),if_pos ⟨rfl,by simp⟩,hx]
     simp only [List.drop_succ_cons,List.drop_zero]
     rw [ih j (by omega)]
    ·have hq:qb c=[c]:=by unfold qb;rw [if_neg h1,if_neg h2,if_neg h3]
     rw [hq] at h ⊢
     simp only [List.cons_append,List.nil_append,List.length_cons] at h ⊢
     have hu:=ih j (by omega)
     cases hu2:u++[34] with
     | nil=>simp at hu2
     | cons x t =>
      rw [hu2] at hu
      rw [ruqF_one _ _ _ _ (by omega),hu]
theorem ruq_q (l:List Nat) (hb:∀ c∈l,c<256):ruq (quoted l)=l:=by
 unfold ruq quoted
 rw [List.drop_succ_cons,List.drop_zero]
 exact ruqF_q l _ hb (by simp;omega)
theorem digit_iff (c:Nat):Lx.digit c=true ↔ 48<=c/\c<=57:=by
 unfold Lx.digit
 simp
theorem dcF_dec:∀ (l:List UInt8) (i acc n:Nat),Lib.decFrom acc l=some n->i+l.length<=12->dcF i acc (l.map UInt8.toNat)=some n
 | [],i,acc,n,h,_=>by simp only [Lib.decFrom,Option.some.injEq] at h;subst h;rfl
 | c :: r,i,acc,n,h,hl=>by
  simp only [Lib.decFrom] at h
  unfold Lib.digitVal at h
  by_cases hc:48<=c.toNat/\c.toNat<=57
  ·rw [if_pos hc] at h
   simp only at h
   simp only [List.length_cons] at hl
   rw [List.map_cons]
   unfold dcF
   rw [if_pos ⟨(digit_iff _).2 hc,by omega⟩]
   have e:acc * 10+(c.toNat - 48)=acc * 10+(c.toNat - 48):=rfl
   exact dcF_dec r _ _ n h (by omega)
  ·rw [if_neg hc] at h;simp at h
theorem nDg:∀ (k u:Nat),u<10 ^ (k+1)->Lib.nDigits u<=k+1
 | 0,u,h=>by rw [Lib.nDigits_small (by simpa using h)];omega
 | k+1,u,h=>by
  by_cases h0:u<10
  ·rw [Lib.nDigits_small h0];omega
  ·rw [Lib.nDigits_big h0]
   have:=nDg k (u / 10) (by rw [Nat.pow_succ] at h;omega)
   omega
theorem nDig (u:Nat) (h:u<=2147483647):(Lib.decDigits u).length<=11:=by
 rw [Lib.decDigits_length]
 exact nDg 10 u (by omega)
theorem dec_itoa {n:Int} (h1:-2147483647<=n) (h2:n<=2147483647):dec (itoa n)=some n/\((itoa n).headD 0=45\/Lx.digit ((itoa n).headD 0)=true)/\(itoa n).length<=258/\itoa n≠[]:=by
 unfold itoa Lib.itoa
 by_cases hn:n<0
 ·rw [if_pos hn,List.map_cons]
  have hd:=dcF_dec _ 0 0 _ (decDigits_val n.natAbs) (by have:=nDig n.natAbs (by omega);omega)
  have hl:=nDig n.natAbs (by omega)
  refine ⟨?_,.inl rfl,by simp;omega,by simp⟩
  unfold dec
  rw [if_pos (by rfl),List.drop_succ_cons,List.drop_zero,hd]
  simp only [Option.map_some]
  congr 1;omega
 ·rw [if_neg hn]
  obtain ⟨c,r,hl,hc1,hc2⟩:=decDigits_head n.toNat
  have hd:=dcF_dec _ 0 0 _ (decDigits_val n.toNat) (by have:=nDig n.toNat (by omega);omega)
  have hll:=nDig n.toNat (by omega)
  rw [hl] at hd hll ⊢
  rw [List.map_cons] at hd ⊢
  refine ⟨?_,.inr ((digit_iff _).2 ⟨hc1,hc2⟩),by simp at hll ⊢;omega,by simp⟩
  unfold dec
  rw [if_neg (by simp only [List.headD_cons];omega),hd]
  simp only [Option.map_some]
  congr 1;omega
theorem flatq_len:∀ l:List Nat,(l.flatMap qb).length<=4 * l.length
 | []=>by simp
 | c :: r=>by
  have ih:=flatq_len r
  have:(qb c).length<=4:=by
   unfold qb
   split
   ·simp
   ·split
    ·simp
    ·split <;> simp
  rw [List.flatMap_cons,List.length_append,List.length_cons]
  omega
/-- the reference reads a text that is one as the value whose text it is -/
theorem rguess_text {v:Val} (hb:∀ c∈v.s,c<256) (h:may v=true):rguess (text v)=some v/\(text v).length<=258/\text v≠[]:=by
 obtain ⟨k,n,s⟩:=v
 simp only at hb
 unfold may at h
 simp only [Bool.or_eq_true,Bool.and_eq_true,beq_iff_eq,decide_eq_true_eq] at h
 rcases h with ⟨rfl,rfl,h1,h2⟩ | ⟨rfl,rfl,h1⟩
 ·obtain ⟨e1,e2,e3,e4⟩:=dec_itoa h1 h2
  unfold text
  rw [if_pos rfl]
  refine ⟨?_,e3,e4⟩
  unfold rguess
  rw [if_pos e2,e1];rfl
 ·unfold text
  rw [if_neg (show ¬ (2:Int)=1 by decide)]
  simp only
  by_cases hn:name s=true
  ·rw [if_pos hn]
   unfold name wordB at hn
   simp only [Bool.and_eq_true,decide_eq_true_eq] at hn
   obtain ⟨-,h3,h4,h5,h6⟩:=hn
   unfold Lx.small at h5
   simp only [Bool.and_eq_true] at h5
   have h51:97<=s.headD 0:=of_decide_eq_true h5.1
   refine ⟨?_,by omega,h3⟩
   unfold rguess
   rw [if_neg (by rw [digit_iff];omega),if_neg (by omega)]
  ·rw [if_neg hn]
   refine ⟨?_,?_,by unfold quoted;simp⟩
   ·unfold rguess
    have hh:(quoted s).headD 0=34:=rfl
    rw [hh,if_neg (by rw [digit_iff];omega),if_pos rfl,ruq_q s hb]
   ·have:=flatq_len s
    unfold quoted
    rw [List.length_cons,List.length_append,List.length_singleton]
    omega
end Go.Proofs.YtohnmnfhmbmoaaaGreatDoor.Va
namespace Go.Proofs.YtohnmnfhmbmoaaaGreatDoor.Pr
open Cod (str)
open Va (Val)
set_option linter.unusedSimpArgs false
set_option linter.unusedVariables false
structure Term where
 k:Int
 v:ByteArray
 x:Val
structure Atom where
 rel:ByteArray
 terms:List Term
inductive Ex where
 | mk (k:Int) (v:ByteArray) (x:Val) (op:Int) (args:List Ex)
inductive Li where
 | mk (k:Int) (atom:Atom) (op:Int) (left right:Ex) (fn:Int) (av:ByteArray) (of:Ex) (body:List Li) (line col:Int)
structure Rul where
 head:Atom
 body:List Li
 line:Int
 col:Int
structure Rel where
 name:ByteArray
 types:List Int
 line:Int
 col:Int
structure Prog where
 rels:List Rel
 rules:List Rul
def Ex.k:Ex->Int | .mk k _ _ _ _=>k
def Ex.v:Ex->ByteArray | .mk _ v _ _ _=>v
def Ex.x:Ex->Val | .mk _ _ x _ _=>x
def Ex.op:Ex->Int | .mk _ _ _ op _=>op
def Ex.args:Ex->List Ex | .mk _ _ _ _ args=>args
def strength (op:Int):Nat:=if op=1\/op=2 then 1 else if op=3\/op=4\/op=5 then 2 else if op=6 then 3 else 0
def binds (e:Ex):Nat:=if e.k=4 then strength e.op else 4
def sign (op:Int):List Nat:=if op=1 then [43] else if op=2 then [45] else if op=3 then [42] else if op=4 then [47] else [109,111,100]
/-- an expression's text; none: there is none. The first number: one more than the depth that is left -/
def pE:Nat->Ex->Option (List Nat)
 | 0,_=>none
 | k+1,e =>
  if e.k=1 then (if Va.variable_ (str e.v)=true/\e.x=Va.zero/\e.op=0/\e.args.length=0 then some (str e.v) else none)
  else if e.k=2 then (if e.v.size=0/\e.op=0/\e.args.length=0/\Va.may e.x=true then some (Va.text e.x) else none)
  else if e.k=4 then
   (if e.v.size=0/\e.x=Va.zero/\0<strength e.op then
    match k with
    | 0=>none
    | j+1 =>
     match e.args with
     | [a] =>
      if e.op=6 then
       (if binds a<3\/(a.k=2/\a.x.k=1/\0<a.x.n) then (pE j a).map (fun t=>40 :: (t++[41])) else pE (j+1) a).map
        (fun t=>45 :: ((if a.k=2/\a.x.k=1/\a.x.n=0 then [45] else [])++t))
      else none
     | [a,b] =>
      if e.op=6 then none else
      match (if binds a<strength e.op then (pE j a).map (fun t=>40 :: (t++[41])) else pE (j+1) a),(if binds b<=strength e.op then (pE j b).map (fun t=>40 :: (t++[41])) else pE (j+1) b) with
      | some l,some r=>some (l++(32 :: (sign e.op++(32 :: r))))
      | _,_=>none
     | _=>none
   else none)
  else none
/-- an operation's text -/
def pO:Nat->Ex->Option (List Nat)
 | 0,_=>none
 | j+1,e =>
  match e.args with
  | [a] =>
   if e.op=6 then
    (if binds a<3\/(a.k=2/\a.x.k=1/\0<a.x.n) then (pE j a).map (fun t=>40 :: (t++[41])) else pE (j+1) a).map
     (fun t=>45 :: ((if a.k=2/\a.x.k=1/\a.x.n=0 then [45] else [])++t))
   else none
  | [a,b] =>
   if e.op=6 then none else
   match (if binds a<strength e.op then (pE j a).map (fun t=>40 :: (t++[41])) else pE (j+1) a),(if binds b<=strength e.op then (pE j b).map (fun t=>40 :: (t++[41])) else pE (j+1) b) with
   | some l,some r=>some (l++(32 :: (sign e.op++(32 :: r))))
   | _,_=>none
  | _=>none
theorem pE_var (k:Nat) (e:Ex) (h:e.k=1):pE (k+1) e=if Va.variable_ (str e.v)=true/\e.x=Va.zero/\e.op=0/\e.args.length=0 then some (str e.v) else none:=by
 unfold pE;rw [if_pos h]
theorem pE_val (k:Nat) (e:Ex) (h:e.k=2):pE (k+1) e=if e.v.size=0/\e.op=0/\e.args.length=0/\Va.may e.x=true then some (Va.text e.x) else none:=by
 unfold pE;rw [if_neg (by omega),if_pos h]
theorem pE_op (k:Nat) (e:Ex) (h:e.k=4):pE (k+1) e=if e.v.size=0/\e.x=Va.zero/\0<strength e.op then pO k e else none:=by
 cases k with
 | zero=>unfold pE pO;rw [if_neg (by omega),if_neg (by omega),if_pos h]
 | succ j=>unfold pE pO;rw [if_neg (by omega),if_neg (by omega),if_pos h]
theorem pE_other (k:Nat) (e:Ex) (h1:e.k≠1) (h2:e.k≠2) (h3:e.k≠4):pE (k+1) e=none:=by
 unfold pE;rw [if_neg h1,if_neg h2,if_neg h3]
def seqO {α:Type}:List (Option α)->Option (List α)
 | []=>some []
 | o :: r=>match o,seqO r with | some a,some l=>some (a :: l) | _,_=>none
def commas (ls:List (List Nat)):List Nat:=[44,32].intercalate ls
def pT (t:Term):Option (List Nat) :=
 if t.k=1 then (if Va.variable_ (str t.v)=true/\t.x=Va.zero then some (str t.v) else none)
 else if t.k=2 then (if t.v.size=0/\Va.may t.x=true then some (Va.text t.x) else none)
 else if t.k=3 then (if t.v.size=0/\t.x=Va.zero then some [95] else none)
 else none
def pA (a:Atom):Option (List Nat) :=
 if Va.name (str a.rel)=true then (seqO (a.terms.map pT)).map (fun ls=>str a.rel++(40 :: (commas ls++[41]))) else none
def noExpr (e:Ex):Bool:=decide (e.k=0) && (decide (e.v.size=0) && (decide (e.x=Va.zero) && (decide (e.op=0) && decide (e.args.length=0))))
def lacks (k:Int) (a:Atom) (op:Int) (l r:Ex) (fn:Int) (av:ByteArray) (of:Ex) (n:Nat):Bool :=
 (decide (k=1\/k=2) || (decide (a.rel.size=0) && decide (a.terms.length=0))) &&
 ((decide (k=3) || (decide (op=0) && (noExpr l && noExpr r))) &&
 (decide (k=4) || (decide (fn=0) && (decide (av.size=0) && (noExpr of && decide (n=0))))))
def cmp (op:Int):List Nat:=if op=1 then [32,61,32] else if op=2 then [32,33,61,32] else if op=3 then [32,60,32] else if op=4 then [32,60,61,32] else if op=5 then [32,62,32] else [32,62,61,32]
def word (fn:Int):List Nat:=if fn=1 then [99,111,117,110,116] else if fn=2 then [115,117,109] else if fn=3 then [109,105,110] else [109,97,120]
/-- a literal's text; the number: how many braces may still be opened -/
def pL:Nat->Li->Option (List Nat)
 | b,.mk k a op l r fn av of body _ _ =>
  if lacks k a op l r fn av of body.length=true then
   if k=1 then pA a
   else if k=2 then (pA a).map (fun t=>[110,111,116,32]++t)
   else if k=3 then
    (if 1<=op/\op<=6 then
     match pE 17 l,pE 17 r with
     | some s,some t=>some (s++(cmp op++t))
     | _,_=>none
    else none)
   else if k=4 then
    match b with
    | 0=>none
    | c+1 =>
     if 1<=fn/\fn<=4/\body.length≠0/\Va.variable_ (str av)=true then
      match (if fn=1 then (if noExpr of=true then some [] else none) else (pE 17 of).map (fun t=>t++[32,58,32])),seqO (body.map (pL c)) with
      | some o,some ls=>some (str av++([32,61,32]++(word fn++([32,123,32]++(o++(commas ls++[32,125]))))))
      | _,_=>none
     else none
   else none
  else none
termination_by b _=>b
def pB (b:Nat) (l:List Li):Option (List Nat):=(seqO (l.map (pL b))).map commas
def pR (r:Rul):Option (List Nat) :=
 match pA r.head with
 | none=>none
 | some h=>if r.body.length=0 then some h else (pB 16 r.body).map (fun t=>h++([32,58,45,32]++t))
def pTy (t:Int):Option (List Nat):=if t=1 then some [110,117,109] else if t=2 then some [115,121,109] else none
def pD (x:Rel):Option (List Nat) :=
 if Va.name (str x.name)=true then (seqO (x.types.map pTy)).map (fun ls=>[114,101,108,97,116,105,111,110,32]++(str x.name++(40 :: (commas ls++[41])))) else none
def lines (ls:List (List Nat)):List Nat:=ls.flatMap (fun l=>l++[46,10])
def pP (p:Prog):Option (List Nat) :=
 match seqO (p.rels.map pD),seqO (p.rules.map pR) with
 | some a,some b=>some (lines a++lines b)
 | _,_=>none
theorem seqO_app {α:Type}:∀ (a b:List (Option α)),seqO (a++b)=match seqO a,seqO b with | some x,some y=>some (x++y) | _,_=>none
 | [],b=>by simp [seqO];cases seqO b <;> rfl
 | o :: r,b=>by
  rw [List.cons_append]
  simp only [seqO]
  rw [seqO_app r b]
  cases o <;> cases seqO r <;> cases seqO b <;> simp
theorem seqO_snoc {α:Type} (a:List (Option α)) (o:Option α):seqO (a++[o])=match seqO a,o with | some x,some y=>some (x++[y]) | _,_=>none:=by
 rw [seqO_app]
 cases seqO a <;> cases o <;> simp [seqO]
end Go.Proofs.YtohnmnfhmbmoaaaGreatDoor.Pr
namespace Go.Proofs.YtohnmnfhmbmoaaaGreatDoor.Sy
open Lx (Tok)
open Va (Val)
open Pr (Term Atom Ex Li Rul Rel Prog)
set_option linter.unusedVariables false
abbrev Flt:=Nat × Nat × Nat
/-- a text's words; why no further one can be read -/
structure Env where
 ws:List Tok
 last:Flt
def zT:Tok:=⟨0,[],0,0,[],0,0⟩
def Env.tk (v:Env) (i:Nat):Tok:=v.ws.getD i zT
def Env.give (v:Env) (c i:Nat):Flt:=if i<v.ws.length then (c,(v.tk i).line,(v.tk i).col) else v.last
def sign (t:Tok) (s:List Nat):Bool:=decide (t.text=s) && (decide (t.kind=5) || decide (t.kind=1))
def resW:List (List Nat):=[[114,101,108,97,116,105,111,110],[110,111,116],[110,117,109],[115,121,109],[109,111,100],[99,111,117,110,116],[115,117,109],[109,105,110],[109,97,120]]
def plain (t:Tok):Bool:=decide (t.kind=1) && !(resW.contains t.text)
/-- what is read, and the place behind it; or the fault -/
inductive PR (α:Type) where
 | ok (a:α) (i:Nat)
 | err (f:Flt)
def PR.bind {α β:Type} (p:PR α) (f:α->Nat->PR β):PR β:=match p with | .ok a i=>f a i | .err e=>.err e
@[simp] theorem PR.bind_ok {α β:Type} (a:α) (i:Nat) (f:α->Nat->PR β):(PR.ok a i).bind f=f a i:=rfl
@[simp] theorem PR.bind_err {α β:Type} (e:Flt) (f:α->Nat->PR β):(PR.err e:PR α).bind f=.err e:=rfl
def must (v:Env) (s:List Nat) (i:Nat):PR Unit:=if sign (v.tk i) s=true then .ok () (i+1) else .err (v.give 40 i)
/-- what stands behind the first of a list -/
def listF {α:Type} (v:Env) (fin:List Nat) (one:Nat->PR α):Nat->List α->Nat->PR (List α)
 | 0,_,_=>.err v.last
 | k+1,acc,i=>if sign (v.tk i) [44]=true then (one (i+1)).bind fun a j=>listF v fin one k (acc++[a]) j else (must v fin i).bind fun _ j=>.ok acc j
def list {α:Type} (v:Env) (fin:List Nat) (one:Nat->PR α) (i:Nat):PR (List α) :=
 if sign (v.tk i) fin=true then .ok [] (i+1) else (one i).bind fun a j=>listF v fin one (v.ws.length+1) [a] j
def txt (l:List Nat):ByteArray:=Lx.ofS l
def name (v:Env) (i:Nat):PR Tok:=if plain (v.tk i)=true then .ok (v.tk i) (i+1) else .err (v.give 40 i)
/-- a constant, and how many words it has -/
def constant (v:Env) (i:Nat):Option (Val × Nat) :=
 if (v.tk i).kind=3\/(v.tk i).kind=4 then some (⟨(v.tk i).vk,(v.tk i).num,(v.tk i).sym⟩,1)
 else if plain (v.tk i)=true then some (⟨2,0,(v.tk i).text⟩,1)
 else if sign (v.tk i) [45]=true/\(v.tk (i+1)).kind=3 then some (⟨1,-((v.tk (i+1)).num:Int),[]⟩,2)
 else none
def value (v:Env) (i:Nat):PR Val :=
 match constant v i with
 | some (c,n)=>.ok c (i+n)
 | none=>.err (v.give 40 (if sign (v.tk i) [45]=true then i+1 else i))
def term (v:Env) (i:Nat):PR Term :=
 if (v.tk i).kind=2 then .ok ⟨1,txt (v.tk i).text,Va.zero⟩ (i+1)
 else if sign (v.tk i) [95]=true then .ok ⟨3,txt [],Va.zero⟩ (i+1)
 else (value v i).bind fun c j=>.ok ⟨2,txt [],c⟩ j
def atom (v:Env) (i:Nat):PR Atom :=
 (name v i).bind fun t j=>(must v [40] j).bind fun _ j=>(list v [41] (term v) j).bind fun l j=>.ok ⟨txt t.text,l⟩ j
/-- an operation's line of the grammar, and the operation -/
def level (t:Tok):Nat × Nat :=
 if sign t [43]=true then (1,1) else if sign t [45]=true then (1,2) else if sign t [42]=true then (2,3)
 else if sign t [47]=true then (2,4) else if sign t [109,111,100]=true then (2,5) else (0,0)
def operand (t:Tok):Bool :=
 decide (t.kind=2) || (decide (t.kind=3) || (decide (t.kind=4) || (plain t || (sign t [45] || sign t [40]))))
def chainF (v:Env) (line:Nat) (sub:Nat->Nat->PR (Ex × Nat)) (above:Nat):Nat->Ex->Nat->Nat->PR (Ex × Nat)
 | 0,_,_,_=>.err v.last
 | k+1,e,d,i =>
  if (level (v.tk i)).1≠line then .ok (e,d) i
  else if 16<above+d+1 then .err (v.give 41 i)
  else (sub (above+1) (i+1)).bind fun r j=>chainF v line sub above k (.mk 4 (txt []) Va.zero (level (v.tk i)).2 [e,r.1]) (1+max d r.2) j
def exprF (v:Env):Nat->Nat->Nat->Nat->PR (Ex × Nat)
 | 0,_,_,_=>.err v.last
 | k+1,line,above,i =>
  if line=3 then
   if (v.tk i).kind=2 then .ok (.mk 1 (txt (v.tk i).text) Va.zero 0 [],0) (i+1)
   else match constant v i with
    | some (c,n)=>.ok (.mk 2 (txt []) c 0 [],0) (i+n)
    | none =>
     if sign (v.tk i) [45]=true then
      if 16<=above/\operand (v.tk (i+1))=true then .err (v.give 41 (i+1))
      else (exprF v k 3 (above+1) (i+1)).bind fun r j=>.ok (.mk 4 (txt []) Va.zero 6 [r.1],r.2+1) j
     else if sign (v.tk i) [40]=true/\16<=above then .err (v.give 41 i)
     else (must v [40] i).bind fun _ j=>(exprF v k 1 (above+1) j).bind fun r j=>(must v [41] j).bind fun _ j=>.ok (r.1,r.2+1) j
  else
   (exprF v k (line+1) above i).bind fun r j=>chainF v line (exprF v k (line+1)) above (v.ws.length+1) r.1 r.2 j
def expr (v:Env) (i:Nat):PR Ex:=(exprF v 60 1 0 i).bind fun r j=>.ok r.1 j
def placeF (t:Tok):List (List Nat)->Nat->Nat
 | [],_=>0
 | s :: r,k=>if sign t s=true then k+1 else placeF t r (k+1)
def place (t:Tok) (l:List (List Nat)):Nat:=placeF t l 0
def fnOf (t:Tok):Nat:=place t [[99,111,117,110,116],[115,117,109],[109,105,110],[109,97,120]]
def cmpOf (t:Tok):Nat:=place t [[61],[33,61],[60],[60,61],[62],[62,61]]
def tyOf (t:Tok):Nat:=place t [[110,117,109],[115,121,109]]
def ex0:Ex:=.mk 0 (txt []) Va.zero 0 []
def at0:Atom:=⟨txt [],[]⟩
def bodyF (v:Env) (one:Nat->PR Li):Nat->List Li->Nat->PR (List Li)
 | 0,_,_=>.err v.last
 | k+1,acc,i=>if sign (v.tk i) [44]=true then (one (i+1)).bind fun a j=>bodyF v one k (acc++[a]) j else .ok acc i
def bodyOf (v:Env) (one:Nat->PR Li) (i:Nat):PR (List Li):=(one i).bind fun a j=>bodyF v one (v.ws.length+1) [a] j
/-- an aggregate: its function, its variable, what it is of, its body -/
structure Ag where
 fn:Int
 av:ByteArray
 of:Ex
 body:List Li
def aggOf (v:Env) (one:Nat->PR Li) (br i:Nat):PR Ag :=
 if sign (v.tk (i+3)) [123]=true/\16<=br then .err (v.give 41 (i+3))
 else (must v [123] (i+3)).bind fun _ j =>
  (if fnOf (v.tk (i+2))≠1 then (expr v j).bind fun e j=>(must v [58] j).bind fun _ j=>.ok e j else .ok ex0 j).bind fun o j =>
   (bodyOf v one j).bind fun b j=>(must v [125] j).bind fun _ j=>.ok ⟨(fnOf (v.tk (i+2)):Nat),txt (v.tk i).text,o,b⟩ j
def litF (v:Env):Nat->Nat->Nat->PR Li
 | 0,_,_=>.err v.last
 | k+1,br,i =>
  if sign (v.tk i) [110,111,116]=true then (atom v (i+1)).bind fun a j=>.ok (.mk 2 a 0 ex0 ex0 0 (txt []) ex0 [] (v.tk i).line (v.tk i).col) j
  else if plain (v.tk i)=true/\sign (v.tk (i+1)) [40]=true then (atom v i).bind fun a j=>.ok (.mk 1 a 0 ex0 ex0 0 (txt []) ex0 [] (v.tk i).line (v.tk i).col) j
  else if (v.tk i).kind=2/\sign (v.tk (i+1)) [61]=true/\0<fnOf (v.tk (i+2)) then
   (aggOf v (litF v k (br+1)) br i).bind fun g j=>.ok (.mk 4 at0 0 ex0 ex0 g.fn g.av g.of g.body (v.tk i).line (v.tk i).col) j
  else (expr v i).bind fun l j=>if cmpOf (v.tk j)=0 then .err (v.give 40 j)
   else (expr v (j+1)).bind fun r j2=>.ok (.mk 3 at0 (cmpOf (v.tk j):Nat) l r 0 (txt []) ex0 [] (v.tk i).line (v.tk i).col) j2
def lit (v:Env) (br i:Nat):PR Li:=litF v (18 - br) br i
def body (v:Env) (i:Nat):PR (List Li):=bodyOf v (lit v 0) i
def rule (v:Env) (i:Nat):PR Rul :=
 (atom v i).bind fun h j=>(if sign (v.tk j) [58,45]=true then body v (j+1) else .ok [] j).bind fun b j=>.ok ⟨h,b,(v.tk i).line,(v.tk i).col⟩ j
def ty (v:Env) (i:Nat):PR Int:=if tyOf (v.tk i)=0 then .err (v.give 40 i) else .ok (tyOf (v.tk i):Nat) (i+1)
def relation (v:Env) (i:Nat):PR Rel :=
 (name v i).bind fun t j=>(must v [40] j).bind fun _ j=>(list v [41] (ty v) j).bind fun l j=>.ok ⟨txt t.text,l,t.line,t.col⟩ j
def progF (v:Env):Nat->Prog->Nat->PR Prog
 | 0,_,_=>.err v.last
 | k+1,p,i =>
  if i<v.ws.length then
   if sign (v.tk i) [114,101,108,97,116,105,111,110]=true then (relation v (i+1)).bind fun x j=>(must v [46] j).bind fun _ j=>progF v k ⟨p.rels++[x],p.rules⟩ j
   else (rule v i).bind fun x j=>(must v [46] j).bind fun _ j=>progF v k ⟨p.rels,p.rules++[x]⟩ j
  else .ok p i
def prog (v:Env) (i:Nat):PR Prog:=progF v (v.ws.length+1) ⟨[],[]⟩ i
/-- a whole text's words -/
def whole {α:Type} (v:Env) (one:Nat->PR α):PR α :=
 (one 0).bind fun a i=>if i<v.ws.length\/v.last.1≠42 then .err (v.give 40 i) else .ok a i
end Go.Proofs.YtohnmnfhmbmoaaaGreatDoor.Sy
namespace Go.Proofs.YtohnmnfhmbmoaaaGreatDoor
open Go.RowKit
set_option linter.unusedVariables false
set_option linter.unusedSimpArgs false
set_option maxRecDepth 100000
theorem cell_at {w:World} {b:Nat} {cs:Array Value} {T:TypeId} {fr:Nat × Nat} (h:w.heap[b]?=some (.cells cs T fr)) (i:Nat):w.cell? ⟨b,i,none⟩=cs[i]?:=by simp [World.cell?,h]
theorem free_at {w:World} {b:Nat} {cs:Array Value} {T:TypeId} (h:w.heap[b]?=some (.cells cs T (0,0))) (i:Nat):w.frozen? ⟨b,i,none⟩=false:=by simp [World.frozen?,h]
/-- cells written one behind the other -/
def setCs (w:World) (b:Nat):Nat->List Value->World
 | _,[]=>w
 | o,v :: r=>setCs (w.setCell ⟨b,o,none⟩ v) b (o+1) r
theorem setCs_mod (b:Nat):∀ (vs:List Value) (o:Nat) (w:World),Mod [b] w (setCs w b o vs)
 | [],o,w=>Mod.refl _ _
 | v :: r,o,w=>((Mod.refl [b] w).setCell (p:=⟨b,o,none⟩) (.inl (by simp)) v).trans (setCs_mod b r (o+1) _) (by simp)
def putL (cs:List Value):Nat->List Value->List Value
 | _,[]=>cs
 | o,v :: r=>putL (cs.set o v) (o+1) r
theorem setCs_heap {b:Nat} {T:TypeId} {fr:Nat × Nat}:∀ (vs:List Value) (o:Nat) (cs:List Value) (w:World),w.heap[b]?=some (.cells cs.toArray T fr) ->
  (setCs w b o vs).heap[b]?=some (.cells (putL cs o vs).toArray T fr)
 | [],o,cs,w,h=>h
 | v :: r,o,cs,w,h=>by
  have:=setCell_at h o v
  rw [List.setIfInBounds_toArray] at this
  exact setCs_heap r (o+1) (cs.set o v) _ this
theorem putL_get:∀ (vs:List Value) (o:Nat) (cs:List Value) (j:Nat),o+vs.length<=cs.length->(putL cs o vs)[j]?=if j<o then cs[j]? else if j<o+vs.length then vs[j - o]? else cs[j]?
 | [],o,cs,j,_=>by
  by_cases h:j<o
  ·rw [if_pos h];rfl
  ·rw [if_neg h,if_neg (by simp;omega)];rfl
 | v :: r,o,cs,j,h=>by
  simp only [List.length_cons] at h ⊢
  rw [putL,putL_get r (o+1) (cs.set o v) j (by simp;omega)]
  by_cases h1:j<o
  ·rw [if_pos (by omega),if_pos h1,List.getElem?_set_ne (by omega)]
  ·rw [if_neg h1]
   by_cases h2:j=o
   ·subst h2
    rw [if_pos (by omega),if_pos (by omega),List.getElem?_set_self (by omega)];simp
   ·rw [if_neg (by omega)]
    by_cases h3:j<o+(r.length+1)
    ·rw [if_pos (by omega),if_pos h3,show j - o=(j - (o+1))+1 by omega,List.getElem?_cons_succ]
    ·rw [if_neg (by omega),if_neg h3,List.getElem?_set_ne (by omega)]
/-- a row written whole -/
theorem setCs_row {w:World} {b:Nat} {cs:Array Value} {T:TypeId} {fr:Nat × Nat} {vs:List Value} (h:w.heap[b]?=some (.cells cs T fr)) (hn:cs.size=vs.length):(setCs w b 0 vs).heap[b]?=some (.cells vs.toArray T fr):=by
 have h2:=setCs_heap vs 0 cs.toList w (by simpa using h)
 rw [h2]
 congr 2
 refine congrArg List.toArray ?_
 apply List.ext_getElem?
 intro j
 rw [putL_get _ _ _ _ (by simp [hn])]
 rw [if_neg (by omega)]
 by_cases hj:j<vs.length
 ·rw [if_pos (by omega)];simp
 ·rw [if_neg (by omega),List.getElem?_eq_none (by simp;omega),List.getElem?_eq_none (by omega)]
end Go.Proofs.YtohnmnfhmbmoaaaGreatDoor
