/- THE TEXTS MERGED: LxRune VaBase VaPlain VaFn. -/
import Derived.Test.YtdablillhbfgkaaDoorKT1
import Derived.Laws.RangeAny
import Derived.Lib.AtoiAll
import Derived.Lib.Atoi
import Derived.Lib.ItoaNum
namespace Go.Proofs.YtdablillhbfgkaaDoor.Lx
open Cod (str)
set_option linter.unusedSimpArgs false
theorem get_str (s:ByteArray) (i:Nat) (h:i<s.size):(str s).getD i 0=(s[i]'h).toNat:=by
 unfold str
 have h':i<s.data.toList.length:=by rw [Array.length_toList];exact h
 rw [List.getD_eq_getElem?_getD,List.getElem?_map,List.getElem?_eq_getElem h']
 simp
 rfl
theorem get_bang (s:ByteArray) (i:Nat) (h:i<s.size):(s.get! i).toNat=(str s).getD i 0:=by
 rw [get_str s i h]
 have:=get_at s i h
 simp only [Nat.add_zero] at this
 rw [this]
/-- a rune's bytes behind the first are no letters -/
theorem decode_cont (s:ByteArray) (pos:Nat) (h:pos<s.size) (ha:128<=(str s).getD pos 0) (i:Nat) (hi:i<(Utf8.decode s pos).2):pos+i<s.size/\128<=(str s).getD (pos+i) 0:=by
 have hn:¬ (s.get! (pos+0)).toNat<128:=by
  rw [Nat.add_zero,get_bang s pos h];omega
 have key:∀ k,(decide (pos+k<s.size) && (s.get! (pos+k)).toNat / 64 == 2)=true->pos+k<s.size/\128<=(str s).getD (pos+k) 0:=by
  intro k hk
  simp at hk
  rw [<-get_bang s (pos+k) hk.1]
  exact ⟨hk.1,by omega⟩
 have h0:pos+0<s.size/\128<=(str s).getD (pos+0) 0:=⟨h,ha⟩
 have one:∀ {a:Nat},i<(a,1).2->pos+i<s.size/\128<=(str s).getD (pos+i) 0:=by
  intro a hi
  have:i=0:=by simp at hi;exact hi
  subst this
  exact h0
 simp only [Utf8.decode,hn,if_false] at hi
 split at hi
 ·rename_i h1
  rw [Bool.and_eq_true] at h1
  have k1:=key 1 h1.2
  split at hi
  ·have:i=0\/i=1:=by simp at hi;omega
   rcases this with rfl | rfl
   ·exact h0
   ·exact k1
  ·exact one hi
 ·split at hi
  ·rename_i h1
   rw [Bool.and_eq_true,Bool.and_eq_true] at h1
   have k1:=key 1 h1.1.2
   have k2:=key 2 h1.2
   split at hi
   ·have:i=0\/i=1\/i=2:=by simp at hi;omega
    rcases this with rfl | rfl | rfl
    ·exact h0
    ·exact k1
    ·exact k2
   ·exact one hi
  ·split at hi
   ·rename_i h1
    rw [Bool.and_eq_true,Bool.and_eq_true,Bool.and_eq_true] at h1
    have k1:=key 1 h1.1.1.2
    have k2:=key 2 h1.1.2
    have k3:=key 3 h1.2
    split at hi
    ·have:i=0\/i=1\/i=2\/i=3:=by simp at hi;omega
     rcases this with rfl | rfl | rfl | rfl
     ·exact h0
     ·exact k1
     ·exact k2
     ·exact k3
    ·exact one hi
   ·exact one hi
theorem run_ge_succ (q:Nat->Bool):∀ (l:List Nat) (n:Nat),n<=run q l->n<l.length->q (l.getD n 0)=true->n+1<=run q l
 | [],n,_,h,_=>by simp at h
 | c :: r,0,_,_,h=>by rw [run_cons];simp at h;simp [h]
 | c :: r,n+1,hn,hl,h=>by
  rw [run_cons] at hn ⊢
  by_cases hc:q c=true
  ·rw [if_pos hc] at hn ⊢
   have:=run_ge_succ q r n (by omega) (by simpa using hl) (by simpa using h)
   omega
  ·rw [if_neg hc] at hn;omega
theorem run_stop (q:Nat->Bool):∀ (l:List Nat) (n:Nat),n<=run q l->n<l.length->q (l.getD n 0)=false->run q l=n
 | [],n,_,h,_=>by simp at h
 | c :: r,0,_,_,h=>by rw [run_cons];simp at h;simp [h]
 | c :: r,n+1,hn,hl,h=>by
  rw [run_cons] at hn ⊢
  by_cases hc:q c=true
  ·rw [if_pos hc] at hn ⊢
   have:=run_stop q r n (by omega) (by simpa using hl) (by simpa using h)
   omega
  ·rw [if_neg hc] at hn;omega
theorem run_many (q:Nat->Bool) (l:List Nat) (n:Nat) (hn:n<=run q l):∀ k,(∀ i,i<k->n+i<l.length/\q (l.getD (n+i) 0)=true)->n+k<=run q l
 | 0,_=>by simpa using hn
 | k+1,h=>by
  have:=run_many q l n hn k (fun i hi=>h i (by omega))
  have h2:=h k (by omega)
  exact run_ge_succ q l (n+k) this h2.1 h2.2
/-- a kind of runes and a kind of bytes are the same, and beyond the letters all is one -/
structure Alike (p:Int->Bool) (q:Nat->Bool) (d:Bool):Prop where
 low:∀ c:Nat,c<128->p (c:Int)=q c
 high:∀ c:Nat,128<=c->p (c:Int)=d
 byte:∀ c:Nat,128<=c->q c=d
theorem Alike.step {p:Int->Bool} {q:Nat->Bool} {d:Bool} (h:Alike p q d) (s:ByteArray) (pos:Nat) (hp:pos<s.size) (hr:pos<=run q (str s)) (hd:p ((Utf8.decode s pos).1:Int)=true) :
  pos+(Utf8.decode s pos).2<=run q (str s)/\1<=(Utf8.decode s pos).2:=by
 have hg:=get_str s pos hp
 rcases Nat.lt_or_ge ((str s).getD pos 0) 128 with ha | ha
 ·have e:=decode_ascii s pos hp (by omega)
  rw [e] at hd ⊢
  simp only at hd ⊢
  rw [<-hg,h.low _ ha] at hd
  exact ⟨run_ge_succ q _ pos hr (by rw [Cod.str_len];exact hp) hd,Nat.le_refl _⟩
 ·have e:=decode_high s pos hp (by omega)
  rw [h.high _ e.1] at hd
  subst hd
  refine ⟨run_many q _ pos hr _ (fun i hi=>?_),e.2⟩
  have:=decode_cont s pos hp ha i hi
  exact ⟨by rw [Cod.str_len];exact this.1,h.byte _ this.2⟩
theorem Alike.stop {p:Int->Bool} {q:Nat->Bool} {d:Bool} (h:Alike p q d) (s:ByteArray) (pos:Nat) (hp:pos<s.size) (hr:pos<=run q (str s)) (hd:p ((Utf8.decode s pos).1:Int)=false) :
  run q (str s)=pos:=by
 have hg:=get_str s pos hp
 refine run_stop q _ pos hr (by rw [Cod.str_len];exact hp) ?_
 rcases Nat.lt_or_ge ((str s).getD pos 0) 128 with ha | ha
 ·have e:=decode_ascii s pos hp (by omega)
  rw [e] at hd
  simp only at hd
  rw [<-hg,h.low _ ha] at hd
  exact hd
 ·have e:=decode_high s pos hp (by omega)
  rw [h.high _ e.1] at hd
  rw [h.byte _ ha];exact hd
end Go.Proofs.YtdablillhbfgkaaDoor.Lx
namespace Go.Proofs.YtdablillhbfgkaaDoor
open Go.RowKit
set_option linter.unusedVariables false
set_option linter.unusedSimpArgs false
set_option maxRecDepth 100000
def smallI (c:Int):Bool:=decide (97<=c) && decide (c<=122)
def capitalI (c:Int):Bool:=decide (65<=c) && decide (c<=90)
def digitI (c:Int):Bool:=decide (48<=c) && decide (c<=57)
def restI (c:Int):Bool:=smallI c || (capitalI c || (digitI c || decide (c=95)))
theorem ret_bool {a b:Bool} (h:a=b):Ending.returned (.bool a)=.returned (.bool b):=by rw [h]
theorem alike_rest:Lx.Alike restI Lx.goes false:=by
 refine ⟨fun c hc=>?_,fun c hc=>?_,fun c hc=>?_⟩
 ·rw [Bool.eq_iff_iff];simp [restI,smallI,capitalI,digitI,Lx.goes,Lx.small,Lx.capital,Lx.digit];omega
 ·rw [<-Bool.not_eq_true,];simp [restI,smallI,capitalI,digitI];omega
 ·rw [<-Bool.not_eq_true];simp [Lx.goes,Lx.small,Lx.capital,Lx.digit];omega
theorem mod_iter (w:World) (s:ByteArray) (pos:Nat):Mod [] w (w.iter s pos):=(Mod.refl [] w).alloc _
theorem enter_of {f : FuncId} {fn : Func} {c : Code} (hf : Tryd.prog.funcs[f]? = some fn) (h1 : (fn.name == "runtime.NumGoroutine") = false) (hb : fn.body = some c) (args : Array Value) (w : World) :
  (callFunc f args).run Tryd.prog w=.ok (.enter f args) w:=by
 have h2 : fn.name ≠ "runtime.NumGoroutine" := by simpa using h1
 simp [callFunc,hf,h2,hb]
theorem setCell_at {w:World} {b:Nat} {cs:Array Value} {T:TypeId} {fr:Nat × Nat} (h:w.heap[b]?=some (.cells cs T fr)) (i:Nat) (v:Value) :
  (w.setCell ⟨b,i,none⟩ v).heap[b]?=some (.cells (cs.setIfInBounds i v) T fr):=by
 simp [World.setCell,Array.getElem?_modify,h]
theorem toList_isEmpty (s:ByteArray):s.toList.isEmpty=decide (s.size=0):=by
 rw [ByteArray.toList_eq]
 obtain ⟨⟨l⟩⟩:=s
 cases l <;> simp [ByteArray.size]
theorem alloc_at {w0:World} {n:Nat} (o:Obj) (h:w0.heap.size=n):(w0.alloc o).heap[n]?=some o:=by subst h;exact heap_alloc_new w0 o
theorem ofS_size (l:List Nat):(Lx.ofS l).size=l.length:=by simp [Lx.ofS,ByteArray.size]
theorem drew_at {X:World} {b:Nat} {o:Option Obj} (h:X.heap[b]?=o):X.drew.heap[b]?=o:=h
theorem two_at (w:World) (o1 o2:Obj):((w.alloc o1).alloc o2).heap[w.heap.size]?=some o1:=((Mod.refl [] _).alloc o2).at (heap_alloc_new w o1) (by simp)
theorem conv_reads {w:World} {v:Value} {l:List Nat} (h:Reads w v l):(convert 68 9 v).run Tryd.prog w=.ok (.string (Lx.ofS l)) w:=by
 obtain ⟨hb,hl,⟨x,c,rfl,rfl⟩ | ⟨b,off,cap,rfl,hc⟩⟩:=h
 ·cases x with
  | none=>exact run_convert_bytes_nil w _ _ Tryd.underlying68 Tryd.underlying5 0 c _ Tryd.underlying9
  | some a =>
   rw [run_convert_bytes_string w _ _ _ _ _ _ Tryd.underlying68 Tryd.underlying5 Tryd.underlying9,run_bytesToString w a 0 c [] (run_loadCells_list w a [] (by simp))]
   rfl
 ·have:=run_convert_bytes_arg (P:=Tryd.prog) w _ _ Tryd.underlying68 Tryd.underlying5 b off l.length cap (l.map fun (n:Nat)=>(n:Int)) (by simp) (fun i hi=>by
   rw [hc i hi]
   congr 2
   simp [List.getD_eq_getElem?_getD,List.getElem?_eq_getElem hi]) _ Tryd.underlying9
  rw [this]
  congr 2
  simp [strOfNums,Lx.ofS,List.map_map,Function.comp_def]
theorem fp_lt {w:World} {base:Nat} {e:TypeId} {size:Nat} {v:Value} {n:Nat} {xs:List Value} (h:w.ownsRow base e size v n xs):∀ k∈fp v,k<w.heap.size:=by
 intro k hk
 rcases h.2 with ⟨rfl,_⟩ | ⟨g,cap,cur,rfl,hb,hg,_⟩
 ·simp [fp] at hk
 ·simp [fp] at hk
  subst hk
  exact lt_of_block hg
theorem Reads.past {S:List Nat} {w w':World} {v:Value} {l:List Nat} (h:Reads w v l) (hm:Mod S w w') (hS:∀ t∈S,w.heap.size<=t):Reads w' v l:=by
 obtain ⟨h1,h2,h3 | ⟨b,off,cap,rfl,hc⟩⟩:=h
 ·exact ⟨h1,h2,.inl h3⟩
 ·refine ⟨h1,h2,.inr ⟨b,off,cap,rfl,fun i hi=>hm.cell (hc i hi) (fun hb=>?_)⟩⟩
  have:=hS _ hb
  have:=World.block_lt_of_cell? w _ (hc i hi)
  simp at *
  omega
theorem str_beq (a b:ByteArray):(a.toList == b.toList)=decide (a=b):=by
 rw [ByteArray.toList_eq,ByteArray.toList_eq,Bool.eq_iff_iff]
 obtain ⟨⟨x⟩⟩:=a
 obtain ⟨⟨y⟩⟩:=b
 simp
end Go.Proofs.YtdablillhbfgkaaDoor
namespace Go.Proofs.YtdablillhbfgkaaDoor.Va
open Cod (str)
set_option linter.unusedSimpArgs false
set_option linter.unusedVariables false
structure Val where
 k:Int
 n:Int
 s:List Nat
deriving DecidableEq
def zero:Val:=⟨0,0,[]⟩
def may (v:Val):Bool:=(v.k == 1 && (v.s == [] && (decide (-2147483647<=v.n) && decide (v.n<=2147483647)))) || (v.k == 2 && (v.n == 0 && decide (v.s.length<=64)))
def resW:List (List Nat):=[[114,101,108,97,116,105,111,110],[110,111,116],[110,117,109],[115,121,109],[109,111,100],[99,111,117,110,116],[115,117,109],[109,105,110],[109,97,120]]
def wordB (p:Nat->Bool) (l:List Nat):Bool:=decide (l≠[]) && (decide (l.length<=32) && (p (l.headD 0) && decide (Lx.run Lx.goes l=l.length)))
def name (l:List Nat):Bool:=!resW.contains l && wordB Lx.small l
def hexd (n:Nat):Nat:=if n<10 then 48+n else 55+n
def qb (c:Nat):List Nat:=if c=34\/c=92 then [92,c] else if c=10 then [92,110] else if c<32\/126<c then [92,120,hexd (c / 16),hexd (c % 16)] else [c]
def quoted (l:List Nat):List Nat:=34 :: (l.flatMap qb++[34])
def itoa (n:Int):List Nat:=(Lib.itoa n).map UInt8.toNat
def text (v:Val):List Nat:=if v.k=1 then itoa v.n else if name v.s then v.s else quoted v.s
/-- what stands between the quotes, read loosely -/
def uqF:Nat->List Nat->Option (List Nat)
 | 0,_=>none
 | _+1,[]=>some []
 | k+1,c :: r =>
  if c≠92 then (uqF k r).map (c :: ·)
  else match r with
   | []=>none
   | x :: t =>
    if x=120/\2<=t.length then
     match Lx.hexv (t.headD 0),Lx.hexv ((t.drop 1).headD 0) with
     | some a,some b=>(uqF k (t.drop 2)).map ((16 * a+b) :: ·)
     | _,_=>none
    else if x=110 then (uqF k t).map (10 :: ·)
    else (uqF k t).map (x :: ·)
def uq (l:List Nat):Option (List Nat):=uqF (l.length+1) l
def atoiV (l:List Nat):Option Int:=match Lib.atoiAll (l.map UInt8.ofNat) with | .ok v=>some v | _=>none
/-- what a text is read as, before it is looked at -/
def guess (l:List Nat):Option Val :=
 match atoiV l with
 | some n=>some ⟨1,n,[]⟩
 | none=>if 1<l.length/\l.headD 0=34 then (uq ((l.take (l.length - 1)).drop 1)).map fun t=>⟨2,0,t⟩ else some ⟨2,0,l⟩
def parse (l:List Nat):Option Val :=
 match guess l with
 | none=>none
 | some v=>if may v/\text v=l then some v else none
theorem hexd_hexv {n:Nat} (h:n<16):Lx.hexv (hexd n)=some n:=by
 have:∀ m:Fin 16,Lx.hexv (hexd m.val)=some m.val:=by decide
 exact this ⟨n,h⟩
theorem uqF_esc (k x:Nat) (t:List Nat):uqF (k+1) (92 :: x :: t)=if x=120/\2<=t.length then (match Lx.hexv (t.headD 0),Lx.hexv ((t.drop 1).headD 0) with | some a,some b=>(uqF k (t.drop 2)).map ((16 * a+b) :: ·) | _,_=>none) else if x=110 then (uqF k t).map (10 :: ·) else (uqF k t).map (x :: ·):=by
 conv=>lhs;unfold uqF
 simp only [ne_eq,not_true_eq_false,if_false]
theorem uqF_one (k c:Nat) (r:List Nat) (h:c≠92):uqF (k+1) (c :: r)=(uqF k r).map (c :: ·):=by
 conv=>lhs;unfold uqF
 rw [if_pos h]
theorem uqF_q:∀ (l:List Nat) (k:Nat),(∀ c∈l,c<256)->(l.flatMap qb).length<k->uqF k (l.flatMap qb)=some l
 | [],k,_,h=>by
  obtain ⟨j,rfl⟩:∃ j,k=j+1:=⟨k - 1,by omega⟩
  rfl
 | c :: r,k,hb,h=>by
  obtain ⟨j,rfl⟩:∃ j,k=j+1:=⟨k - 1,by omega⟩
  have hc:=hb c (by simp)
  have ih:=fun j hj=>uqF_q r j (fun x hx=>hb x (by simp [hx])) hj
  rw [List.flatMap_cons] at h ⊢
  generalize List.flatMap qb r=u at *
  by_cases h1:c=34\/c=92
  ·have hq:qb c=[92,c]:=by unfold qb;rw [if_pos h1]
   rw [hq] at h ⊢
   simp only [List.cons_append,List.nil_append,List.length_cons] at h ⊢
   rw [uqF_esc,if_neg (by omega),if_neg (by omega),ih j (by omega)];rfl
  ·by_cases h2:c=10
   ·have hq:qb c=[92,110]:=by unfold qb;rw [if_neg h1,if_pos h2]
    rw [hq] at h ⊢
    simp only [List.cons_append,List.nil_append,List.length_cons] at h ⊢
    rw [uqF_esc,if_neg (by omega),if_pos rfl,ih j (by omega),h2];rfl
   ·by_cases h3:c<32\/126<c
    ·have hq:qb c=[92,120,hexd (c / 16),hexd (c % 16)]:=by unfold qb;rw [if_neg h1,if_neg h2,if_pos h3]
     rw [hq] at h ⊢
     simp only [List.cons_append,List.nil_append,List.length_cons] at h ⊢
     rw [uqF_esc,if_pos ⟨rfl,by simp⟩]
     simp only [List.headD_cons,List.drop_succ_cons,List.drop_zero]
     rw [hexd_hexv (by omega),hexd_hexv (by omega)]
     simp only
     rw [ih j (by omega),show 16 * (c / 16)+c % 16=c by omega];rfl
    ·have hq:qb c=[c]:=by unfold qb;rw [if_neg h1,if_neg h2,if_neg h3]
     rw [hq] at h ⊢
     simp only [List.cons_append,List.nil_append,List.length_cons] at h ⊢
     rw [uqF_one _ _ _ (by omega),ih j (by omega)];rfl
theorem uq_q (l:List Nat) (hb:∀ c∈l,c<256):uq (l.flatMap qb)=some l:=uqF_q l _ hb (by omega)
theorem decFrom_snoc:∀ (l:List UInt8) (acc n:Nat) (b:UInt8) (d:Nat),Lib.decFrom acc l=some n->Lib.digitVal b=some d->Lib.decFrom acc (l++[b])=some (n * 10+d)
 | [],acc,n,b,d,h,hd=>by
  simp only [Lib.decFrom,Option.some.injEq] at h
  subst h
  simp [Lib.decFrom,hd]
 | c :: r,acc,n,b,d,h,hd=>by
  simp only [List.cons_append,Lib.decFrom] at h ⊢
  cases hc:Lib.digitVal c with
  | none=>rw [hc] at h;simp at h
  | some e =>
   rw [hc] at h
   simp only at h ⊢
   exact decFrom_snoc r _ n b d h hd
theorem digitVal_of {d:Nat} (h:d<10):Lib.digitVal (UInt8.ofNat (48+d))=some d:=by
 unfold Lib.digitVal
 have:(UInt8.ofNat (48+d)).toNat=48+d:=by simp;omega
 rw [this,if_pos (by omega)]
 simp
theorem decDigits_val (u:Nat):Lib.decFrom 0 (Lib.decDigits u)=some u:=by
 induction u using Nat.strongRecOn with
 | _ u ih =>
  rw [Lib.decDigits]
  by_cases h:u<10
  ·rw [dif_pos h]
   simp only [Lib.decFrom,digitVal_of h]
   congr 1;omega
  ·rw [dif_neg h]
   have:=decFrom_snoc _ 0 (u / 10) (UInt8.ofNat (48+u % 10)) (u % 10) (ih (u / 10) (by omega)) (digitVal_of (by omega))
   rw [this]
   congr 1;omega
theorem decFrom_ge:∀ (l:List UInt8) (acc n:Nat),Lib.decFrom acc l=some n->acc<=n
 | [],acc,n,h=>by simp only [Lib.decFrom,Option.some.injEq] at h;omega
 | c :: r,acc,n,h=>by
  simp only [Lib.decFrom] at h
  cases hc:Lib.digitVal c with
  | none=>rw [hc] at h;simp at h
  | some e =>
   rw [hc] at h
   have:=decFrom_ge r _ n h
   omega
theorem parse_dec:∀ (l:List UInt8) (acc n:Nat),Lib.decFrom acc l=some n->n<9223372036854775808->Lib.parseUint10 acc l=.ok n
 | [],acc,n,h,_=>by simp only [Lib.decFrom,Option.some.injEq] at h;subst h;rfl
 | c :: r,acc,n,h,hn=>by
  simp only [Lib.decFrom] at h
  unfold Lib.digitVal at h
  by_cases hc:48<=c.toNat/\c.toNat<=57
  ·rw [if_pos hc] at h
   simp only at h
   have:=decFrom_ge r _ n h
   unfold Lib.parseUint10
   rw [if_pos hc,if_neg (by omega),if_neg (by omega)]
   exact parse_dec r _ n h hn
  ·rw [if_neg hc] at h;simp at h
theorem decDigits_head (u:Nat):∃ c r,Lib.decDigits u=c :: r/\48<=c.toNat/\c.toNat<=57:=by
 have h1:=decDigits_val u
 cases hl:Lib.decDigits u with
 | nil =>
  have:=Lib.decDigits_length u
  rw [hl] at this
  have:=Lib.nDigits_pos u
  simp at *
  omega
 | cons c r =>
  refine ⟨c,r,rfl,?_⟩
  rw [hl] at h1
  simp only [Lib.decFrom] at h1
  unfold Lib.digitVal at h1
  by_cases hc:48<=c.toNat/\c.toNat<=57
  ·exact hc
  ·rw [if_neg hc] at h1;simp at h1
theorem mag_dec {u:Nat} (h:u<9223372036854775808):Lib.parseMag (Lib.decDigits u)=.ok u:=by
 obtain ⟨c,r,hl,-⟩:=decDigits_head u
 unfold Lib.parseMag
 rw [if_neg (by rw [hl];simp)]
 exact parse_dec _ _ _ (decDigits_val u) h
theorem atoi_itoa {n:Int} (h1:-2147483648<=n) (h2:n<=2147483648):Lib.atoiAll (Lib.itoa n)=.ok n:=by
 unfold Lib.itoa
 by_cases hn:n<0
 ·rw [if_pos hn]
  unfold Lib.atoiAll
  simp only
  rw [if_pos (by decide),mag_dec (by omega)]
  simp only
  rw [if_neg (by simp),if_neg (by omega),if_pos (by decide)]
  congr 1;omega
 ·rw [if_neg hn]
  obtain ⟨c,r,hl,hc1,hc2⟩:=decDigits_head n.toNat
  have hm:=mag_dec (u:=n.toNat) (by omega)
  rw [hl] at hm ⊢
  unfold Lib.atoiAll
  simp only
  rw [if_neg (by omega),hm]
  simp only
  rw [if_neg (by omega),if_neg (by omega),if_neg (by omega)]
  congr 1;omega
theorem itoa_lt (n:Int):∀ c∈itoa n,c<256:=by
 intro c hc
 unfold itoa at hc
 obtain ⟨b,_,rfl⟩:=List.mem_map.1 hc
 exact b.toNat_lt
theorem map_back (l:List UInt8):(l.map UInt8.toNat).map UInt8.ofNat=l:=by
 rw [List.map_map]
 conv=>rhs;rw [<-List.map_id l]
 exact List.map_congr_left (fun c _=>by simp)
theorem atoiV_itoa {n:Int} (h1:-2147483648<=n) (h2:n<=2147483648):atoiV (itoa n)=some n:=by
 unfold atoiV itoa
 rw [map_back,atoi_itoa h1 h2]
theorem atoiV_other {c:Nat} {r:List Nat} (hc:c<256) (h:¬ (48<=c/\c<=57)) (h3:c≠43) (h5:c≠45):atoiV (c :: r)=none:=by
 have hcc:(UInt8.ofNat c).toNat=c:=by simp;omega
 unfold atoiV
 rw [List.map_cons]
 unfold Lib.atoiAll
 simp only [hcc]
 rw [if_neg (by omega)]
 unfold Lib.parseMag
 rw [if_neg (by simp)]
 unfold Lib.parseUint10
 rw [hcc,if_neg h]
/-- THE LAW: what is written is read as it was -/
theorem parse_text {v:Val} (hb:∀ c∈v.s,c<256) (h:may v=true):parse (text v)=some v:=by
 obtain ⟨k,n,s⟩:=v
 simp only at hb
 have hm:=h
 unfold may at h
 simp only [Bool.or_eq_true,Bool.and_eq_true,beq_iff_eq,decide_eq_true_eq] at h
 have key:guess (text ⟨k,n,s⟩)=some ⟨k,n,s⟩:=by
  rcases h with ⟨rfl,rfl,h1,h2⟩ | ⟨rfl,rfl,h1⟩
  ·unfold text guess
   rw [if_pos rfl,atoiV_itoa (by simp only;omega) (by simp only;omega)]
  ·unfold text
   rw [if_neg (show ¬ (2:Int)=1 by decide)]
   simp only
   by_cases hn:name s=true
   ·rw [if_pos hn]
    unfold name wordB at hn
    simp only [Bool.and_eq_true,decide_eq_true_eq] at hn
    obtain ⟨-,h3,h4,h5,h6⟩:=hn
    cases s with
    | nil=>simp at h3
    | cons c r =>
     unfold Lx.small at h5
     simp only [List.headD_cons,Bool.and_eq_true] at h5
     have h51:97<=c:=of_decide_eq_true h5.1
     have h52:c<=122:=of_decide_eq_true h5.2
     unfold guess
     rw [atoiV_other (by omega) (by omega) (by omega) (by omega)]
     have hne:¬ (1<(c :: r).length/\(c :: r).headD 0=34):=by simp only [List.headD_cons];omega
     simp only [if_neg hne]
   ·rw [if_neg hn]
    unfold quoted guess
    rw [atoiV_other (by omega) (by omega) (by omega) (by omega)]
    simp only
    rw [if_pos ⟨by simp,rfl⟩]
    have:(List.drop 1 (List.take ((34 :: (List.flatMap qb s++[34])).length - 1) (34 :: (List.flatMap qb s++[34]))))=List.flatMap qb s:=by
     simp
    rw [this,uq_q s hb]
    rfl
 unfold parse
 rw [key]
 exact if_pos ⟨hm,rfl⟩
end Go.Proofs.YtdablillhbfgkaaDoor.Va
namespace Go.Proofs.YtdablillhbfgkaaDoor
open Go.RowKit
set_option linter.unusedVariables false
set_option linter.unusedSimpArgs false
set_option maxRecDepth 100000
def nrest (c:Int):Bool:=!restI c
theorem word1_any (c:Int) (w:World) :
  Calls Tryd.prog 77 #[.int .i32 c] w fun e w'=>e=.returned (.bool (nrest c))/\w=w':=by
 unfold nrest restI smallI capitalI digitI
 rcases Int.lt_or_le c 97 with h1 | h1
 ·rcases Int.lt_or_le c 65 with h2 | h2
  ·rcases Int.lt_or_le c 48 with h3 | h3
   ·go_enter Tryd.func77,Tryd.ntmps77
    go_wp2
    all_goals go_ret
    all_goals exact ⟨ret_bool (by rw [Bool.eq_iff_iff];simp <;> omega),rfl⟩
   ·go_enter Tryd.func77,Tryd.ntmps77
    go_wp2
    all_goals go_ret
    all_goals exact ⟨ret_bool (by rw [Bool.eq_iff_iff];simp <;> omega),rfl⟩
  ·rcases Int.lt_or_le 90 c with h3 | h3
   ·go_enter Tryd.func77,Tryd.ntmps77
    go_wp2
    all_goals go_ret
    all_goals exact ⟨ret_bool (by rw [Bool.eq_iff_iff];simp <;> omega),rfl⟩
   ·go_enter Tryd.func77,Tryd.ntmps77
    go_wp2
    all_goals go_ret
    all_goals exact ⟨ret_bool (by rw [Bool.eq_iff_iff];simp <;> omega),rfl⟩
 ·rcases Int.lt_or_le 122 c with h3 | h3
  ·go_enter Tryd.func77,Tryd.ntmps77
   go_wp2
   all_goals go_ret
   all_goals exact ⟨ret_bool (by rw [Bool.eq_iff_iff];simp <;> omega),rfl⟩
  ·go_enter Tryd.func77,Tryd.ntmps77
   go_wp2
   all_goals go_ret
   all_goals exact ⟨ret_bool (by rw [Bool.eq_iff_iff];simp <;> omega),rfl⟩
/-- where a text leaves a kind first -/
def idx (l:List Nat):Int:=if Lx.run Lx.goes l=l.length then -1 else (Lx.run Lx.goes l:Nat)
set_option maxHeartbeats 1000000 in
theorem indexFunc_any (s:ByteArray) (hs:s.size<=9223372036854775807) (w:World) :
  Calls Tryd.prog 101 #[.string s,.func (.func 77) #[] #[],.bool true] w fun e w'=>e=.returned (.int .i64 (idx (Cod.str s)))/\Mod [] w w':=by
 have he:=enter_of Tryd.func77 (by kernel_rfl) rfl
 have hrl:=Lx.run_le Lx.goes (Cod.str s)
 have hlen:=Cod.str_len s
 rw [hlen] at hrl
 go_enter Tryd.func101,Tryd.ntmps101
 go_wp2_with fail
 go_loopw [] (fun w'=>∃ pos:Nat,pos<=Lx.run Lx.goes (Cod.str s)/\w'=w.iter s pos) (fun w'=>s.size - w'.iterPos w.heap.size)
 case atStart=>exact ⟨0,Nat.zero_le _,rfl⟩
 case round =>
  obtain ⟨pos,hr,rfl⟩:=hrel
  by_cases hp:pos<s.size
  ·have hnx:∀ ty,(Instr.next (.pointer (some ⟨w.heap.size,0,none⟩)) true ty).run Tryd.prog (w.iter s pos)=_:=fun ty=>run_next_any w s pos ty hp
   cases hd:restI ((Utf8.decode s pos).1:Int)
   ·have hst:=alike_rest.stop s pos hp hr hd
    have hix:idx (Cod.str s)=(pos:Nat):=by unfold idx;rw [hst,if_neg (by rw [hlen];omega)]
    have hnr:nrest ((Utf8.decode s pos).1:Int)=true:=by unfold nrest;rw [hd];rfl
    have HX:=Lib.hid hix;have HN:=Lib.hid hnr
    clear hd hst hix hnr
    go_wp2_with fail
    refine (word1_any _ _).mono ?_
    rintro e w2 ⟨rfl,rfl⟩
    rw [HN.out]
    go_wp2_with fail
    go_ret
    exact ⟨by rw [HX.out];rfl,mod_iter _ _ _⟩
   ·have hst:=alike_rest.step s pos hp hr hd
    have hnr:nrest ((Utf8.decode s pos).1:Int)=false:=by unfold nrest;rw [hd];rfl
    have HN:=Lib.hid hnr
    clear hd hnr
    go_wp2_with fail
    refine (word1_any _ _).mono ?_
    rintro e w2 ⟨rfl,rfl⟩
    rw [HN.out]
    go_wp2_with fail
    go_roundw
    case rel=>exact ⟨_,hst.1,rfl⟩
    case measure =>
     simp
     omega
  ·have hnx:∀ ty,(Instr.next (.pointer (some ⟨w.heap.size,0,none⟩)) true ty).run Tryd.prog (w.iter s pos)=_:=fun ty=>run_next_end w s pos ty hp
   have hix:idx (Cod.str s)=-1:=by unfold idx;rw [if_pos (by rw [hlen];omega)]
   have HX:=Lib.hid hix
   clear hix
   go_wp2_with fail
   go_ret
   exact ⟨by rw [HX.out];rfl,mod_iter _ _ _⟩
theorem contains_any (s:ByteArray) (hs:s.size<=9223372036854775807) (w:World) :
  Calls Tryd.prog 76 #[.string s,.func (.func 77) #[] #[]] w fun e w'=>e=.returned (.bool (!decide (Lx.run Lx.goes (Cod.str s)=(Cod.str s).length)))/\Mod [] w w':=by
 have h1:=fun w=>indexFunc_any s hs w
 have hix:(idx (Cod.str s)=-1/\Lx.run Lx.goes (Cod.str s)=(Cod.str s).length)\/(0<=idx (Cod.str s)/\Lx.run Lx.goes (Cod.str s)≠(Cod.str s).length):=by
  unfold idx
  by_cases h:Lx.run Lx.goes (Cod.str s)=(Cod.str s).length
  ·exact .inl ⟨if_pos h,h⟩
  ·rw [if_neg h];exact .inr ⟨by omega,h⟩
 generalize idx (Cod.str s)=k at *
 rcases hix with ⟨rfl,hr⟩ | ⟨hk,hr⟩
 ·rw [decide_eq_true hr]
  have H1:=Lib.hid h1
  clear h1 hr
  go_enter Tryd.func76,Tryd.ntmps76
  go_wp2_with (go_at_call 93;go_enter Tryd.func93,Tryd.ntmps93;go_wp2_with fail;refine (H1.out _).mono ?_;rintro e w' ⟨rfl,hm⟩;go_wp2_with fail;go_ret)
  all_goals (go_ret;exact ⟨rfl,hm⟩)
 ·rw [decide_eq_false hr]
  have H1:=Lib.hid h1
  clear h1 hr
  go_enter Tryd.func76,Tryd.ntmps76
  go_wp2_with (go_at_call 93;go_enter Tryd.func93,Tryd.ntmps93;go_wp2_with fail;refine (H1.out _).mono ?_;rintro e w' ⟨rfl,hm⟩;go_wp2_with fail;go_ret)
  all_goals (go_ret;exact ⟨rfl,hm⟩)
/-- a word whose first byte lies between two -/
theorem word_any (s:ByteArray) (hs:s.size<=9223372036854775807) (lo hi:Nat) (p:Nat->Bool) (hp:∀ c,p c=(decide (lo<=c) && decide (c<=hi))) (w:World) :
  Calls Tryd.prog 59 #[.string s,.int .u8 (lo:Nat),.int .u8 (hi:Nat)] w fun e w'=>e=.returned (.bool (Va.wordB p (Cod.str s)))/\Mod [] w w':=by
 have h1:=fun w=>contains_any s hs w
 have hlen:=Cod.str_len s
 have hem:s.toList.isEmpty=decide (s.size=0):=toList_isEmpty s
 by_cases h0:s.size=0
 ·have e:Va.wordB p (Cod.str s)=false:=by
   unfold Va.wordB
   have:Cod.str s=[]:=List.eq_nil_of_length_eq_zero (by omega)
   rw [this];rfl
  have hem2:s.toList.isEmpty=true:=by rw [hem,decide_eq_true h0]
  have E:=Lib.hid e
  clear e h1 hlen hem h0
  go_enter Tryd.func59,Tryd.ntmps59
  go_wp2_with fail
  go_ret
  exact ⟨by rw [E.out];rfl,Mod.refl _ _⟩
 ·have hem2:s.toList.isEmpty=false:=by rw [hem,decide_eq_false h0]
  have hne:Cod.str s≠[]:=fun h=>by rw [h] at hlen;simp at hlen;omega
  by_cases h32:s.size<=32
  ·have h32I:¬ (32:Int)<(s.size:Int):=by omega
   have hhd:s[0].toNat=(Cod.str s).headD 0:=by
    have:=Lx.get_str s 0 (by omega)
    rw [<-this]
    cases Cod.str s <;> rfl
   have hh0:(0:Int)<(s.size:Int):=by omega
   have hpc:=hp ((Cod.str s).headD 0)
   have e:Va.wordB p (Cod.str s)=(p ((Cod.str s).headD 0) && decide (Lx.run Lx.goes (Cod.str s)=(Cod.str s).length)):=by
    unfold Va.wordB
    rw [decide_eq_true hne,decide_eq_true (by omega)]
    simp
   rw [e]
   clear e
   generalize hrun:decide (Lx.run Lx.goes (Cod.str s)=(Cod.str s).length)=rb at *
   generalize (Cod.str s).headD 0=c at *
   have H1:=Lib.hid h1
   clear h1 hem hne hrun
   by_cases hl:lo<=c
   ·have n1:¬ ((s[0].toNat:Int)<(lo:Int)):=by omega
    by_cases hh:c<=hi
    ·have n2:¬ ((hi:Int)<(s[0].toNat:Int)):=by omega
     have hpt:p c=true:=by rw [hpc,decide_eq_true hl,decide_eq_true hh];rfl
     rw [hpt]
     clear hpc hpt hl hh hhd
     go_enter Tryd.func59,Tryd.ntmps59
     go_wp2_with fail
     refine (H1.out _).mono ?_
     rintro e w1 ⟨rfl,hm⟩
     go_wp2_with fail
     go_ret
     exact ⟨by simp,hm⟩
    ·have n2:((hi:Int)<(s[0].toNat:Int)):=by omega
     have hpt:p c=false:=by rw [hpc,decide_eq_false hh];simp
     rw [hpt]
     clear hpc hpt hl hh hhd
     go_enter Tryd.func59,Tryd.ntmps59
     go_wp2_with fail
     go_ret
     exact ⟨rfl,Mod.refl _ _⟩
   ·have n1:((s[0].toNat:Int)<(lo:Int)):=by omega
    have hpt:p c=false:=by rw [hpc,decide_eq_false hl];simp
    rw [hpt]
    clear hpc hpt hl hhd
    go_enter Tryd.func59,Tryd.ntmps59
    go_wp2_with fail
    go_ret
    exact ⟨rfl,Mod.refl _ _⟩
  ·have h32I:(32:Int)<(s.size:Int):=by omega
   have e:Va.wordB p (Cod.str s)=false:=by
    unfold Va.wordB
    rw [decide_eq_false (p:=(Cod.str s).length<=32) (by omega)]
    simp
   have E:=Lib.hid e
   clear e h1 hlen hem h0 hne h32
   go_enter Tryd.func59,Tryd.ntmps59
   go_wp2_with fail
   go_ret
   exact ⟨by rw [E.out];rfl,Mod.refl _ _⟩
def resW8:List (List UInt8):=[[114,101,108,97,116,105,111,110],[110,111,116],[110,117,109],[115,121,109],[109,111,100],[99,111,117,110,116],[115,117,109],[109,105,110],[109,97,120]]
theorem res_str (s:ByteArray):Va.resW.contains (Cod.str s)=resW8.contains s.toList:=by
 have h1:Va.resW=resW8.map (fun l=>l.map UInt8.toNat):=rfl
 have h2:Cod.str s=s.toList.map UInt8.toNat:=by rw [ByteArray.toList_eq];rfl
 rw [h1,h2,Bool.eq_iff_iff,List.contains_iff_mem,List.contains_iff_mem,List.mem_map]
 constructor
 ·rintro ⟨a,ha,he⟩
  have:a=s.toList:=by
   have:=congrArg (fun l=>l.map UInt8.ofNat) he
   simp only [Va.map_back] at this
   exact this
  exact this ▸ ha
 ·exact fun h=>⟨_,h,rfl⟩
set_option maxHeartbeats 1000000 in
theorem Name_any (s:ByteArray) (hs:s.size<=9223372036854775807) (w:World) :
  Calls Tryd.prog 25 #[.string s] w fun e w'=>e=.returned (.bool (Va.name (Cod.str s)))/\Mod [] w w':=by
 have h1:=fun w=>word_any s hs 97 122 Lx.small (fun c=>rfl) w
 have hn:Va.name (Cod.str s)=(!resW8.contains s.toList && Va.wordB Lx.small (Cod.str s)):=by unfold Va.name;rw [res_str]
 rw [hn]
 generalize Va.wordB Lx.small (Cod.str s)=b at *
 have H1:=Lib.hid h1
 clear h1 hn
 go_enter Tryd.func25,Tryd.ntmps25
 go_wp2_with (go_at_call 59;refine (H1.out _).mono ?_;rintro e w' ⟨rfl,hm⟩)
 all_goals (first | (exfalso;simp_all;done) | (go_ret;exact ⟨by congr 1;simp_all [resW8],by first | assumption | exact Mod.refl _ _⟩))
/-- a value as it is handed over -/
def valV (v:Va.Val):Array Value:=#[.int .i64 v.k,.int .i64 v.n,.string (Lx.ofS v.s)]
def chk (v:Va.Val):Int:=if Va.may v then 0 else 20
theorem check_any (v:Va.Val) (w:World) :
  Calls Tryd.prog 19 #[.agg (valV v)] w fun e w'=>e=.returned (.int .i64 (chk v))/\Mod [] w w':=by
 obtain ⟨k,n,s⟩:=v
 unfold valV
 have hsz:=ofS_size s
 have hem:(Lx.ofS s).toList.isEmpty=decide (s=[]):=by
  rw [toList_isEmpty,hsz]
  cases s <;> simp
 by_cases k1:k=1
 ·subst k1
  by_cases hs:s=[]
  ·have e1:(Lx.ofS s).toList.isEmpty=true:=by rw [hem,decide_eq_true hs]
   by_cases h1:-2147483647<=n
   ·by_cases h2:n<=2147483647
    ·have e:chk ⟨1,n,s⟩=0:=by unfold chk Va.may;rw [if_pos];simp [hs,h1,h2]
     have E:=Lib.hid e
     clear hem hs hsz e
     go_enter Tryd.func19,Tryd.ntmps19
     go_wp2_with fail
     go_ret
     exact ⟨by rw [E.out];rfl,(Mod.refl [] w).alloc _⟩
    ·have e:chk ⟨1,n,s⟩=20:=by unfold chk Va.may;rw [if_neg];simp [hs,h1,h2]
     have E:=Lib.hid e
     clear hem hs hsz e
     go_enter Tryd.func19,Tryd.ntmps19
     go_wp2_with fail
     go_ret
     exact ⟨by rw [E.out];rfl,(Mod.refl [] w).alloc _⟩
   ·have e:chk ⟨1,n,s⟩=20:=by unfold chk Va.may;rw [if_neg];simp [hs,h1]
    have E:=Lib.hid e
    clear hem hs hsz e
    go_enter Tryd.func19,Tryd.ntmps19
    go_wp2_with fail
    go_ret
    exact ⟨by rw [E.out];rfl,(Mod.refl [] w).alloc _⟩
  ·have e1:(Lx.ofS s).toList.isEmpty=false:=by rw [hem,decide_eq_false hs]
   have e:chk ⟨1,n,s⟩=20:=by unfold chk Va.may;rw [if_neg];simp [hs]
   have E:=Lib.hid e
   clear hem hs hsz e
   go_enter Tryd.func19,Tryd.ntmps19
   go_wp2_with fail
   go_ret
   exact ⟨by rw [E.out];rfl,(Mod.refl [] w).alloc _⟩
 ·have k1B:(k == 1)=false:=by rw [beq_eq_false_iff_ne];exact k1
  by_cases k2:k=2
  ·subst k2
   by_cases hn:n=0
   ·subst hn
    by_cases hl:s.length<=64
    ·have e:chk ⟨2,0,s⟩=0:=by unfold chk Va.may;rw [if_pos];simp [hl]
     have e2:((Lx.ofS s).size:Int)<=64:=by omega
     have E:=Lib.hid e
     clear hem hsz e hl
     go_enter Tryd.func19,Tryd.ntmps19
     go_wp2_with fail
     go_ret
     exact ⟨by rw [E.out];rfl,(Mod.refl [] w).alloc _⟩
    ·have e:chk ⟨2,0,s⟩=20:=by unfold chk Va.may;rw [if_neg];simp;omega
     have e2:¬ ((Lx.ofS s).size:Int)<=64:=by omega
     have E:=Lib.hid e
     clear hem hsz e hl
     go_enter Tryd.func19,Tryd.ntmps19
     go_wp2_with fail
     go_ret
     exact ⟨by rw [E.out];rfl,(Mod.refl [] w).alloc _⟩
   ·have nB:(n == 0)=false:=by rw [beq_eq_false_iff_ne];exact hn
    have e:chk ⟨2,n,s⟩=20:=by unfold chk Va.may;rw [if_neg];simp [hn]
    have E:=Lib.hid e
    clear hem hsz e
    go_enter Tryd.func19,Tryd.ntmps19
    go_wp2_with fail
    go_ret
    exact ⟨by rw [E.out];rfl,(Mod.refl [] w).alloc _⟩
  ·have k2B:(k == 2)=false:=by rw [beq_eq_false_iff_ne];exact k2
   have e:chk ⟨k,n,s⟩=20:=by unfold chk Va.may;rw [if_neg];simp [k1,k2]
   have E:=Lib.hid e
   clear hem hsz e
   go_enter Tryd.func19,Tryd.ntmps19
   go_wp2_with fail
   go_ret
   exact ⟨by rw [E.out];rfl,(Mod.refl [] w).alloc _⟩
end Go.Proofs.YtdablillhbfgkaaDoor
