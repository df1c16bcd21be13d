/- THE TEXTS MERGED: Mem Tk CodePlain LxPlain VaPlain VaTxtPlain. -/
import Derived.Test.YtohnmnfhmbmoaaaDoorRows
import Derived.WalkKit
import Derived.Lib.Hide
import Derived.Deep.AppendSrc
import Derived.Deep.QuietTactic
import Derived.BigQuiet
import Derived.StillTailTactics
import Derived.WalkSpells
import Derived.WalkLawsBesides
import Derived.WalkSmall
import Derived.OrdersHeld
import Derived.Lib.AtoiAll
import Derived.Lib.Atoi
import Derived.Lib.ItoaNum
namespace Go.Proofs.YtohnmnfhmbmoaaaDoor
open Go.RowKit
set_option linter.unusedVariables false
/-- Of the blocks that were there, those of S alone may have turned. -/
structure Mod (S:List Nat) (w w':World):Prop where
 os:w'.os=w.os
 tape:w'.tape=w.tape
 output:w'.output=w.output
 size:w.heap.size<=w'.heap.size
 block:∀ k,k<w.heap.size->k∉S->w'.heap[k]?=w.heap[k]?
theorem Mod.refl (S:List Nat) (w:World):Mod S w w:=⟨rfl,rfl,rfl,Nat.le_refl _,fun _ _ _=>rfl⟩
theorem Mod.trans {S T:List Nat} {a b c:World} (h:Mod S a b) (k:Mod T b c) (hT:∀ t∈T,t∈S\/a.heap.size<=t):Mod S a c :=
 ⟨k.os.trans h.os,k.tape.trans h.tape,k.output.trans h.output,Nat.le_trans h.size k.size,fun i hi hn =>
  (k.block i (Nat.lt_of_lt_of_le hi h.size) (fun e=>by rcases hT i e with r | r;exact hn r;omega)).trans (h.block i hi hn)⟩
theorem Mod.mono {S T:List Nat} {a b:World} (h:Mod S a b) (hT:∀ t∈S,t∈T\/a.heap.size<=t):Mod T a b :=
 (Mod.refl T a).trans h hT
theorem Mod.drewN {S:List Nat} {a b:World} (h:Mod S a b) (n:Nat):Mod S a (b.drewN n):=⟨h.os,h.tape,h.output,h.size,h.block⟩
theorem Mod.drew {S:List Nat} {a b:World} (h:Mod S a b):Mod S a b.drew:=⟨h.os,h.tape,h.output,h.size,h.block⟩
theorem Mod.alloc {S:List Nat} {a b:World} (h:Mod S a b) (o:Obj):Mod S a (b.alloc o) :=
 h.trans (T:=[]) ⟨rfl,rfl,rfl,by simp,fun k hk _=>Below.heap_alloc _ _ _ hk⟩ (by simp)
theorem Mod.setCell {S:List Nat} {a b:World} (h:Mod S a b) {p:Addr} (hp:p.block∈S\/a.heap.size<=p.block) (u:Value):Mod S a (b.setCell p u) :=
 h.trans (T:=[p.block]) ⟨rfl,rfl,rfl,by simp [World.setCell],fun k hk hn=>Below.heap_setCell _ _ _ _ (by simpa using hn)⟩ (by simpa using hp)
theorem Mod.grown {S:List Nat} {a b c:World} {row:Option Nat} (h:Mod S a b) (hg:b.grownBy c row) (hr:∀ k,row=some k->k∈S\/a.heap.size<=k):Mod S a c :=
 h.trans (T:=row.toList) ⟨hg.os,hg.tape,hg.output,hg.size,fun k hk hn=>hg.block k hk (fun e=>hn (by simp [<-e]))⟩ (fun t ht=>hr t (by simpa using ht))
theorem Mod.cell {S:List Nat} {a b:World} (h:Mod S a b) {p:Addr} {v:Value} (hc:a.cell? p=some v) (hn:p.block∉S):b.cell? p=some v :=
 (World.cell?_of_block (h.block p.block (World.block_lt_of_cell? a p hc) hn)).trans hc
theorem Mod.at {S:List Nat} {a b:World} (h:Mod S a b) {k:Nat} {o:Obj} (hc:a.heap[k]?=some o) (hn:k∉S):b.heap[k]?=some o :=
 (h.block k (lt_of_block hc) hn).trans hc
theorem Mod.below {S:List Nat} {a b:World} (h:Mod S a b) {B:Nat} (hB:B<=a.heap.size) (hS:∀ t∈S,B<=t):Below B a b :=
 ⟨h.os,h.tape,h.output,h.size,fun k hk=>h.block k (by omega) (fun e=>by have:=hS k e;omega)⟩
/-- the block of a slice value -/
def fp:Value->List Nat
 | .slice (some a) _ _=>[a.block]
 | _=>[]
theorem ownBlock_fp (v:Value):∀ k,v.ownBlock=some k->k∈fp v:=by
 intro k h
 unfold Value.ownBlock at h
 split at h
 ·cases h;simp [fp]
 ·cases h
theorem Mod.owns {S:List Nat} {a b:World} (h:Mod S a b) {base:Nat} {e:TypeId} {size:Nat} {v:Value} {n:Nat} {xs:List Value} (ho:a.ownsRow base e size v n xs)
  (hn:∀ k∈fp v,k∉S):b.ownsRow base e size v n xs:=by
 obtain ⟨h1,h2⟩:=ho
 refine ⟨h1,?_⟩
 rcases h2 with h2 | ⟨g,cap,cur,rfl,hg,hh,r⟩
 ·exact .inl h2
 ·exact .inr ⟨g,cap,cur,rfl,hg,h.at hh (hn g (by simp [fp])),r⟩
theorem owns_slice {w:World} {base:Nat} {e:TypeId} {size:Nat} {v:Value} {n:Nat} {xs:List Value} (h:w.ownsRow base e size v n xs):∃ a c,v=.slice a n c:=by
 rcases h.2 with ⟨rfl,rfl⟩ | ⟨g,cap,cur,rfl,r⟩
 ·exact ⟨_,_,rfl⟩
 ·exact ⟨_,_,rfl⟩
section
variable {P:Program} (w:World)
theorem run_append_room_own (t tx ty e:TypeId) (i:TypeInfo) (ht:P.underlying t=some (.slice e)) (hi:P.info? e=some i)
  (g sLen sCap:Nat) (cur:Array Value) (hg:w.heap[g]?=some (.cells cur e (0,0))) (x:Value) (n:Nat) (news:List Value) (hs:Src P i.size tx x n news w)
  (hroom:sLen+n<=sCap) (hfit:sLen * i.size+news.length<=cur.size) :
  (Builtin.append_ #[t,tx] ty #[.slice (some ⟨g,0,none⟩) sLen sCap,x]).run P w =
   .ok (.slice (some ⟨g,0,none⟩) (sLen+n) sCap) (w.setRow g (cur.toList.take (sLen * i.size)++news++cur.toList.drop (sLen * i.size+news.length)).toArray):=by
 have hst:=run_storeCells_at P g (sLen * i.size) e news 0 cur w hg (by simpa using hfit) hs.one
 simp only [Nat.add_zero] at hst
 rcases hs.kind with ⟨e',hk⟩ | hk <;> simp [Builtin.append_,run_underlying ht,run_underlying hk,sizeOf,typeInfo,hi,hs.len,hroom,hs.cells,Addr.add_lit,hst]
theorem run_append_own_src (t tx ty e:TypeId) (i:TypeInfo) (z:Value) (size bytes:Nat) (ht:P.underlying t=some (.slice e)) (hi:P.info? e=some i) (hz:i.zero=some z)
  (hsize:i.size=size) (hby:i.bytes=bytes) (hzs:z.cells.size=size)
  (v:Value) (n:Nat) (xs:List Value) (hown:w.ownsRow 0 e size v n xs)
  (x:Value) (m:Nat) (news:List Value) (hs:Src P size tx x m news w)
  (h63:n+m<=maxLen) (hbytes:(n+m) * bytes<=140737488355328) :
  ∃ v' w',(Builtin.append_ #[t,tx] ty #[v,x]).run P w=.ok v' w'/\w'.ownsRow 0 e size v' (n+m) (xs++news)/\Mod (fp v) w w' /\
   (∀ k∈fp v',k∈fp v\/w.heap.size<=k)/\(v'=.slice none 0 0 ↔ v=.slice none 0 0/\m=0):=by
 subst hsize
 subst hby
 have hl:=hs.newsLen
 have hsmall:n+m<=9223372036854775807:=by simp only [maxLen] at h63;omega
 have hlen:(xs++news).length=(n+m) * i.size:=by rw [List.length_append,hown.1,hl,Nat.add_mul]
 have grown:∀ (old:Nat),old<n+m ->
   (w.drew.alloc (.cells ((xs++news).toArray++Builtin.zeroCells z.cells (grownCap w (n+m) old e - (n+m))) e)).ownsRow 0 e i.size
    (.slice (some ⟨w.heap.size,0,none⟩) (n+m) (grownCap w (n+m) old e)) (n+m) (xs++news):=by
  intro old ho
  have hge:=grownCap_ge w (n+m) old e
  have hcm:grownCap w (n+m) old e<=maxLen:=grownCap_le_maxLen w (n+m) old e h63
  refine ⟨hlen,.inr ⟨w.heap.size,_,_,rfl,Nat.zero_le _,heap_alloc_new w.drew _,hge,hcm,?_,?_⟩⟩
  ·simp only [Array.size_append,List.size_toArray,size_zeroCells,hzs,hlen,<-Nat.add_mul]
   congr 1
   omega
  ·simp only [Array.toList_append]
   rw [<-hlen]
   exact List.take_left
 have gmod:∀ (o:Obj) (S:List Nat),Mod S w (w.drew.alloc o):=fun o S=>((Mod.refl S w).drew).alloc o
 rcases hown.2 with ⟨rfl,rfl⟩ | ⟨g,cap,cur,rfl,hbg,hg,hnc,hcm,hcs,htake⟩
 ·have hx:xs=[]:=List.eq_nil_of_length_eq_zero (by simpa using hown.1)
  subst hx
  by_cases hm:m=0
  ·subst hm
   have hn:news=[]:=List.eq_nil_of_length_eq_zero (by simpa using hl)
   subst hn
   refine ⟨.slice none 0 0,w,?_,World.ownsRow_nil w 0 e i.size,Mod.refl _ _,by simp [fp],by simp⟩
   have hc:(Builtin.firstCells i.size 0 x).run P w=.ok #[] w:=hs.cells
   rcases hs.kind with ⟨e',hk⟩ | hk <;> simp [Builtin.append_,run_underlying ht,run_underlying hk,sizeOf,typeInfo,hi,hs.len,hc]
  ·have hr:=run_append_grow_src (P:=P) w t tx ty e i z ht hi hz none 0 0 [] (run_firstCells_none w.drew i.size 0 0 0) x m news hs (by omega) (by omega) (growslice_fits (by omega) hbytes)
   have hgr:=grown 0 (by omega)
   simp only [Nat.zero_add,List.nil_append] at hgr hr ⊢
   exact ⟨_,_,hr,hgr,gmod _ _,by simp [fp],by simp [hm]⟩
 ·by_cases hroom:n+m<=cap
  ·have hfit:n * i.size+news.length<=cur.size:=by rw [hl,hcs,<-Nat.add_mul];exact Nat.mul_le_mul_right _ hroom
   have hr:=run_append_room_own (P:=P) w t tx ty e i ht hi g n cap cur hg x m news hs hroom hfit
   refine ⟨_,_,hr,⟨hlen,.inr ⟨g,cap,_,rfl,hbg,setRow_heap w g cur _ e _ hg,hroom,hcm,?_,?_⟩⟩,⟨rfl,rfl,rfl,by simp,fun k _ hk=>setRow_other w g k _ (fun e=>hk (by simp [fp,e]))⟩,by simp [fp],by simp⟩
   ·simp only [List.size_toArray,List.length_append,List.length_take,List.length_drop,Array.length_toList]
    omega
   ·rw [htake,<-hlen]
    exact List.take_left
  ·have holds:∀ j u,xs[j]?=some u->w.cell? ((⟨g,0,none⟩:Addr).add j)=some u:=hown.cells (g:=g) rfl
   have hr:=run_append_grow_src (P:=P) w t tx ty e i z ht hi hz (some ⟨g,0,none⟩) n cap xs (run_firstCells_some w.drew i.size n ⟨g,0,none⟩ n cap xs hown.1 (by simpa using holds)) x m news hs (by omega) (by omega) (growslice_fits (by omega) hbytes)
   exact ⟨_,_,hr,grown cap (by omega),gmod _ _,by simp [fp],by simp⟩
theorem wpList_append_src {ops:Array Oper} {rest:List Oper} {o:Oper} {a:Act} {Q:Exit->Act->World->Prop} (hgd:o.guard=none) (s x:Operand) (t tx:TypeId)
  (ho:o.op=.call { callee:=.builtin .append,args:=#[s,x],argTypes:=#[t,tx] })
  (e:TypeId) (i:TypeInfo) (z:Value) (size bytes:Nat) (ht:P.underlying t=some (.slice e)) (hi:P.info? e=some i) (hz:i.zero=some z)
  (hsize:i.size=size) (hby:i.bytes=bytes) (hzs:z.cells.size=size)
  (v:Value) (n:Nat) (xs:List Value) (hs:a.eval s=v) (hown:w.ownsRow 0 e size v n xs)
  (vx:Value) (m:Nat) (news:List Value) (hx:a.eval x=vx) (hsrc:Src P size tx vx m news w)
  (h63:n+m<=maxLen) (hbytes:(n+m) * bytes<=140737488355328)
  (h:∀ v' w',w'.ownsRow 0 e size v' (n+m) (xs++news)->Mod (fp v) w w'->(∀ k∈fp v',k∈fp v\/w.heap.size<=k)->(v'=.slice none 0 0 ↔ v=.slice none 0 0/\m=0)->wpList P ops Q rest (a.put o.dst v') w'):wpList P ops Q (o :: rest) a w :=
 wpList_plain hgd fun K hK=>by
  obtain ⟨v',w',hr,h2,h3,h4,h5⟩:=run_append_own_src (P:=P) w t tx o.type e i z size bytes ht hi hz hsize hby hzs v n xs hown vx m news hsrc h63 hbytes
  unfold Oper.wp execOp
  simp only [ho,resolve,invoke,builtin,Sem.run_bind,Sem.run_pure,Result.andThen_ok,List.map_toArray,List.map_cons,List.map_nil,hs,hx,hr]
  exact hK _ _ (h v' w' h2 h3 h4 h5)
end
open Go.RowKit
set_option linter.unusedVariables false
theorem Lq1 {α : Type} {l : List α} {i : Nat} {a : α} : l.toArray.setIfInBounds i a = (l.set i a).toArray := by simp
theorem Lq2 {α : Type} {x : α} {l : List α} {a : α} : (x :: l).set 0 a = a :: l := rfl
theorem Lq3 {α : Type} {x : α} {l : List α} {n : Nat} {a : α} : (x :: l).set (n + 1) a = x :: l.set n a := rfl
theorem Gq1 {α : Type} {l : List α} {i : Nat} : l.toArray[i]? = l[i]? := by simp
theorem Gq2 {α : Type} {a : α} {l : List α} {n : Nat} : (a :: l)[n + 1]? = l[n]? := rfl
theorem Gq3 {α : Type} {a : α} {l : List α} : (a :: l)[0]? = some a := rfl
theorem Hxq {p : Prop} (h : p) : Hid p := Lib.hid h
theorem Msq {α : Type} {a b : α} : a ∈ [b] ↔ a = b := List.mem_singleton
section
variable {P : Program} {ops : Array Oper} {Q : Exit → Act → World → Prop} {md : Region.Mode} {S : World → Prop}
theorem Tkq (i : Nat) {oi : Oper} {v : Value} {fuel : Nat} {listed : Array Bool} {a : Act} {w : World} (hS : S w)
    (hy : YieldsIf P ops S oi v a) (hQ : ∀ c a w, Q (.panic c) (a.put oi.dst v) w → Q (.panic c) a w)
    (h : wpAnyH P md ops Q S fuel (listed.setIfInBounds i true) (a.put oi.dst v) w)
    (hi : ops[i]? = some oi := by (simp only [Gq1, Gq2, Gq3]) <;> rfl)
    (hs : Region.noSelect ops = true := by kernel_rfl) (hf : Region.free md ops listed i = true := by kernel_rfl) (hr : (Region.ready md ops listed).contains i = true := by kernel_rfl)
    : wpAnyH P md ops Q S (fuel + 1) listed a w :=
  wpAnyH_take hi hs hf hr hQ hy hS h
end
end Go.Proofs.YtohnmnfhmbmoaaaDoor
namespace Go.Proofs.YtohnmnfhmbmoaaaDoor.Cod
/-- a string's bytes -/
def str (s:ByteArray):List Nat:=s.data.toList.map UInt8.toNat
theorem str_len (s:ByteArray):(str s).length=s.size:=by
 unfold str;rw [List.length_map,Array.length_toList];rfl
theorem str_lt (s:ByteArray):∀ c∈str s,c<256:=by
 intro c hc
 obtain ⟨x,_,rfl⟩:=List.mem_map.1 hc
 exact x.toNat_lt
end Go.Proofs.YtohnmnfhmbmoaaaDoor.Cod
namespace Go.Proofs.YtohnmnfhmbmoaaaDoor.Lx
open Cod (str)
set_option linter.unusedSimpArgs false
def small (c:Nat):Bool:=decide (97<=c) && decide (c<=122)
def capital (c:Nat):Bool:=decide (65<=c) && decide (c<=90)
def digit (c:Nat):Bool:=decide (48<=c) && decide (c<=57)
def goes (c:Nat):Bool:=small c || (capital c || (digit c || c == 95))
def blank (c:Nat):Bool:=c == 32 || (c == 9 || (c == 10 || c == 13))
def line (c:Nat):Bool:=!(c == 10)
/-- a string of bytes -/
def ofS (l:List Nat):ByteArray:=⟨(l.map UInt8.ofNat).toArray⟩
theorem str_ofS {l:List Nat} (h:∀ c∈l,c<256):str (ofS l)=l:=by
 unfold str ofS
 rw [List.map_map]
 conv=>rhs;rw [<-List.map_id l]
 exact List.map_congr_left (fun c hc=>by simp [Nat.mod_eq_of_lt (h c hc)])
theorem ofS_str (s:ByteArray):ofS (str s)=s:=by
 unfold ofS str
 rw [List.map_map]
 have:s.data.toList.map (UInt8.ofNat ∘ UInt8.toNat)=s.data.toList:=by
  conv=>rhs;rw [<-List.map_id s.data.toList]
  exact List.map_congr_left (fun c _=>by simp)
 rw [this]
theorem str_extract (s:ByteArray) (a b:Nat):str (s.extract a b)=((str s).drop a).take (b - a):=by
 unfold str
 rw [<-List.map_drop,<-List.map_take]
 congr 1
 rw [ByteArray.data_extract,Array.toList_extract,List.extract_eq_take_drop]
/-- how far a text goes on with bytes of a kind -/
def run (p:Nat->Bool) (s:List Nat):Nat:=(s.takeWhile p).length
theorem run_le (p:Nat->Bool) (s:List Nat):run p s<=s.length:=by
 unfold run
 induction s with
 | nil=>simp
 | cons c r ih=>rw [List.takeWhile_cons];split <;> simp <;> omega
theorem run_nil (p:Nat->Bool):run p []=0:=rfl
theorem run_cons (p:Nat->Bool) (c:Nat) (r:List Nat):run p (c :: r)=if p c then run p r+1 else 0:=by
 unfold run;rw [List.takeWhile_cons];split <;> simp
def numv (l:List Nat):Nat:=l.foldl (fun a c=>10 * a+(c - 48)) 0
def hexv (c:Nat):Option Nat :=
 if 48<=c/\c<=57 then some (c - 48) else if 97<=c/\c<=102 then some (c - 87) else if 65<=c/\c<=70 then some (c - 55) else none
/-- behind a backslash: the byte, how many bytes say it -/
def esc (s:List Nat):Option (Nat × Nat) :=
 match s with
 | []=>none
 | c :: r =>
  if c=34\/c=92 then some (c,1)
  else if c=110 then some (10,1)
  else if c=120 then
   match r with
   | a :: b :: _ =>
    match hexv a,hexv b with
    | some x,some y=>some (16 * x+y,3)
    | _,_=>none
   | _=>none
  else none
/-- the parts of a quoted word from a place on, what they stood for so far, how many bytes are read -/
def quoF:Nat->List Nat->List Nat->Nat->Option (List Nat × Nat)
 | 0,_,_,_=>none
 | _+1,[],_,_=>none
 | k+1,c :: r,acc,n =>
  if c=34 then (if 64<acc.length then none else some (acc,n+1))
  else if c=10 then none
  else if c=92 then
   match esc r with
   | none=>none
   | some (b,m)=>quoF k (r.drop m) (acc++[b]) (n+1+m)
  else quoF k r (acc++[c]) (n+1)
def quo (s:List Nat):Option (List Nat × Nat):=quoF s.length (s.drop 1) [] 1
def two (a b:Nat):Bool:=(a == 58 && b == 45) || ((a == 33 && b == 61) || ((a == 60 && b == 61) || (a == 62 && b == 61)))
def ones:List Nat:=[40,41,123,125,44,46,58,61,60,62,43,45,42,47,95]
def mark (s:List Nat):Nat :=
 match s with
 | []=>0
 | [a]=>if ones.contains a then 1 else 0
 | a :: b :: _=>if two a b then 2 else if ones.contains a then 1 else 0
/-- a word: its kind, how many bytes, its value's kind, number, symbol -/
structure Wd where
 kind:Nat
 n:Nat
 vk:Nat
 num:Nat
 sym:List Nat
deriving DecidableEq
inductive Rw where
 | bad (e:Nat)
 | ok (w:Wd)
deriving DecidableEq
def word (s:List Nat):Rw :=
 if small (s.headD 0) || capital (s.headD 0) then
  if 32<run goes s then .bad 33 else .ok ⟨if capital (s.headD 0) then 2 else 1,run goes s,0,0,[]⟩
 else if digit (s.headD 0) then
  if (1<run digit s/\s.headD 0=48)\/2147483647<numv (s.take (run digit s))\/run digit s<run goes s then .bad 31
  else .ok ⟨3,run digit s,1,numv (s.take (run digit s)),[]⟩
 else if s.headD 0=34 then
  match quo s with
  | none=>.bad 32
  | some (sym,n)=>.ok ⟨4,n,2,0,sym⟩
 else if mark s=0 then .bad 30
 else .ok ⟨5,mark s,0,0,[]⟩
/-- the place behind bytes -/
def adv:Nat × Nat->List Nat->Nat × Nat
 | p,[]=>p
 | p,b :: r=>adv (if b=10 then (p.1+1,1) else (p.1,p.2+1)) r
/-- how many bytes of blanks and remarks: is a remark open? -/
def skipN:Bool->List Nat->Nat
 | _,[]=>0
 | r,c :: t =>
  let r':=if c=35 then true else if c=10 then false else r
  if !r' && !blank c then 0 else skipN r' t+1
theorem skipN_le (r:Bool) (s:List Nat):skipN r s<=s.length:=by
 induction s generalizing r with
 | nil=>simp [skipN]
 | cons c t ih =>
  unfold skipN
  have:=ih (if c=35 then true else if c=10 then false else r)
  simp only
  generalize (if c=35 then true else if c=10 then false else r)=r' at *
  by_cases h:(!r' && !blank c)=true
  ·rw [if_pos h];omega
  ·rw [if_neg h,List.length_cons];omega
structure Tok where
 kind:Nat
 text:List Nat
 vk:Nat
 num:Nat
 sym:List Nat
 line:Nat
 col:Nat
deriving DecidableEq
/-- a scanner: what is left, its place, the place behind the last word, the fault and its place, is the text too long? -/
structure St where
 s:List Nat
 pos:Nat × Nat
 fin:Nat × Nat
 code:Nat
 fp:Nat × Nat
 long:Bool
def start (s:List Nat):St:=⟨s,(1,1),(1,1),0,(0,0),decide (65536<s.length)⟩
def St.skip (x:St):St:={ x with s:=x.s.drop (skipN false x.s),pos:=adv x.pos (x.s.take (skipN false x.s)) }
def next (x:St):St × Option Tok :=
 if x.code≠0 then (x,none)
 else if x.long then ({ x with code:=2 },none)
 else if x.skip.s=[] then (x.skip,none)
 else match word x.skip.s with
  | .bad e=>({ x.skip with code:=e,fp:=x.skip.pos },none)
  | .ok w=>({ x.skip with s:=x.skip.s.drop w.n,pos:=adv x.skip.pos (x.skip.s.take w.n),fin:=adv x.skip.pos (x.skip.s.take w.n) },
    some ⟨w.kind,x.skip.s.take w.n,w.vk,w.num,w.sym,x.skip.pos.1,x.skip.pos.2⟩)
/-- all words that are left, and the scanner behind them -/
def allF:Nat->St->List Tok × St
 | 0,x=>([],x)
 | k+1,x =>
  match next x with
  | (y,none)=>([],y)
  | (y,some t)=>(t :: (allF k y).1,(allF k y).2)
theorem hexv_lt {c x:Nat} (h:hexv c=some x):x<16:=by
 unfold hexv at h
 split at h
 ·simp at h;omega
 ·split at h
  ·simp at h;omega
  ·split at h
   ·simp at h;omega
   ·simp at h
theorem esc_len {s:List Nat} {b m:Nat} (hs:∀ c∈s,c<256) (h:esc s=some (b,m)):1<=m/\m<=s.length/\b<256:=by
 unfold esc at h
 split at h
 ·simp at h
 ·rename_i c r
  have hc:=hs c (by simp)
  split at h
  ·simp at h;obtain ⟨rfl,rfl⟩:=h;simp;omega
  ·split at h
   ·simp at h;obtain ⟨rfl,rfl⟩:=h;simp
   ·split at h
    ·split at h
     ·rename_i a b' t
      split at h
      ·rename_i x y hx hy
       have h1:=hexv_lt hx
       have h2:=hexv_lt hy
       simp at h;obtain ⟨rfl,rfl⟩:=h;simp;omega
      ·simp at h
     ·simp at h
    ·simp at h
theorem quoF_len:∀ (k:Nat) (s acc:List Nat) (n:Nat) (l:List Nat) (m:Nat),(∀ c∈s,c<256)->(∀ c∈acc,c<256)->quoF k s acc n=some (l,m) ->
  n<m/\m<=n+s.length/\(∀ c∈l,c<256)/\l.length<=64
 | 0,_,_,_,_,_,_,_,h=>by simp [quoF] at h
 | k+1,[],_,_,_,_,_,_,h=>by simp [quoF] at h
 | k+1,c :: r,acc,n,l,m,hs,ha,h=>by
  have hc:=hs c (by simp)
  have hr:∀ c∈r,c<256:=fun x hx=>hs x (by simp [hx])
  unfold quoF at h
  split at h
  ·split at h
   ·simp at h
   ·simp at h;obtain ⟨rfl,rfl⟩:=h;exact ⟨by omega,by simp,ha,by omega⟩
  ·split at h
   ·simp at h
   ·split at h
    ·split at h
     ·simp at h
     ·rename_i b m' he
      obtain ⟨e1,e2,e3⟩:=esc_len hr he
      have:=quoF_len k _ _ _ l m (fun c hc=>hr c (List.mem_of_mem_drop hc)) (fun x hx=>by rcases List.mem_append.1 hx with h | h;exact ha x h;simp at h;omega) h
      simp at this ⊢
      refine ⟨by omega,by omega,this.2.2⟩
    ·have:=quoF_len k _ _ _ l m hr (fun x hx=>by rcases List.mem_append.1 hx with h | h;exact ha x h;simp at h;omega) h
     simp at this ⊢
     refine ⟨by omega,by omega,this.2.2⟩
theorem quo_len {s l:List Nat} {m:Nat} (hs:∀ c∈s,c<256) (h:quo s=some (l,m)):1<m/\m<=s.length/\(∀ c∈l,c<256)/\l.length<=64:=by
 cases s with
 | nil=>simp [quo,quoF] at h
 | cons c r =>
  have:=quoF_len _ _ _ _ l m (fun c hc=>hs c (List.mem_of_mem_drop hc)) (by simp) h
  simp at this ⊢
  exact ⟨by omega,by omega,this.2.2⟩
theorem mark_le (s:List Nat):mark s<=2/\mark s<=s.length:=by
 unfold mark
 split
 ·simp
 ·split <;> simp
 ·split
  ·simp
  ·split <;> simp
theorem goes_of_small {c:Nat} (h:(small c || capital c)=true):goes c=true:=by
 unfold goes
 rw [Bool.or_eq_true] at h
 rcases h with h | h <;> simp [h]
theorem run_pos {p:Nat->Bool} {s:List Nat} (hs:s≠[]) (h:p (s.headD 0)=true):1<=run p s:=by
 cases s with
 | nil=>simp at hs
 | cons c r=>rw [run_cons];simp at h;simp [h]
/-- a word has bytes, no more than there are; its symbol is of bytes -/
theorem word_len {s:List Nat} {w:Wd} (hs:∀ c∈s,c<256) (h0:s≠[]) (h:word s=.ok w):1<=w.n/\w.n<=s.length/\(∀ c∈w.sym,c<256)/\w.num<=2147483647/\w.kind<=5/\w.vk<=2:=by
 unfold word at h
 split at h
 ·rename_i h1
  split at h
  ·simp at h
  ·simp at h;subst h
   refine ⟨run_pos h0 (goes_of_small h1),run_le _ _,by simp,by simp,?_,by simp⟩
   simp only;split <;> simp
 ·split at h
  ·rename_i h1
   split at h
   ·simp at h
   ·rename_i h2
    simp at h;subst h
    exact ⟨run_pos h0 h1,run_le _ _,by simp,by simp only;omega,by simp,by simp⟩
  ·split at h
   ·split at h
    ·simp at h
    ·rename_i l m hq
     simp at h;subst h
     obtain ⟨h1,h2,h3,h4⟩:=quo_len hs hq
     exact ⟨by simp only;omega,h2,h3,by simp,by simp,by simp⟩
   ·split at h
    ·simp at h
    ·simp at h;subst h
     have:=mark_le s
     exact ⟨by simp only;omega,this.2,by simp,by simp,by simp,by simp⟩
end Go.Proofs.YtohnmnfhmbmoaaaDoor.Lx
namespace Go.Proofs.YtohnmnfhmbmoaaaDoor.Va
open Cod (str)
set_option linter.unusedSimpArgs false
set_option linter.unusedVariables false
structure Val where
 k:Int
 n:Int
 s:List Nat
deriving DecidableEq
def zero:Val:=⟨0,0,[]⟩
def may (v:Val):Bool:=(v.k == 1 && (v.s == [] && (decide (-2147483647<=v.n) && decide (v.n<=2147483647)))) || (v.k == 2 && (v.n == 0 && decide (v.s.length<=64)))
def resW:List (List Nat):=[[114,101,108,97,116,105,111,110],[110,111,116],[110,117,109],[115,121,109],[109,111,100],[99,111,117,110,116],[115,117,109],[109,105,110],[109,97,120]]
def wordB (p:Nat->Bool) (l:List Nat):Bool:=decide (l≠[]) && (decide (l.length<=32) && (p (l.headD 0) && decide (Lx.run Lx.goes l=l.length)))
def name (l:List Nat):Bool:=!resW.contains l && wordB Lx.small l
def variable_ (l:List Nat):Bool:=wordB Lx.capital l
def hexd (n:Nat):Nat:=if n<10 then 48+n else 55+n
def qb (c:Nat):List Nat:=if c=34\/c=92 then [92,c] else if c=10 then [92,110] else if c<32\/126<c then [92,120,hexd (c / 16),hexd (c % 16)] else [c]
def quoted (l:List Nat):List Nat:=34 :: (l.flatMap qb++[34])
def itoa (n:Int):List Nat:=(Lib.itoa n).map UInt8.toNat
def text (v:Val):List Nat:=if v.k=1 then itoa v.n else if name v.s then v.s else quoted v.s
theorem decFrom_snoc:∀ (l:List UInt8) (acc n:Nat) (b:UInt8) (d:Nat),Lib.decFrom acc l=some n->Lib.digitVal b=some d->Lib.decFrom acc (l++[b])=some (n * 10+d)
 | [],acc,n,b,d,h,hd=>by
  simp only [Lib.decFrom,Option.some.injEq] at h
  subst h
  simp [Lib.decFrom,hd]
 | c :: r,acc,n,b,d,h,hd=>by
  simp only [List.cons_append,Lib.decFrom] at h ⊢
  cases hc:Lib.digitVal c with
  | none=>rw [hc] at h;simp at h
  | some e =>
   rw [hc] at h
   simp only at h ⊢
   exact decFrom_snoc r _ n b d h hd
theorem digitVal_of {d:Nat} (h:d<10):Lib.digitVal (UInt8.ofNat (48+d))=some d:=by
 unfold Lib.digitVal
 have:(UInt8.ofNat (48+d)).toNat=48+d:=by simp;omega
 rw [this,if_pos (by omega)]
 simp
theorem decDigits_val (u:Nat):Lib.decFrom 0 (Lib.decDigits u)=some u:=by
 induction u using Nat.strongRecOn with
 | _ u ih =>
  rw [Lib.decDigits]
  by_cases h:u<10
  ·rw [dif_pos h]
   simp only [Lib.decFrom,digitVal_of h]
   congr 1;omega
  ·rw [dif_neg h]
   have:=decFrom_snoc _ 0 (u / 10) (UInt8.ofNat (48+u % 10)) (u % 10) (ih (u / 10) (by omega)) (digitVal_of (by omega))
   rw [this]
   congr 1;omega
theorem decDigits_head (u:Nat):∃ c r,Lib.decDigits u=c :: r/\48<=c.toNat/\c.toNat<=57:=by
 have h1:=decDigits_val u
 cases hl:Lib.decDigits u with
 | nil =>
  have:=Lib.decDigits_length u
  rw [hl] at this
  have:=Lib.nDigits_pos u
  simp at *
  omega
 | cons c r =>
  refine ⟨c,r,rfl,?_⟩
  rw [hl] at h1
  simp only [Lib.decFrom] at h1
  unfold Lib.digitVal at h1
  by_cases hc:48<=c.toNat/\c.toNat<=57
  ·exact hc
  ·rw [if_neg hc] at h1;simp at h1
theorem itoa_lt (n:Int):∀ c∈itoa n,c<256:=by
 intro c hc
 unfold itoa at hc
 obtain ⟨b,_,rfl⟩:=List.mem_map.1 hc
 exact b.toNat_lt
theorem map_back (l:List UInt8):(l.map UInt8.toNat).map UInt8.ofNat=l:=by
 rw [List.map_map]
 conv=>rhs;rw [<-List.map_id l]
 exact List.map_congr_left (fun c _=>by simp)
def hf (c:Nat):Option Nat:=if 48<=c/\c<=57 then some (c - 48) else if 65<=c/\c<=70 then some (c - 55) else none
def dcF:Nat->Nat->List Nat->Option Nat
 | _,n,[]=>some n
 | i,n,c :: r=>if Lx.digit c=true/\i<=11 then dcF (i+1) (n * 10+(c - 48)) r else none
def dec (l:List Nat):Option Int:=if l.headD 0=45 then (dcF 0 0 (l.drop 1)).map (fun (n:Nat)=>-(n:Int)) else (dcF 0 0 l).map (fun (n:Nat)=>(n:Int))
def hx2 (r:List Nat):Option Nat:=match hf (r.headD 0),hf ((r.drop 1).headD 0) with | some a,some b=>some (a * 16+b) | _,_=>none
def ruqF:Nat->List Nat->List Nat
 | k+1,c :: x :: r =>
  if c≠92 then c :: ruqF k (x :: r)
  else if x=110 then 10 :: ruqF k r
  else match (if x=120/\3<=r.length then hx2 r else none) with
   | some b=>b :: ruqF k (r.drop 2)
   | none=>x :: ruqF k r
 | _,_=>[]
def ruq (l:List Nat):List Nat:=ruqF (l.length+1) (l.drop 1)
def rguess (l:List Nat):Option Val :=
 if l.headD 0=45\/Lx.digit (l.headD 0)=true then (dec l).map (fun n=>⟨1,n,[]⟩)
 else if l.headD 0=34 then some ⟨2,0,ruq l⟩ else some ⟨2,0,l⟩
theorem hf_hexd {n:Nat} (h:n<16):hf (hexd n)=some n:=by
 have:∀ m:Fin 16,hf (hexd m.val)=some m.val:=by decide
 exact this ⟨n,h⟩
theorem ruqF_one (k c x:Nat) (r:List Nat) (h:c≠92):ruqF (k+1) (c :: x :: r)=c :: ruqF k (x :: r):=by
 simp only [ruqF];rw [if_pos h]
theorem ruqF_esc (k x:Nat) (r:List Nat):ruqF (k+1) (92 :: x :: r)=if x=110 then 10 :: ruqF k r else match (if x=120/\3<=r.length then hx2 r else none) with | some b=>b :: ruqF k (r.drop 2) | none=>x :: ruqF k r:=by
 simp only [ruqF];rw [if_neg (by simp)]
theorem ruqF_end (k:Nat) (l:List Nat) (h:l.length<2):ruqF k l=[]:=by
 match k,l,h with
 | 0,_,_=>unfold ruqF;rfl
 | k+1,[],_=>unfold ruqF;rfl
 | k+1,[_],_=>unfold ruqF;rfl
theorem ruqF_q:∀ (l:List Nat) (k:Nat),(∀ c∈l,c<256)->(l.flatMap qb).length<k->ruqF k (l.flatMap qb++[34])=l
 | [],k,_,h=>ruqF_end _ _ (by simp)
 | c :: r,k,hb,h=>by
  obtain ⟨j,rfl⟩:∃ j,k=j+1:=⟨k - 1,by omega⟩
  have hc:=hb c (by simp)
  have ih:=fun j hj=>ruqF_q r j (fun x hx=>hb x (by simp [hx])) hj
  rw [List.flatMap_cons] at h ⊢
  generalize List.flatMap qb r=u at *
  by_cases h1:c=34\/c=92
  ·have hq:qb c=[92,c]:=by unfold qb;rw [if_pos h1]
   rw [hq] at h ⊢
   simp only [List.cons_append,List.nil_append,List.length_cons] at h ⊢
   rw [ruqF_esc,if_neg (by omega),if_neg (by omega)]
   simp only
   rw [ih j (by omega)]
  ·by_cases h2:c=10
   ·have hq:qb c=[92,110]:=by unfold qb;rw [if_neg h1,if_pos h2]
    rw [hq] at h ⊢
    simp only [List.cons_append,List.nil_append,List.length_cons] at h ⊢
    rw [ruqF_esc,if_pos rfl,ih j (by omega),h2]
   ·by_cases h3:c<32\/126<c
    ·have hq:qb c=[92,120,hexd (c / 16),hexd (c % 16)]:=by unfold qb;rw [if_neg h1,if_neg h2,if_pos h3]
     rw [hq] at h ⊢
     simp only [List.cons_append,List.nil_append,List.length_cons] at h ⊢
     have hx:hx2 (hexd (c / 16) :: hexd (c % 16) :: (u++[34]))=some c:=by
      unfold hx2
      simp only [List.headD_cons,List.drop_succ_cons,List.drop_zero]
      rw [hf_hexd (by omega),hf_hexd (by omega)]
      simp only
      congr 1;omega
     rw [ruqF_esc,if_neg (by omega),if_pos ⟨rfl,by simp⟩,hx]
     simp only [List.drop_succ_cons,List.drop_zero]
     rw [ih j (by omega)]
    ·have hq:qb c=[c]:=by unfold qb;rw [if_neg h1,if_neg h2,if_neg h3]
     rw [hq] at h ⊢
     simp only [List.cons_append,List.nil_append,List.length_cons] at h ⊢
     have hu:=ih j (by omega)
     cases hu2:u++[34] with
     | nil=>simp at hu2
     | cons x t =>
      rw [hu2] at hu
      rw [ruqF_one _ _ _ _ (by omega),hu]
theorem ruq_q (l:List Nat) (hb:∀ c∈l,c<256):ruq (quoted l)=l:=by
 unfold ruq quoted
 rw [List.drop_succ_cons,List.drop_zero]
 exact ruqF_q l _ hb (by simp;omega)
theorem digit_iff (c:Nat):Lx.digit c=true ↔ 48<=c/\c<=57:=by
 unfold Lx.digit
 simp
theorem dcF_dec:∀ (l:List UInt8) (i acc n:Nat),Lib.decFrom acc l=some n->i+l.length<=12->dcF i acc (l.map UInt8.toNat)=some n
 | [],i,acc,n,h,_=>by simp only [Lib.decFrom,Option.some.injEq] at h;subst h;rfl
 | c :: r,i,acc,n,h,hl=>by
  simp only [Lib.decFrom] at h
  unfold Lib.digitVal at h
  by_cases hc:48<=c.toNat/\c.toNat<=57
  ·rw [if_pos hc] at h
   simp only at h
   simp only [List.length_cons] at hl
   rw [List.map_cons]
   unfold dcF
   rw [if_pos ⟨(digit_iff _).2 hc,by omega⟩]
   have e:acc * 10+(c.toNat - 48)=acc * 10+(c.toNat - 48):=rfl
   exact dcF_dec r _ _ n h (by omega)
  ·rw [if_neg hc] at h;simp at h
theorem nDg:∀ (k u:Nat),u<10 ^ (k+1)->Lib.nDigits u<=k+1
 | 0,u,h=>by rw [Lib.nDigits_small (by simpa using h)];omega
 | k+1,u,h=>by
  by_cases h0:u<10
  ·rw [Lib.nDigits_small h0];omega
  ·rw [Lib.nDigits_big h0]
   have:=nDg k (u / 10) (by rw [Nat.pow_succ] at h;omega)
   omega
theorem nDig (u:Nat) (h:u<=2147483647):(Lib.decDigits u).length<=11:=by
 rw [Lib.decDigits_length]
 exact nDg 10 u (by omega)
theorem dec_itoa {n:Int} (h1:-2147483647<=n) (h2:n<=2147483647):dec (itoa n)=some n/\((itoa n).headD 0=45\/Lx.digit ((itoa n).headD 0)=true)/\(itoa n).length<=258/\itoa n≠[]:=by
 unfold itoa Lib.itoa
 by_cases hn:n<0
 ·rw [if_pos hn,List.map_cons]
  have hd:=dcF_dec _ 0 0 _ (decDigits_val n.natAbs) (by have:=nDig n.natAbs (by omega);omega)
  have hl:=nDig n.natAbs (by omega)
  refine ⟨?_,.inl rfl,by simp;omega,by simp⟩
  unfold dec
  rw [if_pos (by rfl),List.drop_succ_cons,List.drop_zero,hd]
  simp only [Option.map_some]
  congr 1;omega
 ·rw [if_neg hn]
  obtain ⟨c,r,hl,hc1,hc2⟩:=decDigits_head n.toNat
  have hd:=dcF_dec _ 0 0 _ (decDigits_val n.toNat) (by have:=nDig n.toNat (by omega);omega)
  have hll:=nDig n.toNat (by omega)
  rw [hl] at hd hll ⊢
  rw [List.map_cons] at hd ⊢
  refine ⟨?_,.inr ((digit_iff _).2 ⟨hc1,hc2⟩),by simp at hll ⊢;omega,by simp⟩
  unfold dec
  rw [if_neg (by simp only [List.headD_cons];omega),hd]
  simp only [Option.map_some]
  congr 1;omega
theorem flatq_len:∀ l:List Nat,(l.flatMap qb).length<=4 * l.length
 | []=>by simp
 | c :: r=>by
  have ih:=flatq_len r
  have:(qb c).length<=4:=by
   unfold qb
   split
   ·simp
   ·split
    ·simp
    ·split <;> simp
  rw [List.flatMap_cons,List.length_append,List.length_cons]
  omega
/-- the reference reads a text that is one as the value whose text it is -/
theorem rguess_text {v:Val} (hb:∀ c∈v.s,c<256) (h:may v=true):rguess (text v)=some v/\(text v).length<=258/\text v≠[]:=by
 obtain ⟨k,n,s⟩:=v
 simp only at hb
 unfold may at h
 simp only [Bool.or_eq_true,Bool.and_eq_true,beq_iff_eq,decide_eq_true_eq] at h
 rcases h with ⟨rfl,rfl,h1,h2⟩ | ⟨rfl,rfl,h1⟩
 ·obtain ⟨e1,e2,e3,e4⟩:=dec_itoa h1 h2
  unfold text
  rw [if_pos rfl]
  refine ⟨?_,e3,e4⟩
  unfold rguess
  rw [if_pos e2,e1];rfl
 ·unfold text
  rw [if_neg (show ¬ (2:Int)=1 by decide)]
  simp only
  by_cases hn:name s=true
  ·rw [if_pos hn]
   unfold name wordB at hn
   simp only [Bool.and_eq_true,decide_eq_true_eq] at hn
   obtain ⟨-,h3,h4,h5,h6⟩:=hn
   unfold Lx.small at h5
   simp only [Bool.and_eq_true] at h5
   have h51:97<=s.headD 0:=of_decide_eq_true h5.1
   refine ⟨?_,by omega,h3⟩
   unfold rguess
   rw [if_neg (by rw [digit_iff];omega),if_neg (by omega)]
  ·rw [if_neg hn]
   refine ⟨?_,?_,by unfold quoted;simp⟩
   ·unfold rguess
    have hh:(quoted s).headD 0=34:=rfl
    rw [hh,if_neg (by rw [digit_iff];omega),if_pos rfl,ruq_q s hb]
   ·have:=flatq_len s
    unfold quoted
    rw [List.length_cons,List.length_append,List.length_singleton]
    omega
end Go.Proofs.YtohnmnfhmbmoaaaDoor.Va
