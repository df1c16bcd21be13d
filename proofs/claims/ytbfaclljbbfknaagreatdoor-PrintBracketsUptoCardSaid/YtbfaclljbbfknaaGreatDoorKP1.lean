/- THE TEXTS MERGED: Mem Tk CodePlain LxPlain LxRune LxFn. -/
import Derived.Test.YtbfaclljbbfknaaGreatDoorRows
import Derived.WalkKit
import Derived.Lib.Hide
import Derived.Deep.AppendSrc
import Derived.Deep.QuietTactic
import Derived.BigQuiet
import Derived.StillTailTactics
import Derived.WalkSpells
import Derived.WalkLawsBesides
import Derived.WalkSmall
import Derived.OrdersHeld
import Derived.Laws.RangeAny
namespace Go.Proofs.YtbfaclljbbfknaaGreatDoor
open Go.RowKit
set_option linter.unusedVariables false
/-- Of the blocks that were there, those of S alone may have turned. -/
structure Mod (S:List Nat) (w w':World):Prop where
 os:w'.os=w.os
 tape:w'.tape=w.tape
 output:w'.output=w.output
 size:w.heap.size<=w'.heap.size
 block:∀ k,k<w.heap.size->k∉S->w'.heap[k]?=w.heap[k]?
theorem Mod.refl (S:List Nat) (w:World):Mod S w w:=⟨rfl,rfl,rfl,Nat.le_refl _,fun _ _ _=>rfl⟩
theorem Mod.trans {S T:List Nat} {a b c:World} (h:Mod S a b) (k:Mod T b c) (hT:∀ t∈T,t∈S\/a.heap.size<=t):Mod S a c :=
 ⟨k.os.trans h.os,k.tape.trans h.tape,k.output.trans h.output,Nat.le_trans h.size k.size,fun i hi hn =>
  (k.block i (Nat.lt_of_lt_of_le hi h.size) (fun e=>by rcases hT i e with r | r;exact hn r;omega)).trans (h.block i hi hn)⟩
theorem Mod.mono {S T:List Nat} {a b:World} (h:Mod S a b) (hT:∀ t∈S,t∈T\/a.heap.size<=t):Mod T a b :=
 (Mod.refl T a).trans h hT
theorem Mod.drewN {S:List Nat} {a b:World} (h:Mod S a b) (n:Nat):Mod S a (b.drewN n):=⟨h.os,h.tape,h.output,h.size,h.block⟩
theorem Mod.drew {S:List Nat} {a b:World} (h:Mod S a b):Mod S a b.drew:=⟨h.os,h.tape,h.output,h.size,h.block⟩
theorem Mod.alloc {S:List Nat} {a b:World} (h:Mod S a b) (o:Obj):Mod S a (b.alloc o) :=
 h.trans (T:=[]) ⟨rfl,rfl,rfl,by simp,fun k hk _=>Below.heap_alloc _ _ _ hk⟩ (by simp)
theorem Mod.setCell {S:List Nat} {a b:World} (h:Mod S a b) {p:Addr} (hp:p.block∈S\/a.heap.size<=p.block) (u:Value):Mod S a (b.setCell p u) :=
 h.trans (T:=[p.block]) ⟨rfl,rfl,rfl,by simp [World.setCell],fun k hk hn=>Below.heap_setCell _ _ _ _ (by simpa using hn)⟩ (by simpa using hp)
theorem Mod.grown {S:List Nat} {a b c:World} {row:Option Nat} (h:Mod S a b) (hg:b.grownBy c row) (hr:∀ k,row=some k->k∈S\/a.heap.size<=k):Mod S a c :=
 h.trans (T:=row.toList) ⟨hg.os,hg.tape,hg.output,hg.size,fun k hk hn=>hg.block k hk (fun e=>hn (by simp [<-e]))⟩ (fun t ht=>hr t (by simpa using ht))
theorem Mod.cell {S:List Nat} {a b:World} (h:Mod S a b) {p:Addr} {v:Value} (hc:a.cell? p=some v) (hn:p.block∉S):b.cell? p=some v :=
 (World.cell?_of_block (h.block p.block (World.block_lt_of_cell? a p hc) hn)).trans hc
theorem Mod.at {S:List Nat} {a b:World} (h:Mod S a b) {k:Nat} {o:Obj} (hc:a.heap[k]?=some o) (hn:k∉S):b.heap[k]?=some o :=
 (h.block k (lt_of_block hc) hn).trans hc
theorem Mod.below {S:List Nat} {a b:World} (h:Mod S a b) {B:Nat} (hB:B<=a.heap.size) (hS:∀ t∈S,B<=t):Below B a b :=
 ⟨h.os,h.tape,h.output,h.size,fun k hk=>h.block k (by omega) (fun e=>by have:=hS k e;omega)⟩
theorem Mod.of_below {a b:World} (h:Below a.heap.size a b):Mod [] a b:=⟨h.os,h.tape,h.output,h.size,fun k hk _=>h.block k hk⟩
/-- the block of a slice value -/
def fp:Value->List Nat
 | .slice (some a) _ _=>[a.block]
 | _=>[]
theorem ownBlock_fp (v:Value):∀ k,v.ownBlock=some k->k∈fp v:=by
 intro k h
 unfold Value.ownBlock at h
 split at h
 ·cases h;simp [fp]
 ·cases h
theorem Mod.owns {S:List Nat} {a b:World} (h:Mod S a b) {base:Nat} {e:TypeId} {size:Nat} {v:Value} {n:Nat} {xs:List Value} (ho:a.ownsRow base e size v n xs)
  (hn:∀ k∈fp v,k∉S):b.ownsRow base e size v n xs:=by
 obtain ⟨h1,h2⟩:=ho
 refine ⟨h1,?_⟩
 rcases h2 with h2 | ⟨g,cap,cur,rfl,hg,hh,r⟩
 ·exact .inl h2
 ·exact .inr ⟨g,cap,cur,rfl,hg,h.at hh (hn g (by simp [fp])),r⟩
theorem owns_slice {w:World} {base:Nat} {e:TypeId} {size:Nat} {v:Value} {n:Nat} {xs:List Value} (h:w.ownsRow base e size v n xs):∃ a c,v=.slice a n c:=by
 rcases h.2 with ⟨rfl,rfl⟩ | ⟨g,cap,cur,rfl,r⟩
 ·exact ⟨_,_,rfl⟩
 ·exact ⟨_,_,rfl⟩
section
variable {P:Program} (w:World)
theorem run_append_room_own (t tx ty e:TypeId) (i:TypeInfo) (ht:P.underlying t=some (.slice e)) (hi:P.info? e=some i)
  (g sLen sCap:Nat) (cur:Array Value) (hg:w.heap[g]?=some (.cells cur e (0,0))) (x:Value) (n:Nat) (news:List Value) (hs:Src P i.size tx x n news w)
  (hroom:sLen+n<=sCap) (hfit:sLen * i.size+news.length<=cur.size) :
  (Builtin.append_ #[t,tx] ty #[.slice (some ⟨g,0,none⟩) sLen sCap,x]).run P w =
   .ok (.slice (some ⟨g,0,none⟩) (sLen+n) sCap) (w.setRow g (cur.toList.take (sLen * i.size)++news++cur.toList.drop (sLen * i.size+news.length)).toArray):=by
 have hst:=run_storeCells_at P g (sLen * i.size) e news 0 cur w hg (by simpa using hfit) hs.one
 simp only [Nat.add_zero] at hst
 rcases hs.kind with ⟨e',hk⟩ | hk <;> simp [Builtin.append_,run_underlying ht,run_underlying hk,sizeOf,typeInfo,hi,hs.len,hroom,hs.cells,Addr.add_lit,hst]
theorem run_append_own_src (t tx ty e:TypeId) (i:TypeInfo) (z:Value) (size bytes:Nat) (ht:P.underlying t=some (.slice e)) (hi:P.info? e=some i) (hz:i.zero=some z)
  (hsize:i.size=size) (hby:i.bytes=bytes) (hzs:z.cells.size=size)
  (v:Value) (n:Nat) (xs:List Value) (hown:w.ownsRow 0 e size v n xs)
  (x:Value) (m:Nat) (news:List Value) (hs:Src P size tx x m news w)
  (h63:n+m<=maxLen) (hbytes:(n+m) * bytes<=140737488355328) :
  ∃ v' w',(Builtin.append_ #[t,tx] ty #[v,x]).run P w=.ok v' w'/\w'.ownsRow 0 e size v' (n+m) (xs++news)/\Mod (fp v) w w' /\
   (∀ k∈fp v',k∈fp v\/w.heap.size<=k)/\(v'=.slice none 0 0 ↔ v=.slice none 0 0/\m=0):=by
 subst hsize
 subst hby
 have hl:=hs.newsLen
 have hsmall:n+m<=9223372036854775807:=by simp only [maxLen] at h63;omega
 have hlen:(xs++news).length=(n+m) * i.size:=by rw [List.length_append,hown.1,hl,Nat.add_mul]
 have grown:∀ (old:Nat),old<n+m ->
   (w.drew.alloc (.cells ((xs++news).toArray++Builtin.zeroCells z.cells (grownCap w (n+m) old e - (n+m))) e)).ownsRow 0 e i.size
    (.slice (some ⟨w.heap.size,0,none⟩) (n+m) (grownCap w (n+m) old e)) (n+m) (xs++news):=by
  intro old ho
  have hge:=grownCap_ge w (n+m) old e
  have hcm:grownCap w (n+m) old e<=maxLen:=grownCap_le_maxLen w (n+m) old e h63
  refine ⟨hlen,.inr ⟨w.heap.size,_,_,rfl,Nat.zero_le _,heap_alloc_new w.drew _,hge,hcm,?_,?_⟩⟩
  ·simp only [Array.size_append,List.size_toArray,size_zeroCells,hzs,hlen,<-Nat.add_mul]
   congr 1
   omega
  ·simp only [Array.toList_append]
   rw [<-hlen]
   exact List.take_left
 have gmod:∀ (o:Obj) (S:List Nat),Mod S w (w.drew.alloc o):=fun o S=>((Mod.refl S w).drew).alloc o
 rcases hown.2 with ⟨rfl,rfl⟩ | ⟨g,cap,cur,rfl,hbg,hg,hnc,hcm,hcs,htake⟩
 ·have hx:xs=[]:=List.eq_nil_of_length_eq_zero (by simpa using hown.1)
  subst hx
  by_cases hm:m=0
  ·subst hm
   have hn:news=[]:=List.eq_nil_of_length_eq_zero (by simpa using hl)
   subst hn
   refine ⟨.slice none 0 0,w,?_,World.ownsRow_nil w 0 e i.size,Mod.refl _ _,by simp [fp],by simp⟩
   have hc:(Builtin.firstCells i.size 0 x).run P w=.ok #[] w:=hs.cells
   rcases hs.kind with ⟨e',hk⟩ | hk <;> simp [Builtin.append_,run_underlying ht,run_underlying hk,sizeOf,typeInfo,hi,hs.len,hc]
  ·have hr:=run_append_grow_src (P:=P) w t tx ty e i z ht hi hz none 0 0 [] (run_firstCells_none w.drew i.size 0 0 0) x m news hs (by omega) (by omega) (growslice_fits (by omega) hbytes)
   have hgr:=grown 0 (by omega)
   simp only [Nat.zero_add,List.nil_append] at hgr hr ⊢
   exact ⟨_,_,hr,hgr,gmod _ _,by simp [fp],by simp [hm]⟩
 ·by_cases hroom:n+m<=cap
  ·have hfit:n * i.size+news.length<=cur.size:=by rw [hl,hcs,<-Nat.add_mul];exact Nat.mul_le_mul_right _ hroom
   have hr:=run_append_room_own (P:=P) w t tx ty e i ht hi g n cap cur hg x m news hs hroom hfit
   refine ⟨_,_,hr,⟨hlen,.inr ⟨g,cap,_,rfl,hbg,setRow_heap w g cur _ e _ hg,hroom,hcm,?_,?_⟩⟩,⟨rfl,rfl,rfl,by simp,fun k _ hk=>setRow_other w g k _ (fun e=>hk (by simp [fp,e]))⟩,by simp [fp],by simp⟩
   ·simp only [List.size_toArray,List.length_append,List.length_take,List.length_drop,Array.length_toList]
    omega
   ·rw [htake,<-hlen]
    exact List.take_left
  ·have holds:∀ j u,xs[j]?=some u->w.cell? ((⟨g,0,none⟩:Addr).add j)=some u:=hown.cells (g:=g) rfl
   have hr:=run_append_grow_src (P:=P) w t tx ty e i z ht hi hz (some ⟨g,0,none⟩) n cap xs (run_firstCells_some w.drew i.size n ⟨g,0,none⟩ n cap xs hown.1 (by simpa using holds)) x m news hs (by omega) (by omega) (growslice_fits (by omega) hbytes)
   exact ⟨_,_,hr,grown cap (by omega),gmod _ _,by simp [fp],by simp⟩
theorem wpList_append_src {ops:Array Oper} {rest:List Oper} {o:Oper} {a:Act} {Q:Exit->Act->World->Prop} (hgd:o.guard=none) (s x:Operand) (t tx:TypeId)
  (ho:o.op=.call { callee:=.builtin .append,args:=#[s,x],argTypes:=#[t,tx] })
  (e:TypeId) (i:TypeInfo) (z:Value) (size bytes:Nat) (ht:P.underlying t=some (.slice e)) (hi:P.info? e=some i) (hz:i.zero=some z)
  (hsize:i.size=size) (hby:i.bytes=bytes) (hzs:z.cells.size=size)
  (v:Value) (n:Nat) (xs:List Value) (hs:a.eval s=v) (hown:w.ownsRow 0 e size v n xs)
  (vx:Value) (m:Nat) (news:List Value) (hx:a.eval x=vx) (hsrc:Src P size tx vx m news w)
  (h63:n+m<=maxLen) (hbytes:(n+m) * bytes<=140737488355328)
  (h:∀ v' w',w'.ownsRow 0 e size v' (n+m) (xs++news)->Mod (fp v) w w'->(∀ k∈fp v',k∈fp v\/w.heap.size<=k)->(v'=.slice none 0 0 ↔ v=.slice none 0 0/\m=0)->wpList P ops Q rest (a.put o.dst v') w'):wpList P ops Q (o :: rest) a w :=
 wpList_plain hgd fun K hK=>by
  obtain ⟨v',w',hr,h2,h3,h4,h5⟩:=run_append_own_src (P:=P) w t tx o.type e i z size bytes ht hi hz hsize hby hzs v n xs hown vx m news hsrc h63 hbytes
  unfold Oper.wp execOp
  simp only [ho,resolve,invoke,builtin,Sem.run_bind,Sem.run_pure,Result.andThen_ok,List.map_toArray,List.map_cons,List.map_nil,hs,hx,hr]
  exact hK _ _ (h v' w' h2 h3 h4 h5)
end
open Go.RowKit
set_option linter.unusedVariables false
theorem Lq1 {α : Type} {l : List α} {i : Nat} {a : α} : l.toArray.setIfInBounds i a = (l.set i a).toArray := by simp
theorem Lq2 {α : Type} {x : α} {l : List α} {a : α} : (x :: l).set 0 a = a :: l := rfl
theorem Lq3 {α : Type} {x : α} {l : List α} {n : Nat} {a : α} : (x :: l).set (n + 1) a = x :: l.set n a := rfl
theorem Gq1 {α : Type} {l : List α} {i : Nat} : l.toArray[i]? = l[i]? := by simp
theorem Gq2 {α : Type} {a : α} {l : List α} {n : Nat} : (a :: l)[n + 1]? = l[n]? := rfl
theorem Gq3 {α : Type} {a : α} {l : List α} : (a :: l)[0]? = some a := rfl
theorem Hxq {p : Prop} (h : p) : Hid p := Lib.hid h
theorem Msq {α : Type} {a b : α} : a ∈ [b] ↔ a = b := List.mem_singleton
section
variable {P : Program} {ops : Array Oper} {Q : Exit → Act → World → Prop} {md : Region.Mode} {S : World → Prop}
theorem Tkq (i : Nat) {oi : Oper} {v : Value} {fuel : Nat} {listed : Array Bool} {a : Act} {w : World} (hS : S w)
    (hy : YieldsIf P ops S oi v a) (hQ : ∀ c a w, Q (.panic c) (a.put oi.dst v) w → Q (.panic c) a w)
    (h : wpAnyH P md ops Q S fuel (listed.setIfInBounds i true) (a.put oi.dst v) w)
    (hi : ops[i]? = some oi := by (simp only [Gq1, Gq2, Gq3]) <;> rfl)
    (hs : Region.noSelect ops = true := by kernel_rfl) (hf : Region.free md ops listed i = true := by kernel_rfl) (hr : (Region.ready md ops listed).contains i = true := by kernel_rfl)
    : wpAnyH P md ops Q S (fuel + 1) listed a w :=
  wpAnyH_take hi hs hf hr hQ hy hS h
end
end Go.Proofs.YtbfaclljbbfknaaGreatDoor
namespace Go.Proofs.YtbfaclljbbfknaaGreatDoor.Cod
/-- a string's bytes -/
def str (s:ByteArray):List Nat:=s.data.toList.map UInt8.toNat
theorem str_len (s:ByteArray):(str s).length=s.size:=by
 unfold str;rw [List.length_map,Array.length_toList];rfl
theorem str_lt (s:ByteArray):∀ c∈str s,c<256:=by
 intro c hc
 obtain ⟨x,_,rfl⟩:=List.mem_map.1 hc
 exact x.toNat_lt
end Go.Proofs.YtbfaclljbbfknaaGreatDoor.Cod
namespace Go.Proofs.YtbfaclljbbfknaaGreatDoor.Lx
open Cod (str)
set_option linter.unusedSimpArgs false
def small (c:Nat):Bool:=decide (97<=c) && decide (c<=122)
def capital (c:Nat):Bool:=decide (65<=c) && decide (c<=90)
def digit (c:Nat):Bool:=decide (48<=c) && decide (c<=57)
def goes (c:Nat):Bool:=small c || (capital c || (digit c || c == 95))
def blank (c:Nat):Bool:=c == 32 || (c == 9 || (c == 10 || c == 13))
def line (c:Nat):Bool:=!(c == 10)
/-- a string of bytes -/
def ofS (l:List Nat):ByteArray:=⟨(l.map UInt8.ofNat).toArray⟩
theorem str_ofS {l:List Nat} (h:∀ c∈l,c<256):str (ofS l)=l:=by
 unfold str ofS
 rw [List.map_map]
 conv=>rhs;rw [<-List.map_id l]
 exact List.map_congr_left (fun c hc=>by simp [Nat.mod_eq_of_lt (h c hc)])
theorem ofS_str (s:ByteArray):ofS (str s)=s:=by
 unfold ofS str
 rw [List.map_map]
 have:s.data.toList.map (UInt8.ofNat ∘ UInt8.toNat)=s.data.toList:=by
  conv=>rhs;rw [<-List.map_id s.data.toList]
  exact List.map_congr_left (fun c _=>by simp)
 rw [this]
theorem str_extract (s:ByteArray) (a b:Nat):str (s.extract a b)=((str s).drop a).take (b - a):=by
 unfold str
 rw [<-List.map_drop,<-List.map_take]
 congr 1
 rw [ByteArray.data_extract,Array.toList_extract,List.extract_eq_take_drop]
/-- how far a text goes on with bytes of a kind -/
def run (p:Nat->Bool) (s:List Nat):Nat:=(s.takeWhile p).length
theorem run_le (p:Nat->Bool) (s:List Nat):run p s<=s.length:=by
 unfold run
 induction s with
 | nil=>simp
 | cons c r ih=>rw [List.takeWhile_cons];split <;> simp <;> omega
theorem run_nil (p:Nat->Bool):run p []=0:=rfl
theorem run_cons (p:Nat->Bool) (c:Nat) (r:List Nat):run p (c :: r)=if p c then run p r+1 else 0:=by
 unfold run;rw [List.takeWhile_cons];split <;> simp
def numv (l:List Nat):Nat:=l.foldl (fun a c=>10 * a+(c - 48)) 0
def hexv (c:Nat):Option Nat :=
 if 48<=c/\c<=57 then some (c - 48) else if 97<=c/\c<=102 then some (c - 87) else if 65<=c/\c<=70 then some (c - 55) else none
/-- behind a backslash: the byte, how many bytes say it -/
def esc (s:List Nat):Option (Nat × Nat) :=
 match s with
 | []=>none
 | c :: r =>
  if c=34\/c=92 then some (c,1)
  else if c=110 then some (10,1)
  else if c=120 then
   match r with
   | a :: b :: _ =>
    match hexv a,hexv b with
    | some x,some y=>some (16 * x+y,3)
    | _,_=>none
   | _=>none
  else none
/-- the parts of a quoted word from a place on, what they stood for so far, how many bytes are read -/
def quoF:Nat->List Nat->List Nat->Nat->Option (List Nat × Nat)
 | 0,_,_,_=>none
 | _+1,[],_,_=>none
 | k+1,c :: r,acc,n =>
  if c=34 then (if 64<acc.length then none else some (acc,n+1))
  else if c=10 then none
  else if c=92 then
   match esc r with
   | none=>none
   | some (b,m)=>quoF k (r.drop m) (acc++[b]) (n+1+m)
  else quoF k r (acc++[c]) (n+1)
def quo (s:List Nat):Option (List Nat × Nat):=quoF s.length (s.drop 1) [] 1
def two (a b:Nat):Bool:=(a == 58 && b == 45) || ((a == 33 && b == 61) || ((a == 60 && b == 61) || (a == 62 && b == 61)))
def ones:List Nat:=[40,41,123,125,44,46,58,61,60,62,43,45,42,47,95]
def mark (s:List Nat):Nat :=
 match s with
 | []=>0
 | [a]=>if ones.contains a then 1 else 0
 | a :: b :: _=>if two a b then 2 else if ones.contains a then 1 else 0
/-- a word: its kind, how many bytes, its value's kind, number, symbol -/
structure Wd where
 kind:Nat
 n:Nat
 vk:Nat
 num:Nat
 sym:List Nat
deriving DecidableEq
inductive Rw where
 | bad (e:Nat)
 | ok (w:Wd)
deriving DecidableEq
def word (s:List Nat):Rw :=
 if small (s.headD 0) || capital (s.headD 0) then
  if 32<run goes s then .bad 33 else .ok ⟨if capital (s.headD 0) then 2 else 1,run goes s,0,0,[]⟩
 else if digit (s.headD 0) then
  if (1<run digit s/\s.headD 0=48)\/2147483647<numv (s.take (run digit s))\/run digit s<run goes s then .bad 31
  else .ok ⟨3,run digit s,1,numv (s.take (run digit s)),[]⟩
 else if s.headD 0=34 then
  match quo s with
  | none=>.bad 32
  | some (sym,n)=>.ok ⟨4,n,2,0,sym⟩
 else if mark s=0 then .bad 30
 else .ok ⟨5,mark s,0,0,[]⟩
/-- the place behind bytes -/
def adv:Nat × Nat->List Nat->Nat × Nat
 | p,[]=>p
 | p,b :: r=>adv (if b=10 then (p.1+1,1) else (p.1,p.2+1)) r
theorem adv_append (p:Nat × Nat) (a b:List Nat):adv p (a++b)=adv (adv p a) b:=by
 induction a generalizing p with
 | nil=>rfl
 | cons c r ih=>simp only [List.cons_append,adv,ih]
theorem adv_le (p:Nat × Nat) (a:List Nat):(adv p a).1<=p.1+a.length/\(adv p a).2<=p.2+2 * a.length:=by
 induction a generalizing p with
 | nil=>simp [adv]
 | cons c r ih =>
  simp only [adv]
  by_cases h:c=10
  ·have:=ih (p.1+1,1)
   rw [if_pos h,List.length_cons]
   omega
  ·have:=ih (p.1,p.2+1)
   rw [if_neg h,List.length_cons]
   omega
/-- how many bytes of blanks and remarks: is a remark open? -/
def skipN:Bool->List Nat->Nat
 | _,[]=>0
 | r,c :: t =>
  let r':=if c=35 then true else if c=10 then false else r
  if !r' && !blank c then 0 else skipN r' t+1
theorem skipN_le (r:Bool) (s:List Nat):skipN r s<=s.length:=by
 induction s generalizing r with
 | nil=>simp [skipN]
 | cons c t ih =>
  unfold skipN
  have:=ih (if c=35 then true else if c=10 then false else r)
  simp only
  generalize (if c=35 then true else if c=10 then false else r)=r' at *
  by_cases h:(!r' && !blank c)=true
  ·rw [if_pos h];omega
  ·rw [if_neg h,List.length_cons];omega
structure Tok where
 kind:Nat
 text:List Nat
 vk:Nat
 num:Nat
 sym:List Nat
 line:Nat
 col:Nat
deriving DecidableEq
/-- a scanner: what is left, its place, the place behind the last word, the fault and its place, is the text too long? -/
structure St where
 s:List Nat
 pos:Nat × Nat
 fin:Nat × Nat
 code:Nat
 fp:Nat × Nat
 long:Bool
def start (s:List Nat):St:=⟨s,(1,1),(1,1),0,(0,0),decide (65536<s.length)⟩
def St.skip (x:St):St:={ x with s:=x.s.drop (skipN false x.s),pos:=adv x.pos (x.s.take (skipN false x.s)) }
def next (x:St):St × Option Tok :=
 if x.code≠0 then (x,none)
 else if x.long then ({ x with code:=2 },none)
 else if x.skip.s=[] then (x.skip,none)
 else match word x.skip.s with
  | .bad e=>({ x.skip with code:=e,fp:=x.skip.pos },none)
  | .ok w=>({ x.skip with s:=x.skip.s.drop w.n,pos:=adv x.skip.pos (x.skip.s.take w.n),fin:=adv x.skip.pos (x.skip.s.take w.n) },
    some ⟨w.kind,x.skip.s.take w.n,w.vk,w.num,w.sym,x.skip.pos.1,x.skip.pos.2⟩)
/-- all words that are left, and the scanner behind them -/
def allF:Nat->St->List Tok × St
 | 0,x=>([],x)
 | k+1,x =>
  match next x with
  | (y,none)=>([],y)
  | (y,some t)=>(t :: (allF k y).1,(allF k y).2)
def given (s:List Nat):List Tok × St:=allF (s.length+1) (start s)
def tokens (s:List Nat):List Tok:=if (given s).2.code=0 then (given s).1 else []
def fault (s:List Nat):Nat × Nat × Nat:=if (given s).2.code=0 then (0,0,0) else ((given s).2.code,(given s).2.fp)
theorem hexv_lt {c x:Nat} (h:hexv c=some x):x<16:=by
 unfold hexv at h
 split at h
 ·simp at h;omega
 ·split at h
  ·simp at h;omega
  ·split at h
   ·simp at h;omega
   ·simp at h
theorem esc_len {s:List Nat} {b m:Nat} (hs:∀ c∈s,c<256) (h:esc s=some (b,m)):1<=m/\m<=s.length/\b<256:=by
 unfold esc at h
 split at h
 ·simp at h
 ·rename_i c r
  have hc:=hs c (by simp)
  split at h
  ·simp at h;obtain ⟨rfl,rfl⟩:=h;simp;omega
  ·split at h
   ·simp at h;obtain ⟨rfl,rfl⟩:=h;simp
   ·split at h
    ·split at h
     ·rename_i a b' t
      split at h
      ·rename_i x y hx hy
       have h1:=hexv_lt hx
       have h2:=hexv_lt hy
       simp at h;obtain ⟨rfl,rfl⟩:=h;simp;omega
      ·simp at h
     ·simp at h
    ·simp at h
theorem quoF_len:∀ (k:Nat) (s acc:List Nat) (n:Nat) (l:List Nat) (m:Nat),(∀ c∈s,c<256)->(∀ c∈acc,c<256)->quoF k s acc n=some (l,m) ->
  n<m/\m<=n+s.length/\(∀ c∈l,c<256)/\l.length<=64
 | 0,_,_,_,_,_,_,_,h=>by simp [quoF] at h
 | k+1,[],_,_,_,_,_,_,h=>by simp [quoF] at h
 | k+1,c :: r,acc,n,l,m,hs,ha,h=>by
  have hc:=hs c (by simp)
  have hr:∀ c∈r,c<256:=fun x hx=>hs x (by simp [hx])
  unfold quoF at h
  split at h
  ·split at h
   ·simp at h
   ·simp at h;obtain ⟨rfl,rfl⟩:=h;exact ⟨by omega,by simp,ha,by omega⟩
  ·split at h
   ·simp at h
   ·split at h
    ·split at h
     ·simp at h
     ·rename_i b m' he
      obtain ⟨e1,e2,e3⟩:=esc_len hr he
      have:=quoF_len k _ _ _ l m (fun c hc=>hr c (List.mem_of_mem_drop hc)) (fun x hx=>by rcases List.mem_append.1 hx with h | h;exact ha x h;simp at h;omega) h
      simp at this ⊢
      refine ⟨by omega,by omega,this.2.2⟩
    ·have:=quoF_len k _ _ _ l m hr (fun x hx=>by rcases List.mem_append.1 hx with h | h;exact ha x h;simp at h;omega) h
     simp at this ⊢
     refine ⟨by omega,by omega,this.2.2⟩
theorem quo_len {s l:List Nat} {m:Nat} (hs:∀ c∈s,c<256) (h:quo s=some (l,m)):1<m/\m<=s.length/\(∀ c∈l,c<256)/\l.length<=64:=by
 cases s with
 | nil=>simp [quo,quoF] at h
 | cons c r =>
  have:=quoF_len _ _ _ _ l m (fun c hc=>hs c (List.mem_of_mem_drop hc)) (by simp) h
  simp at this ⊢
  exact ⟨by omega,by omega,this.2.2⟩
theorem mark_le (s:List Nat):mark s<=2/\mark s<=s.length:=by
 unfold mark
 split
 ·simp
 ·split <;> simp
 ·split
  ·simp
  ·split <;> simp
theorem goes_of_small {c:Nat} (h:(small c || capital c)=true):goes c=true:=by
 unfold goes
 rw [Bool.or_eq_true] at h
 rcases h with h | h <;> simp [h]
theorem run_pos {p:Nat->Bool} {s:List Nat} (hs:s≠[]) (h:p (s.headD 0)=true):1<=run p s:=by
 cases s with
 | nil=>simp at hs
 | cons c r=>rw [run_cons];simp at h;simp [h]
/-- a word has bytes, no more than there are; its symbol is of bytes -/
theorem word_len {s:List Nat} {w:Wd} (hs:∀ c∈s,c<256) (h0:s≠[]) (h:word s=.ok w):1<=w.n/\w.n<=s.length/\(∀ c∈w.sym,c<256)/\w.num<=2147483647/\w.kind<=5/\w.vk<=2:=by
 unfold word at h
 split at h
 ·rename_i h1
  split at h
  ·simp at h
  ·simp at h;subst h
   refine ⟨run_pos h0 (goes_of_small h1),run_le _ _,by simp,by simp,?_,by simp⟩
   simp only;split <;> simp
 ·split at h
  ·rename_i h1
   split at h
   ·simp at h
   ·rename_i h2
    simp at h;subst h
    exact ⟨run_pos h0 h1,run_le _ _,by simp,by simp only;omega,by simp,by simp⟩
  ·split at h
   ·split at h
    ·simp at h
    ·rename_i l m hq
     simp at h;subst h
     obtain ⟨h1,h2,h3,h4⟩:=quo_len hs hq
     exact ⟨by simp only;omega,h2,h3,by simp,by simp,by simp⟩
   ·split at h
    ·simp at h
    ·simp at h;subst h
     have:=mark_le s
     exact ⟨by simp only;omega,this.2,by simp,by simp,by simp,by simp⟩
/-- blanks are gone over -/
theorem skip_blank (s:List Nat):skipN false s=run blank s+skipN false (s.drop (run blank s)):=by
 induction s with
 | nil=>simp [run,skipN]
 | cons c t ih =>
  rw [run_cons]
  by_cases h:blank c=true
  ·rw [if_pos h]
   have hc:c≠35:=by rintro rfl;simp [blank] at h
   have e:(if c=35 then true else if c=10 then false else false)=false:=by rw [if_neg hc];split <;> rfl
   conv=>lhs;unfold skipN
   simp only [e,h]
   simp
   omega
  ·rw [if_neg h];simp
theorem skip_line_aux (s:List Nat):skipN true s=run line s+skipN false (s.drop (run line s)):=by
 induction s with
 | nil=>simp [run,skipN]
 | cons c t ih =>
  rw [run_cons]
  by_cases h:c=10
  ·subst h
   rw [show line 10=false from rfl]
   simp [skipN,blank]
  ·have hl:line c=true:=by simp [line,h]
   rw [if_pos hl]
   have e:(if c=35 then true else if c=10 then false else true)=true:=by rw [if_neg h];split <;> rfl
   conv=>lhs;unfold skipN
   simp only [e]
   simp
   omega
/-- a remark is gone over -/
theorem skip_remark (t:List Nat):skipN false (35 :: t)=run line (35 :: t)+skipN false ((35 :: t).drop (run line (35 :: t))):=by
 rw [run_cons,show line 35=true from rfl,if_pos rfl]
 have e:(if (35:Nat)=35 then true else if (35:Nat)=10 then false else false)=true:=rfl
 conv=>lhs;unfold skipN
 simp only [e]
 simp
 have:=skip_line_aux t
 omega
theorem skip_none {c:Nat} {t:List Nat} (h:blank c=false) (hc:c≠35):skipN false (c :: t)=0:=by
 unfold skipN
 simp [hc,h]
theorem get_str (s:ByteArray) (i:Nat) (h:i<s.size):(str s).getD i 0=(s[i]'h).toNat:=by
 unfold str
 have h':i<s.data.toList.length:=by rw [Array.length_toList];exact h
 rw [List.getD_eq_getElem?_getD,List.getElem?_map,List.getElem?_eq_getElem h']
 simp
 rfl
theorem get_bang (s:ByteArray) (i:Nat) (h:i<s.size):(s.get! i).toNat=(str s).getD i 0:=by
 rw [get_str s i h]
 have:=get_at s i h
 simp only [Nat.add_zero] at this
 rw [this]
/-- a rune's bytes behind the first are no letters -/
theorem decode_cont (s:ByteArray) (pos:Nat) (h:pos<s.size) (ha:128<=(str s).getD pos 0) (i:Nat) (hi:i<(Utf8.decode s pos).2):pos+i<s.size/\128<=(str s).getD (pos+i) 0:=by
 have hn:¬ (s.get! (pos+0)).toNat<128:=by
  rw [Nat.add_zero,get_bang s pos h];omega
 have key:∀ k,(decide (pos+k<s.size) && (s.get! (pos+k)).toNat / 64 == 2)=true->pos+k<s.size/\128<=(str s).getD (pos+k) 0:=by
  intro k hk
  simp at hk
  rw [<-get_bang s (pos+k) hk.1]
  exact ⟨hk.1,by omega⟩
 have h0:pos+0<s.size/\128<=(str s).getD (pos+0) 0:=⟨h,ha⟩
 have one:∀ {a:Nat},i<(a,1).2->pos+i<s.size/\128<=(str s).getD (pos+i) 0:=by
  intro a hi
  have:i=0:=by simp at hi;exact hi
  subst this
  exact h0
 simp only [Utf8.decode,hn,if_false] at hi
 split at hi
 ·rename_i h1
  rw [Bool.and_eq_true] at h1
  have k1:=key 1 h1.2
  split at hi
  ·have:i=0\/i=1:=by simp at hi;omega
   rcases this with rfl | rfl
   ·exact h0
   ·exact k1
  ·exact one hi
 ·split at hi
  ·rename_i h1
   rw [Bool.and_eq_true,Bool.and_eq_true] at h1
   have k1:=key 1 h1.1.2
   have k2:=key 2 h1.2
   split at hi
   ·have:i=0\/i=1\/i=2:=by simp at hi;omega
    rcases this with rfl | rfl | rfl
    ·exact h0
    ·exact k1
    ·exact k2
   ·exact one hi
  ·split at hi
   ·rename_i h1
    rw [Bool.and_eq_true,Bool.and_eq_true,Bool.and_eq_true] at h1
    have k1:=key 1 h1.1.1.2
    have k2:=key 2 h1.1.2
    have k3:=key 3 h1.2
    split at hi
    ·have:i=0\/i=1\/i=2\/i=3:=by simp at hi;omega
     rcases this with rfl | rfl | rfl | rfl
     ·exact h0
     ·exact k1
     ·exact k2
     ·exact k3
    ·exact one hi
   ·exact one hi
theorem run_ge_succ (q:Nat->Bool):∀ (l:List Nat) (n:Nat),n<=run q l->n<l.length->q (l.getD n 0)=true->n+1<=run q l
 | [],n,_,h,_=>by simp at h
 | c :: r,0,_,_,h=>by rw [run_cons];simp at h;simp [h]
 | c :: r,n+1,hn,hl,h=>by
  rw [run_cons] at hn ⊢
  by_cases hc:q c=true
  ·rw [if_pos hc] at hn ⊢
   have:=run_ge_succ q r n (by omega) (by simpa using hl) (by simpa using h)
   omega
  ·rw [if_neg hc] at hn;omega
theorem run_stop (q:Nat->Bool):∀ (l:List Nat) (n:Nat),n<=run q l->n<l.length->q (l.getD n 0)=false->run q l=n
 | [],n,_,h,_=>by simp at h
 | c :: r,0,_,_,h=>by rw [run_cons];simp at h;simp [h]
 | c :: r,n+1,hn,hl,h=>by
  rw [run_cons] at hn ⊢
  by_cases hc:q c=true
  ·rw [if_pos hc] at hn ⊢
   have:=run_stop q r n (by omega) (by simpa using hl) (by simpa using h)
   omega
  ·rw [if_neg hc] at hn;omega
theorem run_many (q:Nat->Bool) (l:List Nat) (n:Nat) (hn:n<=run q l):∀ k,(∀ i,i<k->n+i<l.length/\q (l.getD (n+i) 0)=true)->n+k<=run q l
 | 0,_=>by simpa using hn
 | k+1,h=>by
  have:=run_many q l n hn k (fun i hi=>h i (by omega))
  have h2:=h k (by omega)
  exact run_ge_succ q l (n+k) this h2.1 h2.2
/-- a kind of runes and a kind of bytes are the same, and beyond the letters all is one -/
structure Alike (p:Int->Bool) (q:Nat->Bool) (d:Bool):Prop where
 low:∀ c:Nat,c<128->p (c:Int)=q c
 high:∀ c:Nat,128<=c->p (c:Int)=d
 byte:∀ c:Nat,128<=c->q c=d
theorem Alike.step {p:Int->Bool} {q:Nat->Bool} {d:Bool} (h:Alike p q d) (s:ByteArray) (pos:Nat) (hp:pos<s.size) (hr:pos<=run q (str s)) (hd:p ((Utf8.decode s pos).1:Int)=true) :
  pos+(Utf8.decode s pos).2<=run q (str s)/\1<=(Utf8.decode s pos).2:=by
 have hg:=get_str s pos hp
 rcases Nat.lt_or_ge ((str s).getD pos 0) 128 with ha | ha
 ·have e:=decode_ascii s pos hp (by omega)
  rw [e] at hd ⊢
  simp only at hd ⊢
  rw [<-hg,h.low _ ha] at hd
  exact ⟨run_ge_succ q _ pos hr (by rw [Cod.str_len];exact hp) hd,Nat.le_refl _⟩
 ·have e:=decode_high s pos hp (by omega)
  rw [h.high _ e.1] at hd
  subst hd
  refine ⟨run_many q _ pos hr _ (fun i hi=>?_),e.2⟩
  have:=decode_cont s pos hp ha i hi
  exact ⟨by rw [Cod.str_len];exact this.1,h.byte _ this.2⟩
theorem Alike.stop {p:Int->Bool} {q:Nat->Bool} {d:Bool} (h:Alike p q d) (s:ByteArray) (pos:Nat) (hp:pos<s.size) (hr:pos<=run q (str s)) (hd:p ((Utf8.decode s pos).1:Int)=false) :
  run q (str s)=pos:=by
 have hg:=get_str s pos hp
 refine run_stop q _ pos hr (by rw [Cod.str_len];exact hp) ?_
 rcases Nat.lt_or_ge ((str s).getD pos 0) 128 with ha | ha
 ·have e:=decode_ascii s pos hp (by omega)
  rw [e] at hd
  simp only at hd
  rw [<-hg,h.low _ ha] at hd
  exact hd
 ·have e:=decode_high s pos hp (by omega)
  rw [h.high _ e.1] at hd
  rw [h.byte _ ha];exact hd
end Go.Proofs.YtbfaclljbbfknaaGreatDoor.Lx
namespace Go.Proofs.YtbfaclljbbfknaaGreatDoor
open Go.RowKit
set_option linter.unusedVariables false
set_option linter.unusedSimpArgs false
set_option maxRecDepth 100000
def smallI (c:Int):Bool:=decide (97<=c) && decide (c<=122)
def capitalI (c:Int):Bool:=decide (65<=c) && decide (c<=90)
def digitI (c:Int):Bool:=decide (48<=c) && decide (c<=57)
def restI (c:Int):Bool:=smallI c || (capitalI c || (digitI c || decide (c=95)))
def blankI (c:Int):Bool:=decide (c=32) || (decide (c=9) || (decide (c=10) || decide (c=13)))
def lineI (c:Int):Bool:=!decide (c=10)
theorem ret_bool {a b:Bool} (h:a=b):Ending.returned (.bool a)=.returned (.bool b):=by rw [h]
theorem ret_int {k:IntKind} {a b:Int} (h:a=b):Ending.returned (.int k a)=.returned (.int k b):=by rw [h]
theorem isSmall_any (c:Int) (b:Bool) (hb:smallI c=b) (w:World) :
  Calls Tryz.prog 91 #[.int .i32 c] w fun e w'=>e=.returned (.bool b)/\w=w':=by
 subst hb
 unfold smallI
 by_cases h1:97<=c
 ·go_enter Tryz.func91,Tryz.ntmps91
  go_wp2
  all_goals go_ret
  all_goals exact ⟨ret_bool (by rw [Bool.eq_iff_iff];simp <;> omega),rfl⟩
 ·go_enter Tryz.func91,Tryz.ntmps91
  go_wp2
  all_goals go_ret
  all_goals exact ⟨ret_bool (by rw [Bool.eq_iff_iff];simp <;> omega),rfl⟩
theorem isCapital_any (c:Int) (b:Bool) (hb:capitalI c=b) (w:World) :
  Calls Tryz.prog 92 #[.int .i32 c] w fun e w'=>e=.returned (.bool b)/\w=w':=by
 subst hb
 unfold capitalI
 by_cases h1:65<=c
 ·go_enter Tryz.func92,Tryz.ntmps92
  go_wp2
  all_goals go_ret
  all_goals exact ⟨ret_bool (by rw [Bool.eq_iff_iff];simp <;> omega),rfl⟩
 ·go_enter Tryz.func92,Tryz.ntmps92
  go_wp2
  all_goals go_ret
  all_goals exact ⟨ret_bool (by rw [Bool.eq_iff_iff];simp <;> omega),rfl⟩
theorem isDigit_any (c:Int) (b:Bool) (hb:digitI c=b) (w:World) :
  Calls Tryz.prog 94 #[.int .i32 c] w fun e w'=>e=.returned (.bool b)/\w=w':=by
 subst hb
 unfold digitI
 by_cases h1:48<=c
 ·go_enter Tryz.func94,Tryz.ntmps94
  go_wp2
  all_goals go_ret
  all_goals exact ⟨ret_bool (by rw [Bool.eq_iff_iff];simp <;> omega),rfl⟩
 ·go_enter Tryz.func94,Tryz.ntmps94
  go_wp2
  all_goals go_ret
  all_goals exact ⟨ret_bool (by rw [Bool.eq_iff_iff];simp <;> omega),rfl⟩
theorem blank_any (c:Int) (w:World) :
  Calls Tryz.prog 89 #[.int .i32 c] w fun e w'=>e=.returned (.bool (blankI c))/\w=w':=by
 unfold blankI
 go_enter Tryz.func89,Tryz.ntmps89
 go_wp2
 all_goals go_ret
 all_goals exact ⟨ret_bool (by rw [Bool.eq_iff_iff];simp <;> omega),rfl⟩
theorem line_any (c:Int) (w:World) :
  Calls Tryz.prog 90 #[.int .i32 c] w fun e w'=>e=.returned (.bool (lineI c))/\w=w':=by
 unfold lineI
 go_enter Tryz.func90,Tryz.ntmps90
 go_wp2
 all_goals go_ret
 all_goals exact ⟨ret_bool (by rw [Bool.eq_iff_iff];simp <;> omega),rfl⟩
theorem isRest_any (c:Int) (w:World) :
  Calls Tryz.prog 93 #[.int .i32 c] w fun e w'=>e=.returned (.bool (restI c))/\w=w':=by
 cases h1:smallI c
 ·cases h2:capitalI c
  ·cases h3:digitI c
   ·have e:Hid (restI c=decide (c=95)):=Hxq (by simp [restI,h1,h2,h3])
    have H1:=Lib.hid h1;have H2:=Lib.hid h2;have H3:=Lib.hid h3
    clear h1 h2 h3
    go_enter Tryz.func93,Tryz.ntmps93
    go_wp2_with fail
    refine (isSmall_any c _ H1.out _).mono ?_
    rintro e w' ⟨rfl,rfl⟩
    go_wp2_with fail
    refine (isCapital_any c _ H2.out _).mono ?_
    rintro e w' ⟨rfl,rfl⟩
    go_wp2_with fail
    refine (isDigit_any c _ H3.out _).mono ?_
    rintro e w' ⟨rfl,rfl⟩
    go_wp2_with fail
    go_ret
    rw [e.out]
    exact ⟨ret_bool (by rw [Bool.eq_iff_iff];simp),rfl⟩
   ·have e:Hid (restI c=true):=Hxq (by simp [restI,h3])
    have H1:=Lib.hid h1;have H2:=Lib.hid h2;have H3:=Lib.hid h3
    clear h1 h2 h3
    go_enter Tryz.func93,Tryz.ntmps93
    go_wp2_with fail
    refine (isSmall_any c _ H1.out _).mono ?_
    rintro e w' ⟨rfl,rfl⟩
    go_wp2_with fail
    refine (isCapital_any c _ H2.out _).mono ?_
    rintro e w' ⟨rfl,rfl⟩
    go_wp2_with fail
    refine (isDigit_any c _ H3.out _).mono ?_
    rintro e w' ⟨rfl,rfl⟩
    go_wp2_with fail
    go_ret
    rw [e.out]
    exact ⟨rfl,rfl⟩
  ·have e:Hid (restI c=true):=Hxq (by simp [restI,h2])
   have H1:=Lib.hid h1;have H2:=Lib.hid h2
   clear h1 h2
   go_enter Tryz.func93,Tryz.ntmps93
   go_wp2_with fail
   refine (isSmall_any c _ H1.out _).mono ?_
   rintro e w' ⟨rfl,rfl⟩
   go_wp2_with fail
   refine (isCapital_any c _ H2.out _).mono ?_
   rintro e w' ⟨rfl,rfl⟩
   go_wp2_with fail
   go_ret
   rw [e.out]
   exact ⟨rfl,rfl⟩
 ·have e:Hid (restI c=true):=Hxq (by simp [restI,h1])
  have H1:=Lib.hid h1
  clear h1
  go_enter Tryz.func93,Tryz.ntmps93
  go_wp2_with fail
  refine (isSmall_any c _ H1.out _).mono ?_
  rintro e w' ⟨rfl,rfl⟩
  go_wp2_with fail
  go_ret
  rw [e.out]
  exact ⟨rfl,rfl⟩
theorem alike_rest:Lx.Alike restI Lx.goes false:=by
 refine ⟨fun c hc=>?_,fun c hc=>?_,fun c hc=>?_⟩
 ·rw [Bool.eq_iff_iff];simp [restI,smallI,capitalI,digitI,Lx.goes,Lx.small,Lx.capital,Lx.digit];omega
 ·rw [<-Bool.not_eq_true,];simp [restI,smallI,capitalI,digitI];omega
 ·rw [<-Bool.not_eq_true];simp [Lx.goes,Lx.small,Lx.capital,Lx.digit];omega
theorem alike_digit:Lx.Alike digitI Lx.digit false:=by
 refine ⟨fun c hc=>?_,fun c hc=>?_,fun c hc=>?_⟩
 ·rw [Bool.eq_iff_iff];simp [digitI,Lx.digit];omega
 ·rw [<-Bool.not_eq_true,];simp [digitI];omega
 ·rw [<-Bool.not_eq_true];simp [Lx.digit];omega
theorem alike_blank:Lx.Alike blankI Lx.blank false:=by
 refine ⟨fun c hc=>?_,fun c hc=>?_,fun c hc=>?_⟩
 ·rw [Bool.eq_iff_iff];simp [blankI,Lx.blank];omega
 ·rw [<-Bool.not_eq_true,];simp [blankI];omega
 ·rw [<-Bool.not_eq_true];simp [Lx.blank];omega
theorem alike_line:Lx.Alike lineI Lx.line true:=by
 refine ⟨fun c hc=>?_,fun c hc=>?_,fun c hc=>?_⟩
 ·rw [Bool.eq_iff_iff];simp [lineI,Lx.line];omega
 ·simp [lineI];omega
 ·simp [Lx.line];omega
theorem mod_iter (w:World) (s:ByteArray) (pos:Nat):Mod [] w (w.iter s pos):=(Mod.refl [] w).alloc _
theorem enter_of {f : FuncId} {fn : Func} {c : Code} (hf : Tryz.prog.funcs[f]? = some fn) (h1 : (fn.name == "runtime.NumGoroutine") = false) (hb : fn.body = some c) (args : Array Value) (w : World) :
  (callFunc f args).run Tryz.prog w=.ok (.enter f args) w:=by
 have h2 : fn.name ≠ "runtime.NumGoroutine" := by simpa using h1
 simp [callFunc,hf,h2,hb]
set_option maxHeartbeats 1000000 in
/-- how far a text goes on with a kind -/
theorem length_any (n:Nat) (he:∀ (args:Array Value) (w:World),(callFunc n args).run Tryz.prog w=.ok (.enter n args) w) (p:Int->Bool) (q:Nat->Bool) (d:Bool) (ha:Lx.Alike p q d) (hk:∀ (c:Int) (w:World),Calls Tryz.prog n #[.int .i32 c] w fun e w'=>e=.returned (.bool (p c))/\w=w') (s:ByteArray) (hs:s.size<=9223372036854775807) (w:World) :
  Calls Tryz.prog 88 #[.string s,.func (.func n) #[] #[]] w fun e w'=>e=.returned (.int .i64 (Lx.run q (Cod.str s):Nat))/\Mod [] w w':=by
 have HK:=Lib.hid hk
 have hrl:=Lx.run_le q (Cod.str s)
 rw [Cod.str_len] at hrl
 clear hk
 go_enter Tryz.func88,Tryz.ntmps88
 go_wp2_with fail
 go_loopw [] (fun w'=>∃ pos:Nat,pos<=Lx.run q (Cod.str s)/\w'=w.iter s pos) (fun w'=>s.size - w'.iterPos w.heap.size)
 case atStart=>exact ⟨0,Nat.zero_le _,rfl⟩
 case round =>
  obtain ⟨pos,hr,rfl⟩:=hrel
  by_cases hp:pos<s.size
  ·have hnx:∀ ty,(Instr.next (.pointer (some ⟨w.heap.size,0,none⟩)) true ty).run Tryz.prog (w.iter s pos)=_:=fun ty=>run_next_any w s pos ty hp
   cases hd:p ((Utf8.decode s pos).1:Int)
   ·have hst:=Hxq (ha.stop s pos hp hr hd)
    have HD:=Lib.hid hd
    clear hd
    go_wp2_with fail
    refine (HK.out _ _).mono ?_
    rintro e w2 ⟨rfl,rfl⟩
    rw [HD.out]
    go_wp2_with fail
    go_ret
    exact ⟨by rw [hst.out];rfl,mod_iter _ _ _⟩
   ·have hst:=ha.step s pos hp hr hd
    have HD:=Lib.hid hd
    clear hd
    go_wp2_with fail
    refine (HK.out _ _).mono ?_
    rintro e w2 ⟨rfl,rfl⟩
    rw [HD.out]
    go_wp2_with fail
    go_roundw
    case rel=>exact ⟨_,hst.1,rfl⟩
    case measure =>
     simp
     omega
  ·have hnx:∀ ty,(Instr.next (.pointer (some ⟨w.heap.size,0,none⟩)) true ty).run Tryz.prog (w.iter s pos)=_:=fun ty=>run_next_end w s pos ty hp
   go_wp2_with fail
   go_ret
   exact ⟨ret_int (by omega),mod_iter _ _ _⟩
theorem len_blank (s:ByteArray) (hs:s.size<=9223372036854775807) (w:World) :
  Calls Tryz.prog 88 #[.string s,.func (.func 89) #[] #[]] w fun e w'=>e=.returned (.int .i64 (Lx.run Lx.blank (Cod.str s):Nat))/\Mod [] w w' :=
 length_any _ (enter_of Tryz.func89 (by kernel_rfl) rfl) _ _ _ alike_blank blank_any s hs w
theorem len_line (s:ByteArray) (hs:s.size<=9223372036854775807) (w:World) :
  Calls Tryz.prog 88 #[.string s,.func (.func 90) #[] #[]] w fun e w'=>e=.returned (.int .i64 (Lx.run Lx.line (Cod.str s):Nat))/\Mod [] w w' :=
 length_any _ (enter_of Tryz.func90 (by kernel_rfl) rfl) _ _ _ alike_line line_any s hs w
theorem len_rest (s:ByteArray) (hs:s.size<=9223372036854775807) (w:World) :
  Calls Tryz.prog 88 #[.string s,.func (.func 93) #[] #[]] w fun e w'=>e=.returned (.int .i64 (Lx.run Lx.goes (Cod.str s):Nat))/\Mod [] w w' :=
 length_any _ (enter_of Tryz.func93 (by kernel_rfl) rfl) _ _ _ alike_rest isRest_any s hs w
theorem len_digit (s:ByteArray) (hs:s.size<=9223372036854775807) (w:World) :
  Calls Tryz.prog 88 #[.string s,.func (.func 94) #[] #[]] w fun e w'=>e=.returned (.int .i64 (Lx.run Lx.digit (Cod.str s):Nat))/\Mod [] w w' :=
 length_any _ (enter_of Tryz.func94 (by kernel_rfl) rfl) _ _ _ alike_digit (fun c w=>isDigit_any c _ rfl w) s hs w
end Go.Proofs.YtbfaclljbbfknaaGreatDoor
