/- THE TEXTS MERGED: Mem Tk SoPl Base CodePlain CodeW SoRow SoPast. -/
import Derived.Test.YtcalbbfkgdfidaaDoorRows
import Derived.WalkKit
import Derived.Lib.Hide
import Derived.Deep.AppendSrc
import Derived.Deep.QuietTactic
import Derived.BigQuiet
import Derived.StillTailTactics
import Derived.WalkSpells
import Derived.WalkLawsBesides
import Derived.WalkSmall
import Derived.OrdersHeld
import Derived.Tactics
import Derived.RangeFuncNested
import Derived.RangeFuncBound
import Derived.RangeFuncCalls
import Derived.RangeFuncLeaves
import Derived.Shelf.Abstract
import Derived.Shelf.RegionOpen
import Derived.OwnWalkIn
import Derived.TacticsInMore
import Derived.LoopNIn
import Derived.LoopIn
import Derived.OrdersIn
import Derived.Shelf.GgSortFunc.RowK
namespace Go.Proofs.YtcalbbfkgdfidaaDoor
open Go.RowKit
set_option linter.unusedVariables false
/-- Of the blocks that were there, those of S alone may have turned. -/
structure Mod (S:List Nat) (w w':World):Prop where
 os:w'.os=w.os
 tape:w'.tape=w.tape
 output:w'.output=w.output
 size:w.heap.size<=w'.heap.size
 block:∀ k,k<w.heap.size->k∉S->w'.heap[k]?=w.heap[k]?
theorem Mod.refl (S:List Nat) (w:World):Mod S w w:=⟨rfl,rfl,rfl,Nat.le_refl _,fun _ _ _=>rfl⟩
theorem Mod.trans {S T:List Nat} {a b c:World} (h:Mod S a b) (k:Mod T b c) (hT:∀ t∈T,t∈S\/a.heap.size<=t):Mod S a c :=
 ⟨k.os.trans h.os,k.tape.trans h.tape,k.output.trans h.output,Nat.le_trans h.size k.size,fun i hi hn =>
  (k.block i (Nat.lt_of_lt_of_le hi h.size) (fun e=>by rcases hT i e with r | r;exact hn r;omega)).trans (h.block i hi hn)⟩
theorem Mod.mono {S T:List Nat} {a b:World} (h:Mod S a b) (hT:∀ t∈S,t∈T\/a.heap.size<=t):Mod T a b :=
 (Mod.refl T a).trans h hT
theorem Mod.drewN {S:List Nat} {a b:World} (h:Mod S a b) (n:Nat):Mod S a (b.drewN n):=⟨h.os,h.tape,h.output,h.size,h.block⟩
theorem Mod.drew {S:List Nat} {a b:World} (h:Mod S a b):Mod S a b.drew:=⟨h.os,h.tape,h.output,h.size,h.block⟩
theorem Mod.alloc {S:List Nat} {a b:World} (h:Mod S a b) (o:Obj):Mod S a (b.alloc o) :=
 h.trans (T:=[]) ⟨rfl,rfl,rfl,by simp,fun k hk _=>Below.heap_alloc _ _ _ hk⟩ (by simp)
theorem Mod.setCell {S:List Nat} {a b:World} (h:Mod S a b) {p:Addr} (hp:p.block∈S\/a.heap.size<=p.block) (u:Value):Mod S a (b.setCell p u) :=
 h.trans (T:=[p.block]) ⟨rfl,rfl,rfl,by simp [World.setCell],fun k hk hn=>Below.heap_setCell _ _ _ _ (by simpa using hn)⟩ (by simpa using hp)
theorem Mod.grown {S:List Nat} {a b c:World} {row:Option Nat} (h:Mod S a b) (hg:b.grownBy c row) (hr:∀ k,row=some k->k∈S\/a.heap.size<=k):Mod S a c :=
 h.trans (T:=row.toList) ⟨hg.os,hg.tape,hg.output,hg.size,fun k hk hn=>hg.block k hk (fun e=>hn (by simp [<-e]))⟩ (fun t ht=>hr t (by simpa using ht))
theorem Mod.cell {S:List Nat} {a b:World} (h:Mod S a b) {p:Addr} {v:Value} (hc:a.cell? p=some v) (hn:p.block∉S):b.cell? p=some v :=
 (World.cell?_of_block (h.block p.block (World.block_lt_of_cell? a p hc) hn)).trans hc
theorem Mod.at {S:List Nat} {a b:World} (h:Mod S a b) {k:Nat} {o:Obj} (hc:a.heap[k]?=some o) (hn:k∉S):b.heap[k]?=some o :=
 (h.block k (lt_of_block hc) hn).trans hc
theorem Mod.below {S:List Nat} {a b:World} (h:Mod S a b) {B:Nat} (hB:B<=a.heap.size) (hS:∀ t∈S,B<=t):Below B a b :=
 ⟨h.os,h.tape,h.output,h.size,fun k hk=>h.block k (by omega) (fun e=>by have:=hS k e;omega)⟩
theorem Mod.of_below {a b:World} (h:Below a.heap.size a b):Mod [] a b:=⟨h.os,h.tape,h.output,h.size,fun k hk _=>h.block k hk⟩
/-- the block of a slice value -/
def fp:Value->List Nat
 | .slice (some a) _ _=>[a.block]
 | _=>[]
theorem ownBlock_fp (v:Value):∀ k,v.ownBlock=some k->k∈fp v:=by
 intro k h
 unfold Value.ownBlock at h
 split at h
 ·cases h;simp [fp]
 ·cases h
theorem Mod.owns {S:List Nat} {a b:World} (h:Mod S a b) {base:Nat} {e:TypeId} {size:Nat} {v:Value} {n:Nat} {xs:List Value} (ho:a.ownsRow base e size v n xs)
  (hn:∀ k∈fp v,k∉S):b.ownsRow base e size v n xs:=by
 obtain ⟨h1,h2⟩:=ho
 refine ⟨h1,?_⟩
 rcases h2 with h2 | ⟨g,cap,cur,rfl,hg,hh,r⟩
 ·exact .inl h2
 ·exact .inr ⟨g,cap,cur,rfl,hg,h.at hh (hn g (by simp [fp])),r⟩
theorem owns_slice {w:World} {base:Nat} {e:TypeId} {size:Nat} {v:Value} {n:Nat} {xs:List Value} (h:w.ownsRow base e size v n xs):∃ a c,v=.slice a n c:=by
 rcases h.2 with ⟨rfl,rfl⟩ | ⟨g,cap,cur,rfl,r⟩
 ·exact ⟨_,_,rfl⟩
 ·exact ⟨_,_,rfl⟩
section
variable {P:Program} (w:World)
theorem run_append_room_own (t tx ty e:TypeId) (i:TypeInfo) (ht:P.underlying t=some (.slice e)) (hi:P.info? e=some i)
  (g sLen sCap:Nat) (cur:Array Value) (hg:w.heap[g]?=some (.cells cur e (0,0))) (x:Value) (n:Nat) (news:List Value) (hs:Src P i.size tx x n news w)
  (hroom:sLen+n<=sCap) (hfit:sLen * i.size+news.length<=cur.size) :
  (Builtin.append_ #[t,tx] ty #[.slice (some ⟨g,0,none⟩) sLen sCap,x]).run P w =
   .ok (.slice (some ⟨g,0,none⟩) (sLen+n) sCap) (w.setRow g (cur.toList.take (sLen * i.size)++news++cur.toList.drop (sLen * i.size+news.length)).toArray):=by
 have hst:=run_storeCells_at P g (sLen * i.size) e news 0 cur w hg (by simpa using hfit) hs.one
 simp only [Nat.add_zero] at hst
 rcases hs.kind with ⟨e',hk⟩ | hk <;> simp [Builtin.append_,run_underlying ht,run_underlying hk,sizeOf,typeInfo,hi,hs.len,hroom,hs.cells,Addr.add_lit,hst]
theorem run_append_own_src (t tx ty e:TypeId) (i:TypeInfo) (z:Value) (size bytes:Nat) (ht:P.underlying t=some (.slice e)) (hi:P.info? e=some i) (hz:i.zero=some z)
  (hsize:i.size=size) (hby:i.bytes=bytes) (hzs:z.cells.size=size)
  (v:Value) (n:Nat) (xs:List Value) (hown:w.ownsRow 0 e size v n xs)
  (x:Value) (m:Nat) (news:List Value) (hs:Src P size tx x m news w)
  (h63:n+m<=maxLen) (hbytes:(n+m) * bytes<=140737488355328) :
  ∃ v' w',(Builtin.append_ #[t,tx] ty #[v,x]).run P w=.ok v' w'/\w'.ownsRow 0 e size v' (n+m) (xs++news)/\Mod (fp v) w w' /\
   (∀ k∈fp v',k∈fp v\/w.heap.size<=k)/\(v'=.slice none 0 0 ↔ v=.slice none 0 0/\m=0):=by
 subst hsize
 subst hby
 have hl:=hs.newsLen
 have hsmall:n+m<=9223372036854775807:=by simp only [maxLen] at h63;omega
 have hlen:(xs++news).length=(n+m) * i.size:=by rw [List.length_append,hown.1,hl,Nat.add_mul]
 have grown:∀ (old:Nat),old<n+m ->
   (w.drew.alloc (.cells ((xs++news).toArray++Builtin.zeroCells z.cells (grownCap w (n+m) old e - (n+m))) e)).ownsRow 0 e i.size
    (.slice (some ⟨w.heap.size,0,none⟩) (n+m) (grownCap w (n+m) old e)) (n+m) (xs++news):=by
  intro old ho
  have hge:=grownCap_ge w (n+m) old e
  have hcm:grownCap w (n+m) old e<=maxLen:=grownCap_le_maxLen w (n+m) old e h63
  refine ⟨hlen,.inr ⟨w.heap.size,_,_,rfl,Nat.zero_le _,heap_alloc_new w.drew _,hge,hcm,?_,?_⟩⟩
  ·simp only [Array.size_append,List.size_toArray,size_zeroCells,hzs,hlen,<-Nat.add_mul]
   congr 1
   omega
  ·simp only [Array.toList_append]
   rw [<-hlen]
   exact List.take_left
 have gmod:∀ (o:Obj) (S:List Nat),Mod S w (w.drew.alloc o):=fun o S=>((Mod.refl S w).drew).alloc o
 rcases hown.2 with ⟨rfl,rfl⟩ | ⟨g,cap,cur,rfl,hbg,hg,hnc,hcm,hcs,htake⟩
 ·have hx:xs=[]:=List.eq_nil_of_length_eq_zero (by simpa using hown.1)
  subst hx
  by_cases hm:m=0
  ·subst hm
   have hn:news=[]:=List.eq_nil_of_length_eq_zero (by simpa using hl)
   subst hn
   refine ⟨.slice none 0 0,w,?_,World.ownsRow_nil w 0 e i.size,Mod.refl _ _,by simp [fp],by simp⟩
   have hc:(Builtin.firstCells i.size 0 x).run P w=.ok #[] w:=hs.cells
   rcases hs.kind with ⟨e',hk⟩ | hk <;> simp [Builtin.append_,run_underlying ht,run_underlying hk,sizeOf,typeInfo,hi,hs.len,hc]
  ·have hr:=run_append_grow_src (P:=P) w t tx ty e i z ht hi hz none 0 0 [] (run_firstCells_none w.drew i.size 0 0 0) x m news hs (by omega) (by omega) (growslice_fits (by omega) hbytes)
   have hgr:=grown 0 (by omega)
   simp only [Nat.zero_add,List.nil_append] at hgr hr ⊢
   exact ⟨_,_,hr,hgr,gmod _ _,by simp [fp],by simp [hm]⟩
 ·by_cases hroom:n+m<=cap
  ·have hfit:n * i.size+news.length<=cur.size:=by rw [hl,hcs,<-Nat.add_mul];exact Nat.mul_le_mul_right _ hroom
   have hr:=run_append_room_own (P:=P) w t tx ty e i ht hi g n cap cur hg x m news hs hroom hfit
   refine ⟨_,_,hr,⟨hlen,.inr ⟨g,cap,_,rfl,hbg,setRow_heap w g cur _ e _ hg,hroom,hcm,?_,?_⟩⟩,⟨rfl,rfl,rfl,by simp,fun k _ hk=>setRow_other w g k _ (fun e=>hk (by simp [fp,e]))⟩,by simp [fp],by simp⟩
   ·simp only [List.size_toArray,List.length_append,List.length_take,List.length_drop,Array.length_toList]
    omega
   ·rw [htake,<-hlen]
    exact List.take_left
  ·have holds:∀ j u,xs[j]?=some u->w.cell? ((⟨g,0,none⟩:Addr).add j)=some u:=hown.cells (g:=g) rfl
   have hr:=run_append_grow_src (P:=P) w t tx ty e i z ht hi hz (some ⟨g,0,none⟩) n cap xs (run_firstCells_some w.drew i.size n ⟨g,0,none⟩ n cap xs hown.1 (by simpa using holds)) x m news hs (by omega) (by omega) (growslice_fits (by omega) hbytes)
   exact ⟨_,_,hr,grown cap (by omega),gmod _ _,by simp [fp],by simp⟩
theorem wpList_append_src {ops:Array Oper} {rest:List Oper} {o:Oper} {a:Act} {Q:Exit->Act->World->Prop} (hgd:o.guard=none) (s x:Operand) (t tx:TypeId)
  (ho:o.op=.call { callee:=.builtin .append,args:=#[s,x],argTypes:=#[t,tx] })
  (e:TypeId) (i:TypeInfo) (z:Value) (size bytes:Nat) (ht:P.underlying t=some (.slice e)) (hi:P.info? e=some i) (hz:i.zero=some z)
  (hsize:i.size=size) (hby:i.bytes=bytes) (hzs:z.cells.size=size)
  (v:Value) (n:Nat) (xs:List Value) (hs:a.eval s=v) (hown:w.ownsRow 0 e size v n xs)
  (vx:Value) (m:Nat) (news:List Value) (hx:a.eval x=vx) (hsrc:Src P size tx vx m news w)
  (h63:n+m<=maxLen) (hbytes:(n+m) * bytes<=140737488355328)
  (h:∀ v' w',w'.ownsRow 0 e size v' (n+m) (xs++news)->Mod (fp v) w w'->(∀ k∈fp v',k∈fp v\/w.heap.size<=k)->(v'=.slice none 0 0 ↔ v=.slice none 0 0/\m=0)->wpList P ops Q rest (a.put o.dst v') w'):wpList P ops Q (o :: rest) a w :=
 wpList_plain hgd fun K hK=>by
  obtain ⟨v',w',hr,h2,h3,h4,h5⟩:=run_append_own_src (P:=P) w t tx o.type e i z size bytes ht hi hz hsize hby hzs v n xs hown vx m news hsrc h63 hbytes
  unfold Oper.wp execOp
  simp only [ho,resolve,invoke,builtin,Sem.run_bind,Sem.run_pure,Result.andThen_ok,List.map_toArray,List.map_cons,List.map_nil,hs,hx,hr]
  exact hK _ _ (h v' w' h2 h3 h4 h5)
end
open Go.RowKit
set_option linter.unusedVariables false
theorem Lq1 {α : Type} {l : List α} {i : Nat} {a : α} : l.toArray.setIfInBounds i a = (l.set i a).toArray := by simp
theorem Lq2 {α : Type} {x : α} {l : List α} {a : α} : (x :: l).set 0 a = a :: l := rfl
theorem Lq3 {α : Type} {x : α} {l : List α} {n : Nat} {a : α} : (x :: l).set (n + 1) a = x :: l.set n a := rfl
theorem Gq1 {α : Type} {l : List α} {i : Nat} : l.toArray[i]? = l[i]? := by simp
theorem Gq2 {α : Type} {a : α} {l : List α} {n : Nat} : (a :: l)[n + 1]? = l[n]? := rfl
theorem Gq3 {α : Type} {a : α} {l : List α} : (a :: l)[0]? = some a := rfl
theorem Hxq {p : Prop} (h : p) : Hid p := Lib.hid h
theorem Msq {α : Type} {a b : α} : a ∈ [b] ↔ a = b := List.mem_singleton
section
variable {P : Program} {ops : Array Oper} {Q : Exit → Act → World → Prop} {md : Region.Mode} {S : World → Prop}
theorem Tkq (i : Nat) {oi : Oper} {v : Value} {fuel : Nat} {listed : Array Bool} {a : Act} {w : World} (hS : S w)
    (hy : YieldsIf P ops S oi v a) (hQ : ∀ c a w, Q (.panic c) (a.put oi.dst v) w → Q (.panic c) a w)
    (h : wpAnyH P md ops Q S fuel (listed.setIfInBounds i true) (a.put oi.dst v) w)
    (hi : ops[i]? = some oi := by (simp only [Gq1, Gq2, Gq3]) <;> rfl)
    (hs : Region.noSelect ops = true := by kernel_rfl) (hf : Region.free md ops listed i = true := by kernel_rfl) (hr : (Region.ready md ops listed).contains i = true := by kernel_rfl)
    : wpAnyH P md ops Q S (fuel + 1) listed a w :=
  wpAnyH_take hi hs hf hr hQ hy hS h
end
end Go.Proofs.YtcalbbfkgdfidaaDoor
namespace Go.Proofs.YtcalbbfkgdfidaaDoor.So
set_option linter.unusedVariables false
set_option linter.unusedSimpArgs false
/-- by the order, and of those that it takes for one by the place -/
def Lt (f:Nat->Nat->Int) (x y:Nat):Prop:=f x y<0\/f x y=0/\x<y
structure Ord (f:Nat->Nat->Int):Prop where
 anti:∀ x y,f x y<0 ↔ 0<f y x
 tran:∀ x y z,f x y<=0->f y z<=0->f x z<=0
variable {f:Nat->Nat->Int}
theorem Ord.zero (h:Ord f) {x y:Nat} (e:f x y=0):f y x=0:=by
 have h1:=h.anti x y;have h2:=h.anti y x
 omega
theorem Ord.le (h:Ord f) {x y:Nat} (e:¬ f y x<0):f x y<=0:=by
 have h1:=h.anti y x
 omega
theorem Ord.lel (h:Ord f) {x y z:Nat} (a:f x y<=0) (b:f y z<0):f x z<0:=by
 have h1:=h.tran x y z a (by omega)
 rcases Int.lt_or_eq_of_le h1 with h2 | h2
 ·exact h2
 ·have h3:=h.zero h2
  have h4:=h.tran z x y (by omega) a
  have h5:=h.anti y z
  omega
theorem Ord.ltl (h:Ord f) {x y z:Nat} (a:f x y<0) (b:f y z<=0):f x z<0:=by
 have h1:=h.tran x y z (by omega) b
 rcases Int.lt_or_eq_of_le h1 with h2 | h2
 ·exact h2
 ·have h3:=h.zero h2
  have h4:=h.tran y z x b (by omega)
  have h5:=h.anti x y
  omega
theorem Lt.le {x y:Nat} (h:Lt f x y):f x y<=0:=by rcases h with h | h <;> omega
theorem Lt.trans (h:Ord f) {x y z:Nat} (a:Lt f x y) (b:Lt f y z):Lt f x z:=by
 rcases a with a | ⟨a,a'⟩
 ·exact .inl (h.ltl a b.le)
 ·rcases b with b | ⟨b,b'⟩
  ·exact .inl (h.lel (by omega) b)
  ·refine .inr ⟨?_,by omega⟩
   have h1:=h.tran x y z (by omega) (by omega)
   have h2:=h.tran z y x (by have:=h.zero b;omega) (by have:=h.zero a;omega)
   have h3:=h.anti x z;have h4:=h.anti z x
   omega
/-- what stands ahead is below what stands behind -/
def Below (f:Nat->Nat->Int) (A B:List Nat):Prop:=∀ x∈A,∀ y∈B,Lt f x y
/-- of those that the order takes for one, those of the one list come ahead -/
def Cross (f:Nat->Nat->Int) (A B:List Nat):Prop:=∀ x∈A,∀ y∈B,f x y=0->x<y
/-- what a merge of A and B leaves -/
def Merged (f:Nat->Nat->Int) (A B C:List Nat):Prop :=
 C.Perm (A++B)/\(Ord f->A.Pairwise (Lt f)->B.Pairwise (Lt f)->Cross f A B->C.Pairwise (Lt f))
theorem below_pw {A B:List Nat}:(A++B).Pairwise (Lt f) ↔ A.Pairwise (Lt f)/\B.Pairwise (Lt f)/\Below f A B:=List.pairwise_append
theorem Cross.lt {A B:List Nat} (h:Ord f) (hc:Cross f A B) {x y:Nat} (hx:x∈A) (hy:y∈B) (hn:¬ f y x<0):Lt f x y:=by
 have:=h.le hn
 rcases Int.lt_or_eq_of_le this with h2 | h2
 ·exact .inl h2
 ·exact .inr ⟨h2,hc x hx y hy h2⟩
/-- merging one thing into a row: behind those that are not above it -/
theorem merged_one {x:Nat} {B1 B2:List Nat} (h:Ord f->(B1++B2).Pairwise (Lt f)->(∀ y∈B1,f y x<0)/\(∀ y∈B2,¬ f y x<0)):Merged f [x] (B1++B2) (B1++x :: B2):=by
 refine ⟨?_,fun ho ha hb hc=>?_⟩
 ·exact List.perm_middle
 ·obtain ⟨h1,h2⟩:=h ho hb
  obtain ⟨p1,p2,p3⟩:=below_pw.1 hb
  refine below_pw.2 ⟨p1,List.pairwise_cons.2 ⟨fun y hy=>?_,p2⟩,fun a ha' y hy=>?_⟩
  ·exact hc.lt ho (by simp) (by simp [hy]) (h2 y hy)
  ·rcases List.mem_cons.1 hy with rfl | hy
   ·exact .inl (h1 a ha')
   ·exact p3 a ha' y hy
theorem merged_one' {y:Nat} {A1 A2:List Nat} (h:Ord f->(A1++A2).Pairwise (Lt f)->(∀ x∈A1,¬ f y x<0)/\(∀ x∈A2,f y x<0)):Merged f (A1++A2) [y] (A1++y :: A2):=by
 refine ⟨?_,fun ho ha hb hc=>?_⟩
 ·refine (List.perm_middle).trans ?_
  exact (List.perm_append_singleton y (A1++A2)).symm
 ·obtain ⟨h1,h2⟩:=h ho ha
  obtain ⟨p1,p2,p3⟩:=below_pw.1 ha
  refine below_pw.2 ⟨p1,List.pairwise_cons.2 ⟨fun z hz=>.inl (h2 z hz),p2⟩,fun a ha' z hz=>?_⟩
  rcases List.mem_cons.1 hz with rfl | hz
  ·exact hc.lt ho (by simp [ha']) (by simp) (h1 a ha')
  ·exact p3 a ha' z hz
theorem merged_nil {A:List Nat}:Merged f A [] A:=⟨by simp,fun _ h _ _=>h⟩
theorem merged_nil' {A:List Nat}:Merged f [] A A:=⟨by simp,fun _ _ h _=>h⟩
/-- both halves merged -/
theorem merged_two {A1 A2 B1 B2 C1 C2:List Nat} (h1:Merged f A1 B1 C1) (h2:Merged f A2 B2 C2)
  (h:Ord f->(A1++A2).Pairwise (Lt f)->(B1++B2).Pairwise (Lt f)->Cross f (A1++A2) (B1++B2)->Below f A1 B2/\Below f B1 A2):Merged f (A1++A2) (B1++B2) (C1++C2):=by
 refine ⟨?_,fun ho ha hb hc=>?_⟩
 ·refine (h1.1.append h2.1).trans ?_
  rw [List.append_assoc,List.append_assoc]
  refine List.Perm.append_left _ ?_
  rw [<-List.append_assoc,<-List.append_assoc]
  exact List.Perm.append_right _ List.perm_append_comm
 ·obtain ⟨x1,x2⟩:=h ho ha hb hc
  obtain ⟨a1,a2,a3⟩:=below_pw.1 ha
  obtain ⟨b1,b2,b3⟩:=below_pw.1 hb
  refine below_pw.2 ⟨h1.2 ho a1 b1 (fun x hx y hy=>hc x (by simp [hx]) y (by simp [hy])),h2.2 ho a2 b2 (fun x hx y hy=>hc x (by simp [hx]) y (by simp [hy])),fun x hx y hy=>?_⟩
  have hx:=h1.1.mem_iff.1 hx;have hy:=h2.1.mem_iff.1 hy
  rcases List.mem_append.1 hx with hx | hx <;> rcases List.mem_append.1 hy with hy | hy
  ·exact a3 x hx y hy
  ·exact x1 x hx y hy
  ·exact x2 x hx y hy
  ·exact b3 x hx y hy
theorem pw_get {A:List Nat} (h:A.Pairwise (Lt f)) {i j:Nat} (hij:i<j) (hj:j<A.length):Lt f (A[i]'(by omega)) A[j]:=List.pairwise_iff_getElem.1 h i j (by omega) hj hij
theorem mem_take_get {A:List Nat} {i x:Nat} (h:x∈A.take i):∃ j,∃ (hj:j<A.length),j<i/\A[j]=x:=by
 obtain ⟨j,hj,e⟩:=List.mem_iff_getElem.1 h
 rw [List.length_take] at hj
 exact ⟨j,by omega,by omega,by rw [<-e,List.getElem_take]⟩
theorem mem_drop_get {A:List Nat} {i x:Nat} (h:x∈A.drop i):∃ j,∃ (hj:j<A.length),i<=j/\A[j]=x:=by
 obtain ⟨j,hj,e⟩:=List.mem_iff_getElem.1 h
 rw [List.length_drop] at hj
 exact ⟨i+j,by omega,by omega,by rw [<-e,List.getElem_drop]⟩
/-- halving the row behind one thing -/
def Bs1 (f:Nat->Nat->Int) (B:List Nat) (x i j:Nat):Prop:=Ord f->B.Pairwise (Lt f)->(∀ q,(h:q<B.length)->q<i->f B[q] x<0)/\(∀ q,(h:q<B.length)->j<=q->¬ f B[q] x<0)
theorem Bs1.start (B:List Nat) (x:Nat):Bs1 f B x 0 B.length:=fun _ _=>⟨fun q h hq=>by omega,fun q h hq=>by omega⟩
theorem Bs1.up {B:List Nat} {x i j h:Nat} (s:Bs1 f B x i j) (hl:h<B.length) (hx:f B[h] x<0):Bs1 f B x (h+1) j:=fun ho hp=>by
 refine ⟨fun q hq hqh=>?_,(s ho hp).2⟩
 rcases Nat.lt_or_ge q h with h1 | h1
 ·exact ho.lel (pw_get hp h1 hl).le hx
 ·obtain rfl:q=h:=by omega
  exact hx
theorem Bs1.down {B:List Nat} {x i j h:Nat} (s:Bs1 f B x i j) (hl:h<B.length) (hx:¬ f B[h] x<0):Bs1 f B x i h:=fun ho hp=>by
 refine ⟨(s ho hp).1,fun q hq hqh hn=>hx ?_⟩
 rcases Nat.lt_or_ge h q with h1 | h1
 ·exact ho.lel (pw_get hp h1 hq).le hn
 ·obtain rfl:q=h:=by omega
  exact hn
theorem Bs1.fin {B:List Nat} {x i:Nat} (s:Bs1 f B x i i):Merged f [x] B (B.take i++x :: B.drop i):=by
 have:=merged_one (f:=f) (x:=x) (B1:=B.take i) (B2:=B.drop i) (fun ho hp=>by
  rw [List.take_append_drop] at hp
  obtain ⟨h1,h2⟩:=s ho hp
  refine ⟨fun y hy=>?_,fun y hy=>?_⟩
  ·obtain ⟨j,hj,hji,rfl⟩:=mem_take_get hy;exact h1 j hj hji
  ·obtain ⟨j,hj,hji,rfl⟩:=mem_drop_get hy;exact h2 j hj hji)
 rwa [List.take_append_drop] at this
/-- halving the row ahead of one thing -/
def Bs2 (f:Nat->Nat->Int) (A:List Nat) (y i j:Nat):Prop:=Ord f->A.Pairwise (Lt f)->(∀ q,(h:q<A.length)->q<i->¬ f y A[q]<0)/\(∀ q,(h:q<A.length)->j<=q->f y A[q]<0)
theorem Bs2.start (A:List Nat) (y:Nat):Bs2 f A y 0 A.length:=fun _ _=>⟨fun q h hq=>by omega,fun q h hq=>by omega⟩
theorem Bs2.up {A:List Nat} {y i j h:Nat} (s:Bs2 f A y i j) (hl:h<A.length) (hx:¬ f y A[h]<0):Bs2 f A y (h+1) j:=fun ho hp=>by
 refine ⟨fun q hq hqh hn=>hx ?_,(s ho hp).2⟩
 rcases Nat.lt_or_ge q h with h1 | h1
 ·exact ho.ltl hn (pw_get hp h1 hl).le
 ·obtain rfl:q=h:=by omega
  exact hn
theorem Bs2.down {A:List Nat} {y i j h:Nat} (s:Bs2 f A y i j) (hl:h<A.length) (hx:f y A[h]<0):Bs2 f A y i h:=fun ho hp=>by
 refine ⟨(s ho hp).1,fun q hq hqh=>?_⟩
 rcases Nat.lt_or_ge h q with h1 | h1
 ·exact ho.ltl hx (pw_get hp h1 hq).le
 ·obtain rfl:q=h:=by omega
  exact hx
theorem Bs2.fin {A:List Nat} {y i:Nat} (s:Bs2 f A y i i):Merged f A [y] (A.take i++y :: A.drop i):=by
 have:=merged_one' (f:=f) (y:=y) (A1:=A.take i) (A2:=A.drop i) (fun ho hp=>by
  rw [List.take_append_drop] at hp
  obtain ⟨h1,h2⟩:=s ho hp
  refine ⟨fun y hy=>?_,fun y hy=>?_⟩
  ·obtain ⟨j,hj,hji,rfl⟩:=mem_take_get hy;exact h1 j hj hji
  ·obtain ⟨j,hj,hji,rfl⟩:=mem_drop_get hy;exact h2 j hj hji)
 rwa [List.take_append_drop] at this
/-- halving both rows at once: c things of A, d - c of B -/
def Bs3 (f:Nat->Nat->Int) (A B:List Nat) (d s0 r0 s r:Nat):Prop:=Ord f->A.Pairwise (Lt f)->B.Pairwise (Lt f) ->
 (∀ c,(ha:c<A.length)->(hb:d - 1 - c<B.length)->s0<=c->c<s->¬ f B[d - 1 - c] A[c]<0)/\(∀ c,(ha:c<A.length)->(hb:d - 1 - c<B.length)->r<=c->c<r0->f B[d - 1 - c] A[c]<0)
theorem Bs3.start (A B:List Nat) (d s0 r0:Nat):Bs3 f A B d s0 r0 s0 r0:=fun _ _ _=>⟨fun q h h' hq=>by omega,fun q h h' hq=>by omega⟩
theorem Bs3.up {A B:List Nat} {d s0 r0 s r c:Nat} (h:Bs3 f A B d s0 r0 s r) (hd:c+1<=d) (ha:c<A.length) (hb:d - 1 - c<B.length) (hx:¬ f B[d - 1 - c] A[c]<0):Bs3 f A B d s0 r0 (c+1) r:=fun ho hp hq=>by
 refine ⟨fun q h1 h2 h3 h4 hn=>hx ?_,(h ho hp hq).2⟩
 rcases Nat.lt_or_ge q c with h5 | h5
 ·have e1:=(pw_get hp h5 ha).le
  have e2:=(pw_get hq (i:=d - 1 - c) (j:=d - 1 - q) (by omega) h2).le
  exact ho.ltl (ho.lel e2 hn) e1
 ·obtain rfl:q=c:=by omega
  exact hn
theorem Bs3.down {A B:List Nat} {d s0 r0 s r c:Nat} (h:Bs3 f A B d s0 r0 s r) (hr:r0<=d) (ha:c<A.length) (hb:d - 1 - c<B.length) (hx:f B[d - 1 - c] A[c]<0):Bs3 f A B d s0 r0 s c:=fun ho hp hq=>by
 refine ⟨(h ho hp hq).1,fun q h1 h2 h3 h4=>?_⟩
 rcases Nat.lt_or_ge c q with h5 | h5
 ·have e1:=(pw_get hp h5 h1).le
  have e2:=(pw_get hq (i:=d - 1 - q) (j:=d - 1 - c) (by omega) hb).le
  exact ho.ltl (ho.lel e2 hx) e1
 ·obtain rfl:q=c:=by omega
  exact hx
/-- the end of it: the parts that go ahead are below those that go behind -/
theorem Bs3.fin {A B:List Nat} {d s0 r0 s:Nat} (h:Bs3 f A B d s0 r0 s s) (hs0:s0<=s) (hr0:s<=r0) (hA:r0<=A.length) (hd:r0<=d) (hdB:d<=B.length+s0) (hL:s0=0\/d=B.length+s0) (hR:r0=A.length\/r0=d)
  (ho:Ord f) (hp:A.Pairwise (Lt f)) (hq:B.Pairwise (Lt f)) (hc:Cross f A B):Below f (A.take s) (B.drop (d - s))/\Below f (B.take (d - s)) (A.drop s):=by
 obtain ⟨h1,h2⟩:=h ho hp hq
 refine ⟨fun x hx y hy=>?_,fun y hy x hx=>?_⟩
 ·obtain ⟨i,hi,his,rfl⟩:=mem_take_get hx
  obtain ⟨j,hj,hjs,rfl⟩:=mem_drop_get hy
  have hlt:s0<s:=by
   rcases hL with h | h
   ·omega
   ·omega
  have hb:d - 1 - (s - 1)<B.length:=by omega
  have k:=h1 (s - 1) (by omega) hb (by omega) (by omega)
  refine hc.lt ho (List.getElem_mem hi) (List.getElem_mem hj) (fun hn=>k ?_)
  have e1:f A[i] A[s - 1]<=0:=by
   rcases Nat.lt_or_ge i (s - 1) with h5 | h5
   ·exact (pw_get hp h5 (by omega)).le
   ·have:i=s - 1:=by omega
    subst this
    have:=ho.anti A[s - 1] A[s - 1]
    omega
  have e2:f B[d - 1 - (s - 1)] B[j]<=0:=by
   rcases Nat.lt_or_ge (d - 1 - (s - 1)) j with h5 | h5
   ·exact (pw_get hq h5 hj).le
   ·have:j=d - 1 - (s - 1):=by omega
    subst this
    have:=ho.anti B[d - 1 - (s - 1)] B[d - 1 - (s - 1)]
    omega
  exact ho.ltl (ho.lel e2 hn) e1
 ·obtain ⟨i,hi,his,rfl⟩:=mem_drop_get hx
  obtain ⟨j,hj,hjs,rfl⟩:=mem_take_get hy
  have hlt:s<r0:=by
   rcases hR with h | h
   ·omega
   ·omega
  have hb:d - 1 - s<B.length:=by omega
  have k:=h2 s (by omega) hb (by omega) hlt
  have e1:f A[s] A[i]<=0:=by
   rcases Nat.lt_or_ge s i with h5 | h5
   ·exact (pw_get hp h5 hi).le
   ·have:i=s:=by omega
    subst this
    have:=ho.anti A[i] A[i]
    omega
  have e2:f B[j] B[d - 1 - s]<=0:=by
   rcases Nat.lt_or_ge j (d - 1 - s) with h5 | h5
   ·exact (pw_get hq h5 hb).le
   ·have:j=d - 1 - s:=by omega
    subst this
    have:=ho.anti B[d - 1 - s] B[d - 1 - s]
    omega
  exact .inl (ho.ltl (ho.lel e2 k) e1)
/-- a row that was in order of places, sorted -/
def Sorted (f:Nat->Nat->Int) (A C:List Nat):Prop:=C.Perm A/\(Ord f->A.Pairwise (·<·)->C.Pairwise (Lt f))
theorem Sorted.nil:Sorted f [] []:=⟨List.Perm.refl _,fun _ _=>List.Pairwise.nil⟩
/-- the next one is put in: it stands behind P, ahead of Q, which are above it -/
theorem Sorted.put {A P Q:List Nat} {x:Nat} (h:Sorted f A (P++Q)) (hQ:∀ q∈Q,f x q<0) (hP:∀ p,P.getLast?=some p->¬ f x p<0):Sorted f (A++[x]) (P++x :: Q):=by
 refine ⟨?_,fun ho ha=>?_⟩
 ·refine List.perm_middle.trans ?_
  refine (h.1.cons x).trans ?_
  exact (List.perm_append_singleton x A).symm
 ·obtain ⟨a1,-,a3⟩:=List.pairwise_append.1 ha
  obtain ⟨p1,p2,p3⟩:=below_pw.1 (h.2 ho a1)
  have hPx:∀ p∈P,Lt f p x:=by
   intro p hp
   have hm:p∈A:=h.1.mem_iff.1 (by simp [hp])
   have hlt:p<x:=a3 p hm x (by simp)
   have hn:¬ f x p<0:=by
    rcases List.eq_nil_or_concat P with rfl | ⟨P',l,rfl⟩
    ·cases hp
    ·have hl:=hP l (by simp)
     rw [List.concat_eq_append] at hp p1
     rcases List.mem_append.1 hp with hp | hp
     ·have:=(below_pw.1 p1).2.2 p hp l (by simp)
      intro hn
      exact hl (ho.ltl hn this.le)
     ·rw [Msq] at hp;subst hp;exact hl
   rcases Int.lt_or_eq_of_le (ho.le hn) with h2 | h2
   ·exact .inl h2
   ·exact .inr ⟨h2,hlt⟩
  refine below_pw.2 ⟨p1,List.pairwise_cons.2 ⟨fun q hq=>.inl (hQ q hq),p2⟩,fun p hp y hy=>?_⟩
  rcases List.mem_cons.1 hy with rfl | hy
  ·exact hPx p hp
  ·exact p3 p hp y hy
/-- a chunk from place a on -/
def Chunk (f:Nat->Nat->Int) (a:Nat) (C:List Nat):Prop:=C.Perm (List.range' a C.length)/\(Ord f->C.Pairwise (Lt f))
inductive Ch (f:Nat->Nat->Int) (s:Nat):Nat->List Nat->Prop
 | last {a:Nat} {C:List Nat} (hl:C.length<=s) (h:Chunk f a C):Ch f s a C
 | cons {a:Nat} {C R:List Nat} (hl:C.length=s) (h:Chunk f a C) (hr:Ch f s (a+s) R):Ch f s a (C++R)
theorem Chunk.nil (a:Nat):Chunk f a []:=⟨by simp,fun _=>List.Pairwise.nil⟩
theorem Chunk.sorted {a n:Nat} {C:List Nat} (h:Sorted f (List.range' a n) C):Chunk f a C:=by
 have hl:C.length=n:=by rw [h.1.length_eq,List.length_range']
 exact ⟨by rw [hl];exact h.1,fun ho=>h.2 ho List.pairwise_lt_range'⟩
theorem Chunk.merge {a:Nat} {A B C:List Nat} (hA:Chunk f a A) (hB:Chunk f (a+A.length) B) (h:Merged f A B C):Chunk f a C:=by
 have hl:C.length=A.length+B.length:=by rw [h.1.length_eq,List.length_append]
 refine ⟨?_,fun ho=>h.2 ho (hA.2 ho) (hB.2 ho) (fun x hx y hy _=>?_)⟩
 ·rw [hl]
  refine h.1.trans ?_
  rw [<-List.range'_append_1]
  exact hA.1.append hB.1
 ·have h1:=hA.1.mem_iff.1 hx;have h2:=hB.1.mem_iff.1 hy
  rw [List.mem_range'_1] at h1 h2
  omega
theorem Ch.two {s a:Nat} {l:List Nat} (hs:0<s) (h:Ch f s a l) (hl:2 * s<=l.length):∃ A B R,l=A++(B++R)/\A.length=s/\B.length=s/\Chunk f a A/\Chunk f (a+s) B/\Ch f s (a+2 * s) R:=by
 cases h with
 | last h1 h2=>omega
 | cons h1 h2 h3 =>
  rename_i C R
  rw [List.length_append] at hl
  cases h3 with
  | last h4 h5 =>
   have:R.length=s:=by omega
   exact ⟨C,R,[],by simp,h1,this,h2,h5,.last (by simp) (.nil _)⟩
  | cons h4 h5 h6 =>
   rename_i C' R'
   refine ⟨C,C',R',rfl,h1,h4,h2,h5,?_⟩
   rwa [show a+2 * s=a+s+s by omega]
theorem Ch.one {s a:Nat} {l:List Nat} (hs:0<s) (h:Ch f s a l) (hl:l.length<=s):Chunk f a l:=by
 cases h with
 | last h1 h2=>exact h2
 | cons h1 h2 h3 =>
  rename_i C R
  rw [List.length_append] at hl
  have:R=[]:=List.length_eq_zero_iff.1 (by omega)
  subst this
  rwa [List.append_nil]
theorem Ch.split {s a:Nat} {l:List Nat} (hs:0<s) (h:Ch f s a l) (hl:s<l.length) (hl2:l.length<2 * s):∃ A B,l=A++B/\A.length=s/\Chunk f a A/\Chunk f (a+s) B:=by
 cases h with
 | last h1 h2=>omega
 | cons h1 h2 h3 =>
  rename_i C R
  rw [List.length_append] at hl2
  exact ⟨C,R,rfl,h1,h2,h3.one hs (by omega)⟩
/-- what is done: chunks ahead of the rest -/
def Hd (f:Nat->Nat->Int) (s a:Nat) (D:List Nat):Prop:=D.length=a/\∀ R,Ch f s a R->Ch f s 0 (D++R)
theorem Hd.nil (s:Nat):Hd f s 0 []:=⟨rfl,fun R h=>h⟩
theorem Hd.snoc {s a:Nat} {D C:List Nat} (h:Hd f s a D) (hl:C.length=s) (hc:Chunk f a C):Hd f s (a+s) (D++C) :=
 ⟨by rw [List.length_append,h.1,hl],fun R hR=>by rw [List.append_assoc];exact h.2 _ (.cons hl hc hR)⟩
theorem Hd.end {s a:Nat} {D C:List Nat} (h:Hd f s a D) (hl:C.length<=s) (hc:Chunk f a C):Ch f s 0 (D++C):=h.2 _ (.last hl hc)
end Go.Proofs.YtcalbbfkgdfidaaDoor.So
namespace Go.Proofs.YtcalbbfkgdfidaaDoor
open Go.RowKit
theorem ret_int {k:IntKind} {a b:Int} (h:a=b):Ending.returned (.int k a)=.returned (.int k b):=by rw [h]
/-- the slice v reads as the bytes l -/
def Reads (w:World) (v:Value) (l:List Nat):Prop :=
  (∀ c∈l,c<256)/\l.length<=140737488355328 /\
  ((∃ x c,v=.slice x 0 c/\l=[]) \/
   ∃ b off cap,v=.slice (some ⟨b,off,none⟩) l.length cap/\∀ i,i<l.length->w.cell? ⟨b,off+i,none⟩=some (.int .u8 (l.getD i 0:Nat)))
theorem take_snoc {α:Type} (l:List α) (d:α) (k:Nat) (h:k<l.length):l.take (k+1)=l.take k++[l.getD k d]:=by
  rw [List.take_succ_eq_append_getElem h,List.getD_eq_getElem?_getD,List.getElem?_eq_getElem h];rfl
end Go.Proofs.YtcalbbfkgdfidaaDoor
namespace Go.Proofs.YtcalbbfkgdfidaaDoor.Cod
/-- so many numbers a word of 64 bits holds (kept behind a name: the walk does not bear the numeral) -/
def U64:Nat:=18446744073709551616
/-- a number's bytes, seven bits each; the last is below 128 -/
def uvF:Nat->Nat->List Nat
 | 0,n=>[n % 256]
 | k+1,n=>if n<128 then [n] else (n % 128+128) :: uvF k (n / 128)
def uv (n:Nat):List Nat:=uvF 10 n
/-- a number with a sign, as one without -/
def zz (n:Int):Nat:=if 0<=n then (2 * n).toNat else (-2 * n - 1).toNat
theorem or128 (a:Nat) (h:a<256):a ||| 128=a % 128+128:=by
 have:∀ a:Fin 256,a.1 ||| 128=a.1 % 128+128:=by decide +kernel
 exact this ⟨a,h⟩
theorem zz_lt (n:Int) (h1:-9223372036854775808<=n) (h2:n<=9223372036854775807):zz n<U64:=by
 unfold zz U64;split <;> omega
/-- a string's bytes -/
def str (s:ByteArray):List Nat:=s.data.toList.map UInt8.toNat
theorem str_len (s:ByteArray):(str s).length=s.size:=by
 unfold str;rw [List.length_map,Array.length_toList];rfl
theorem str_lt (s:ByteArray):∀ c∈str s,c<256:=by
 intro c hc
 obtain ⟨x,_,rfl⟩:=List.mem_map.1 hc
 exact x.toNat_lt
theorem uvF_len:∀ (k n:Nat),(uvF k n).length<=k+1
 | 0,n=>by simp [uvF]
 | k+1,n=>by
  unfold uvF
  split
  ·simp
  ·have:=uvF_len k (n / 128);simp;omega
end Go.Proofs.YtcalbbfkgdfidaaDoor.Cod
namespace Go.Proofs.YtcalbbfkgdfidaaDoor
open Go.RowKit
set_option linter.unusedVariables false
set_option maxRecDepth 100000
def toCells (l:List Nat):List Value:=l.map fun (c:Nat)=>Value.int .u8 (c:Int)
theorem toCells_len (l:List Nat):(toCells l).length=l.length:=by simp [toCells]
theorem toCells_append (l k:List Nat):toCells (l++k)=toCells l++toCells k:=by simp [toCells]
theorem toCells_one (l:List Nat):∀ u∈toCells l,u.oneCell'=true:=by
 intro u hu
 obtain ⟨_,_,rfl⟩:=List.mem_map.1 hu
 rfl
theorem toCells_get (l:List Nat) (i:Nat) (h:i<l.length):(toCells l)[i]?=some (.int .u8 (l.getD i 0:Nat)):=by
 simp [toCells,List.getD_eq_getElem?_getD,List.getElem?_eq_getElem h]
theorem Tryd.infoU8:(Tryd.prog.info? 5).map (fun i=>(i.zero,i.size,i.bytes))=some (some (.int .u8 0),1,1):=by kernel_rfl
/-- block b holds a writer (or a box) whose slice is v; it holds the bytes l -/
structure BoxIs (w:World) (b:Nat) (v:Value) (l:List Nat):Prop where
 at_:w.heap[b]?=some (.cells #[v] 97 (0,0))
 row:w.ownsRow 0 5 1 v l.length (toCells l)
 out:b∉fp v
 byte:∀ c∈l,c<256
theorem addr_add (b o j:Nat):(⟨b,o,none⟩:Addr).add j=⟨b,o+j,none⟩:=by
 unfold Addr.add;split <;> simp_all
theorem src_reads {w:World} {v:Value} {l:List Nat} (h:Reads w v l):Src Tryd.prog 1 51 v l.length (toCells l) w:=by
 obtain ⟨hb,hl,⟨x,c,rfl,rfl⟩ | ⟨b,off,cap,rfl,hc⟩⟩:=h
 ·cases x with
  | none=>exact Src.ofNil (size:=1) w Tryd.underlying51 c
  | some a=>exact Src.ofSlice w Tryd.underlying51 a 0 c [] rfl (by simp) (by simp)
 ·refine Src.ofSlice w Tryd.underlying51 _ _ _ _ (by rw [toCells_len,Nat.mul_one]) (fun j u hu=>?_) (toCells_one l)
  have hj:j<l.length:=by
   have:=List.getElem?_eq_some_iff.1 hu
   obtain ⟨h,_⟩:=this
   rwa [toCells_len] at h
  rw [toCells_get l j hj] at hu
  cases hu
  rw [addr_add]
  exact hc j hj
theorem reads_own {w:World} {v:Value} {l:List Nat} (h:w.ownsRow 0 5 1 v l.length (toCells l)) (hb:∀ c∈l,c<256) (hl:l.length<=140737488355328):Reads w v l:=by
 refine ⟨hb,hl,?_⟩
 rcases h.2 with ⟨rfl,hn⟩ | ⟨g,cap,cur,rfl,h1,h2,h3,h4,h5,h6⟩
 ·exact .inl ⟨_,_,rfl,List.eq_nil_of_length_eq_zero hn⟩
 ·refine .inr ⟨g,0,cap,rfl,fun i hi=>?_⟩
  have:=h.cells (g:=g) rfl i _ (toCells_get l i hi)
  rwa [addr_add] at this
/-- what a call that lays bytes leaves -/
def Laid (b:Nat) (v:Value) (l:List Nat) (w:World) (e:Ending) (w':World):Prop :=
 e=.returned (.tuple #[])/\∃ v',BoxIs w' b v' l/\Mod (b :: fp v) w w'/\∀ k∈fp v',k∈fp v\/w.heap.size<=k
theorem laid_of {b:Nat} {v v':Value} {l k:List Nat} {w w1:World} (h:BoxIs w b v l) (hown:w1.ownsRow 0 5 1 v' (l.length+k.length) (toCells l++toCells k))
  (hmod:Mod (fp v) w w1) (hfresh:∀ t∈fp v',t∈fp v\/w.heap.size<=t) (hk:∀ c∈k,c<256) :
  Laid b v (l++k) w (.returned (.tuple #[])) (w1.setCell ⟨b,0,none⟩ v'):=by
 have hat1:=hmod.at h.at_ h.out
 have hb':b∉fp v':=fun hb=>by
  rcases hfresh b hb with r | r
  ·exact h.out r
  ·have:=lt_of_block h.at_;omega
 exact ⟨rfl,v',⟨one_setCell hat1,by
   rw [List.length_append,toCells_append]
   exact ownsRow_setCell_other hown (fun e=>hb' (ownBlock_fp _ _ e)) _,hb',fun c hc=>(List.mem_append.1 hc).elim (h.byte c) (hk c)⟩,
  Mod.setCell (p:=⟨b,0,none⟩) (hmod.mono (fun t ht=>.inl (List.mem_cons_of_mem _ ht))) (.inl List.mem_cons_self) _,hfresh⟩
theorem put_any (b:Nat) (v src:Value) (l k:List Nat) (w:World) (h:BoxIs w b v l) (hr:Reads w src k) (hlen:l.length+k.length<=140737488355328) :
  Calls Tryd.prog 55 #[.pointer (some ⟨b,0,none⟩),src] w (Laid b v (l++k) w):=by
 obtain ⟨i0,hi,hz0,hz1,hz2⟩:=info_parts Tryd.infoU8
 have hcell:=cell_of_one h.at_
 have hfree:=free_of_one h.at_
 have hsrc:=src_reads hr
 go_enter Tryd.func55,Tryd.ntmps55
 go_wp2_with (at_builtin;refine wpList_append_src _ rfl _ _ 51 51 rfl 5 i0 (.int .u8 0) 1 1 Tryd.underlying51 hi hz0 hz1 hz2 rfl v l.length (toCells l) rfl h.row src k.length (toCells k) rfl hsrc (by unfold maxLen;omega) (by omega) ?_)
 intro v' w1 hown hmod hfresh hnil
 have hat1:=hmod.at h.at_ h.out
 have hc1:=cell_of_one hat1
 have hf1:=free_of_one hat1
 have HH:=laid_of h hown hmod hfresh hr.1
 obtain ⟨a',c',rfl⟩:=owns_slice hown
 clear hnil hfresh hown hmod
 go_wp2
 go_end0
 exact HH
/-- two calls that lay bytes, one behind the other -/
theorem Laid.then {b:Nat} {v:Value} {l k:List Nat} {w w1 w2:World} {e e2:Ending} (h:Laid b v l w e w1) (k2:∀ v',BoxIs w1 b v' l->Laid b v' k w1 e2 w2):Laid b v k w e2 w2:=by
 obtain ⟨_,v1,hb,hm,hf⟩:=h
 obtain ⟨he,v2,hb2,hm2,hf2⟩:=k2 v1 hb
 refine ⟨he,v2,hb2,hm.trans hm2 (fun t ht=>?_),fun t ht=>?_⟩
 ·rcases List.mem_cons.1 ht with rfl | r
  ·exact .inl List.mem_cons_self
  ·rcases hf t r with r | r
   ·exact .inl (List.mem_cons_of_mem _ r)
   ·exact .inr r
 ·rcases hf2 t ht with r | r
  ·exact hf t r
  ·exact .inr (by have:=hm.size;omega)
theorem reads_one (w:World) (c:Nat) (hc:c<256):Reads (w.alloc (.cells #[.int .u8 (c:Int)] 5)) (.slice (some ⟨w.heap.size,0,none⟩) 1 1) [c]:=by
 refine ⟨by simpa using hc,by simp,.inr ⟨_,_,_,rfl,fun i hi=>?_⟩⟩
 obtain rfl:i=0:=by simp at hi;omega
 exact cell_of_one (heap_alloc_new w _)
theorem BoxIs.alloc {w:World} {b:Nat} {v:Value} {l:List Nat} (h:BoxIs w b v l) (o:Obj):BoxIs (w.alloc o) b v l :=
 ⟨(Below.heap_alloc _ _ _ (lt_of_block h.at_)).trans h.at_,h.row.alloc o,h.out,h.byte⟩
theorem Laid.after {b:Nat} {v v':Value} {k:List Nat} {w wr w2:World} {e:Ending} (hmod:Mod (b :: fp v) w wr) (hfr:∀ t∈fp v',t∈fp v\/w.heap.size<=t) (h:Laid b v' k wr e w2):Laid b v k w e w2:=by
 obtain ⟨he,v2,hb2,hm2,hf2⟩:=h
 refine ⟨he,v2,hb2,hmod.trans hm2 (fun t ht=>?_),fun t ht=>?_⟩
 ·rcases List.mem_cons.1 ht with rfl | r
  ·exact .inl List.mem_cons_self
  ·rcases hfr t r with r | r
   ·exact .inl (List.mem_cons_of_mem _ r)
   ·exact .inr r
 ·rcases hf2 t ht with r | r
  ·exact hfr t r
  ·exact .inr (by have:=hmod.size;omega)
theorem u8_or128 (n:Nat):Go.bits .or .u8 ((n:Int) % 256) 128=((n % 128+128:Nat):Int):=by
 have:=u8_or_nat (n % 256) 128 (by omega) (by decide)
 rw [Cod.or128 _ (by omega)] at this
 have e:((n:Int) % 256)=((n % 256:Nat):Int):=by simp
 rw [e,show (128:Int)=((128:Nat):Int) from rfl,this]
 congr 2
 omega
theorem uint_any (b:Nat) (v:Value) (n:Nat) (l:List Nat) (w:World) (h:BoxIs w b v l) (hn:n<Cod.U64) (hlen:l.length+11<=140737488355328) :
  Calls Tryd.prog 54 #[.pointer (some ⟨b,0,none⟩),.int .u64 n] w (Laid b v (l++Cod.uv n) w):=by
 go_enter Tryd.func54,Tryd.ntmps54
 go_wp2_with fail
 go_loopw [1,4] (fun m i wr=>∃ (k:Nat) (m':Nat) (done:List Nat) (v':Value),k<=10/\done.length=k/\i=.int .i64 k/\m=.int .u64 m'/\m'<Cod.U64/\done++Cod.uvF (10 - k) m'=Cod.uv n/\BoxIs wr b v' (l++done)/\Mod (b :: fp v) w wr/\(∀ t∈fp v',t∈fp v\/w.heap.size<=t)) (fun _ i _=>10 - (intOf i).toNat)
 case atStart=>exact ⟨0,n,[],v,Nat.zero_le _,rfl,rfl,rfl,hn,rfl,by simpa using h,Mod.refl _ _,fun t ht=>.inl ht⟩
 case round =>
  obtain ⟨k,m',done,v',hk,hd,rfl,rfl,hm,hu,hbox,hmod,hfr⟩:=hrel
  have hl:(l++done).length+1<=140737488355328:=by rw [List.length_append];omega
  have hu':=Lib.hid hu
  have hd':=Lib.hid hd
  clear hu hd
  by_cases hlt:k<10
  ·by_cases hs:m'<128
   ·have hone:=reads_one wr m' (by omega)
    have hfin:Hid ((l++done)++[m']=l++Cod.uv n):=Hxq (by
     rw [<-hu'.out,List.append_assoc];congr 2;rw [show 10 - k=(9 - k)+1 by omega];simp [Cod.uvF,hs])
    go_wp2_with fail
    refine (put_any b v' _ (l++done) [m'] _ (hbox.alloc _) hone hl).mono ?_
    rintro e w2 hlaid
    obtain ⟨rfl,-⟩:=id hlaid
    go_wp2_with fail
    go_end0
    rw [<-hfin.out]
    exact hlaid.after (hmod.alloc _) hfr
   ·have hor:=u8_or128 m'
    have hone:=reads_one wr (m' % 128+128) (by omega)
    have hfin:Hid ((done++[m' % 128+128])++Cod.uvF (10 - (k+1)) (m' / 128)=Cod.uv n):=Hxq (by
     rw [<-hu'.out,List.append_assoc];congr 1;rw [show 10 - k=(10 - (k+1))+1 by omega];simp [Cod.uvF,hs])
    go_wp2_with fail
    refine (put_any b v' _ (l++done) [m' % 128+128] _ (hbox.alloc _) hone hl).mono ?_
    rintro e w2 hlaid
    obtain ⟨rfl,v2,hb2,-,-⟩:=id hlaid
    obtain ⟨-,v3,hb3,hm3,hf3⟩:=hlaid.after (hmod.alloc _) hfr
    clear hb2 hor
    rw [List.append_assoc] at hb3
    go_wp2_with fail
    go_roundw
    case rel=>exact ⟨k+1,m' / 128,done++[m' % 128+128],v3,by omega,by simp [hd'.out],by go_num,by go_num,by unfold Cod.U64 at *;omega,hfin.out,hb3,hm3,hf3⟩
    case measure=>simp [intOf];omega
  ·obtain rfl:k=10:=by omega
   have hone:=reads_one wr (m' % 256) (by omega)
   have hfin:Hid ((l++done)++[m' % 256]=l++Cod.uv n):=Hxq (by
    rw [<-hu'.out,List.append_assoc];simp [Cod.uvF])
   go_wp2_with fail
   rw [show ((m':Int) % 256)=((m' % 256:Nat):Int) from by simp]
   refine (put_any b v' _ (l++done) [m' % 256] _ (hbox.alloc _) hone hl).mono ?_
   rintro e w2 hlaid
   obtain ⟨rfl,-⟩:=id hlaid
   go_wp2_with fail
   go_end0
   rw [<-hfin.out]
   exact hlaid.after (hmod.alloc _) hfr
open Go.RowKit Go.Sort Go.Lib
set_option linter.unusedSimpArgs false
/-- two things of a list, exchanged -/
def swL (l:List Nat) (p q:Nat):List Nat:=(l.set p (l.getD q 0)).set q (l.getD p 0)
theorem swL_at (A B C:List Nat) (x y p q:Nat) (hp:p=A.length) (hq:q=A.length+1+B.length):swL (A++x :: (B++y :: C)) p q=A++y :: (B++x :: C):=by
 subst hp hq
 unfold swL
 have e1:(A++x :: (B++y :: C)).getD A.length 0=x:=by simp
 have e2:(A++x :: (B++y :: C)).getD (A.length+1+B.length) 0=y:=by
  rw [List.getD_eq_getElem?_getD,List.getElem?_append_right (by omega),show A.length+1+B.length - A.length=B.length+1 by omega]
  simp
 rw [e1,e2,List.set_append_right _ _ (by omega),Nat.sub_self,List.set_cons_zero,List.set_append_right _ _ (by omega),show A.length+1+B.length - A.length=B.length+1 by omega,List.set_cons_succ,List.set_append_right _ _ (by omega),Nat.sub_self,List.set_cons_zero]
theorem swL_adj (A C:List Nat) (x y p q:Nat) (hp:p=A.length+1) (hq:q=A.length):swL (A++x :: y :: C) p q=A++y :: x :: C:=by
 subst hp hq
 unfold swL
 have e1:(A++x :: y :: C).getD A.length 0=x:=by simp
 have e2:(A++x :: y :: C).getD (A.length+1) 0=y:=by
  rw [List.getD_eq_getElem?_getD,List.getElem?_append_right (by omega),show A.length+1 - A.length=1 by omega]
  rfl
 rw [e1,e2,List.set_append_right _ _ (by omega),show A.length+1 - A.length=1 by omega,List.set_cons_succ,List.set_cons_zero,List.set_append_right _ _ (by omega),Nat.sub_self,List.set_cons_zero]
theorem getD_at (A C:List Nat) (x p:Nat) (hp:p=A.length):(A++x :: C).getD p 0=x:=by
 subst hp;simp
theorem getD_in (P B Y:List Nat) (i p:Nat) (hi:i<B.length) (hp:p=P.length+i):(P++(B++Y)).getD p 0=B[i]:=by
 subst hp
 rw [List.getD_eq_getElem?_getD,List.getElem?_append_right (by omega),Nat.add_sub_cancel_left,List.getElem?_append_left hi,List.getElem?_eq_getElem hi]
 rfl
theorem swap_step (X U M V Y:List Nat) (i n p q:Nat) (hU:U.length=n) (hV:V.length=n) (hi:i<n) (hp:p=X.length+i) (hq:q=X.length+n+M.length+i) :
  swL (X++((V.take i++U.drop i)++(M++((U.take i++V.drop i)++Y)))) p q=X++((V.take (i+1)++U.drop (i+1))++(M++((U.take (i+1)++V.drop (i+1))++Y))):=by
 have hu:i<U.length:=by omega
 have hv:i<V.length:=by omega
 rw [List.drop_eq_getElem_cons hu,List.drop_eq_getElem_cons hv]
 have e:=swL_at (X++V.take i) (U.drop (i+1)++(M++U.take i)) (V.drop (i+1)++Y) U[i] V[i] p q (by simp;omega) (by simp;omega)
 have e1:X++((V.take i++U[i] :: U.drop (i+1))++(M++((U.take i++V[i] :: V.drop (i+1))++Y)))=(X++V.take i)++U[i] :: ((U.drop (i+1)++(M++U.take i))++V[i] :: (V.drop (i+1)++Y)):=by simp only [List.append_assoc,List.cons_append]
 rw [e1,e,List.take_succ_eq_append_getElem hu,List.take_succ_eq_append_getElem hv]
 simp only [List.append_assoc,List.cons_append,List.nil_append]
theorem swp_list (l:List Nat) (p q:Nat) (hp:p<l.length) (hq:q<l.length):swp l.toArray p q=(swL l p q).toArray:=by
 unfold swp swL
 simp [List.getD_eq_getElem?_getD,hp,hq]
structure Enc (enc:Nat->List Value) (k:Nat):Prop where
 len:∀ x,(enc x).length=k
 one:∀ x,∀ v∈enc x,v.oneCell'=true
theorem Enc.two {enc:Nat->List Value} (E:Enc enc 2) (x:Nat):∃ a b,enc x=[a,b]:=by
 have:=E.len x
 match h:enc x,this with
 | [a,b],_=>exact ⟨a,b,rfl⟩
theorem Enc.three {enc:Nat->List Value} (E:Enc enc 3) (x:Nat):∃ a b c,enc x=[a,b,c]:=by
 have:=E.len x
 match h:enc x,this with
 | [a,b,c],_=>exact ⟨a,b,c,rfl⟩
def Row (enc:Nat->List Value) (k:Nat) (W:World) (g:Nat) (l:List Nat):Prop:=HoldsK enc k W g 0 l.toArray
section
variable {enc:Nat->List Value} {k:Nat} {W W':World} {g:Nat} {l:List Nat} {S:List Nat}
theorem Row.keep (h:Row enc k W g l) (hm:Mod S W W') (hg:g∉S) (hl:g<W.heap.size):Row enc k W' g l:=by
 intro j hj
 obtain ⟨h1,h2⟩:=h j hj
 have hb:=hm.block g hl hg
 exact ⟨by unfold World.cell? at h1 ⊢;simp only at h1 ⊢;rw [hb];exact h1,by unfold World.frozen? at h2 ⊢;simp only at h2 ⊢;rw [hb];exact h2⟩
theorem Row.cell (h:Row enc k W g l) (E:Enc enc k) (i:Nat) (hi:i<l.length) (c:Nat) (v:Value) (hv:(enc (l.getD i 0))[c]?=some v) :
  W.cell? ⟨g,i * k+c,none⟩=some v/\W.frozen? ⟨g,i * k+c,none⟩=false:=by
 have e:l.toArray[i]! =l.getD i 0:=by simp [List.getD_eq_getElem?_getD,hi]
 have hc:c<k:=by have:=(List.getElem?_eq_some_iff.1 hv).1;rwa [E.len] at this
 have h2:=HoldsK.cell h (i:=i) (c:=c) (by simpa using hi) hc
 rw [e,Nat.zero_add,getElem!_pos (enc (l.getD i 0)) c (by rw [E.len];exact hc)] at h2
 rw [List.getElem?_eq_getElem (by rw [E.len];exact hc)] at hv
 rw [hv] at h2
 exact h2
theorem flat_size (enc:Nat->List Value) (k:Nat) (l:List Nat) (i:Nat) (hi:i<l.length):i * k+k<=(flatK enc k l.toArray).size:=by
 rw [size_flatK]
 have:=Nat.mul_le_mul_right k (show i+1<=l.length from hi)
 rw [Nat.add_mul,Nat.one_mul] at this
 simpa using this
theorem setCells_holds {F:Array Value} (h:Holds id W g 0 F) (s:Nat) (vs:List Value) (hs:s+vs.length<=F.size):Holds id (W.setCells g s vs) g 0 (setMany F s vs):=by
 have e:W.setCells g s vs=putRow id W g 0 (setMany F s vs):=by
  have h0:W.setCells g (0+s) vs=putRow id W g 0 (setMany F s vs):=by
   conv=>lhs;rw [<-putRow_self id W g 0 F h]
   exact setCells_putRow _ _ _ _ _ _ hs
  rwa [Nat.zero_add] at h0
 rw [e]
 exact holds_putRow id W g 0 F _ h (by rw [size_setMany])
theorem Row.swapped (h:Row enc k W g l) (E:Enc enc k) (p q:Nat) (hp:p<l.length) (hq:q<l.length):Row enc k ((W.setCells g (p * k) (enc (l.getD q 0))).setCells g (q * k) (enc (l.getD p 0))) g (swL l p q):=by
 have h1:=setCells_holds h (p * k) (enc (l.getD q 0)) (by rw [E.len];exact flat_size enc k l p hp)
 have h2:=setCells_holds h1 (q * k) (enc (l.getD p 0)) (by rw [E.len,size_setMany];exact flat_size enc k l q hq)
 have e:=setMany_swp enc k E.len l.toArray p q (by simpa using hp) (by simpa using hq)
 have e1:l.toArray[p]! =l.getD p 0:=by simp [List.getD_eq_getElem?_getD,hp]
 have e2:l.toArray[q]! =l.getD q 0:=by simp [List.getD_eq_getElem?_getD,hq]
 rw [e1,e2,swp_list l p q hp hq] at e
 unfold Row HoldsK
 rw [<-e]
 exact h2
theorem mod_setCells (g:Nat):∀ (vs:List Value) (o:Nat) (W:World),Mod [g] W (W.setCells g o vs)
 | [],_,W=>Mod.refl _ _
 | v :: r,o,W=>by
  rw [World.setCells]
  exact ((Mod.refl [g] W).setCell (.inl (by simp)) v).trans (mod_setCells g r _ _) (fun t ht=>.inl ht)
theorem Row.drew (h:Row enc k W g l):Row enc k W.drew g l:=h
end
/-- a cell that may be written -/
def Wr (W:World) (g j:Nat):Prop:=(W.cell? ⟨g,j,none⟩).isSome=true/\W.frozen? ⟨g,j,none⟩=false
theorem Wr.set {W:World} {g j:Nat} (h:Wr W g j) (p:Addr) (v:Value):Wr (W.setCell p v) g j:=by
 refine ⟨?_,by rw [World.frozen?_setCell];exact h.2⟩
 obtain ⟨u,hu⟩:=Option.isSome_iff_exists.1 h.1
 by_cases e:p=⟨g,j,none⟩
 ·subst e;rw [World.cell?_setCell_same W _ v hu];rfl
 ·rw [World.cell?_setCell_other W p _ v e,hu];rfl
theorem store_ok (P:Program) {W:World} {g j:Nat} {v:Value} (h:Wr W g j) (h1:v.oneCell'=true):Sem.run P (store ⟨g,j,none⟩ v) W=.ok () (W.setCell ⟨g,j,none⟩ v):=by
 rw [run_store P W _ v _ h1]
 obtain ⟨u,hu⟩:=Option.isSome_iff_exists.1 h.1
 have hz:=h.2
 simp [hu,hz]
theorem store_drew (P:Program) {W:World} {g j:Nat} {v:Value} (h:Wr W g j) (h1:v.oneCell'=true):Sem.run P (store ⟨g,j,none⟩ v) W.drew=.ok () (W.setCell ⟨g,j,none⟩ v).drew:=by
 have:=store_ok P (W:=W.drew) h h1
 rw [this]
 rfl
theorem Row.wr {enc:Nat->List Value} {k:Nat} {W:World} {g:Nat} {l:List Nat} (h:Row enc k W g l) (E:Enc enc k) (p:Nat) (hp:p<l.length) (c:Nat) (hc:c<k):Wr W g (p * k+c):=by
 have h1:=h.cell E p hp c _ (List.getElem?_eq_getElem (by rw [E.len];exact hc))
 exact ⟨by rw [h1.1];rfl,h1.2⟩
theorem Row.seted {enc:Nat->List Value} {k:Nat} {W:World} {g:Nat} {l:List Nat} (h:Row enc k W g l) (E:Enc enc k) (p x:Nat) (hp:p<l.length):Row enc k (W.setCells g (p * k) (enc x)) g (l.set p x):=by
 have h1:=setCells_holds h (p * k) (enc x) (by rw [E.len];exact flat_size enc k l p hp)
 unfold Row HoldsK
 have e:setMany (flatK enc k l.toArray) (p * k) (enc x)=flatK enc k (l.set p x).toArray:=by
  refine ext_get! (by simp) fun t ht=>?_
  have ht':t<l.toArray.size * k:=by simpa using ht
  have k0:0<k:=by
   rcases Nat.eq_zero_or_pos k with h | h
   ·subst h;simp at ht'
   ·exact h
  rw [get_setMany _ _ _ t (by simpa using ht'),get_flatK _ _ _ t ht',get_flatK _ _ _ t (by simpa using ht'),E.len]
  by_cases a:t / k=p
  ·rw [if_pos ((blk_iff k p t k0).2 a)]
   subst a
   have hd:t / k<l.length:=hp
   rw [show t - t / k * k=t % k by rw [Nat.mod_eq_sub_div_mul]]
   simp [hd]
  ·rw [if_neg (fun h=>a ((blk_iff k p t k0).1 h))]
   simp [a,Ne.symm a]
 rw [<-e]
 exact h1
theorem Row.swap3 {enc:Nat->List Value} {W:World} {g:Nat} {l:List Nat} (h:Row enc 3 W g l) (E:Enc enc 3) (P:Program) (p q:Nat) (hp:p<l.length) (hq:q<l.length) :
  ∃ x0 x1 x2 y0 y1 y2,enc (l.getD p 0)=[x0,x1,x2]/\enc (l.getD q 0)=[y0,y1,y2] /\
  W.cell? ⟨g,p * 3,none⟩=some x0/\W.cell? ⟨g,p * 3+1,none⟩=some x1/\W.cell? ⟨g,p * 3+2,none⟩=some x2/\W.cell? ⟨g,q * 3,none⟩=some y0/\W.cell? ⟨g,q * 3+1,none⟩=some y1/\W.cell? ⟨g,q * 3+2,none⟩=some y2 /\
  Sem.run P (store ⟨g,p * 3,none⟩ y0) W.drew=.ok () (W.setCell ⟨g,p * 3,none⟩ y0).drew /\
  Sem.run P (store ⟨g,p * 3+1,none⟩ y1) (W.setCell ⟨g,p * 3,none⟩ y0).drew=.ok () ((W.setCell ⟨g,p * 3,none⟩ y0).setCell ⟨g,p * 3+1,none⟩ y1).drew /\
  Sem.run P (store ⟨g,p * 3+2,none⟩ y2) ((W.setCell ⟨g,p * 3,none⟩ y0).setCell ⟨g,p * 3+1,none⟩ y1).drew=.ok () (((W.setCell ⟨g,p * 3,none⟩ y0).setCell ⟨g,p * 3+1,none⟩ y1).setCell ⟨g,p * 3+2,none⟩ y2).drew /\
  Sem.run P (store ⟨g,q * 3,none⟩ x0) (((W.setCell ⟨g,p * 3,none⟩ y0).setCell ⟨g,p * 3+1,none⟩ y1).setCell ⟨g,p * 3+2,none⟩ y2).drew=.ok () ((((W.setCell ⟨g,p * 3,none⟩ y0).setCell ⟨g,p * 3+1,none⟩ y1).setCell ⟨g,p * 3+2,none⟩ y2).setCell ⟨g,q * 3,none⟩ x0).drew /\
  Sem.run P (store ⟨g,q * 3+1,none⟩ x1) ((((W.setCell ⟨g,p * 3,none⟩ y0).setCell ⟨g,p * 3+1,none⟩ y1).setCell ⟨g,p * 3+2,none⟩ y2).setCell ⟨g,q * 3,none⟩ x0).drew=.ok () (((((W.setCell ⟨g,p * 3,none⟩ y0).setCell ⟨g,p * 3+1,none⟩ y1).setCell ⟨g,p * 3+2,none⟩ y2).setCell ⟨g,q * 3,none⟩ x0).setCell ⟨g,q * 3+1,none⟩ x1).drew /\
  Sem.run P (store ⟨g,q * 3+2,none⟩ x2) (((((W.setCell ⟨g,p * 3,none⟩ y0).setCell ⟨g,p * 3+1,none⟩ y1).setCell ⟨g,p * 3+2,none⟩ y2).setCell ⟨g,q * 3,none⟩ x0).setCell ⟨g,q * 3+1,none⟩ x1).drew=.ok () ((((((W.setCell ⟨g,p * 3,none⟩ y0).setCell ⟨g,p * 3+1,none⟩ y1).setCell ⟨g,p * 3+2,none⟩ y2).setCell ⟨g,q * 3,none⟩ x0).setCell ⟨g,q * 3+1,none⟩ x1).setCell ⟨g,q * 3+2,none⟩ x2).drew /\
  (Row enc 3 ((((((W.setCell ⟨g,p * 3,none⟩ y0).setCell ⟨g,p * 3+1,none⟩ y1).setCell ⟨g,p * 3+2,none⟩ y2).setCell ⟨g,q * 3,none⟩ x0).setCell ⟨g,q * 3+1,none⟩ x1).setCell ⟨g,q * 3+2,none⟩ x2).drew g (swL l p q)/\Mod [g] W ((((((W.setCell ⟨g,p * 3,none⟩ y0).setCell ⟨g,p * 3+1,none⟩ y1).setCell ⟨g,p * 3+2,none⟩ y2).setCell ⟨g,q * 3,none⟩ x0).setCell ⟨g,q * 3+1,none⟩ x1).setCell ⟨g,q * 3+2,none⟩ x2).drew):=by
 obtain ⟨x0,x1,x2,hx⟩:=E.three (l.getD p 0)
 obtain ⟨y0,y1,y2,hy⟩:=E.three (l.getD q 0)
 have N:=h.swapped E p q hp hq
 rw [hx,hy] at N
 have cp0:=h.cell E p hp 0 x0 (by rw [hx];rfl)
 have op0:=E.one (l.getD p 0) x0 (by rw [hx];simp)
 have cp1:=h.cell E p hp 1 x1 (by rw [hx];rfl)
 have op1:=E.one (l.getD p 0) x1 (by rw [hx];simp)
 have cp2:=h.cell E p hp 2 x2 (by rw [hx];rfl)
 have op2:=E.one (l.getD p 0) x2 (by rw [hx];simp)
 have cq0:=h.cell E q hq 0 y0 (by rw [hy];rfl)
 have oq0:=E.one (l.getD q 0) y0 (by rw [hy];simp)
 have cq1:=h.cell E q hq 1 y1 (by rw [hy];rfl)
 have oq1:=E.one (l.getD q 0) y1 (by rw [hy];simp)
 have cq2:=h.cell E q hq 2 y2 (by rw [hy];rfl)
 have oq2:=E.one (l.getD q 0) y2 (by rw [hy];simp)
 have w0:∀ b c,(∃ v,W.cell? ⟨g,b * 3+c,none⟩=some v/\W.frozen? ⟨g,b * 3+c,none⟩=false)->Wr W g (b * 3+c):=fun b c ⟨v,h1,h2⟩=>⟨by rw [h1];rfl,h2⟩
 have wp0:=w0 p 0 ⟨_,cp0.1,cp0.2⟩
 have wp1:=w0 p 1 ⟨_,cp1.1,cp1.2⟩
 have wp2:=w0 p 2 ⟨_,cp2.1,cp2.2⟩
 have wq0:=w0 q 0 ⟨_,cq0.1,cq0.2⟩
 have wq1:=w0 q 1 ⟨_,cq1.1,cq1.2⟩
 have wq2:=w0 q 2 ⟨_,cq2.1,cq2.2⟩
 rw [Nat.add_zero] at cp0 cq0 wp0 wq0
 have N2:Row enc 3 ((((((W.setCell ⟨g,p * 3,none⟩ y0).setCell ⟨g,p * 3+1,none⟩ y1).setCell ⟨g,p * 3+2,none⟩ y2).setCell ⟨g,q * 3,none⟩ x0).setCell ⟨g,q * 3+1,none⟩ x1).setCell ⟨g,q * 3+2,none⟩ x2) g (swL l p q):=N
 exact ⟨x0,x1,x2,y0,y1,y2,hx,hy,cp0.1,cp1.1,cp2.1,cq0.1,cq1.1,cq2.1,store_drew P wp0 oq0,store_drew P (Wr.set wp1 _ _) oq1,store_drew P (Wr.set (Wr.set wp2 _ _) _ _) oq2,store_drew P (Wr.set (Wr.set (Wr.set wq0 _ _) _ _) _ _) op0,store_drew P (Wr.set (Wr.set (Wr.set (Wr.set wq1 _ _) _ _) _ _) _ _) op1,store_drew P (Wr.set (Wr.set (Wr.set (Wr.set (Wr.set wq2 _ _) _ _) _ _) _ _) _ _) op2,⟨N2.drew,(((((((Mod.refl [g] W).setCell (.inl (by simp)) _).setCell (.inl (by simp)) _).setCell (.inl (by simp)) _).setCell (.inl (by simp)) _).setCell (.inl (by simp)) _).setCell (.inl (by simp)) _).drew⟩⟩
theorem Row.copy3 {enc:Nat->List Value} {W:World} {g:Nat} {l:List Nat} (h:Row enc 3 W g l) (E:Enc enc 3) (P:Program) (p q:Nat) (hp:p<l.length) (hq:q<l.length) :
  ∃ y0 y1 y2,enc (l.getD q 0)=[y0,y1,y2]/\W.cell? ⟨g,q * 3,none⟩=some y0/\W.cell? ⟨g,q * 3+1,none⟩=some y1/\W.cell? ⟨g,q * 3+2,none⟩=some y2 /\
  Sem.run P (store ⟨g,p * 3,none⟩ y0) W=.ok () (W.setCell ⟨g,p * 3,none⟩ y0) /\
  Sem.run P (store ⟨g,p * 3+1,none⟩ y1) (W.setCell ⟨g,p * 3,none⟩ y0)=.ok () ((W.setCell ⟨g,p * 3,none⟩ y0).setCell ⟨g,p * 3+1,none⟩ y1) /\
  Sem.run P (store ⟨g,p * 3+2,none⟩ y2) ((W.setCell ⟨g,p * 3,none⟩ y0).setCell ⟨g,p * 3+1,none⟩ y1)=.ok () (((W.setCell ⟨g,p * 3,none⟩ y0).setCell ⟨g,p * 3+1,none⟩ y1).setCell ⟨g,p * 3+2,none⟩ y2) /\
  (Row enc 3 (((W.setCell ⟨g,p * 3,none⟩ y0).setCell ⟨g,p * 3+1,none⟩ y1).setCell ⟨g,p * 3+2,none⟩ y2) g (l.set p (l.getD q 0))/\Mod [g] W (((W.setCell ⟨g,p * 3,none⟩ y0).setCell ⟨g,p * 3+1,none⟩ y1).setCell ⟨g,p * 3+2,none⟩ y2)):=by
 obtain ⟨y0,y1,y2,hy⟩:=E.three (l.getD q 0)
 have N:=h.seted E p (l.getD q 0) hp
 rw [hy] at N
 have cq0:=h.cell E q hq 0 y0 (by rw [hy];rfl)
 have oq0:=E.one (l.getD q 0) y0 (by rw [hy];simp)
 have wp0:Wr W g (p * 3+0):=h.wr E p hp 0 (by omega)
 have cq1:=h.cell E q hq 1 y1 (by rw [hy];rfl)
 have oq1:=E.one (l.getD q 0) y1 (by rw [hy];simp)
 have wp1:Wr W g (p * 3+1):=h.wr E p hp 1 (by omega)
 have cq2:=h.cell E q hq 2 y2 (by rw [hy];rfl)
 have oq2:=E.one (l.getD q 0) y2 (by rw [hy];simp)
 have wp2:Wr W g (p * 3+2):=h.wr E p hp 2 (by omega)
 rw [Nat.add_zero] at cq0 wp0
 exact ⟨y0,y1,y2,hy,cq0.1,cq1.1,cq2.1,store_ok P wp0 oq0,store_ok P (Wr.set wp1 _ _) oq1,store_ok P (Wr.set (Wr.set wp2 _ _) _ _) oq2,⟨N,((((Mod.refl [g] W).setCell (.inl (by simp)) _).setCell (.inl (by simp)) _).setCell (.inl (by simp)) _)⟩⟩
open Go.RowKit Go.Sort Go.Lib
set_option linter.unusedVariables false
/-- a world past W: what was there is there -/
structure Past (W:World) where
 w:World
 m:Mod [] W w
theorem past_one (W:World):Nonempty (Past W):=⟨⟨W,Mod.refl _ _⟩⟩
theorem region_past {P:Program} {id:Nat} {Q:Exit->Act->World->Prop} {a:Act} {W:World} {l:List Oper} (hm:P.follows .mixedOrders=true) (hB:Region.lexB .any l.toArray=true)
  (h:wpQuiet P l.toArray (fun w'=>∃ p:Past W,w'=p.w) (fun a'=>∀ w',(∃ p:Past W,w'=p.w)->Q .normal a' w') l a):(Code.region id l.toArray true).wp P Q a W :=
 wp_region_quiet (C:=fun w'=>∃ p:Past W,w'=p.w) hm hB ⟨⟨W.drew,(Mod.refl [] W).drew⟩,rfl⟩ (by simpa using h)
theorem past_call {P:Program} {f:FuncId} {args:Array Value} {W:World} {p:Past W} {v:Value}
  (h:Calls P f args p.w fun e w'=>e=.returned v/\Mod [] p.w w'):Calls P f args p.w fun e w''=>e=.returned v/\∃ q:Past W,w''=q.w :=
 h.mono fun _ w' ⟨he,hm⟩=>⟨he,⟨w',p.m.trans hm (by simp)⟩,rfl⟩
/-- an order that is told by a function, in all worlds in which the sort's row alone has turned -/
def CmpOk (c:FuncId) (enc:Nat->List Value) (f:Nat->Nat->Int) (W:World) (g:Nat):Prop :=
 ∀ W',Mod [g] W W'->∀ x y,Calls Tryd.prog c #[.agg (enc x).toArray,.agg (enc y).toArray] W' fun e W''=>e=.returned (.int .i64 (f x y))/\Mod [] W' W''
theorem CmpOk.past {c:FuncId} {enc:Nat->List Value} {f:Nat->Nat->Int} {W W':World} {g:Nat} (h:CmpOk c enc f W g) (hm:Mod [g] W W'):CmpOk c enc f W' g :=
 fun V hV=>h V (hm.trans hV (fun t ht=>.inl ht))
theorem CmpOk.call {c:FuncId} {enc:Nat->List Value} {f:Nat->Nat->Int} {W:World} {g:Nat} (h:CmpOk c enc f W g) (x y:Nat) {X Y:List Value} (hx:enc x=X) (hy:enc y=Y) :
  ∀ p:Past W,Calls Tryd.prog c #[.agg X.toArray,.agg Y.toArray] p.w fun e W''=>e=.returned (.int .i64 (f x y))/\Mod [] p.w W'':=fun p=>by
 subst hx hy
 exact h p.w (p.m.mono (by simp)) x y
theorem past_cell {W:World} {a:Addr} {v:Value} (h:W.cell? a=some v):∀ p:Past W,p.w.cell? a=some v:=fun p=>p.m.cell h (by simp)
theorem Row.past {enc:Nat->List Value} {k:Nat} {W W':World} {g:Nat} {l:List Nat} (h:Row enc k W g l) (hm:Mod [] W W') (hl:g<W.heap.size):Row enc k W' g l:=h.keep hm (by simp) hl
end Go.Proofs.YtcalbbfkgdfidaaDoor
