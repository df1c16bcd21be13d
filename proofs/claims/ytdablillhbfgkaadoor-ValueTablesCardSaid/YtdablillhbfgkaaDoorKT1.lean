/- THE TEXTS MERGED: Mem Tk Base CodePlain CodeW VaCode2 LxPlain. -/
import Derived.Test.YtdablillhbfgkaaDoorRows
import Derived.WalkKit
import Derived.Lib.Hide
import Derived.Deep.AppendSrc
import Derived.Deep.QuietTactic
import Derived.BigQuiet
import Derived.StillTailTactics
import Derived.WalkSpells
import Derived.WalkLawsBesides
import Derived.WalkSmall
import Derived.OrdersHeld
namespace Go.Proofs.YtdablillhbfgkaaDoor
open Go.RowKit
set_option linter.unusedVariables false
/-- Of the blocks that were there, those of S alone may have turned. -/
structure Mod (S:List Nat) (w w':World):Prop where
 os:w'.os=w.os
 tape:w'.tape=w.tape
 output:w'.output=w.output
 size:w.heap.size<=w'.heap.size
 block:∀ k,k<w.heap.size->k∉S->w'.heap[k]?=w.heap[k]?
theorem Mod.refl (S:List Nat) (w:World):Mod S w w:=⟨rfl,rfl,rfl,Nat.le_refl _,fun _ _ _=>rfl⟩
theorem Mod.trans {S T:List Nat} {a b c:World} (h:Mod S a b) (k:Mod T b c) (hT:∀ t∈T,t∈S\/a.heap.size<=t):Mod S a c :=
 ⟨k.os.trans h.os,k.tape.trans h.tape,k.output.trans h.output,Nat.le_trans h.size k.size,fun i hi hn =>
  (k.block i (Nat.lt_of_lt_of_le hi h.size) (fun e=>by rcases hT i e with r | r;exact hn r;omega)).trans (h.block i hi hn)⟩
theorem Mod.mono {S T:List Nat} {a b:World} (h:Mod S a b) (hT:∀ t∈S,t∈T\/a.heap.size<=t):Mod T a b :=
 (Mod.refl T a).trans h hT
theorem Mod.drewN {S:List Nat} {a b:World} (h:Mod S a b) (n:Nat):Mod S a (b.drewN n):=⟨h.os,h.tape,h.output,h.size,h.block⟩
theorem Mod.drew {S:List Nat} {a b:World} (h:Mod S a b):Mod S a b.drew:=⟨h.os,h.tape,h.output,h.size,h.block⟩
theorem Mod.alloc {S:List Nat} {a b:World} (h:Mod S a b) (o:Obj):Mod S a (b.alloc o) :=
 h.trans (T:=[]) ⟨rfl,rfl,rfl,by simp,fun k hk _=>Below.heap_alloc _ _ _ hk⟩ (by simp)
theorem Mod.setCell {S:List Nat} {a b:World} (h:Mod S a b) {p:Addr} (hp:p.block∈S\/a.heap.size<=p.block) (u:Value):Mod S a (b.setCell p u) :=
 h.trans (T:=[p.block]) ⟨rfl,rfl,rfl,by simp [World.setCell],fun k hk hn=>Below.heap_setCell _ _ _ _ (by simpa using hn)⟩ (by simpa using hp)
theorem Mod.grown {S:List Nat} {a b c:World} {row:Option Nat} (h:Mod S a b) (hg:b.grownBy c row) (hr:∀ k,row=some k->k∈S\/a.heap.size<=k):Mod S a c :=
 h.trans (T:=row.toList) ⟨hg.os,hg.tape,hg.output,hg.size,fun k hk hn=>hg.block k hk (fun e=>hn (by simp [<-e]))⟩ (fun t ht=>hr t (by simpa using ht))
theorem Mod.cell {S:List Nat} {a b:World} (h:Mod S a b) {p:Addr} {v:Value} (hc:a.cell? p=some v) (hn:p.block∉S):b.cell? p=some v :=
 (World.cell?_of_block (h.block p.block (World.block_lt_of_cell? a p hc) hn)).trans hc
theorem Mod.at {S:List Nat} {a b:World} (h:Mod S a b) {k:Nat} {o:Obj} (hc:a.heap[k]?=some o) (hn:k∉S):b.heap[k]?=some o :=
 (h.block k (lt_of_block hc) hn).trans hc
theorem Mod.below {S:List Nat} {a b:World} (h:Mod S a b) {B:Nat} (hB:B<=a.heap.size) (hS:∀ t∈S,B<=t):Below B a b :=
 ⟨h.os,h.tape,h.output,h.size,fun k hk=>h.block k (by omega) (fun e=>by have:=hS k e;omega)⟩
theorem Mod.of_below {a b:World} (h:Below a.heap.size a b):Mod [] a b:=⟨h.os,h.tape,h.output,h.size,fun k hk _=>h.block k hk⟩
/-- the block of a slice value -/
def fp:Value->List Nat
 | .slice (some a) _ _=>[a.block]
 | _=>[]
theorem ownBlock_fp (v:Value):∀ k,v.ownBlock=some k->k∈fp v:=by
 intro k h
 unfold Value.ownBlock at h
 split at h
 ·cases h;simp [fp]
 ·cases h
theorem Mod.owns {S:List Nat} {a b:World} (h:Mod S a b) {base:Nat} {e:TypeId} {size:Nat} {v:Value} {n:Nat} {xs:List Value} (ho:a.ownsRow base e size v n xs)
  (hn:∀ k∈fp v,k∉S):b.ownsRow base e size v n xs:=by
 obtain ⟨h1,h2⟩:=ho
 refine ⟨h1,?_⟩
 rcases h2 with h2 | ⟨g,cap,cur,rfl,hg,hh,r⟩
 ·exact .inl h2
 ·exact .inr ⟨g,cap,cur,rfl,hg,h.at hh (hn g (by simp [fp])),r⟩
theorem owns_slice {w:World} {base:Nat} {e:TypeId} {size:Nat} {v:Value} {n:Nat} {xs:List Value} (h:w.ownsRow base e size v n xs):∃ a c,v=.slice a n c:=by
 rcases h.2 with ⟨rfl,rfl⟩ | ⟨g,cap,cur,rfl,r⟩
 ·exact ⟨_,_,rfl⟩
 ·exact ⟨_,_,rfl⟩
section
variable {P:Program} (w:World)
theorem run_append_room_own (t tx ty e:TypeId) (i:TypeInfo) (ht:P.underlying t=some (.slice e)) (hi:P.info? e=some i)
  (g sLen sCap:Nat) (cur:Array Value) (hg:w.heap[g]?=some (.cells cur e (0,0))) (x:Value) (n:Nat) (news:List Value) (hs:Src P i.size tx x n news w)
  (hroom:sLen+n<=sCap) (hfit:sLen * i.size+news.length<=cur.size) :
  (Builtin.append_ #[t,tx] ty #[.slice (some ⟨g,0,none⟩) sLen sCap,x]).run P w =
   .ok (.slice (some ⟨g,0,none⟩) (sLen+n) sCap) (w.setRow g (cur.toList.take (sLen * i.size)++news++cur.toList.drop (sLen * i.size+news.length)).toArray):=by
 have hst:=run_storeCells_at P g (sLen * i.size) e news 0 cur w hg (by simpa using hfit) hs.one
 simp only [Nat.add_zero] at hst
 rcases hs.kind with ⟨e',hk⟩ | hk <;> simp [Builtin.append_,run_underlying ht,run_underlying hk,sizeOf,typeInfo,hi,hs.len,hroom,hs.cells,Addr.add_lit,hst]
theorem run_append_own_src (t tx ty e:TypeId) (i:TypeInfo) (z:Value) (size bytes:Nat) (ht:P.underlying t=some (.slice e)) (hi:P.info? e=some i) (hz:i.zero=some z)
  (hsize:i.size=size) (hby:i.bytes=bytes) (hzs:z.cells.size=size)
  (v:Value) (n:Nat) (xs:List Value) (hown:w.ownsRow 0 e size v n xs)
  (x:Value) (m:Nat) (news:List Value) (hs:Src P size tx x m news w)
  (h63:n+m<=maxLen) (hbytes:(n+m) * bytes<=140737488355328) :
  ∃ v' w',(Builtin.append_ #[t,tx] ty #[v,x]).run P w=.ok v' w'/\w'.ownsRow 0 e size v' (n+m) (xs++news)/\Mod (fp v) w w' /\
   (∀ k∈fp v',k∈fp v\/w.heap.size<=k)/\(v'=.slice none 0 0 ↔ v=.slice none 0 0/\m=0):=by
 subst hsize
 subst hby
 have hl:=hs.newsLen
 have hsmall:n+m<=9223372036854775807:=by simp only [maxLen] at h63;omega
 have hlen:(xs++news).length=(n+m) * i.size:=by rw [List.length_append,hown.1,hl,Nat.add_mul]
 have grown:∀ (old:Nat),old<n+m ->
   (w.drew.alloc (.cells ((xs++news).toArray++Builtin.zeroCells z.cells (grownCap w (n+m) old e - (n+m))) e)).ownsRow 0 e i.size
    (.slice (some ⟨w.heap.size,0,none⟩) (n+m) (grownCap w (n+m) old e)) (n+m) (xs++news):=by
  intro old ho
  have hge:=grownCap_ge w (n+m) old e
  have hcm:grownCap w (n+m) old e<=maxLen:=grownCap_le_maxLen w (n+m) old e h63
  refine ⟨hlen,.inr ⟨w.heap.size,_,_,rfl,Nat.zero_le _,heap_alloc_new w.drew _,hge,hcm,?_,?_⟩⟩
  ·simp only [Array.size_append,List.size_toArray,size_zeroCells,hzs,hlen,<-Nat.add_mul]
   congr 1
   omega
  ·simp only [Array.toList_append]
   rw [<-hlen]
   exact List.take_left
 have gmod:∀ (o:Obj) (S:List Nat),Mod S w (w.drew.alloc o):=fun o S=>((Mod.refl S w).drew).alloc o
 rcases hown.2 with ⟨rfl,rfl⟩ | ⟨g,cap,cur,rfl,hbg,hg,hnc,hcm,hcs,htake⟩
 ·have hx:xs=[]:=List.eq_nil_of_length_eq_zero (by simpa using hown.1)
  subst hx
  by_cases hm:m=0
  ·subst hm
   have hn:news=[]:=List.eq_nil_of_length_eq_zero (by simpa using hl)
   subst hn
   refine ⟨.slice none 0 0,w,?_,World.ownsRow_nil w 0 e i.size,Mod.refl _ _,by simp [fp],by simp⟩
   have hc:(Builtin.firstCells i.size 0 x).run P w=.ok #[] w:=hs.cells
   rcases hs.kind with ⟨e',hk⟩ | hk <;> simp [Builtin.append_,run_underlying ht,run_underlying hk,sizeOf,typeInfo,hi,hs.len,hc]
  ·have hr:=run_append_grow_src (P:=P) w t tx ty e i z ht hi hz none 0 0 [] (run_firstCells_none w.drew i.size 0 0 0) x m news hs (by omega) (by omega) (growslice_fits (by omega) hbytes)
   have hgr:=grown 0 (by omega)
   simp only [Nat.zero_add,List.nil_append] at hgr hr ⊢
   exact ⟨_,_,hr,hgr,gmod _ _,by simp [fp],by simp [hm]⟩
 ·by_cases hroom:n+m<=cap
  ·have hfit:n * i.size+news.length<=cur.size:=by rw [hl,hcs,<-Nat.add_mul];exact Nat.mul_le_mul_right _ hroom
   have hr:=run_append_room_own (P:=P) w t tx ty e i ht hi g n cap cur hg x m news hs hroom hfit
   refine ⟨_,_,hr,⟨hlen,.inr ⟨g,cap,_,rfl,hbg,setRow_heap w g cur _ e _ hg,hroom,hcm,?_,?_⟩⟩,⟨rfl,rfl,rfl,by simp,fun k _ hk=>setRow_other w g k _ (fun e=>hk (by simp [fp,e]))⟩,by simp [fp],by simp⟩
   ·simp only [List.size_toArray,List.length_append,List.length_take,List.length_drop,Array.length_toList]
    omega
   ·rw [htake,<-hlen]
    exact List.take_left
  ·have holds:∀ j u,xs[j]?=some u->w.cell? ((⟨g,0,none⟩:Addr).add j)=some u:=hown.cells (g:=g) rfl
   have hr:=run_append_grow_src (P:=P) w t tx ty e i z ht hi hz (some ⟨g,0,none⟩) n cap xs (run_firstCells_some w.drew i.size n ⟨g,0,none⟩ n cap xs hown.1 (by simpa using holds)) x m news hs (by omega) (by omega) (growslice_fits (by omega) hbytes)
   exact ⟨_,_,hr,grown cap (by omega),gmod _ _,by simp [fp],by simp⟩
theorem wpList_append_src {ops:Array Oper} {rest:List Oper} {o:Oper} {a:Act} {Q:Exit->Act->World->Prop} (hgd:o.guard=none) (s x:Operand) (t tx:TypeId)
  (ho:o.op=.call { callee:=.builtin .append,args:=#[s,x],argTypes:=#[t,tx] })
  (e:TypeId) (i:TypeInfo) (z:Value) (size bytes:Nat) (ht:P.underlying t=some (.slice e)) (hi:P.info? e=some i) (hz:i.zero=some z)
  (hsize:i.size=size) (hby:i.bytes=bytes) (hzs:z.cells.size=size)
  (v:Value) (n:Nat) (xs:List Value) (hs:a.eval s=v) (hown:w.ownsRow 0 e size v n xs)
  (vx:Value) (m:Nat) (news:List Value) (hx:a.eval x=vx) (hsrc:Src P size tx vx m news w)
  (h63:n+m<=maxLen) (hbytes:(n+m) * bytes<=140737488355328)
  (h:∀ v' w',w'.ownsRow 0 e size v' (n+m) (xs++news)->Mod (fp v) w w'->(∀ k∈fp v',k∈fp v\/w.heap.size<=k)->(v'=.slice none 0 0 ↔ v=.slice none 0 0/\m=0)->wpList P ops Q rest (a.put o.dst v') w'):wpList P ops Q (o :: rest) a w :=
 wpList_plain hgd fun K hK=>by
  obtain ⟨v',w',hr,h2,h3,h4,h5⟩:=run_append_own_src (P:=P) w t tx o.type e i z size bytes ht hi hz hsize hby hzs v n xs hown vx m news hsrc h63 hbytes
  unfold Oper.wp execOp
  simp only [ho,resolve,invoke,builtin,Sem.run_bind,Sem.run_pure,Result.andThen_ok,List.map_toArray,List.map_cons,List.map_nil,hs,hx,hr]
  exact hK _ _ (h v' w' h2 h3 h4 h5)
end
open Go.RowKit
set_option linter.unusedVariables false
theorem Lq1 {α : Type} {l : List α} {i : Nat} {a : α} : l.toArray.setIfInBounds i a = (l.set i a).toArray := by simp
theorem Lq2 {α : Type} {x : α} {l : List α} {a : α} : (x :: l).set 0 a = a :: l := rfl
theorem Lq3 {α : Type} {x : α} {l : List α} {n : Nat} {a : α} : (x :: l).set (n + 1) a = x :: l.set n a := rfl
theorem Gq1 {α : Type} {l : List α} {i : Nat} : l.toArray[i]? = l[i]? := by simp
theorem Gq2 {α : Type} {a : α} {l : List α} {n : Nat} : (a :: l)[n + 1]? = l[n]? := rfl
theorem Gq3 {α : Type} {a : α} {l : List α} : (a :: l)[0]? = some a := rfl
theorem Hxq {p : Prop} (h : p) : Hid p := Lib.hid h
theorem Msq {α : Type} {a b : α} : a ∈ [b] ↔ a = b := List.mem_singleton
section
variable {P : Program} {ops : Array Oper} {Q : Exit → Act → World → Prop} {md : Region.Mode} {S : World → Prop}
theorem Tkq (i : Nat) {oi : Oper} {v : Value} {fuel : Nat} {listed : Array Bool} {a : Act} {w : World} (hS : S w)
    (hy : YieldsIf P ops S oi v a) (hQ : ∀ c a w, Q (.panic c) (a.put oi.dst v) w → Q (.panic c) a w)
    (h : wpAnyH P md ops Q S fuel (listed.setIfInBounds i true) (a.put oi.dst v) w)
    (hi : ops[i]? = some oi := by (simp only [Gq1, Gq2, Gq3]) <;> rfl)
    (hs : Region.noSelect ops = true := by kernel_rfl) (hf : Region.free md ops listed i = true := by kernel_rfl) (hr : (Region.ready md ops listed).contains i = true := by kernel_rfl)
    : wpAnyH P md ops Q S (fuel + 1) listed a w :=
  wpAnyH_take hi hs hf hr hQ hy hS h
end
open Go.RowKit
theorem ret_int {k:IntKind} {a b:Int} (h:a=b):Ending.returned (.int k a)=.returned (.int k b):=by rw [h]
/-- the slice v reads as the bytes l -/
def Reads (w:World) (v:Value) (l:List Nat):Prop :=
  (∀ c∈l,c<256)/\l.length<=140737488355328 /\
  ((∃ x c,v=.slice x 0 c/\l=[]) \/
   ∃ b off cap,v=.slice (some ⟨b,off,none⟩) l.length cap/\∀ i,i<l.length->w.cell? ⟨b,off+i,none⟩=some (.int .u8 (l.getD i 0:Nat)))
theorem take_snoc {α:Type} (l:List α) (d:α) (k:Nat) (h:k<l.length):l.take (k+1)=l.take k++[l.getD k d]:=by
  rw [List.take_succ_eq_append_getElem h,List.getD_eq_getElem?_getD,List.getElem?_eq_getElem h];rfl
end Go.Proofs.YtdablillhbfgkaaDoor
namespace Go.Proofs.YtdablillhbfgkaaDoor.Cod
/-- so many numbers a word of 64 bits holds (kept behind a name: the walk does not bear the numeral) -/
def U64:Nat:=18446744073709551616
/-- a number's bytes, seven bits each; the last is below 128 -/
def uvF:Nat->Nat->List Nat
 | 0,n=>[n % 256]
 | k+1,n=>if n<128 then [n] else (n % 128+128) :: uvF k (n / 128)
def uv (n:Nat):List Nat:=uvF 10 n
/-- a number with a sign, as one without -/
def zz (n:Int):Nat:=if 0<=n then (2 * n).toNat else (-2 * n - 1).toNat
theorem or128 (a:Nat) (h:a<256):a ||| 128=a % 128+128:=by
 have:∀ a:Fin 256,a.1 ||| 128=a.1 % 128+128:=by decide +kernel
 exact this ⟨a,h⟩
theorem zz_lt (n:Int) (h1:-9223372036854775808<=n) (h2:n<=9223372036854775807):zz n<U64:=by
 unfold zz U64;split <;> omega
/-- a string's bytes -/
def str (s:ByteArray):List Nat:=s.data.toList.map UInt8.toNat
theorem str_len (s:ByteArray):(str s).length=s.size:=by
 unfold str;rw [List.length_map,Array.length_toList];rfl
theorem str_lt (s:ByteArray):∀ c∈str s,c<256:=by
 intro c hc
 obtain ⟨x,_,rfl⟩:=List.mem_map.1 hc
 exact x.toNat_lt
theorem uvF_len:∀ (k n:Nat),(uvF k n).length<=k+1
 | 0,n=>by simp [uvF]
 | k+1,n=>by
  unfold uvF
  split
  ·simp
  ·have:=uvF_len k (n / 128);simp;omega
end Go.Proofs.YtdablillhbfgkaaDoor.Cod
namespace Go.Proofs.YtdablillhbfgkaaDoor
open Go.RowKit
set_option linter.unusedVariables false
set_option maxRecDepth 100000
def toCells (l:List Nat):List Value:=l.map fun (c:Nat)=>Value.int .u8 (c:Int)
theorem toCells_len (l:List Nat):(toCells l).length=l.length:=by simp [toCells]
theorem toCells_append (l k:List Nat):toCells (l++k)=toCells l++toCells k:=by simp [toCells]
theorem toCells_one (l:List Nat):∀ u∈toCells l,u.oneCell'=true:=by
 intro u hu
 obtain ⟨_,_,rfl⟩:=List.mem_map.1 hu
 rfl
theorem toCells_get (l:List Nat) (i:Nat) (h:i<l.length):(toCells l)[i]?=some (.int .u8 (l.getD i 0:Nat)):=by
 simp [toCells,List.getD_eq_getElem?_getD,List.getElem?_eq_getElem h]
theorem Tryd.infoU8:(Tryd.prog.info? 5).map (fun i=>(i.zero,i.size,i.bytes))=some (some (.int .u8 0),1,1):=by kernel_rfl
/-- block b holds a writer (or a box) whose slice is v; it holds the bytes l -/
structure BoxIs (w:World) (b:Nat) (v:Value) (l:List Nat):Prop where
 at_:w.heap[b]?=some (.cells #[v] 134 (0,0))
 row:w.ownsRow 0 5 1 v l.length (toCells l)
 out:b∉fp v
 byte:∀ c∈l,c<256
theorem addr_add (b o j:Nat):(⟨b,o,none⟩:Addr).add j=⟨b,o+j,none⟩:=by
 unfold Addr.add;split <;> simp_all
theorem src_reads {w:World} {v:Value} {l:List Nat} (h:Reads w v l):Src Tryd.prog 1 68 v l.length (toCells l) w:=by
 obtain ⟨hb,hl,⟨x,c,rfl,rfl⟩ | ⟨b,off,cap,rfl,hc⟩⟩:=h
 ·cases x with
  | none=>exact Src.ofNil (size:=1) w Tryd.underlying68 c
  | some a=>exact Src.ofSlice w Tryd.underlying68 a 0 c [] rfl (by simp) (by simp)
 ·refine Src.ofSlice w Tryd.underlying68 _ _ _ _ (by rw [toCells_len,Nat.mul_one]) (fun j u hu=>?_) (toCells_one l)
  have hj:j<l.length:=by
   have:=List.getElem?_eq_some_iff.1 hu
   obtain ⟨h,_⟩:=this
   rwa [toCells_len] at h
  rw [toCells_get l j hj] at hu
  cases hu
  rw [addr_add]
  exact hc j hj
theorem reads_own {w:World} {v:Value} {l:List Nat} (h:w.ownsRow 0 5 1 v l.length (toCells l)) (hb:∀ c∈l,c<256) (hl:l.length<=140737488355328):Reads w v l:=by
 refine ⟨hb,hl,?_⟩
 rcases h.2 with ⟨rfl,hn⟩ | ⟨g,cap,cur,rfl,h1,h2,h3,h4,h5,h6⟩
 ·exact .inl ⟨_,_,rfl,List.eq_nil_of_length_eq_zero hn⟩
 ·refine .inr ⟨g,0,cap,rfl,fun i hi=>?_⟩
  have:=h.cells (g:=g) rfl i _ (toCells_get l i hi)
  rwa [addr_add] at this
/-- what a call that lays bytes leaves -/
def Laid (b:Nat) (v:Value) (l:List Nat) (w:World) (e:Ending) (w':World):Prop :=
 e=.returned (.tuple #[])/\∃ v',BoxIs w' b v' l/\Mod (b :: fp v) w w'/\∀ k∈fp v',k∈fp v\/w.heap.size<=k
theorem laid_of {b:Nat} {v v':Value} {l k:List Nat} {w w1:World} (h:BoxIs w b v l) (hown:w1.ownsRow 0 5 1 v' (l.length+k.length) (toCells l++toCells k))
  (hmod:Mod (fp v) w w1) (hfresh:∀ t∈fp v',t∈fp v\/w.heap.size<=t) (hk:∀ c∈k,c<256) :
  Laid b v (l++k) w (.returned (.tuple #[])) (w1.setCell ⟨b,0,none⟩ v'):=by
 have hat1:=hmod.at h.at_ h.out
 have hb':b∉fp v':=fun hb=>by
  rcases hfresh b hb with r | r
  ·exact h.out r
  ·have:=lt_of_block h.at_;omega
 exact ⟨rfl,v',⟨one_setCell hat1,by
   rw [List.length_append,toCells_append]
   exact ownsRow_setCell_other hown (fun e=>hb' (ownBlock_fp _ _ e)) _,hb',fun c hc=>(List.mem_append.1 hc).elim (h.byte c) (hk c)⟩,
  Mod.setCell (p:=⟨b,0,none⟩) (hmod.mono (fun t ht=>.inl (List.mem_cons_of_mem _ ht))) (.inl List.mem_cons_self) _,hfresh⟩
theorem put_any (b:Nat) (v src:Value) (l k:List Nat) (w:World) (h:BoxIs w b v l) (hr:Reads w src k) (hlen:l.length+k.length<=140737488355328) :
  Calls Tryd.prog 74 #[.pointer (some ⟨b,0,none⟩),src] w (Laid b v (l++k) w):=by
 obtain ⟨i0,hi,hz0,hz1,hz2⟩:=info_parts Tryd.infoU8
 have hcell:=cell_of_one h.at_
 have hfree:=free_of_one h.at_
 have hsrc:=src_reads hr
 go_enter Tryd.func74,Tryd.ntmps74
 go_wp2_with (at_builtin;refine wpList_append_src _ rfl _ _ 68 68 rfl 5 i0 (.int .u8 0) 1 1 Tryd.underlying68 hi hz0 hz1 hz2 rfl v l.length (toCells l) rfl h.row src k.length (toCells k) rfl hsrc (by unfold maxLen;omega) (by omega) ?_)
 intro v' w1 hown hmod hfresh hnil
 have hat1:=hmod.at h.at_ h.out
 have hc1:=cell_of_one hat1
 have hf1:=free_of_one hat1
 have HH:=laid_of h hown hmod hfresh hr.1
 obtain ⟨a',c',rfl⟩:=owns_slice hown
 clear hnil hfresh hown hmod
 go_wp2
 go_end0
 exact HH
/-- two calls that lay bytes, one behind the other -/
theorem Laid.then {b:Nat} {v:Value} {l k:List Nat} {w w1 w2:World} {e e2:Ending} (h:Laid b v l w e w1) (k2:∀ v',BoxIs w1 b v' l->Laid b v' k w1 e2 w2):Laid b v k w e2 w2:=by
 obtain ⟨_,v1,hb,hm,hf⟩:=h
 obtain ⟨he,v2,hb2,hm2,hf2⟩:=k2 v1 hb
 refine ⟨he,v2,hb2,hm.trans hm2 (fun t ht=>?_),fun t ht=>?_⟩
 ·rcases List.mem_cons.1 ht with rfl | r
  ·exact .inl List.mem_cons_self
  ·rcases hf t r with r | r
   ·exact .inl (List.mem_cons_of_mem _ r)
   ·exact .inr r
 ·rcases hf2 t ht with r | r
  ·exact hf t r
  ·exact .inr (by have:=hm.size;omega)
theorem reads_one (w:World) (c:Nat) (hc:c<256):Reads (w.alloc (.cells #[.int .u8 (c:Int)] 5)) (.slice (some ⟨w.heap.size,0,none⟩) 1 1) [c]:=by
 refine ⟨by simpa using hc,by simp,.inr ⟨_,_,_,rfl,fun i hi=>?_⟩⟩
 obtain rfl:i=0:=by simp at hi;omega
 exact cell_of_one (heap_alloc_new w _)
theorem BoxIs.alloc {w:World} {b:Nat} {v:Value} {l:List Nat} (h:BoxIs w b v l) (o:Obj):BoxIs (w.alloc o) b v l :=
 ⟨(Below.heap_alloc _ _ _ (lt_of_block h.at_)).trans h.at_,h.row.alloc o,h.out,h.byte⟩
theorem Laid.after {b:Nat} {v v':Value} {k:List Nat} {w wr w2:World} {e:Ending} (hmod:Mod (b :: fp v) w wr) (hfr:∀ t∈fp v',t∈fp v\/w.heap.size<=t) (h:Laid b v' k wr e w2):Laid b v k w e w2:=by
 obtain ⟨he,v2,hb2,hm2,hf2⟩:=h
 refine ⟨he,v2,hb2,hmod.trans hm2 (fun t ht=>?_),fun t ht=>?_⟩
 ·rcases List.mem_cons.1 ht with rfl | r
  ·exact .inl List.mem_cons_self
  ·rcases hfr t r with r | r
   ·exact .inl (List.mem_cons_of_mem _ r)
   ·exact .inr r
 ·rcases hf2 t ht with r | r
  ·exact hfr t r
  ·exact .inr (by have:=hmod.size;omega)
theorem u8_or128 (n:Nat):Go.bits .or .u8 ((n:Int) % 256) 128=((n % 128+128:Nat):Int):=by
 have:=u8_or_nat (n % 256) 128 (by omega) (by decide)
 rw [Cod.or128 _ (by omega)] at this
 have e:((n:Int) % 256)=((n % 256:Nat):Int):=by simp
 rw [e,show (128:Int)=((128:Nat):Int) from rfl,this]
 congr 2
 omega
theorem uint_any (b:Nat) (v:Value) (n:Nat) (l:List Nat) (w:World) (h:BoxIs w b v l) (hn:n<Cod.U64) (hlen:l.length+11<=140737488355328) :
  Calls Tryd.prog 73 #[.pointer (some ⟨b,0,none⟩),.int .u64 n] w (Laid b v (l++Cod.uv n) w):=by
 go_enter Tryd.func73,Tryd.ntmps73
 go_wp2_with fail
 go_loopw [1,4] (fun m i wr=>∃ (k:Nat) (m':Nat) (done:List Nat) (v':Value),k<=10/\done.length=k/\i=.int .i64 k/\m=.int .u64 m'/\m'<Cod.U64/\done++Cod.uvF (10 - k) m'=Cod.uv n/\BoxIs wr b v' (l++done)/\Mod (b :: fp v) w wr/\(∀ t∈fp v',t∈fp v\/w.heap.size<=t)) (fun _ i _=>10 - (intOf i).toNat)
 case atStart=>exact ⟨0,n,[],v,Nat.zero_le _,rfl,rfl,rfl,hn,rfl,by simpa using h,Mod.refl _ _,fun t ht=>.inl ht⟩
 case round =>
  obtain ⟨k,m',done,v',hk,hd,rfl,rfl,hm,hu,hbox,hmod,hfr⟩:=hrel
  have hl:(l++done).length+1<=140737488355328:=by rw [List.length_append];omega
  have hu':=Lib.hid hu
  have hd':=Lib.hid hd
  clear hu hd
  by_cases hlt:k<10
  ·by_cases hs:m'<128
   ·have hone:=reads_one wr m' (by omega)
    have hfin:Hid ((l++done)++[m']=l++Cod.uv n):=Hxq (by
     rw [<-hu'.out,List.append_assoc];congr 2;rw [show 10 - k=(9 - k)+1 by omega];simp [Cod.uvF,hs])
    go_wp2_with fail
    refine (put_any b v' _ (l++done) [m'] _ (hbox.alloc _) hone hl).mono ?_
    rintro e w2 hlaid
    obtain ⟨rfl,-⟩:=id hlaid
    go_wp2_with fail
    go_end0
    rw [<-hfin.out]
    exact hlaid.after (hmod.alloc _) hfr
   ·have hor:=u8_or128 m'
    have hone:=reads_one wr (m' % 128+128) (by omega)
    have hfin:Hid ((done++[m' % 128+128])++Cod.uvF (10 - (k+1)) (m' / 128)=Cod.uv n):=Hxq (by
     rw [<-hu'.out,List.append_assoc];congr 1;rw [show 10 - k=(10 - (k+1))+1 by omega];simp [Cod.uvF,hs])
    go_wp2_with fail
    refine (put_any b v' _ (l++done) [m' % 128+128] _ (hbox.alloc _) hone hl).mono ?_
    rintro e w2 hlaid
    obtain ⟨rfl,v2,hb2,-,-⟩:=id hlaid
    obtain ⟨-,v3,hb3,hm3,hf3⟩:=hlaid.after (hmod.alloc _) hfr
    clear hb2 hor
    rw [List.append_assoc] at hb3
    go_wp2_with fail
    go_roundw
    case rel=>exact ⟨k+1,m' / 128,done++[m' % 128+128],v3,by omega,by simp [hd'.out],by go_num,by go_num,by unfold Cod.U64 at *;omega,hfin.out,hb3,hm3,hf3⟩
    case measure=>simp [intOf];omega
  ·obtain rfl:k=10:=by omega
   have hone:=reads_one wr (m' % 256) (by omega)
   have hfin:Hid ((l++done)++[m' % 256]=l++Cod.uv n):=Hxq (by
    rw [<-hu'.out,List.append_assoc];simp [Cod.uvF])
   go_wp2_with fail
   rw [show ((m':Int) % 256)=((m' % 256:Nat):Int) from by simp]
   refine (put_any b v' _ (l++done) [m' % 256] _ (hbox.alloc _) hone hl).mono ?_
   rintro e w2 hlaid
   obtain ⟨rfl,-⟩:=id hlaid
   go_wp2_with fail
   go_end0
   rw [<-hfin.out]
   exact hlaid.after (hmod.alloc _) hfr
theorem New_any (w:World) :
  Calls Tryd.prog 53 #[] w fun e w'=>e=.returned (.pointer (some ⟨w.heap.size,0,none⟩))/\BoxIs w' w.heap.size (.slice none 0 0) []/\Mod [] w w':=by
 go_enter Tryd.func53,Tryd.ntmps53
 go_wp2
 go_ret
 exact ⟨rfl,⟨heap_alloc_new w _,World.ownsRow_nil _ _ _ _,by simp [fp],by simp⟩,(Mod.refl _ _).alloc _⟩
theorem WByte_any (b:Nat) (v:Value) (c:Nat) (l:List Nat) (w:World) (h:BoxIs w b v l) (hc:c<256) (hlen:l.length+1<=140737488355328) :
  Calls Tryd.prog 55 #[.pointer (some ⟨b,0,none⟩),.int .u8 c] w (Laid b v (l++[c]) w):=by
 have hone:=reads_one w c hc
 go_enter Tryd.func55,Tryd.ntmps55
 go_wp2_with fail
 refine (put_any b v _ l [c] _ (h.alloc _) hone hlen).mono ?_
 rintro e w2 hlaid
 obtain ⟨rfl,-⟩:=id hlaid
 go_wp2_with fail
 go_end0
 exact hlaid.after ((Mod.refl _ _).alloc _) (fun t ht=>.inl ht)
theorem WUint_any (b:Nat) (v:Value) (n:Nat) (l:List Nat) (w:World) (h:BoxIs w b v l) (hn:n<Cod.U64) (hlen:l.length+11<=140737488355328) :
  Calls Tryd.prog 54 #[.pointer (some ⟨b,0,none⟩),.int .u64 n] w (Laid b v (l++Cod.uv n) w):=by
 go_enter Tryd.func54,Tryd.ntmps54
 go_wp2_with fail
 refine (uint_any b v n l w h hn hlen).mono ?_
 rintro e w2 hlaid
 obtain ⟨rfl,-⟩:=id hlaid
 go_wp2_with fail
 go_end0
 exact hlaid
theorem zz_bits (n:Int) (h1:-9223372036854775808<=n) (h2:n<=9223372036854775807) :
  Go.bits .xor .u64 (IntKind.u64.wrap (IntKind.u64.wrap n * 2)) (IntKind.u64.wrap (n / 9223372036854775808))=(Cod.zz n:Int):=by
 have wr:∀ x:Int,IntKind.u64.wrap x=x % 18446744073709551616:=fun x=>by simp [IntKind.wrap,IntKind.bits,IntKind.signed]
 rw [wr,wr,wr]
 unfold Cod.zz
 by_cases h:0<=n
 ·rw [if_pos h]
  have e1:(n % 18446744073709551616 * 2 % 18446744073709551616)=(((2 * n).toNat:Nat):Int):=by omega
  have e2:(n / 9223372036854775808 % 18446744073709551616)=((0:Nat):Int):=by omega
  rw [e1,e2,u64_xor_nat _ _ (by omega) (by omega)]
  simp
 ·rw [if_neg h]
  have e1:(n % 18446744073709551616 * 2 % 18446744073709551616)=(((2 * n+18446744073709551616).toNat:Nat):Int):=by omega
  have e2:(n / 9223372036854775808 % 18446744073709551616)=((18446744073709551615:Nat):Int):=by omega
  rw [e1,e2,u64_xor_nat _ _ (by omega) (by omega)]
  have hb:(2 * n+18446744073709551616).toNat<18446744073709551616:=by omega
  have hx:(2 * n+18446744073709551616).toNat ^^^ 18446744073709551615=18446744073709551615 - (2 * n+18446744073709551616).toNat:=by
   generalize (2 * n+18446744073709551616).toNat=s at *
   have e:(BitVec.ofNat 64 s ^^^ BitVec.allOnes 64)= ~~~ (BitVec.ofNat 64 s):=BitVec.xor_allOnes
   have e2:=congrArg BitVec.toNat e
   rw [BitVec.toNat_xor,BitVec.toNat_not,BitVec.toNat_allOnes,BitVec.toNat_ofNat,Nat.mod_eq_of_lt (by omega)] at e2
   exact e2
  rw [hx]
  congr 1
  omega
theorem WInt_any (b:Nat) (v:Value) (n:Int) (l:List Nat) (w:World) (h:BoxIs w b v l) (h1:-9223372036854775808<=n) (h2:n<=9223372036854775807) (hlen:l.length+11<=140737488355328) :
  Calls Tryd.prog 56 #[.pointer (some ⟨b,0,none⟩),.int .i64 n] w (Laid b v (l++Cod.uv (Cod.zz n)) w):=by
 go_enter Tryd.func56,Tryd.ntmps56
 have hz:=Cod.zz_lt n h1 h2
 have hzb:=Hxq (zz_bits n h1 h2)
 clear h1 h2
 go_wp2_with fail
 rw [hzb.out]
 refine (uint_any b v _ l w h hz hlen).mono ?_
 rintro e w2 hlaid
 obtain ⟨rfl,-⟩:=id hlaid
 go_wp2_with fail
 go_end0
 exact hlaid
theorem byteCells_str (s:ByteArray):byteCells s=toCells (Cod.str s):=by
 simp [byteCells,toCells,Cod.str,List.map_map,Function.comp_def]
theorem WText_any (b:Nat) (v:Value) (s:ByteArray) (l:List Nat) (w:World) (h:BoxIs w b v l) (hlen:l.length+11+s.size<=140737488355328) :
  Calls Tryd.prog 57 #[.pointer (some ⟨b,0,none⟩),.string s] w (Laid b v (l++(Cod.uv s.size++Cod.str s)) w):=by
 obtain ⟨i0,hi,hz0,hz1,hz2⟩:=info_parts Tryd.infoU8
 have hsz:s.size<Cod.U64:=by unfold Cod.U64;omega
 go_enter Tryd.func57,Tryd.ntmps57
 go_wp2_with fail
 refine (uint_any b v s.size l w h hsz (by omega)).mono ?_
 rintro e w2 ⟨rfl,v2,hb2,hm2,hf2⟩
 have hcell:=cell_of_one hb2.at_
 have hfree:=free_of_one hb2.at_
 have hlen2:(l++Cod.uv s.size).length+s.size<=140737488355328:=by
  have:=Cod.uvF_len 10 s.size
  rw [List.length_append];unfold Cod.uv;omega
 have hsrc:=Src.ofString (P:=Tryd.prog) w2 Tryd.underlying9 s
 go_wp2_with (at_builtin;refine wpList_append_src _ rfl _ _ 68 9 rfl 5 i0 (.int .u8 0) 1 1 Tryd.underlying68 hi hz0 hz1 hz2 rfl v2 _ _ rfl hb2.row _ _ _ rfl hsrc (by unfold maxLen;omega) (by omega) ?_)
 intro v' w1 hown hmod hfresh hnil
 have hat1:=hmod.at hb2.at_ hb2.out
 have hc1:=cell_of_one hat1
 have hf1:=free_of_one hat1
 have HH:Laid b v (l++(Cod.uv s.size++Cod.str s)) w (.returned (.tuple #[])) (w1.setCell ⟨b,0,none⟩ v'):=by
  rw [<-List.append_assoc]
  rw [byteCells_str] at hown
  exact (laid_of hb2 (by rw [Cod.str_len,List.length_append];exact hown) hmod hfresh (Cod.str_lt s)).after hm2 hf2
 obtain ⟨a',c',rfl⟩:=owns_slice hown
 clear hnil hfresh hown hmod
 go_wp2
 go_end0
 exact HH
/-- bytes of the call's own, read as l -/
def OutIs (l:List Nat) (w:World) (e:Ending) (w':World):Prop :=
 ∃ v,e=.returned v/\w'.ownsRow 0 5 1 v l.length (toCells l)/\Mod [] w w'/\(∀ k∈fp v,w.heap.size<=k)/\(v=.slice none 0 0 ↔ l=[])
theorem out_any (b:Nat) (v:Value) (l:List Nat) (w:World) (h:BoxIs w b v l) (hlen:l.length<=140737488355328) :
  Calls Tryd.prog 75 #[.pointer (some ⟨b,0,none⟩)] w (OutIs l w):=by
 obtain ⟨i0,hi,hz0,hz1,hz2⟩:=info_parts Tryd.infoU8
 have hcell:=cell_of_one h.at_
 have hsrc:=src_reads (reads_own h.row h.byte hlen)
 obtain ⟨a',c',rfl⟩:=owns_slice h.row
 go_enter Tryd.func75,Tryd.ntmps75
 go_wp2_with (at_builtin;refine wpList_append_src _ rfl _ _ 68 68 rfl 5 i0 (.int .u8 0) 1 1 Tryd.underlying68 hi hz0 hz1 hz2 rfl (.slice none 0 0) 0 [] rfl (World.ownsRow_nil _ _ _ _) _ l.length (toCells l) rfl hsrc (by unfold maxLen;omega) (by omega) ?_)
 intro v' w1 hown hmod hfresh hnil
 have HH:OutIs l w (.returned v') w1:=⟨v',rfl,by simpa using hown,hmod,fun k hk=>by simpa [fp] using hfresh k hk,hnil.trans (by simp)⟩
 clear hnil hfresh hown hmod
 go_wp2
 go_ret
 exact HH
theorem Out_any (b:Nat) (v:Value) (l:List Nat) (w:World) (h:BoxIs w b v l) (hlen:l.length<=140737488355328) :
  Calls Tryd.prog 58 #[.pointer (some ⟨b,0,none⟩)] w (OutIs l w):=by
 go_enter Tryd.func58,Tryd.ntmps58
 go_wp2_with fail
 refine (out_any b v l w h hlen).mono ?_
 rintro e w2 hout
 obtain ⟨v',rfl,-⟩:=id hout
 go_wp2_with fail
 go_ret
 exact hout
end Go.Proofs.YtdablillhbfgkaaDoor
namespace Go.Proofs.YtdablillhbfgkaaDoor.Lx
open Cod (str)
set_option linter.unusedSimpArgs false
def small (c:Nat):Bool:=decide (97<=c) && decide (c<=122)
def capital (c:Nat):Bool:=decide (65<=c) && decide (c<=90)
def digit (c:Nat):Bool:=decide (48<=c) && decide (c<=57)
def goes (c:Nat):Bool:=small c || (capital c || (digit c || c == 95))
def blank (c:Nat):Bool:=c == 32 || (c == 9 || (c == 10 || c == 13))
def line (c:Nat):Bool:=!(c == 10)
/-- a string of bytes -/
def ofS (l:List Nat):ByteArray:=⟨(l.map UInt8.ofNat).toArray⟩
theorem str_ofS {l:List Nat} (h:∀ c∈l,c<256):str (ofS l)=l:=by
 unfold str ofS
 rw [List.map_map]
 conv=>rhs;rw [<-List.map_id l]
 exact List.map_congr_left (fun c hc=>by simp [Nat.mod_eq_of_lt (h c hc)])
theorem ofS_str (s:ByteArray):ofS (str s)=s:=by
 unfold ofS str
 rw [List.map_map]
 have:s.data.toList.map (UInt8.ofNat ∘ UInt8.toNat)=s.data.toList:=by
  conv=>rhs;rw [<-List.map_id s.data.toList]
  exact List.map_congr_left (fun c _=>by simp)
 rw [this]
theorem str_extract (s:ByteArray) (a b:Nat):str (s.extract a b)=((str s).drop a).take (b - a):=by
 unfold str
 rw [<-List.map_drop,<-List.map_take]
 congr 1
 rw [ByteArray.data_extract,Array.toList_extract,List.extract_eq_take_drop]
/-- how far a text goes on with bytes of a kind -/
def run (p:Nat->Bool) (s:List Nat):Nat:=(s.takeWhile p).length
theorem run_le (p:Nat->Bool) (s:List Nat):run p s<=s.length:=by
 unfold run
 induction s with
 | nil=>simp
 | cons c r ih=>rw [List.takeWhile_cons];split <;> simp <;> omega
theorem run_cons (p:Nat->Bool) (c:Nat) (r:List Nat):run p (c :: r)=if p c then run p r+1 else 0:=by
 unfold run;rw [List.takeWhile_cons];split <;> simp
def numv (l:List Nat):Nat:=l.foldl (fun a c=>10 * a+(c - 48)) 0
def hexv (c:Nat):Option Nat :=
 if 48<=c/\c<=57 then some (c - 48) else if 97<=c/\c<=102 then some (c - 87) else if 65<=c/\c<=70 then some (c - 55) else none
/-- behind a backslash: the byte, how many bytes say it -/
def esc (s:List Nat):Option (Nat × Nat) :=
 match s with
 | []=>none
 | c :: r =>
  if c=34\/c=92 then some (c,1)
  else if c=110 then some (10,1)
  else if c=120 then
   match r with
   | a :: b :: _ =>
    match hexv a,hexv b with
    | some x,some y=>some (16 * x+y,3)
    | _,_=>none
   | _=>none
  else none
/-- the parts of a quoted word from a place on, what they stood for so far, how many bytes are read -/
def quoF:Nat->List Nat->List Nat->Nat->Option (List Nat × Nat)
 | 0,_,_,_=>none
 | _+1,[],_,_=>none
 | k+1,c :: r,acc,n =>
  if c=34 then (if 64<acc.length then none else some (acc,n+1))
  else if c=10 then none
  else if c=92 then
   match esc r with
   | none=>none
   | some (b,m)=>quoF k (r.drop m) (acc++[b]) (n+1+m)
  else quoF k r (acc++[c]) (n+1)
def quo (s:List Nat):Option (List Nat × Nat):=quoF s.length (s.drop 1) [] 1
def two (a b:Nat):Bool:=(a == 58 && b == 45) || ((a == 33 && b == 61) || ((a == 60 && b == 61) || (a == 62 && b == 61)))
def ones:List Nat:=[40,41,123,125,44,46,58,61,60,62,43,45,42,47,95]
def mark (s:List Nat):Nat :=
 match s with
 | []=>0
 | [a]=>if ones.contains a then 1 else 0
 | a :: b :: _=>if two a b then 2 else if ones.contains a then 1 else 0
/-- a word: its kind, how many bytes, its value's kind, number, symbol -/
structure Wd where
 kind:Nat
 n:Nat
 vk:Nat
 num:Nat
 sym:List Nat
deriving DecidableEq
inductive Rw where
 | bad (e:Nat)
 | ok (w:Wd)
deriving DecidableEq
def word (s:List Nat):Rw :=
 if small (s.headD 0) || capital (s.headD 0) then
  if 32<run goes s then .bad 33 else .ok ⟨if capital (s.headD 0) then 2 else 1,run goes s,0,0,[]⟩
 else if digit (s.headD 0) then
  if (1<run digit s/\s.headD 0=48)\/2147483647<numv (s.take (run digit s))\/run digit s<run goes s then .bad 31
  else .ok ⟨3,run digit s,1,numv (s.take (run digit s)),[]⟩
 else if s.headD 0=34 then
  match quo s with
  | none=>.bad 32
  | some (sym,n)=>.ok ⟨4,n,2,0,sym⟩
 else if mark s=0 then .bad 30
 else .ok ⟨5,mark s,0,0,[]⟩
/-- the place behind bytes -/
def adv:Nat × Nat->List Nat->Nat × Nat
 | p,[]=>p
 | p,b :: r=>adv (if b=10 then (p.1+1,1) else (p.1,p.2+1)) r
/-- how many bytes of blanks and remarks: is a remark open? -/
def skipN:Bool->List Nat->Nat
 | _,[]=>0
 | r,c :: t =>
  let r':=if c=35 then true else if c=10 then false else r
  if !r' && !blank c then 0 else skipN r' t+1
structure Tok where
 kind:Nat
 text:List Nat
 vk:Nat
 num:Nat
 sym:List Nat
 line:Nat
 col:Nat
deriving DecidableEq
/-- a scanner: what is left, its place, the place behind the last word, the fault and its place, is the text too long? -/
structure St where
 s:List Nat
 pos:Nat × Nat
 fin:Nat × Nat
 code:Nat
 fp:Nat × Nat
 long:Bool
def St.skip (x:St):St:={ x with s:=x.s.drop (skipN false x.s),pos:=adv x.pos (x.s.take (skipN false x.s)) }
def next (x:St):St × Option Tok :=
 if x.code≠0 then (x,none)
 else if x.long then ({ x with code:=2 },none)
 else if x.skip.s=[] then (x.skip,none)
 else match word x.skip.s with
  | .bad e=>({ x.skip with code:=e,fp:=x.skip.pos },none)
  | .ok w=>({ x.skip with s:=x.skip.s.drop w.n,pos:=adv x.skip.pos (x.skip.s.take w.n),fin:=adv x.skip.pos (x.skip.s.take w.n) },
    some ⟨w.kind,x.skip.s.take w.n,w.vk,w.num,w.sym,x.skip.pos.1,x.skip.pos.2⟩)
theorem hexv_lt {c x:Nat} (h:hexv c=some x):x<16:=by
 unfold hexv at h
 split at h
 ·simp at h;omega
 ·split at h
  ·simp at h;omega
  ·split at h
   ·simp at h;omega
   ·simp at h
end Go.Proofs.YtdablillhbfgkaaDoor.Lx
