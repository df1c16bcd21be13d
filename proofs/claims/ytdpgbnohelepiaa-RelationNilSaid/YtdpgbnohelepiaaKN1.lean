/- THE TEXTS MERGED: Mem Tk CodePlain CodeW LxPlain VaBase VaPlain VaFn VaPut VaLent VaOwn Tail. -/
import Derived.Test.YtdpgbnohelepiaaRows
import Derived.WalkKit
import Derived.Lib.Hide
import Derived.Deep.AppendSrc
import Derived.Deep.QuietTactic
import Derived.BigQuiet
import Derived.StillTailTactics
import Derived.WalkSpells
import Derived.WalkLawsBesides
import Derived.WalkSmall
import Derived.OrdersHeld
import Derived.Laws.RangeAny
import Derived.Lib.AtoiAll
import Derived.Lib.Atoi
import Derived.Lib.ItoaNum
import Derived.Deep.RegionLaw
import Derived.Lib.LaidTab
import Derived.Laws.StructEq
import Derived.Deep.DeepCutAuto
import Derived.Deep.RegionHeld3
import Derived.Deep.RegionWith
import Derived.Laws.CopyOwn
import Derived.Deep.RegionHeld
namespace Go.Proofs.Ytdpgbnohelepiaa
open Go.RowKit
set_option linter.unusedVariables false
/-- Of the blocks that were there, those of S alone may have turned. -/
structure Mod (S:List Nat) (w w':World):Prop where
 os:w'.os=w.os
 tape:w'.tape=w.tape
 output:w'.output=w.output
 size:w.heap.size<=w'.heap.size
 block:∀ k,k<w.heap.size->k∉S->w'.heap[k]?=w.heap[k]?
theorem Mod.refl (S:List Nat) (w:World):Mod S w w:=⟨rfl,rfl,rfl,Nat.le_refl _,fun _ _ _=>rfl⟩
theorem Mod.trans {S T:List Nat} {a b c:World} (h:Mod S a b) (k:Mod T b c) (hT:∀ t∈T,t∈S\/a.heap.size<=t):Mod S a c :=
 ⟨k.os.trans h.os,k.tape.trans h.tape,k.output.trans h.output,Nat.le_trans h.size k.size,fun i hi hn =>
  (k.block i (Nat.lt_of_lt_of_le hi h.size) (fun e=>by rcases hT i e with r | r;exact hn r;omega)).trans (h.block i hi hn)⟩
theorem Mod.mono {S T:List Nat} {a b:World} (h:Mod S a b) (hT:∀ t∈S,t∈T\/a.heap.size<=t):Mod T a b :=
 (Mod.refl T a).trans h hT
theorem Mod.drewN {S:List Nat} {a b:World} (h:Mod S a b) (n:Nat):Mod S a (b.drewN n):=⟨h.os,h.tape,h.output,h.size,h.block⟩
theorem Mod.drew {S:List Nat} {a b:World} (h:Mod S a b):Mod S a b.drew:=⟨h.os,h.tape,h.output,h.size,h.block⟩
theorem Mod.alloc {S:List Nat} {a b:World} (h:Mod S a b) (o:Obj):Mod S a (b.alloc o) :=
 h.trans (T:=[]) ⟨rfl,rfl,rfl,by simp,fun k hk _=>Below.heap_alloc _ _ _ hk⟩ (by simp)
theorem Mod.setCell {S:List Nat} {a b:World} (h:Mod S a b) {p:Addr} (hp:p.block∈S\/a.heap.size<=p.block) (u:Value):Mod S a (b.setCell p u) :=
 h.trans (T:=[p.block]) ⟨rfl,rfl,rfl,by simp [World.setCell],fun k hk hn=>Below.heap_setCell _ _ _ _ (by simpa using hn)⟩ (by simpa using hp)
theorem Mod.grown {S:List Nat} {a b c:World} {row:Option Nat} (h:Mod S a b) (hg:b.grownBy c row) (hr:∀ k,row=some k->k∈S\/a.heap.size<=k):Mod S a c :=
 h.trans (T:=row.toList) ⟨hg.os,hg.tape,hg.output,hg.size,fun k hk hn=>hg.block k hk (fun e=>hn (by simp [<-e]))⟩ (fun t ht=>hr t (by simpa using ht))
theorem Mod.cell {S:List Nat} {a b:World} (h:Mod S a b) {p:Addr} {v:Value} (hc:a.cell? p=some v) (hn:p.block∉S):b.cell? p=some v :=
 (World.cell?_of_block (h.block p.block (World.block_lt_of_cell? a p hc) hn)).trans hc
theorem Mod.at {S:List Nat} {a b:World} (h:Mod S a b) {k:Nat} {o:Obj} (hc:a.heap[k]?=some o) (hn:k∉S):b.heap[k]?=some o :=
 (h.block k (lt_of_block hc) hn).trans hc
theorem Mod.below {S:List Nat} {a b:World} (h:Mod S a b) {B:Nat} (hB:B<=a.heap.size) (hS:∀ t∈S,B<=t):Below B a b :=
 ⟨h.os,h.tape,h.output,h.size,fun k hk=>h.block k (by omega) (fun e=>by have:=hS k e;omega)⟩
/-- the block of a slice value -/
def fp:Value->List Nat
 | .slice (some a) _ _=>[a.block]
 | _=>[]
theorem Mod.owns {S:List Nat} {a b:World} (h:Mod S a b) {base:Nat} {e:TypeId} {size:Nat} {v:Value} {n:Nat} {xs:List Value} (ho:a.ownsRow base e size v n xs)
  (hn:∀ k∈fp v,k∉S):b.ownsRow base e size v n xs:=by
 obtain ⟨h1,h2⟩:=ho
 refine ⟨h1,?_⟩
 rcases h2 with h2 | ⟨g,cap,cur,rfl,hg,hh,r⟩
 ·exact .inl h2
 ·exact .inr ⟨g,cap,cur,rfl,hg,h.at hh (hn g (by simp [fp])),r⟩
section
variable {P:Program} (w:World)
theorem run_append_room_own (t tx ty e:TypeId) (i:TypeInfo) (ht:P.underlying t=some (.slice e)) (hi:P.info? e=some i)
  (g sLen sCap:Nat) (cur:Array Value) (hg:w.heap[g]?=some (.cells cur e (0,0))) (x:Value) (n:Nat) (news:List Value) (hs:Src P i.size tx x n news w)
  (hroom:sLen+n<=sCap) (hfit:sLen * i.size+news.length<=cur.size) :
  (Builtin.append_ #[t,tx] ty #[.slice (some ⟨g,0,none⟩) sLen sCap,x]).run P w =
   .ok (.slice (some ⟨g,0,none⟩) (sLen+n) sCap) (w.setRow g (cur.toList.take (sLen * i.size)++news++cur.toList.drop (sLen * i.size+news.length)).toArray):=by
 have hst:=run_storeCells_at P g (sLen * i.size) e news 0 cur w hg (by simpa using hfit) hs.one
 simp only [Nat.add_zero] at hst
 rcases hs.kind with ⟨e',hk⟩ | hk <;> simp [Builtin.append_,run_underlying ht,run_underlying hk,sizeOf,typeInfo,hi,hs.len,hroom,hs.cells,Addr.add_lit,hst]
theorem run_append_own_src (t tx ty e:TypeId) (i:TypeInfo) (z:Value) (size bytes:Nat) (ht:P.underlying t=some (.slice e)) (hi:P.info? e=some i) (hz:i.zero=some z)
  (hsize:i.size=size) (hby:i.bytes=bytes) (hzs:z.cells.size=size)
  (v:Value) (n:Nat) (xs:List Value) (hown:w.ownsRow 0 e size v n xs)
  (x:Value) (m:Nat) (news:List Value) (hs:Src P size tx x m news w)
  (h63:n+m<=maxLen) (hbytes:(n+m) * bytes<=140737488355328) :
  ∃ v' w',(Builtin.append_ #[t,tx] ty #[v,x]).run P w=.ok v' w'/\w'.ownsRow 0 e size v' (n+m) (xs++news)/\Mod (fp v) w w' /\
   (∀ k∈fp v',k∈fp v\/w.heap.size<=k)/\(v'=.slice none 0 0 ↔ v=.slice none 0 0/\m=0):=by
 subst hsize
 subst hby
 have hl:=hs.newsLen
 have hsmall:n+m<=9223372036854775807:=by simp only [maxLen] at h63;omega
 have hlen:(xs++news).length=(n+m) * i.size:=by rw [List.length_append,hown.1,hl,Nat.add_mul]
 have grown:∀ (old:Nat),old<n+m ->
   (w.drew.alloc (.cells ((xs++news).toArray++Builtin.zeroCells z.cells (grownCap w (n+m) old e - (n+m))) e)).ownsRow 0 e i.size
    (.slice (some ⟨w.heap.size,0,none⟩) (n+m) (grownCap w (n+m) old e)) (n+m) (xs++news):=by
  intro old ho
  have hge:=grownCap_ge w (n+m) old e
  have hcm:grownCap w (n+m) old e<=maxLen:=grownCap_le_maxLen w (n+m) old e h63
  refine ⟨hlen,.inr ⟨w.heap.size,_,_,rfl,Nat.zero_le _,heap_alloc_new w.drew _,hge,hcm,?_,?_⟩⟩
  ·simp only [Array.size_append,List.size_toArray,size_zeroCells,hzs,hlen,<-Nat.add_mul]
   congr 1
   omega
  ·simp only [Array.toList_append]
   rw [<-hlen]
   exact List.take_left
 have gmod:∀ (o:Obj) (S:List Nat),Mod S w (w.drew.alloc o):=fun o S=>((Mod.refl S w).drew).alloc o
 rcases hown.2 with ⟨rfl,rfl⟩ | ⟨g,cap,cur,rfl,hbg,hg,hnc,hcm,hcs,htake⟩
 ·have hx:xs=[]:=List.eq_nil_of_length_eq_zero (by simpa using hown.1)
  subst hx
  by_cases hm:m=0
  ·subst hm
   have hn:news=[]:=List.eq_nil_of_length_eq_zero (by simpa using hl)
   subst hn
   refine ⟨.slice none 0 0,w,?_,World.ownsRow_nil w 0 e i.size,Mod.refl _ _,by simp [fp],by simp⟩
   have hc:(Builtin.firstCells i.size 0 x).run P w=.ok #[] w:=hs.cells
   rcases hs.kind with ⟨e',hk⟩ | hk <;> simp [Builtin.append_,run_underlying ht,run_underlying hk,sizeOf,typeInfo,hi,hs.len,hc]
  ·have hr:=run_append_grow_src (P:=P) w t tx ty e i z ht hi hz none 0 0 [] (run_firstCells_none w.drew i.size 0 0 0) x m news hs (by omega) (by omega) (growslice_fits (by omega) hbytes)
   have hgr:=grown 0 (by omega)
   simp only [Nat.zero_add,List.nil_append] at hgr hr ⊢
   exact ⟨_,_,hr,hgr,gmod _ _,by simp [fp],by simp [hm]⟩
 ·by_cases hroom:n+m<=cap
  ·have hfit:n * i.size+news.length<=cur.size:=by rw [hl,hcs,<-Nat.add_mul];exact Nat.mul_le_mul_right _ hroom
   have hr:=run_append_room_own (P:=P) w t tx ty e i ht hi g n cap cur hg x m news hs hroom hfit
   refine ⟨_,_,hr,⟨hlen,.inr ⟨g,cap,_,rfl,hbg,setRow_heap w g cur _ e _ hg,hroom,hcm,?_,?_⟩⟩,⟨rfl,rfl,rfl,by simp,fun k _ hk=>setRow_other w g k _ (fun e=>hk (by simp [fp,e]))⟩,by simp [fp],by simp⟩
   ·simp only [List.size_toArray,List.length_append,List.length_take,List.length_drop,Array.length_toList]
    omega
   ·rw [htake,<-hlen]
    exact List.take_left
  ·have holds:∀ j u,xs[j]?=some u->w.cell? ((⟨g,0,none⟩:Addr).add j)=some u:=hown.cells (g:=g) rfl
   have hr:=run_append_grow_src (P:=P) w t tx ty e i z ht hi hz (some ⟨g,0,none⟩) n cap xs (run_firstCells_some w.drew i.size n ⟨g,0,none⟩ n cap xs hown.1 (by simpa using holds)) x m news hs (by omega) (by omega) (growslice_fits (by omega) hbytes)
   exact ⟨_,_,hr,grown cap (by omega),gmod _ _,by simp [fp],by simp⟩
theorem wpList_append_src {ops:Array Oper} {rest:List Oper} {o:Oper} {a:Act} {Q:Exit->Act->World->Prop} (hgd:o.guard=none) (s x:Operand) (t tx:TypeId)
  (ho:o.op=.call { callee:=.builtin .append,args:=#[s,x],argTypes:=#[t,tx] })
  (e:TypeId) (i:TypeInfo) (z:Value) (size bytes:Nat) (ht:P.underlying t=some (.slice e)) (hi:P.info? e=some i) (hz:i.zero=some z)
  (hsize:i.size=size) (hby:i.bytes=bytes) (hzs:z.cells.size=size)
  (v:Value) (n:Nat) (xs:List Value) (hs:a.eval s=v) (hown:w.ownsRow 0 e size v n xs)
  (vx:Value) (m:Nat) (news:List Value) (hx:a.eval x=vx) (hsrc:Src P size tx vx m news w)
  (h63:n+m<=maxLen) (hbytes:(n+m) * bytes<=140737488355328)
  (h:∀ v' w',w'.ownsRow 0 e size v' (n+m) (xs++news)->Mod (fp v) w w'->(∀ k∈fp v',k∈fp v\/w.heap.size<=k)->(v'=.slice none 0 0 ↔ v=.slice none 0 0/\m=0)->wpList P ops Q rest (a.put o.dst v') w'):wpList P ops Q (o :: rest) a w :=
 wpList_plain hgd fun K hK=>by
  obtain ⟨v',w',hr,h2,h3,h4,h5⟩:=run_append_own_src (P:=P) w t tx o.type e i z size bytes ht hi hz hsize hby hzs v n xs hown vx m news hsrc h63 hbytes
  unfold Oper.wp execOp
  simp only [ho,resolve,invoke,builtin,Sem.run_bind,Sem.run_pure,Result.andThen_ok,List.map_toArray,List.map_cons,List.map_nil,hs,hx,hr]
  exact hK _ _ (h v' w' h2 h3 h4 h5)
end
open Go.RowKit
set_option linter.unusedVariables false
theorem Lq1 {α : Type} {l : List α} {i : Nat} {a : α} : l.toArray.setIfInBounds i a = (l.set i a).toArray := by simp
theorem Lq2 {α : Type} {x : α} {l : List α} {a : α} : (x :: l).set 0 a = a :: l := rfl
theorem Lq3 {α : Type} {x : α} {l : List α} {n : Nat} {a : α} : (x :: l).set (n + 1) a = x :: l.set n a := rfl
theorem Gq1 {α : Type} {l : List α} {i : Nat} : l.toArray[i]? = l[i]? := by simp
theorem Gq2 {α : Type} {a : α} {l : List α} {n : Nat} : (a :: l)[n + 1]? = l[n]? := rfl
theorem Gq3 {α : Type} {a : α} {l : List α} : (a :: l)[0]? = some a := rfl
theorem Hxq {p : Prop} (h : p) : Hid p := Lib.hid h
theorem Msq {α : Type} {a b : α} : a ∈ [b] ↔ a = b := List.mem_singleton
section
variable {P : Program} {ops : Array Oper} {Q : Exit → Act → World → Prop} {md : Region.Mode} {S : World → Prop}
theorem Tkq (i : Nat) {oi : Oper} {v : Value} {fuel : Nat} {listed : Array Bool} {a : Act} {w : World} (hS : S w)
    (hy : YieldsIf P ops S oi v a) (hQ : ∀ c a w, Q (.panic c) (a.put oi.dst v) w → Q (.panic c) a w)
    (h : wpAnyH P md ops Q S fuel (listed.setIfInBounds i true) (a.put oi.dst v) w)
    (hi : ops[i]? = some oi := by (simp only [Gq1, Gq2, Gq3]) <;> rfl)
    (hs : Region.noSelect ops = true := by kernel_rfl) (hf : Region.free md ops listed i = true := by kernel_rfl) (hr : (Region.ready md ops listed).contains i = true := by kernel_rfl)
    : wpAnyH P md ops Q S (fuel + 1) listed a w :=
  wpAnyH_take hi hs hf hr hQ hy hS h
end
end Go.Proofs.Ytdpgbnohelepiaa
namespace Go.Proofs.Ytdpgbnohelepiaa.Cod
/-- a string's bytes -/
def str (s:ByteArray):List Nat:=s.data.toList.map UInt8.toNat
end Go.Proofs.Ytdpgbnohelepiaa.Cod
namespace Go.Proofs.Ytdpgbnohelepiaa
open Go.RowKit
set_option linter.unusedVariables false
set_option maxRecDepth 100000
theorem addr_add (b o j:Nat):(⟨b,o,none⟩:Addr).add j=⟨b,o+j,none⟩:=by
 unfold Addr.add;split <;> simp_all
end Go.Proofs.Ytdpgbnohelepiaa
namespace Go.Proofs.Ytdpgbnohelepiaa.Lx
open Cod (str)
set_option linter.unusedSimpArgs false
/-- a string of bytes -/
def ofS (l:List Nat):ByteArray:=⟨(l.map UInt8.ofNat).toArray⟩
/-- how far a text goes on with bytes of a kind -/
def run (p:Nat->Bool) (s:List Nat):Nat:=(s.takeWhile p).length
end Go.Proofs.Ytdpgbnohelepiaa.Lx
namespace Go.Proofs.Ytdpgbnohelepiaa
open Go.RowKit
set_option linter.unusedVariables false
set_option linter.unusedSimpArgs false
set_option maxRecDepth 100000
theorem setCell_at {w:World} {b:Nat} {cs:Array Value} {T:TypeId} {fr:Nat × Nat} (h:w.heap[b]?=some (.cells cs T fr)) (i:Nat) (v:Value) :
  (w.setCell ⟨b,i,none⟩ v).heap[b]?=some (.cells (cs.setIfInBounds i v) T fr):=by
 simp [World.setCell,Array.getElem?_modify,h]
theorem toList_isEmpty (s:ByteArray):s.toList.isEmpty=decide (s.size=0):=by
 rw [ByteArray.toList_eq]
 obtain ⟨⟨l⟩⟩:=s
 cases l <;> simp [ByteArray.size]
theorem ofS_size (l:List Nat):(Lx.ofS l).size=l.length:=by simp [Lx.ofS,ByteArray.size]
theorem fp_lt {w:World} {base:Nat} {e:TypeId} {size:Nat} {v:Value} {n:Nat} {xs:List Value} (h:w.ownsRow base e size v n xs):∀ k∈fp v,k<w.heap.size:=by
 intro k hk
 rcases h.2 with ⟨rfl,_⟩ | ⟨g,cap,cur,rfl,hb,hg,_⟩
 ·simp [fp] at hk
 ·simp [fp] at hk
  subst hk
  exact lt_of_block hg
end Go.Proofs.Ytdpgbnohelepiaa
namespace Go.Proofs.Ytdpgbnohelepiaa.Va
open Cod (str)
set_option linter.unusedSimpArgs false
set_option linter.unusedVariables false
structure Val where
 k:Int
 n:Int
 s:List Nat
deriving DecidableEq
def zero:Val:=⟨0,0,[]⟩
def may (v:Val):Bool:=(v.k == 1 && (v.s == [] && (decide (-2147483647<=v.n) && decide (v.n<=2147483647)))) || (v.k == 2 && (v.n == 0 && decide (v.s.length<=64)))
end Go.Proofs.Ytdpgbnohelepiaa.Va
namespace Go.Proofs.Ytdpgbnohelepiaa
open Go.RowKit
set_option linter.unusedVariables false
set_option linter.unusedSimpArgs false
set_option maxRecDepth 100000
/-- a value as it is handed over -/
def valV (v:Va.Val):Array Value:=#[.int .i64 v.k,.int .i64 v.n,.string (Lx.ofS v.s)]
def chk (v:Va.Val):Int:=if Va.may v then 0 else 20
theorem check_any (v:Va.Val) (w:World) :
  Calls Try.prog 25 #[.agg (valV v)] w fun e w'=>e=.returned (.int .i64 (chk v))/\Mod [] w w':=by
 obtain ⟨k,n,s⟩:=v
 unfold valV
 have hsz:=ofS_size s
 have hem:(Lx.ofS s).toList.isEmpty=decide (s=[]):=by
  rw [toList_isEmpty,hsz]
  cases s <;> simp
 by_cases k1:k=1
 ·subst k1
  by_cases hs:s=[]
  ·have e1:(Lx.ofS s).toList.isEmpty=true:=by rw [hem,decide_eq_true hs]
   by_cases h1:-2147483647<=n
   ·by_cases h2:n<=2147483647
    ·have e:chk ⟨1,n,s⟩=0:=by unfold chk Va.may;rw [if_pos];simp [hs,h1,h2]
     have E:=Lib.hid e
     clear hem hs hsz e
     go_enter Try.func25,Try.ntmps25
     go_wp2_with fail
     go_ret
     exact ⟨by rw [E.out];rfl,(Mod.refl [] w).alloc _⟩
    ·have e:chk ⟨1,n,s⟩=20:=by unfold chk Va.may;rw [if_neg];simp [hs,h1,h2]
     have E:=Lib.hid e
     clear hem hs hsz e
     go_enter Try.func25,Try.ntmps25
     go_wp2_with fail
     go_ret
     exact ⟨by rw [E.out];rfl,(Mod.refl [] w).alloc _⟩
   ·have e:chk ⟨1,n,s⟩=20:=by unfold chk Va.may;rw [if_neg];simp [hs,h1]
    have E:=Lib.hid e
    clear hem hs hsz e
    go_enter Try.func25,Try.ntmps25
    go_wp2_with fail
    go_ret
    exact ⟨by rw [E.out];rfl,(Mod.refl [] w).alloc _⟩
  ·have e1:(Lx.ofS s).toList.isEmpty=false:=by rw [hem,decide_eq_false hs]
   have e:chk ⟨1,n,s⟩=20:=by unfold chk Va.may;rw [if_neg];simp [hs]
   have E:=Lib.hid e
   clear hem hs hsz e
   go_enter Try.func25,Try.ntmps25
   go_wp2_with fail
   go_ret
   exact ⟨by rw [E.out];rfl,(Mod.refl [] w).alloc _⟩
 ·have k1B:(k == 1)=false:=by rw [beq_eq_false_iff_ne];exact k1
  by_cases k2:k=2
  ·subst k2
   by_cases hn:n=0
   ·subst hn
    by_cases hl:s.length<=64
    ·have e:chk ⟨2,0,s⟩=0:=by unfold chk Va.may;rw [if_pos];simp [hl]
     have e2:((Lx.ofS s).size:Int)<=64:=by omega
     have E:=Lib.hid e
     clear hem hsz e hl
     go_enter Try.func25,Try.ntmps25
     go_wp2_with fail
     go_ret
     exact ⟨by rw [E.out];rfl,(Mod.refl [] w).alloc _⟩
    ·have e:chk ⟨2,0,s⟩=20:=by unfold chk Va.may;rw [if_neg];simp;omega
     have e2:¬ ((Lx.ofS s).size:Int)<=64:=by omega
     have E:=Lib.hid e
     clear hem hsz e hl
     go_enter Try.func25,Try.ntmps25
     go_wp2_with fail
     go_ret
     exact ⟨by rw [E.out];rfl,(Mod.refl [] w).alloc _⟩
   ·have nB:(n == 0)=false:=by rw [beq_eq_false_iff_ne];exact hn
    have e:chk ⟨2,n,s⟩=20:=by unfold chk Va.may;rw [if_neg];simp [hn]
    have E:=Lib.hid e
    clear hem hsz e
    go_enter Try.func25,Try.ntmps25
    go_wp2_with fail
    go_ret
    exact ⟨by rw [E.out];rfl,(Mod.refl [] w).alloc _⟩
  ·have k2B:(k == 2)=false:=by rw [beq_eq_false_iff_ne];exact k2
   have e:chk ⟨k,n,s⟩=20:=by unfold chk Va.may;rw [if_neg];simp [k1,k2]
   have E:=Lib.hid e
   clear hem hsz e
   go_enter Try.func25,Try.ntmps25
   go_wp2_with fail
   go_ret
   exact ⟨by rw [E.out];rfl,(Mod.refl [] w).alloc _⟩
structure ValAt (w:World) (b o:Nat) (v:Va.Val):Prop where
  c0:w.cell? ⟨b,o,none⟩=some (.int .i64 v.k)
  c1:w.cell? ⟨b,o+1,none⟩=some (.int .i64 v.n)
  c2:w.cell? ⟨b,o+2,none⟩=some (.string (Lx.ofS v.s))
/-- a slice that reads as these values -/
def VRow (w:World) (v:Value) (ts:List Va.Val):Prop :=
  (∃ a c,v=.slice a 0 c/\ts=[]) \/
   ∃ b off cap,v=.slice (some ⟨b,off,none⟩) ts.length cap/\∀ i (h:i<ts.length),ValAt w b (off+i * 3) ts[i]
theorem VRow.past {S:List Nat} {w w':World} {v:Value} {ts:List Va.Val} (h:VRow w v ts) (hm:Mod S w w') (hS:∀ t∈S,w.heap.size<=t):VRow w' v ts:=by
  rcases h with h | ⟨b,off,cap,rfl,hc⟩
  · exact .inl h
  · refine .inr ⟨b,off,cap,rfl,fun i hi=>?_⟩
    have h0:=hc i hi
    have hb:b∉S:=fun hb=>by have:=hS b hb;have hlt:b<w.heap.size:=World.block_lt_of_cell? w _ h0.c0;omega
    exact ⟨hm.cell h0.c0 hb,hm.cell h0.c1 hb,hm.cell h0.c2 hb⟩
theorem VRow.at {w:World} {a:Option Addr} {c:Nat} {ts:List Va.Val} (h:VRow w (.slice a ts.length c) ts) (i:Nat) (hi:i<ts.length) :
    ∃ b off,a=some ⟨b,off,none⟩/\ValAt w b (off+i * 3) ts[i]:=by
  rcases h with ⟨a',c',e,rfl⟩ | ⟨b,off,cap,e,hc⟩
  · simp at hi
  · simp only [Value.slice.injEq,true_and] at e
    exact ⟨b,off,e.1,hc i hi⟩
theorem VRow.lit {w:World} {v:Value} {ts:List Va.Val} (h:VRow w v ts):∃ a c,v=.slice a ts.length c:=by
  rcases h with ⟨a,c,rfl,rfl⟩ | ⟨b,off,cap,rfl,hc⟩
  · exact ⟨_,_,rfl⟩
  · exact ⟨_,_,rfl⟩
def rowVals (ts:List Va.Val):List Value:=ts.flatMap fun v=>(valV v).toList
theorem rowVals_cons (v:Va.Val) (ts:List Va.Val):rowVals (v :: ts)=.int .i64 v.k :: .int .i64 v.n :: .string (Lx.ofS v.s) :: rowVals ts:=rfl
theorem rowVals_app (a b:List Va.Val):rowVals (a++b)=rowVals a++rowVals b:=by simp [rowVals]
theorem rowVals_len:∀ ts:List Va.Val,(rowVals ts).length=ts.length * 3
 | []=>rfl
 | v :: ts=>by rw [rowVals_cons];simp only [List.length_cons];rw [rowVals_len ts];omega
theorem rowVals_get:∀ (ts:List Va.Val) (i:Nat) (h:i<ts.length),(rowVals ts)[i * 3]?=some (.int .i64 ts[i].k)/\(rowVals ts)[i * 3+1]?=some (.int .i64 ts[i].n)/\(rowVals ts)[i * 3+2]?=some (.string (Lx.ofS ts[i].s))
 | v :: ts,0,_=>⟨rfl,rfl,rfl⟩
 | v :: ts,i+1,h=>by
  have ih:=rowVals_get ts i (by simpa using h)
  rw [rowVals_cons,show (i+1) * 3=i * 3+1+1+1 by omega]
  simpa using ih
theorem rowVals_one (ts:List Va.Val):∀ v∈rowVals ts,v.oneCell'=true:=by
 intro v hv
 unfold rowVals at hv
 rw [List.mem_flatMap] at hv
 obtain ⟨x,-,hx⟩:=hv
 simp only [valV,List.mem_cons,List.not_mem_nil,or_false] at hx
 rcases hx with rfl | rfl | rfl <;> rfl
theorem VRow.src {w:World} {b off c:Nat} {ts:List Va.Val} (h:∀ i (h:i<ts.length),ValAt w b (off+i * 3) ts[i]) (j:Nat) (u:Value) (hu:(rowVals ts)[j]?=some u):w.cell? ((⟨b,off,none⟩:Addr).add j)=some u:=by
 have hj:j<ts.length * 3:=by
  obtain ⟨hh,-⟩:=List.getElem?_eq_some_iff.1 hu
  rwa [rowVals_len] at hh
 have hi:j / 3<ts.length:=by omega
 obtain ⟨h0,h1,h2⟩:=rowVals_get ts (j / 3) hi
 obtain ⟨c0,c1,c2⟩:=h (j / 3) hi
 rw [Addr.add_lit]
 generalize ts[j / 3]=x at *
 have h3:j % 3=0\/j % 3=1\/j % 3=2:=by omega
 rcases h3 with e | e | e
 ·have e':j=j / 3 * 3:=by omega
  rw [e',h0] at hu
  obtain rfl:=Option.some.inj hu
  rw [e'];exact c0
 ·have e':j=j / 3 * 3+1:=by omega
  rw [e',h1] at hu
  obtain rfl:=Option.some.inj hu
  rw [e'];exact c1
 ·have e':j=j / 3 * 3+2:=by omega
  rw [e',h2] at hu
  obtain rfl:=Option.some.inj hu
  rw [e'];exact c2
/-- copy, of elements of k cells -/
theorem run_copy_rowk {P:Program} (w:World) (dT sT ty elem:TypeId) (k g o dLen dCap:Nat) (a:Addr) (sLen sCap:Nat) (cur:Array Value) (t:TypeId) (cs:List Value)
  (hu:P.underlying dT=some (.slice elem)) (hs:(P.info? elem).map (·.size)=some k)
  (hg:w.heap[g]?=some (.cells cur t (0,0))) (hn:cs.length=Nat.min sLen dLen * k)
  (hsrc:∀ j v,cs[j]?=some v->w.cell? (a.add j)=some v) (hfit:o+cs.length<=cur.size) (h1:∀ v∈cs,v.oneCell'=true) :
  (Builtin.copy_ #[dT,sT] ty #[.slice (some ⟨g,o,none⟩) dLen dCap,.slice (some a) sLen sCap]).run P w =
   .ok (goInt (Nat.min sLen dLen)) (w.setRow g (cur.toList.take o++cs++cur.toList.drop (o+cs.length)).toArray):=by
 have hl:=run_loadCells_list (P:=P) w a cs hsrc
 have hst:=run_storeCells_at P g o t cs 0 cur w hg (by simpa using hfit) h1
 cases hq:P.info? elem with
 | none=>simp [hq] at hs
 | some i =>
  have hi:i.size=k:=by simpa [hq] using hs
  simp [Builtin.copy_,run_underlying hu,Builtin.lenOf,Builtin.firstCells,sizeOf,typeInfo,hq,hi,<-hn,hl,hst]
theorem run_copy_nonek {P:Program} (w:World) (dT sT ty elem:TypeId) (k:Nat) (d a:Option Addr) (dLen dCap sLen sCap:Nat) (hu:P.underlying dT=some (.slice elem)) (hs:(P.info? elem).map (·.size)=some k) (hn:Nat.min sLen dLen=0) :
  (Builtin.copy_ #[dT,sT] ty #[.slice d dLen dCap,.slice a sLen sCap]).run P w=.ok (goInt 0) w:=by
 cases hq:P.info? elem with
 | none=>simp [hq] at hs
 | some i =>
  have hl:∀ (x:Addr),(loadCells x 0).run P w=.ok #[] w:=fun x=>by simpa using run_loadCells_list (P:=P) w x [] (by simp)
  cases d <;> cases a <;> simp [Builtin.copy_,run_underlying hu,Builtin.lenOf,Builtin.firstCells,sizeOf,typeInfo,hq,hn,storeCells,hl]
theorem Try.infoVal:(Try.prog.info? 47).map (fun i=>(i.zero,i.size,i.bytes))=some (some (.agg (valV Va.zero)),3,32):=by kernel_rfl
/-- the slice v, newer than base, owns these values -/
structure VOwn (w:World) (base:Nat) (v:Value) (ts:List Va.Val):Prop where
 row:w.ownsRow 0 47 3 v ts.length (rowVals ts)
 new:∀ k∈fp v,base<=k
theorem VOwn.nil (w:World) (base:Nat):VOwn w base (.slice none 0 0) []:=⟨World.ownsRow_nil _ _ _ _,by simp [fp]⟩
theorem VOwn.keep {S:List Nat} {w w':World} {base:Nat} {v:Value} {ts:List Va.Val} (h:VOwn w base v ts) (hm:Mod S w w') (hS:∀ k∈fp v,k∉S):VOwn w' base v ts :=
 ⟨hm.owns h.row hS,h.new⟩
theorem VOwn.past {S:List Nat} {w w':World} {base:Nat} {v:Value} {ts:List Va.Val} (h:VOwn w base v ts) (hm:Mod S w w') (hS:∀ t∈S,w.heap.size<=t):VOwn w' base v ts :=
 h.keep hm (fun k hk hs=>by have:=hS k hs;have:=fp_lt h.row k hk;omega)
theorem VOwn.base {w:World} {b b':Nat} {v:Value} {ts:List Va.Val} (h:VOwn w b v ts) (hb:b'<=b):VOwn w b' v ts :=
 ⟨h.row,fun k hk=>Nat.le_trans hb (h.new k hk)⟩
theorem VOwn.lit {w:World} {base:Nat} {v:Value} {ts:List Va.Val} (h:VOwn w base v ts):∃ a c,v=.slice a ts.length c:=by
 rcases h.row.2 with ⟨rfl,h0⟩ | ⟨g,cap,cur,rfl,-⟩
 ·exact ⟨_,_,by rw [h0]⟩
 ·exact ⟨_,_,rfl⟩
theorem VOwn.vrow {w:World} {base:Nat} {v:Value} {ts:List Va.Val} (h:VOwn w base v ts):VRow w v ts:=by
 rcases h.row.2 with ⟨rfl,h0⟩ | ⟨g,cap,cur,rfl,-⟩
 ·exact .inl ⟨_,_,rfl,List.eq_nil_of_length_eq_zero h0⟩
 ·refine .inr ⟨g,0,cap,rfl,fun i hi=>?_⟩
  obtain ⟨h0,h1,h2⟩:=rowVals_get ts i hi
  have hget:∀ j u,(rowVals ts)[j]?=some u->w.cell? ⟨g,j,none⟩=some u:=fun j u hu=>by
   have:=h.row.cells (g:=g) rfl j _ hu
   rwa [addr_add,Nat.zero_add] at this
  rw [Nat.zero_add]
  exact ⟨hget _ _ h0,hget _ _ h1,hget _ _ h2⟩
theorem src_vals {w:World} {v:Value} {ts:List Va.Val} (h:VRow w v ts):Src Try.prog 3 24 v ts.length (rowVals ts) w:=by
 rcases h with ⟨a,c,rfl,rfl⟩ | ⟨b,off,cap,rfl,hc⟩
 ·cases a with
  | none=>exact Src.ofNil (size:=3) w Try.underlying24 c
  | some a=>exact Src.ofSlice w Try.underlying24 a 0 c [] rfl (by simp) (by simp)
 ·exact Src.ofSlice w Try.underlying24 _ _ _ _ (rowVals_len ts) (fun j u hu=>VRow.src (c:=0) hc j u hu) (rowVals_one ts)
section
variable {P:Program} {ops:Array Oper} {Q:Exit->Act->World->Prop} {md:Region.Mode} {S:World->Prop} {T:List Nat}
/-- whatever order is picked; S holds behind each operation that is not of T -/
def TlAny (P:Program) (md:Region.Mode) (ops:Array Oper) (Q:Exit->Act->World->Prop) (S:World->Prop) (T:List Nat):Nat->Array Bool->Act->World->Prop
 | 0,done,a,w=>Region.ready md ops done=[]/\Q .normal a w
 | f+1,done,a,w=>(Region.ready md ops done=[]->Q .normal a w) /\
   ∀ i,i∈Region.ready md ops done->wpOp P ops Q i (fun b v=>(T.contains i=false->S v)/\TlAny P md ops Q S T f (done.setIfInBounds i true) b v) a w
theorem TlAny.any:∀ (f:Nat) (done:Array Bool) (a:Act) (w:World),TlAny P md ops Q S T f done a w->wpAny P md ops Q f done a w
 | 0,_,_,_,h=>h
 | f+1,_,_,_,h=>⟨h.1,fun i hi=>wpOp_mono (fun b v hb=>TlAny.any f _ b v hb.2) (h.2 i hi)⟩
/-- each operation of T that has not come up waits for number i -/
def tlWaits (md:Region.Mode) (ops:Array Oper) (T:List Nat) (done:Array Bool) (i:Nat):Bool :=
 T.all fun j=>done.getD j true || match ops[j]? with
  | some o=>o.after.any (fun e=>Region.binds md e && e.on == i)
  | none=>true
theorem TlAny.first {i:Nat} {oi:Oper} {v:Value} (hi:ops[i]?=some oi) (hs:Region.noSelect ops=true) (hit:T.contains i=false) (hQ:∀ c a w,Q (.panic c) (a.put oi.dst v) w->Q (.panic c) a w) :
  ∀ (f:Nat) (done:Array Bool) (a:Act) (w:World),
   (∀ j oj,ops[j]?=some oj->j≠i->done.getD j true=false->(∀ e∈oj.after,Region.binds md e=true->e.on≠i)->oi.apart ops oj=true/\T.contains j=false) ->
   i∈Region.ready md ops done->YieldsIf P ops S oi v a->S w->TlAny P md ops Q S T f (done.setIfInBounds i true) (a.put oi.dst v) w->TlAny P md ops Q S T (f+1) done a w:=by
 have hsel:=Region.noSelect_spec hs
 intro f
 induction f with
 | zero =>
  intro done a w _ hr hy hS H
  refine ⟨fun h0=>(by rw [h0] at hr;cases hr),fun j hj=>?_⟩
  rcases Nat.decEq j i with hne | rfl
  ·exact absurd (ready_mono hj hne) (by rw [H.1];exact List.not_mem_nil)
  ·exact hy.wpOp hi hS ⟨fun _=>hS,H⟩
 | succ f ih =>
  intro done a w hfree hr hy hS H
  refine ⟨fun h0=>(by rw [h0] at hr;cases hr),fun j hj=>?_⟩
  rcases Nat.decEq j i with hne | rfl
  ·obtain ⟨hjun,oj,hoj,hall⟩:=mem_ready.1 hj
   have hnot:∀ e∈oj.after,Region.binds md e=true->e.on≠i:=fun e he hb heq=>by
    have h1:=hall e he hb
    have h0:=(mem_ready.1 hr).1
    rw [heq] at h1
    rcases Nat.lt_or_ge i done.size with hlt | hge
    ·simp [hlt] at h0 h1;rw [h0] at h1;cases h1
    ·simp [Array.getElem?_eq_none hge] at h1
   obtain ⟨hap,hjt⟩:=hfree j oj hoj hne hjun hnot
   have h2:=wpOp_putIf hoj hap (fun cs b=>hsel i oi cs b hi) (fun cs b=>hsel j oj cs b hoj) hQ hy (H.2 j (ready_mono hj hne))
   refine wpOp_mono (fun b u h3=>⟨fun _=>h3.2.1 hjt,ih (done.setIfInBounds j true) b u ?_ (ready_mono hr (Ne.symm hne)) h3.1 (h3.2.1 hjt) ?_⟩) h2
   ·intro k ok hk hki hun hno
    refine hfree k ok hk hki ?_ hno
    rcases Nat.decEq j k with hjk | rfl
    ·rw [getD_set_ne true hjk] at hun;exact hun
    ·exact hjun
   ·rw [Array.setIfInBounds_comm _ _ hne]
    exact h3.2.2
  ·exact hy.wpOp hi hS ⟨fun _=>hS,H⟩
theorem TlAny.take (i:Nat) {oi:Oper} {v:Value} {f:Nat} {done:Array Bool} {a:Act} {w:World} (hS:S w) (hy:YieldsIf P ops S oi v a) (hQ:∀ c a w,Q (.panic c) (a.put oi.dst v) w->Q (.panic c) a w)
  (h:TlAny P md ops Q S T f (done.setIfInBounds i true) (a.put oi.dst v) w)
  (hi:ops[i]?=some oi:=by (simp only [List.getElem?_toArray,List.getElem?_cons_succ,List.getElem?_cons_zero]) <;> rfl)
  (hs:Region.noSelect ops=true:=by kernel_rfl) (hf:Region.free md ops done i=true:=by kernel_rfl) (hr:(Region.ready md ops done).contains i=true:=by kernel_rfl)
  (ht:tlWaits md ops T done i=true:=by kernel_rfl) (hit:T.contains i=false:=by kernel_rfl):TlAny P md ops Q S T (f+1) done a w:=by
 refine TlAny.first hi hs hit hQ f done a w (fun j oj hj hne hun hno=>⟨Region.free_spec hi hf j oj hj hne hun hno,?_⟩) (by simpa using hr) hy hS h
 cases hc:T.contains j with
 | false=>rfl
 | true =>
  have hm:=List.all_eq_true.1 ht j (by simpa using hc)
  simp only [hun,hj,Bool.false_or,Array.any_eq_true] at hm
  obtain ⟨k,hk,hb⟩:=hm
  simp only [Bool.and_eq_true,beq_iff_eq] at hb
  exact absurd hb.2 (hno _ (Array.getElem_mem hk) hb.1)
/-- one operation comes up next -/
theorem TlAny.one (i:Nat) {o:Oper} {f:Nat} {done:Array Bool} {a:Act} {w:World}
  (h:∀ K:Act->World->Prop,Shut (∀ a w,(T.contains i=false->S w)->TlAny P md ops Q S T f (done.setIfInBounds i true) a w->K a w)->if Region.wanted o (yielded ops a.tmps)=true then Oper.wp P o a w K Q else K (a.put o.dst undef) w)
  (hi:ops[i]?=some o:=by (simp only [List.getElem?_toArray,List.getElem?_cons_succ,List.getElem?_cons_zero]) <;> rfl)
  (hr:Region.ready md ops done=[i]:=by kernel_rfl):TlAny P md ops Q S T (f+1) done a w:=by
 refine ⟨fun h0=>absurd (hr ▸ h0) (by simp),fun j hj=>?_⟩
 rw [hr,Msq] at hj
 subst hj
 exact wpOp_step hi (fun K hK=>h K (fun a w h1 h2=>hK a w ⟨h1,h2⟩))
theorem TlAny.fin {f:Nat} {done:Array Bool} {a:Act} {w:World} (h:Q .normal a w) (hr:Region.ready md ops done=[]:=by kernel_rfl):TlAny P md ops Q S T f done a w:=by
 cases f with
 | zero=>exact ⟨hr,h⟩
 | succ f=>exact ⟨fun _=>h,by rw [hr];simp⟩
/-- the beginning -/
theorem tl_region (S:World->Prop) (T:List Nat) {id:Nat} {a:Act} {w:World} (hm:P.follows .mixedOrders=true) (h:TlAny P .any ops Q S T ops.size (Array.replicate ops.size false) a w.drew):(Code.region id ops true).wp P Q a w :=
 wp_region_any hm (TlAny.any _ _ _ _ h)
end
end Go.Proofs.Ytdpgbnohelepiaa
