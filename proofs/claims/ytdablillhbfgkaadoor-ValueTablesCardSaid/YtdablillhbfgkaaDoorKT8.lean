/- THE TEXTS MERGED: VaOwn Tail VtRow VtMap VtFind VtAt. -/
import Derived.Test.YtdablillhbfgkaaDoorKT7
import Derived.Deep.RegionHeld
import Derived.Laws.Tables
import Derived.Deep.WholeRow
import Derived.Deep.MidRow
import Derived.Maps.RangeWalk
import Derived.Maps.OwnSet
import Derived.Maps.OwnOps
import Derived.DeepKeys4
import Derived.Carry
namespace Go.Proofs.YtdablillhbfgkaaDoor
open Go.RowKit
set_option linter.unusedVariables false
set_option linter.unusedSimpArgs false
set_option maxRecDepth 100000
theorem Tryd.infoVal:(Tryd.prog.info? 28).map (fun i=>(i.zero,i.size,i.bytes))=some (some (.agg (valV Va.zero)),3,32):=by kernel_rfl
/-- the slice v, newer than base, owns these values -/
structure VOwn (w:World) (base:Nat) (v:Value) (ts:List Va.Val):Prop where
 row:w.ownsRow 0 28 3 v ts.length (rowVals ts)
 new:∀ k∈fp v,base<=k
theorem VOwn.nil (w:World) (base:Nat):VOwn w base (.slice none 0 0) []:=⟨World.ownsRow_nil _ _ _ _,by simp [fp]⟩
theorem VOwn.keep {S:List Nat} {w w':World} {base:Nat} {v:Value} {ts:List Va.Val} (h:VOwn w base v ts) (hm:Mod S w w') (hS:∀ k∈fp v,k∉S):VOwn w' base v ts :=
 ⟨hm.owns h.row hS,h.new⟩
theorem VOwn.past {S:List Nat} {w w':World} {base:Nat} {v:Value} {ts:List Va.Val} (h:VOwn w base v ts) (hm:Mod S w w') (hS:∀ t∈S,w.heap.size<=t):VOwn w' base v ts :=
 h.keep hm (fun k hk hs=>by have:=hS k hs;have:=fp_lt h.row k hk;omega)
theorem VOwn.base {w:World} {b b':Nat} {v:Value} {ts:List Va.Val} (h:VOwn w b v ts) (hb:b'<=b):VOwn w b' v ts :=
 ⟨h.row,fun k hk=>Nat.le_trans hb (h.new k hk)⟩
theorem VOwn.lit {w:World} {base:Nat} {v:Value} {ts:List Va.Val} (h:VOwn w base v ts):∃ a c,v=.slice a ts.length c:=by
 rcases h.row.2 with ⟨rfl,h0⟩ | ⟨g,cap,cur,rfl,-⟩
 ·exact ⟨_,_,by rw [h0]⟩
 ·exact ⟨_,_,rfl⟩
theorem VOwn.vrow {w:World} {base:Nat} {v:Value} {ts:List Va.Val} (h:VOwn w base v ts):VRow w v ts:=by
 rcases h.row.2 with ⟨rfl,h0⟩ | ⟨g,cap,cur,rfl,-⟩
 ·exact .inl ⟨_,_,rfl,List.eq_nil_of_length_eq_zero h0⟩
 ·refine .inr ⟨g,0,cap,rfl,fun i hi=>?_⟩
  obtain ⟨h0,h1,h2⟩:=rowVals_get ts i hi
  have hget:∀ j u,(rowVals ts)[j]?=some u->w.cell? ⟨g,j,none⟩=some u:=fun j u hu=>by
   have:=h.row.cells (g:=g) rfl j _ hu
   rwa [addr_add,Nat.zero_add] at this
  rw [Nat.zero_add]
  exact ⟨hget _ _ h0,hget _ _ h1,hget _ _ h2⟩
/-- one value, as what is appended -/
theorem src_val {w:World} {b:Nat} {t:Va.Val} {T:TypeId} {fr:Nat × Nat} (h:w.heap[b]?=some (.cells (valV t) T fr)) :
  Src Tryd.prog 3 30 (.slice (some ⟨b,0,none⟩) 1 1) 1 (valV t).toList w:=by
 refine Src.ofSlice w Tryd.underlying30 ⟨b,0,none⟩ 1 1 _ (by simp [valV]) (fun j u hu=>?_) (fun u hu=>rowVals_one [t] u (by simpa [rowVals] using hu))
 rw [addr_add,Nat.zero_add]
 simp [World.cell?,h]
 rw [<-Array.getElem?_toList];exact hu
theorem src_vals {w:World} {v:Value} {ts:List Va.Val} (h:VRow w v ts):Src Tryd.prog 3 30 v ts.length (rowVals ts) w:=by
 rcases h with ⟨a,c,rfl,rfl⟩ | ⟨b,off,cap,rfl,hc⟩
 ·cases a with
  | none=>exact Src.ofNil (size:=3) w Tryd.underlying30 c
  | some a=>exact Src.ofSlice w Tryd.underlying30 a 0 c [] rfl (by simp) (by simp)
 ·exact Src.ofSlice w Tryd.underlying30 _ _ _ _ (rowVals_len ts) (fun j u hu=>VRow.src (c:=0) hc j u hu) (rowVals_one ts)
section
variable {P:Program} {ops:Array Oper} {Q:Exit->Act->World->Prop} {md:Region.Mode} {S:World->Prop} {T:List Nat}
/-- whatever order is picked; S holds behind each operation that is not of T -/
def TlAny (P:Program) (md:Region.Mode) (ops:Array Oper) (Q:Exit->Act->World->Prop) (S:World->Prop) (T:List Nat):Nat->Array Bool->Act->World->Prop
 | 0,done,a,w=>Region.ready md ops done=[]/\Q .normal a w
 | f+1,done,a,w=>(Region.ready md ops done=[]->Q .normal a w) /\
   ∀ i,i∈Region.ready md ops done->wpOp P ops Q i (fun b v=>(T.contains i=false->S v)/\TlAny P md ops Q S T f (done.setIfInBounds i true) b v) a w
theorem TlAny.any:∀ (f:Nat) (done:Array Bool) (a:Act) (w:World),TlAny P md ops Q S T f done a w->wpAny P md ops Q f done a w
 | 0,_,_,_,h=>h
 | f+1,_,_,_,h=>⟨h.1,fun i hi=>wpOp_mono (fun b v hb=>TlAny.any f _ b v hb.2) (h.2 i hi)⟩
/-- each operation of T that has not come up waits for number i -/
def tlWaits (md:Region.Mode) (ops:Array Oper) (T:List Nat) (done:Array Bool) (i:Nat):Bool :=
 T.all fun j=>done.getD j true || match ops[j]? with
  | some o=>o.after.any (fun e=>Region.binds md e && e.on == i)
  | none=>true
theorem TlAny.first {i:Nat} {oi:Oper} {v:Value} (hi:ops[i]?=some oi) (hs:Region.noSelect ops=true) (hit:T.contains i=false) (hQ:∀ c a w,Q (.panic c) (a.put oi.dst v) w->Q (.panic c) a w) :
  ∀ (f:Nat) (done:Array Bool) (a:Act) (w:World),
   (∀ j oj,ops[j]?=some oj->j≠i->done.getD j true=false->(∀ e∈oj.after,Region.binds md e=true->e.on≠i)->oi.apart ops oj=true/\T.contains j=false) ->
   i∈Region.ready md ops done->YieldsIf P ops S oi v a->S w->TlAny P md ops Q S T f (done.setIfInBounds i true) (a.put oi.dst v) w->TlAny P md ops Q S T (f+1) done a w:=by
 have hsel:=Region.noSelect_spec hs
 intro f
 induction f with
 | zero =>
  intro done a w _ hr hy hS H
  refine ⟨fun h0=>(by rw [h0] at hr;cases hr),fun j hj=>?_⟩
  rcases Nat.decEq j i with hne | rfl
  ·exact absurd (ready_mono hj hne) (by rw [H.1];exact List.not_mem_nil)
  ·exact hy.wpOp hi hS ⟨fun _=>hS,H⟩
 | succ f ih =>
  intro done a w hfree hr hy hS H
  refine ⟨fun h0=>(by rw [h0] at hr;cases hr),fun j hj=>?_⟩
  rcases Nat.decEq j i with hne | rfl
  ·obtain ⟨hjun,oj,hoj,hall⟩:=mem_ready.1 hj
   have hnot:∀ e∈oj.after,Region.binds md e=true->e.on≠i:=fun e he hb heq=>by
    have h1:=hall e he hb
    have h0:=(mem_ready.1 hr).1
    rw [heq] at h1
    rcases Nat.lt_or_ge i done.size with hlt | hge
    ·simp [hlt] at h0 h1;rw [h0] at h1;cases h1
    ·simp [Array.getElem?_eq_none hge] at h1
   obtain ⟨hap,hjt⟩:=hfree j oj hoj hne hjun hnot
   have h2:=wpOp_putIf hoj hap (fun cs b=>hsel i oi cs b hi) (fun cs b=>hsel j oj cs b hoj) hQ hy (H.2 j (ready_mono hj hne))
   refine wpOp_mono (fun b u h3=>⟨fun _=>h3.2.1 hjt,ih (done.setIfInBounds j true) b u ?_ (ready_mono hr (Ne.symm hne)) h3.1 (h3.2.1 hjt) ?_⟩) h2
   ·intro k ok hk hki hun hno
    refine hfree k ok hk hki ?_ hno
    rcases Nat.decEq j k with hjk | rfl
    ·rw [getD_set_ne true hjk] at hun;exact hun
    ·exact hjun
   ·rw [Array.setIfInBounds_comm _ _ hne]
    exact h3.2.2
  ·exact hy.wpOp hi hS ⟨fun _=>hS,H⟩
theorem TlAny.take (i:Nat) {oi:Oper} {v:Value} {f:Nat} {done:Array Bool} {a:Act} {w:World} (hS:S w) (hy:YieldsIf P ops S oi v a) (hQ:∀ c a w,Q (.panic c) (a.put oi.dst v) w->Q (.panic c) a w)
  (h:TlAny P md ops Q S T f (done.setIfInBounds i true) (a.put oi.dst v) w)
  (hi:ops[i]?=some oi:=by (simp only [List.getElem?_toArray,List.getElem?_cons_succ,List.getElem?_cons_zero]) <;> rfl)
  (hs:Region.noSelect ops=true:=by kernel_rfl) (hf:Region.free md ops done i=true:=by kernel_rfl) (hr:(Region.ready md ops done).contains i=true:=by kernel_rfl)
  (ht:tlWaits md ops T done i=true:=by kernel_rfl) (hit:T.contains i=false:=by kernel_rfl):TlAny P md ops Q S T (f+1) done a w:=by
 refine TlAny.first hi hs hit hQ f done a w (fun j oj hj hne hun hno=>⟨Region.free_spec hi hf j oj hj hne hun hno,?_⟩) (by simpa using hr) hy hS h
 cases hc:T.contains j with
 | false=>rfl
 | true =>
  have hm:=List.all_eq_true.1 ht j (by simpa using hc)
  simp only [hun,hj,Bool.false_or,Array.any_eq_true] at hm
  obtain ⟨k,hk,hb⟩:=hm
  simp only [Bool.and_eq_true,beq_iff_eq] at hb
  exact absurd hb.2 (hno _ (Array.getElem_mem hk) hb.1)
theorem TlAny.firstY {i:Nat} {oi:Oper} {v:Value} (hi:ops[i]?=some oi) (hs:Region.noSelect ops=true) (hit:T.contains i=true) (hQ:∀ c a w,Q (.panic c) (a.put oi.dst v) w->Q (.panic c) a w) :
  ∀ (f:Nat) (done:Array Bool) (a:Act) (w:World),
   (∀ j oj,ops[j]?=some oj->j≠i->done.getD j true=false->(∀ e∈oj.after,Region.binds md e=true->e.on≠i)->oi.apart ops oj=true) ->
   i∈Region.ready md ops done->YieldsIf P ops (fun _=>True) oi v a->TlAny P md ops Q S T f (done.setIfInBounds i true) (a.put oi.dst v) w->TlAny P md ops Q S T (f+1) done a w:=by
 have hsel:=Region.noSelect_spec hs
 have hno':∀ w:World,T.contains i=false->S w:=fun w h=>by rw [hit] at h;cases h
 intro f
 induction f with
 | zero =>
  intro done a w _ hr hy H
  refine ⟨fun h0=>(by rw [h0] at hr;cases hr),fun j hj=>?_⟩
  rcases Nat.decEq j i with hne | rfl
  ·exact absurd (ready_mono hj hne) (by rw [H.1];exact List.not_mem_nil)
  ·exact hy.wpOp hi trivial ⟨hno' w,H⟩
 | succ f ih =>
  intro done a w hfree hr hy H
  refine ⟨fun h0=>(by rw [h0] at hr;cases hr),fun j hj=>?_⟩
  rcases Nat.decEq j i with hne | rfl
  ·obtain ⟨hjun,oj,hoj,hall⟩:=mem_ready.1 hj
   have hnot:∀ e∈oj.after,Region.binds md e=true->e.on≠i:=fun e he hb heq=>by
    have h1:=hall e he hb
    have h0:=(mem_ready.1 hr).1
    rw [heq] at h1
    rcases Nat.lt_or_ge i done.size with hlt | hge
    ·simp [hlt] at h0 h1;rw [h0] at h1;cases h1
    ·simp [Array.getElem?_eq_none hge] at h1
   have h2:=wpOp_putIf hoj (hfree j oj hoj hne hjun hnot) (fun cs b=>hsel i oi cs b hi) (fun cs b=>hsel j oj cs b hoj) hQ hy (H.2 j (ready_mono hj hne))
   refine wpOp_mono (fun b u h3=>⟨h3.2.1,ih (done.setIfInBounds j true) b u ?_ (ready_mono hr (Ne.symm hne)) h3.1 ?_⟩) h2
   ·intro k ok hk hki hun hno
    refine hfree k ok hk hki ?_ hno
    rcases Nat.decEq j k with hjk | rfl
    ·rw [getD_set_ne true hjk] at hun;exact hun
    ·exact hjun
   ·rw [Array.setIfInBounds_comm _ _ hne]
    exact h3.2.2
  ·exact hy.wpOp hi trivial ⟨hno' w,H⟩
/-- an operation of T that yields in whatever world -/
theorem TlAny.pure (i:Nat) {oi:Oper} {v:Value} {f:Nat} {done:Array Bool} {a:Act} {w:World} (hy:YieldsIf P ops (fun _=>True) oi v a) (hQ:∀ c a w,Q (.panic c) (a.put oi.dst v) w->Q (.panic c) a w)
  (h:TlAny P md ops Q S T f (done.setIfInBounds i true) (a.put oi.dst v) w)
  (hi:ops[i]?=some oi:=by (simp only [List.getElem?_toArray,List.getElem?_cons_succ,List.getElem?_cons_zero]) <;> rfl)
  (hs:Region.noSelect ops=true:=by kernel_rfl) (hf:Region.free md ops done i=true:=by kernel_rfl) (hr:(Region.ready md ops done).contains i=true:=by kernel_rfl)
  (hit:T.contains i=true:=by kernel_rfl):TlAny P md ops Q S T (f+1) done a w :=
 TlAny.firstY hi hs hit hQ f done a w (Region.free_spec hi hf) (by simpa using hr) hy h
/-- one operation comes up next -/
theorem TlAny.one (i:Nat) {o:Oper} {f:Nat} {done:Array Bool} {a:Act} {w:World}
  (h:∀ K:Act->World->Prop,Shut (∀ a w,(T.contains i=false->S w)->TlAny P md ops Q S T f (done.setIfInBounds i true) a w->K a w)->if Region.wanted o (yielded ops a.tmps)=true then Oper.wp P o a w K Q else K (a.put o.dst undef) w)
  (hi:ops[i]?=some o:=by (simp only [List.getElem?_toArray,List.getElem?_cons_succ,List.getElem?_cons_zero]) <;> rfl)
  (hr:Region.ready md ops done=[i]:=by kernel_rfl):TlAny P md ops Q S T (f+1) done a w:=by
 refine ⟨fun h0=>absurd (hr ▸ h0) (by simp),fun j hj=>?_⟩
 rw [hr,Msq] at hj
 subst hj
 exact wpOp_step hi (fun K hK=>h K (fun a w h1 h2=>hK a w ⟨h1,h2⟩))
/-- one of two operations comes up next -/
theorem TlAny.two (i k:Nat) {o o2:Oper} {f:Nat} {done:Array Bool} {a:Act} {w:World}
  (h:∀ K:Act->World->Prop,Shut (∀ a w,(T.contains i=false->S w)->TlAny P md ops Q S T f (done.setIfInBounds i true) a w->K a w)->if Region.wanted o (yielded ops a.tmps)=true then Oper.wp P o a w K Q else K (a.put o.dst undef) w)
  (h2:∀ K:Act->World->Prop,Shut (∀ a w,(T.contains k=false->S w)->TlAny P md ops Q S T f (done.setIfInBounds k true) a w->K a w)->if Region.wanted o2 (yielded ops a.tmps)=true then Oper.wp P o2 a w K Q else K (a.put o2.dst undef) w)
  (hi:ops[i]?=some o:=by (simp only [List.getElem?_toArray,List.getElem?_cons_succ,List.getElem?_cons_zero]) <;> rfl)
  (hk:ops[k]?=some o2:=by (simp only [List.getElem?_toArray,List.getElem?_cons_succ,List.getElem?_cons_zero]) <;> rfl)
  (hr:Region.ready md ops done=[i,k]:=by kernel_rfl):TlAny P md ops Q S T (f+1) done a w:=by
 refine ⟨fun h0=>absurd (hr ▸ h0) (by simp),fun j hj=>?_⟩
 rw [hr,List.mem_cons,Msq] at hj
 rcases hj with rfl | rfl
 ·exact wpOp_step hi (fun K hK=>h K (fun a w h1 h2=>hK a w ⟨h1,h2⟩))
 ·exact wpOp_step hk (fun K hK=>h2 K (fun a w h1 h2=>hK a w ⟨h1,h2⟩))
theorem TlAny.fin {f:Nat} {done:Array Bool} {a:Act} {w:World} (h:Q .normal a w) (hr:Region.ready md ops done=[]:=by kernel_rfl):TlAny P md ops Q S T f done a w:=by
 cases f with
 | zero=>exact ⟨hr,h⟩
 | succ f=>exact ⟨fun _=>h,by rw [hr];simp⟩
/-- the beginning -/
theorem tl_region (S:World->Prop) (T:List Nat) {id:Nat} {a:Act} {w:World} (hm:P.follows .mixedOrders=true) (h:TlAny P .any ops Q S T ops.size (Array.replicate ops.size false) a w.drew):(Code.region id ops true).wp P Q a w :=
 wp_region_any hm (TlAny.any _ _ _ _ h)
end
open Go.RowKit
set_option linter.unusedVariables false
set_option linter.unusedSimpArgs false
set_option maxRecDepth 100000
theorem cell_at {w:World} {b:Nat} {cs:Array Value} {T:TypeId} {fr:Nat × Nat} (h:w.heap[b]?=some (.cells cs T fr)) (i:Nat):w.cell? ⟨b,i,none⟩=cs[i]?:=by simp [World.cell?,h]
theorem free_at {w:World} {b:Nat} {cs:Array Value} {T:TypeId} (h:w.heap[b]?=some (.cells cs T (0,0))) (i:Nat):w.frozen? ⟨b,i,none⟩=false:=by simp [World.frozen?,h]
section
variable {P:Program} {ops:Array Oper} {rest:List Oper} {o:Oper} {a:Act} {w:World} {Q:Exit->Act->World->Prop}
end
theorem Mod.setRow (w:World) (g:Nat) (cs:Array Value):Mod [g] w (w.setRow g cs) :=
 ⟨rfl,rfl,rfl,by simp,fun k hk hn=>setRow_other w g k cs (by simpa using hn)⟩
def setCs (w:World) (b:Nat):Nat->List Value->World
 | _,[]=>w
 | o,v :: r=>setCs (w.setCell ⟨b,o,none⟩ v) b (o+1) r
theorem setCs_mod (b:Nat):∀ (vs:List Value) (o:Nat) (w:World),Mod [b] w (setCs w b o vs)
 | [],o,w=>Mod.refl _ _
 | v :: r,o,w=>((Mod.refl [b] w).setCell (p:=⟨b,o,none⟩) (.inl (by simp)) v).trans (setCs_mod b r (o+1) _) (by simp)
def putLc (cs:List Value):Nat->List Value->List Value
 | _,[]=>cs
 | o,v :: r=>putLc (cs.set o v) (o+1) r
theorem setCs_heap {b:Nat} {T:TypeId} {fr:Nat × Nat}:∀ (vs:List Value) (o:Nat) (cs:List Value) (w:World),w.heap[b]?=some (.cells cs.toArray T fr) ->
  (setCs w b o vs).heap[b]?=some (.cells (putLc cs o vs).toArray T fr)
 | [],o,cs,w,h=>h
 | v :: r,o,cs,w,h=>by
  have:=setCell_at h o v
  rw [List.setIfInBounds_toArray] at this
  exact setCs_heap r (o+1) (cs.set o v) _ this
theorem putLc_get:∀ (vs:List Value) (o:Nat) (cs:List Value) (j:Nat),o+vs.length<=cs.length->(putLc cs o vs)[j]?=if j<o then cs[j]? else if j<o+vs.length then vs[j - o]? else cs[j]?
 | [],o,cs,j,_=>by
  by_cases h:j<o
  ·rw [if_pos h];rfl
  ·rw [if_neg h,if_neg (by simp;omega)];rfl
 | v :: r,o,cs,j,h=>by
  simp only [List.length_cons] at h ⊢
  rw [putLc,putLc_get r (o+1) (cs.set o v) j (by simp;omega)]
  by_cases h1:j<o
  ·rw [if_pos (by omega),if_pos h1,List.getElem?_set_ne (by omega)]
  ·rw [if_neg h1]
   by_cases h2:j=o
   ·subst h2
    rw [if_pos (by omega),if_pos (by omega),List.getElem?_set_self (by omega)];simp
   ·rw [if_neg (by omega)]
    by_cases h3:j<o+(r.length+1)
    ·rw [if_pos (by omega),if_pos h3,show j - o=(j - (o+1))+1 by omega,List.getElem?_cons_succ]
    ·rw [if_neg (by omega),if_neg h3,List.getElem?_set_ne (by omega)]
/-- a row written whole -/
theorem setCs_row {w:World} {b:Nat} {cs:Array Value} {T:TypeId} {fr:Nat × Nat} {vs:List Value} (h:w.heap[b]?=some (.cells cs T fr)) (hn:cs.size=vs.length):(setCs w b 0 vs).heap[b]?=some (.cells vs.toArray T fr):=by
 have h2:=setCs_heap vs 0 cs.toList w (by simpa using h)
 rw [h2]
 congr 2
 refine congrArg List.toArray ?_
 apply List.ext_getElem?
 intro j
 rw [putLc_get _ _ _ _ (by simp [hn])]
 rw [if_neg (by omega)]
 by_cases hj:j<vs.length
 ·rw [if_pos (by omega)];simp
 ·rw [if_neg (by omega),List.getElem?_eq_none (by simp;omega),List.getElem?_eq_none (by omega)]
open Go.RowKit Go.Maps
set_option linter.unusedVariables false
set_option linter.unusedSimpArgs false
set_option maxRecDepth 100000
theorem laidOutP:laidOutB Tryd.prog=true:=by kernel_rfl
theorem lawVal:Keyed Tryd.prog 28 :=
 Keyed.of_law (deep_law_laid laidOutP (m:=5) (by omega) (of_decide_eq_true (by kernel_rfl)) (by kernel_rfl) (by kernel_rfl))
def vkey (v:Va.Val):Lit:=.string (keyBytes [.int .i64 v.k,.int .i64 v.n,.string (Lx.ofS v.s).data.toList])
def VFit (v:Va.Val):Prop:=(Lit.int .i64 v.k).wf=true/\(Lit.int .i64 v.n).wf=true/\(Lx.ofS v.s).size<=maxLen
theorem lits_val (d:Nat) (v:Va.Val) (h:VFit v):Tryd.prog.keyLits (d+2) 28 (valV v).toList=some [.int .i64 v.k,.int .i64 v.n,.string (Lx.ofS v.s).data.toList]:=by
 have hc:Tryd.prog.cellsOf 28=3:=by kernel_rfl
 unfold Program.keyLits
 rw [Tryd.underlying28]
 have h1:(valV v).toList=[.int .i64 v.k,.int .i64 v.n,.string (Lx.ofS v.s)]:=rfl
 have e1:Tryd.prog.keyLits (d+1) 3 [.int .i64 v.k]=some [.int .i64 v.k]:=by unfold Program.keyLits;rw [Tryd.underlying3];simp [h.1]
 have e2:Tryd.prog.keyLits (d+1) 3 [.int .i64 v.n]=some [.int .i64 v.n]:=by unfold Program.keyLits;rw [Tryd.underlying3];simp [h.2.1]
 have e3:Tryd.prog.keyLits (d+1) 9 [.string (Lx.ofS v.s)]=some [.string (Lx.ofS v.s).data.toList]:=by unfold Program.keyLits;rw [Tryd.underlying9];simp [h.2.2]
 have c1:Tryd.prog.cellsOf 3=1:=by kernel_rfl
 have c2:Tryd.prog.cellsOf 9=1:=by kernel_rfl
 simp only [h1,hc,List.length_cons,List.length_nil]
 simp [c1,c2,e1,e2,e3]
theorem key_val (v:Va.Val) (h:VFit v):keyOf Tryd.prog 28 (.agg (valV v))=some (vkey v):=by
 have hc:Tryd.prog.cellsOf 28=3:=by kernel_rfl
 have hk:Tryd.prog.keyType 28=true:=by kernel_rfl
 have hp:decide (0<Tryd.prog.types.size)=true:=by kernel_rfl
 have hp2:=of_decide_eq_true hp
 obtain ⟨d,hd⟩:∃ d,Tryd.prog.types.size+1=d+2:=⟨Tryd.prog.types.size - 1,by omega⟩
 clear hp hp2
 have hf:(Value.agg (valV v)).formed Tryd.prog 28=true:=by unfold Value.formed;rw [Tryd.underlying28];simp [hc,valV]
 unfold keyOf
 rw [Tryd.underlying28]
 simp only [hk,hf,hd,Bool.and_self,if_true]
 rw [show (Value.agg (valV v)).cells=valV v from rfl,lits_val d v h]
 rfl
/-- a value that memory may hold -/
def VIn (v:Va.Val):Prop:=VFit v/\∀ c∈v.s,c<256
theorem valV_inj {a b:Va.Val} (ha:VIn a) (hb:VIn b) (h:valV a=valV b):a=b:=by
 obtain ⟨k,n,s⟩:=a
 obtain ⟨k2,n2,s2⟩:=b
 simp only [valV,Array.mk.injEq,List.cons.injEq,Value.int.injEq,Value.string.injEq,true_and,and_true] at h
 obtain ⟨rfl,rfl,h⟩:=h
 have e:=congrArg Cod.str h
 rw [Lx.str_ofS ha.2,Lx.str_ofS hb.2] at e
 dsimp only at e
 rw [e]
theorem vkey_ne {a b:Va.Val} (ha:VIn a) (hb:VIn b) (h:a≠b):vkey a≠vkey b:=fun e=>h (valV_inj ha hb (by
 have h1:=key_val a ha.1
 have h2:=key_val b hb.1
 rw [e] at h1
 have:=lawVal.inj h1 h2
 simpa using this))
theorem vkey_is (v:Va.Val):WideAt.IsKeyLit (vkey v):=trivial
/-- a table: its map and its things -/
structure TabB (w:World) (p bm:Nat) (D:DataW Value) (va:Option Addr) (vc:Nat) (l:List Va.Val):Prop where
 at_:w.heap[p]?=some (.cells #[.map (some bm),.slice va l.length vc] 74 (0,0))
 map:w.ownsMap Tryd.prog 28 (plainElem Tryd.prog 3) bm l.length D
 row:w.ownsRow 0 28 3 (.slice va l.length vc) l.length (rowVals l)
 ne:p≠bm
 rp:p∉fp (.slice va l.length vc)
 rm:bm∉fp (.slice va l.length vc)
 vin:∀ v∈l,VIn v
 has:∀ v,VIn v->(Maps.has D (vkey v)=true ↔ v∈l)
 num:∀ (v:Va.Val) (i:Nat),l[i]?=some v->(∀ j,j<i->l[j]?≠some v)->∀ z,D.atKey (vkey v) z=.lit (.int .i64 (i:Nat))
 dup:∀ (i j:Nat) (v:Va.Val),l[i]?=some v->l[j]?=some v->i=j
theorem TabB.keep {S:List Nat} {w w':World} {p bm:Nat} {D:DataW Value} {va:Option Addr} {vc:Nat} {l:List Va.Val} (h:TabB w p bm D va vc l) (hm:Mod S w w') (h1:p∉S) (h2:bm∉S) (h3:∀ k∈fp (.slice va l.length vc),k∉S):TabB w' p bm D va vc l:=by
 refine ⟨hm.at h.at_ h1,?_,hm.owns h.row h3,h.ne,h.rp,h.rm,h.vin,h.has,h.num,h.dup⟩
 obtain ⟨es,clock,g1,g2⟩:=h.map
 exact ⟨es,clock,hm.at g1 h2,g2⟩
/-- the map behind a new thing -/
theorem has_put {D:DataW Value} {l:List Va.Val} {v:Va.Val} (hD:IsMap D) (hv:VIn v) (h:∀ x,VIn x->(Maps.has D (vkey x)=true ↔ x∈l)) (d:DataW Value):∀ x,VIn x->(Maps.has (D.put (vkey v) d) (vkey x)=true ↔ x∈l++[v]):=by
 intro x hx
 by_cases e:x=v
 ·subst e
  rw [has_put_same hD (vkey_is x)]
  simp
 ·rw [has_put_other (vkey_ne hx hv e),h x hx]
  simp [e]
theorem num_put {D:DataW Value} {l:List Va.Val} {v:Va.Val} (hD:IsMap D) (hv:VIn v) (hl:∀ x∈l,VIn x) (hn:v∉l) (h:∀ (x:Va.Val) (i:Nat),l[i]?=some x->(∀ j,j<i->l[j]?≠some x)->∀ z,D.atKey (vkey x) z=.lit (.int .i64 (i:Nat))) :
  ∀ (x:Va.Val) (i:Nat),(l++[v])[i]?=some x->(∀ j,j<i->(l++[v])[j]?≠some x)->∀ z,(D.put (vkey v) (.lit (.int .i64 (l.length:Nat)))).atKey (vkey x) z=.lit (.int .i64 (i:Nat)):=by
 intro x i hi hj z
 by_cases hlt:i<l.length
 ·rw [List.getElem?_append_left hlt] at hi
  have hx:x∈l:=List.mem_of_getElem? hi
  have e:x≠v:=fun e=>hn (e ▸ hx)
  rw [atKey_put_other (vkey_ne (hl x hx) hv e)]
  exact h x i hi (fun j hji=>by
   have:=hj j hji
   rwa [List.getElem?_append_left (by omega)] at this) z
 ·have hi2:=(List.getElem?_eq_some_iff.1 hi).1
  rw [List.length_append,List.length_singleton] at hi2
  obtain rfl:i=l.length:=by omega
  rw [List.getElem?_append_right (Nat.le_refl _),Nat.sub_self,List.getElem?_cons_zero,Option.some.injEq] at hi
  subst hi
  exact atKey_put_same hD (vkey_is v) _ _
theorem ownsMap_modT {H:Type} {P:Program} {k:TypeId} {R:Value->Option (DataW H × List MemPlace)} {b n:Nat} {D:DataW H} {S:List Nat} {w w':World} (h:w.ownsMap P k R b n D) (hm:Mod S w w') (hb:b∉S):w'.ownsMap P k R b n D:=by
 obtain ⟨es,clock,h1,h2⟩:=h
 exact ⟨es,clock,hm.at h1 hb,h2⟩
/-- a thing's number; 0, if it is not there -/
def tnum (l:List Va.Val) (v:Va.Val):Nat:=if v∈l then l.idxOf v else 0
theorem idxOf_first {l:List Va.Val} {v:Va.Val} (h:v∈l):l[l.idxOf v]?=some v/\∀ j,j<l.idxOf v->l[j]?≠some v:=by
 have hlt:=List.idxOf_lt_length_iff.2 h
 refine ⟨by rw [List.getElem?_eq_getElem hlt,List.getElem_idxOf hlt],fun j hj e=>?_⟩
 obtain ⟨hjl,e⟩:=List.getElem?_eq_some_iff.1 e
 have hj2:j<l.findIdx (· == v):=hj
 have:=List.not_of_lt_findIdx hj2
 simp [e] at this
theorem TabB.look {w:World} {p bm:Nat} {D:DataW Value} {va:Option Addr} {vc:Nat} {l:List Va.Val} (h:TabB w p bm D va vc l) (v:Va.Val) (hv:VIn v) (w':World) (hm:w'.ownsMap Tryd.prog 28 (plainElem Tryd.prog 3) bm l.length D) :
  (Instr.lookup 72 (.map (some bm)) (.agg (valV v)) true).run Tryd.prog w'=.ok (.tuple #[.int .i64 (tnum l v:Nat),.bool (decide (v∈l))]) w':=by
 obtain ⟨x,ps,hrun,hx⟩:=hm.look_ok lawVal Tryd.underlying72 (z:=.int .i64 0) (by kernel_rfl) (zd:=.lit (.int .i64 0)) (zp:=[]) (plainElem_int Tryd.underlying3 (by decide)) (key_val v hv.1)
 rw [hrun]
 have hh:=h.has v hv
 by_cases hvl:v∈l
 ·obtain ⟨e1,e2⟩:=idxOf_first hvl
  rw [h.num v _ e1 e2] at hx
  obtain ⟨a,rfl,hz,-⟩:=plainElem_int_inv Tryd.underlying3 hx
  simp only [Prod.mk.injEq,DataW.lit.injEq,Lit.int.injEq,true_and] at hz
  rw [hh.2 hvl,decide_eq_true hvl,tnum,if_pos hvl,hz.1]
 ·have hf:Maps.has D (vkey v)=false:=by
   cases e:Maps.has D (vkey v) with
   | false=>rfl
   | true=>exact absurd (hh.1 e) hvl
  rw [atKey_of_not_has hf] at hx
  obtain ⟨a,rfl,hz,-⟩:=plainElem_int_inv Tryd.underlying3 hx
  simp only [Prod.mk.injEq,DataW.lit.injEq,Lit.int.injEq,true_and] at hz
  rw [hf,decide_eq_false hvl,tnum,if_neg hvl,<-hz.1]
  rfl
theorem new_any (w:World):Calls Tryd.prog 7 #[] w fun e w'=>∃ p bm,e=.returned (.pointer (some ⟨p,0,none⟩))/\TabB w' p bm (.map []) none 0 []/\w.heap.size<=p/\w.heap.size<=bm/\Mod [] w w':=by
 have hmm:=@run_makeMap Tryd.prog
 have mA:=(Mod.refl [] w).alloc (Obj.map #[] 0)
 have eA:=heap_alloc_new w (Obj.map #[] 0)
 have zA:(w.alloc (Obj.map #[] 0)).heap.size=w.heap.size+1:=by simp
 have mB:=(Mod.refl [] (w.alloc (Obj.map #[] 0))).alloc (Obj.cells #[.map (some w.heap.size),.slice none 0 0] 74)
 have eB:=heap_alloc_new (w.alloc (Obj.map #[] 0)) (Obj.cells #[.map (some w.heap.size),.slice none 0 0] 74)
 have hT:TabB ((w.alloc (Obj.map #[] 0)).alloc (Obj.cells #[.map (some w.heap.size),.slice none 0 0] 74)) (w.alloc (Obj.map #[] 0)).heap.size w.heap.size (.map []) none 0 []:=by
  have hb:=mB.at eA (by simp)
  exact ⟨eB,⟨#[],0,hb,⟨by simp,MapKept.stamped_empty 0,by simp⟩,Nat.le_refl _,rfl⟩,World.ownsRow_nil _ _ _ _,by omega,by simp [fp],by simp [fp],by simp,fun v hv=>by simp [Maps.has],by simp,by simp⟩
 rw [zA] at hT
 have HT:=Lib.hid hT;have HM:=Hxq (mA.trans mB (by simp));have HZ:=Lib.hid zA
 clear hT mA mB eA eB zA
 go_enter Tryd.func7,Tryd.ntmps7
 go_wp2_with fail
 go_ret
 exact ⟨_,_,rfl,HT.out,by omega,Nat.le_refl _,HM.out⟩
theorem len_any (p bm:Nat) (D:DataW Value) (va:Option Addr) (vc:Nat) (l:List Va.Val) (w:World) (h:TabB w p bm D va vc l):Calls Tryd.prog 11 #[.pointer (some ⟨p,0,none⟩)] w fun e w'=>e=.returned (.int .i64 (l.length:Nat))/\Mod [] w w':=by
 have c1:=cell_at h.at_ 1
 simp only [List.getElem?_toArray,List.getElem?_cons_zero,List.getElem?_cons_succ] at c1
 clear h
 go_enter Tryd.func11,Tryd.ntmps11
 go_wp2_with fail
 go_ret
 exact ⟨rfl,Mod.refl _ _⟩
set_option maxHeartbeats 4000000 in
theorem find_any (p bm:Nat) (D:DataW Value) (va:Option Addr) (vc:Nat) (l:List Va.Val) (v:Va.Val) (hv:VIn v) (w:World) (h:TabB w p bm D va vc l):Calls Tryd.prog 27 #[.pointer (some ⟨p,0,none⟩),.agg (valV v)] w fun e w'=>e=.returned (.tuple #[.int .i64 (tnum l v:Nat),.bool (decide (v∈l))])/\Mod [] w w':=by
 have mA:=(Mod.refl [] w).alloc (Obj.cells (valV v) 28)
 have eA:=heap_alloc_new w (Obj.cells (valV v) 28)
 have HL:=Hxq (fun w' hm=>h.look v hv w' hm)
 have H0:=Lib.hid h
 clear h
 obtain ⟨iN,hiN⟩:∃ iN:Int,iN=(tnum l v:Nat):=⟨_,rfl⟩
 rw [<-hiN] at HL ⊢
 obtain ⟨bI,hbI⟩:∃ bI,decide (v∈l)=bI:=⟨_,rfl⟩
 rw [hbI] at HL ⊢
 clear hiN hbI
 unfold valV at *
 go_enter Tryd.func27,Tryd.ntmps27
 go_upto_region 1 with fail
 generalize w.alloc (Obj.cells _ 28)=w0 at *
 generalize hq:w.heap.size=q at *
 have M0:=Lib.hid mA;have N0:=Lib.hid eA;have P0:=Hxq (mA.at H0.out.at_ (by simp));have B0:=Hxq (ownsMap_modT H0.out.map mA (by simp))
 clear mA eA
 have c0:=cell_at P0.out 0
 have d0:=cell_at N0.out 0;have d1:=cell_at N0.out 1;have d2:=cell_at N0.out 2
 simp only [List.getElem?_toArray,List.getElem?_cons_zero,List.getElem?_cons_succ] at c0 d0 d1 d2
 go_upto_region 3 with fail
 refine tl_region (fun wS=>Mod [] w0 wS) [] (by kernel_rfl) ?_
 have hHeld:Mod [] w0 w0.drew:=(Mod.refl [] w0).drew
 try simp only [Act.put,Lq1,Lq2,Lq3]
 generalize w0.drew=wd at *
 refine TlAny.take 0 (v:=?_) hHeld ?_ ?_ ?_
 rotate_left 1
 ·refine Or.inl ⟨by rfl,?_⟩
  intro wS hSw
  replace hSw:Mod [] w0 wS:=hSw
  clear hSw
  go_simp
  all_goals with_reducible rfl
 ·exact fun _ _ _ h=>h
 try simp only [Act.put,Lq1,Lq2,Lq3]
 refine TlAny.take 1 (v:=?_) hHeld ?_ ?_ ?_
 rotate_left 1
 ·refine Or.inl ⟨by rfl,?_⟩
  intro wS hSw
  replace hSw:Mod [] w0 wS:=hSw
  clear hSw
  go_simp
  all_goals with_reducible rfl
 ·exact fun _ _ _ h=>h
 try simp only [Act.put,Lq1,Lq2,Lq3]
 refine TlAny.take 2 (v:=?_) hHeld ?_ ?_ ?_
 rotate_left 1
 ·refine Or.inl ⟨by rfl,?_⟩
  intro wS hSw
  replace hSw:Mod [] w0 wS:=hSw
  clear hSw
  go_simp
  all_goals with_reducible rfl
 ·exact fun _ _ _ h=>h
 try simp only [Act.put,Lq1,Lq2,Lq3]
 refine TlAny.take 3 (v:=?_) hHeld ?_ ?_ ?_
 rotate_left 1
 ·refine Or.inl ⟨by rfl,?_⟩
  intro wS hSw
  replace hSw:Mod [] w0 wS:=hSw
  have p:=hSw.cell c0 (by simp)
  clear hSw
  go_simp
  all_goals with_reducible rfl
 ·exact fun _ _ _ h=>h
 try simp only [Act.put,Lq1,Lq2,Lq3]
 refine TlAny.take 4 (v:=?_) hHeld ?_ ?_ ?_
 rotate_left 1
 ·refine Or.inl ⟨by rfl,?_⟩
  intro wS hSw
  replace hSw:Mod [] w0 wS:=hSw
  have p0:=hSw.cell d0 (by simp);have p1:=hSw.cell d1 (by simp);have p2:=hSw.cell d2 (by simp)
  clear hSw
  go_simp
  all_goals with_reducible rfl
 ·exact fun _ _ _ h=>h
 try simp only [Act.put,Lq1,Lq2,Lq3]
 refine TlAny.take 5 (v:=.tuple #[.int .i64 iN,.bool bI]) hHeld ?_ ?_ ?_
 ·refine Or.inl ⟨by rfl,?_⟩
  intro wS hSw
  replace hSw:Mod [] w0 wS:=hSw
  have hrun:=HL.out wS (ownsMap_modT B0.out hSw (by simp))
  clear hSw
  go_simp
 ·exact fun _ _ _ h=>h
 try simp only [Act.put,Lq1,Lq2,Lq3]
 refine TlAny.take 6 (v:=?_) hHeld ?_ ?_ ?_
 rotate_left 1
 ·refine Or.inl ⟨by rfl,?_⟩
  intro wS hSw
  replace hSw:Mod [] w0 wS:=hSw
  clear hSw
  go_simp
  all_goals with_reducible rfl
 ·exact fun _ _ _ h=>h
 try simp only [Act.put,Lq1,Lq2,Lq3]
 refine TlAny.take 7 (v:=?_) hHeld ?_ ?_ ?_
 rotate_left 1
 ·refine Or.inl ⟨by rfl,?_⟩
  intro wS hSw
  replace hSw:Mod [] w0 wS:=hSw
  clear hSw
  go_simp
  all_goals with_reducible rfl
 ·exact fun _ _ _ h=>h
 try simp only [Act.put,Lq1,Lq2,Lq3]
 refine TlAny.take 8 (v:=?_) hHeld ?_ ?_ ?_
 rotate_left 1
 ·refine Or.inl ⟨by rfl,?_⟩
  intro wS hSw
  replace hSw:Mod [] w0 wS:=hSw
  clear hSw
  go_simp
  all_goals with_reducible rfl
 ·exact fun _ _ _ h=>h
 try simp only [Act.put,Lq1,Lq2,Lq3]
 refine TlAny.take 9 (v:=?_) hHeld ?_ ?_ ?_
 rotate_left 1
 ·refine Or.inl ⟨by rfl,?_⟩
  intro wS hSw
  replace hSw:Mod [] w0 wS:=hSw
  clear hSw
  go_simp
  all_goals with_reducible rfl
 ·exact fun _ _ _ h=>h
 try simp only [Act.put,Lq1,Lq2,Lq3]
 refine TlAny.take 10 (v:=?_) hHeld ?_ ?_ ?_
 rotate_left 1
 ·refine Or.inl ⟨by rfl,?_⟩
  intro wS hSw
  replace hSw:Mod [] w0 wS:=hSw
  clear hSw
  go_simp
  all_goals with_reducible rfl
 ·exact fun _ _ _ h=>h
 try simp only [Act.put,Lq1,Lq2,Lq3]
 refine TlAny.fin ?_
 have hm:=Hxq (M0.out.trans hHeld (by simp))
 go_wp2_with fail
 go_ret2
 exact ⟨rfl,hm.out⟩
theorem res_at {fn:Func} {p u:Tmp} (h:fn.results=#[.cell p 28,.tmp u]) (tmps:Array Value) (w:World) (b:Nat) (cs:Array Value) (T:TypeId) (fr:Nat × Nat) (x:Value)
  (hp:tmps.getD p undef=.pointer (some ⟨b,0,none⟩)) (hx:tmps.getD u undef=x) (hg:w.heap[b]?=some (.cells cs T fr)) (hc:(Tryd.prog.info? 28).map (·.size)=some cs.size) :
  (results fn tmps).run Tryd.prog w=.ok (.tuple #[.agg cs,x]) w:=by
 have hl:=run_loadVar_row (P:=Tryd.prog) w b T 28 cs fr _ hg Tryd.underlying28 rfl hc
 rw [results_cell_tmp h,hp,hx]
 simp [asAddr,hl]
theorem row_at {w:World} {va:Option Addr} {vc:Nat} {l:List Va.Val} (h:w.ownsRow 0 28 3 (.slice va l.length vc) l.length (rowVals l)) (i:Nat) (hi:i<l.length) :
  ∃ g,va=some ⟨g,0,none⟩/\w.cell? ⟨g,i * 3,none⟩=some (.int .i64 l[i].k)/\w.cell? ⟨g,i * 3+1,none⟩=some (.int .i64 l[i].n)/\w.cell? ⟨g,i * 3+2,none⟩=some (.string (Lx.ofS l[i].s)):=by
 obtain ⟨g,rfl⟩:∃ g,va=some ⟨g,0,none⟩:=by
  rcases h.2 with ⟨h1,h2⟩ | ⟨g,cap,cur,h1,-⟩
  ·omega
  ·simp only [Value.slice.injEq] at h1;exact ⟨g,h1.1⟩
 obtain ⟨e0,e1,e2⟩:=rowVals_get l i hi
 have c0:=h.cells (g:=g) rfl _ _ e0;have c1:=h.cells (g:=g) rfl _ _ e1;have c2:=h.cells (g:=g) rfl _ _ e2
 rw [addr_add] at c0 c1 c2
 simp only [Nat.zero_add] at c0 c1 c2
 exact ⟨g,rfl,c0,c1,c2⟩
def tAt (l:List Va.Val) (i:Int):Va.Val:=if 0<=i/\i<l.length then l.getD i.toNat Va.zero else Va.zero
set_option maxHeartbeats 4000000 in
theorem at_any (p bm:Nat) (D:DataW Value) (va:Option Addr) (vc:Nat) (l:List Va.Val) (i:Int) (w:World) (h:TabB w p bm D va vc l):Calls Tryd.prog 29 #[.pointer (some ⟨p,0,none⟩),.int .i64 i] w fun e w'=>e=.returned (.tuple #[.agg (valV (tAt l i)),.bool (decide (0<=i/\i<l.length))])/\Mod [] w w':=by
 have mA:=(Mod.refl [] w).alloc (Obj.cells #[.int .i64 0,.int .i64 0,.string ⟨#[]⟩] 28)
 have eA:=heap_alloc_new w (Obj.cells #[.int .i64 0,.int .i64 0,.string ⟨#[]⟩] 28)
 have H0:=Lib.hid h
 by_cases hr:0<=i/\i<l.length
 ·obtain ⟨g,hg,r0,r1,r2⟩:=row_at h.row i.toNat (by omega)
  subst hg
  have hti:tAt l i=l[i.toNat]'(by omega):=by rw [tAt,if_pos hr,List.getD_eq_getElem?_getD,List.getElem?_eq_getElem (by omega)];rfl
  have hii:((i.toNat:Nat):Int)=i:=by omega
  rw [decide_eq_true hr,hti]
  clear hti
  generalize l[i.toNat]'(by omega)=x at *
  generalize i.toNat=n at *
  subst hii
  have hj0:(0:Int)<=(n:Int):=by omega
  have hj1:¬ (n:Int)<0:=by omega
  have hj2:(n:Int)<(l.length:Int):=by omega
  have c1:=cell_at (mA.at H0.out.at_ (by simp)) 1
  simp only [List.getElem?_toArray,List.getElem?_cons_zero,List.getElem?_cons_succ] at c1
  have q0:=mA.cell r0 (by simp);have q1:=mA.cell r1 (by simp);have q2:=mA.cell r2 (by simp)
  have MA:=Lib.hid mA;have EA:=Lib.hid eA
  unfold valV
  clear mA eA h r0 r1 r2 hr
  go_enter Tryd.func29,Tryd.ntmps29
  go_upto_region 1 with fail
  generalize w.alloc (Obj.cells _ 28)=w0 at *
  generalize hq:w.heap.size=q at *
  have d:=fun j=>cell_at EA.out j
  have d0:=d 0;have d1:=d 1;have d2:=d 2
  simp only [List.getElem?_toArray,List.getElem?_cons_zero,List.getElem?_cons_succ] at d0 d1 d2
  have fq:=fun j=>free_at EA.out j
  clear d
  go_wp2_with fail
  have HS:=Hxq (setCs_row (vs:=[.int .i64 x.k,.int .i64 x.n,.string (Lx.ofS x.s)]) EA.out rfl)
  refine bodyPost_ret (res_at rfl _ _ q #[.int .i64 x.k,.int .i64 x.n,.string (Lx.ofS x.s)] _ _ (.bool true) rfl rfl HS.out (by kernel_rfl)) rfl ⟨rfl,?_⟩
  exact MA.out.trans (setCs_mod q [.int .i64 x.k,.int .i64 x.n,.string (Lx.ofS x.s)] 0 w0) (fun t ht=>.inr (by rw [Msq] at ht;omega))
 ·have hz:tAt l i=Va.zero:=by rw [tAt,if_neg hr]
  rw [decide_eq_false hr,hz]
  have c1:=cell_at (mA.at H0.out.at_ (by simp)) 1
  simp only [List.getElem?_toArray,List.getElem?_cons_zero,List.getElem?_cons_succ] at c1
  have MA:=Lib.hid mA;have EA:=Lib.hid eA
  have key:Hid (Calls Tryd.prog 29 #[.pointer (some ⟨p,0,none⟩),.int .i64 i] w fun e w'=>e=.returned (.tuple #[.agg #[.int .i64 0,.int .i64 0,.string ⟨#[]⟩],.bool false])/\Mod [] w w'):=Hxq (by
   clear mA eA h hz
   by_cases hn:i<0
   ·clear hr
    go_enter Tryd.func29,Tryd.ntmps29
    go_upto_region 2 with fail
    generalize w.alloc (Obj.cells _ 28)=w0 at *
    generalize hq:w.heap.size=q at *
    have mB:=(Mod.refl [] w0).alloc (Obj.cells #[.int .i64 0,.int .i64 0,.string ⟨#[]⟩] 28)
    have eB:=heap_alloc_new w0 (Obj.cells #[.int .i64 0,.int .i64 0,.string ⟨#[]⟩] 28)
    have nA:=mB.at EA.out (by simp)
    have d0:=cell_at nA 0;have d1:=cell_at nA 1;have d2:=cell_at nA 2
    have b0:=cell_at eB 0;have b1:=cell_at eB 1;have b2:=cell_at eB 2
    simp only [List.getElem?_toArray,List.getElem?_cons_zero,List.getElem?_cons_succ] at d0 d1 d2 b0 b1 b2
    have fq:=fun j=>free_at nA j
    have HS:=Hxq (setCs_row (vs:=[.int .i64 0,.int .i64 0,.string ⟨#[]⟩]) nA rfl)
    have HM:=Hxq ((MA.out.trans mB (by simp)).trans (setCs_mod q [.int .i64 0,.int .i64 0,.string ⟨#[]⟩] 0 _) (fun t ht=>.inr (by rw [Msq] at ht;omega)))
    clear mB eB nA
    go_wp2_with fail
    refine bodyPost_ret (res_at rfl _ _ q #[.int .i64 0,.int .i64 0,.string ⟨#[]⟩] _ _ (.bool false) rfl rfl HS.out (by kernel_rfl)) rfl ⟨rfl,HM.out⟩
   ·have hge:(l.length:Int)<=i:=by omega
    clear hr
    go_enter Tryd.func29,Tryd.ntmps29
    go_upto_region 2 with fail
    generalize w.alloc (Obj.cells _ 28)=w0 at *
    generalize hq:w.heap.size=q at *
    have mB:=(Mod.refl [] w0).alloc (Obj.cells #[.int .i64 0,.int .i64 0,.string ⟨#[]⟩] 28)
    have eB:=heap_alloc_new w0 (Obj.cells #[.int .i64 0,.int .i64 0,.string ⟨#[]⟩] 28)
    have nA:=mB.at EA.out (by simp)
    have d0:=cell_at nA 0;have d1:=cell_at nA 1;have d2:=cell_at nA 2
    have b0:=cell_at eB 0;have b1:=cell_at eB 1;have b2:=cell_at eB 2
    simp only [List.getElem?_toArray,List.getElem?_cons_zero,List.getElem?_cons_succ] at d0 d1 d2 b0 b1 b2
    have fq:=fun j=>free_at nA j
    have HS:=Hxq (setCs_row (vs:=[.int .i64 0,.int .i64 0,.string ⟨#[]⟩]) nA rfl)
    have HM:=Hxq ((MA.out.trans mB (by simp)).trans (setCs_mod q [.int .i64 0,.int .i64 0,.string ⟨#[]⟩] 0 _) (fun t ht=>.inr (by rw [Msq] at ht;omega)))
    clear mB eB nA
    go_wp2_with fail
    refine bodyPost_ret (res_at rfl _ _ q #[.int .i64 0,.int .i64 0,.string ⟨#[]⟩] _ _ (.bool false) rfl rfl HS.out (by kernel_rfl)) rfl ⟨rfl,HM.out⟩)
  exact key.out
end Go.Proofs.YtdablillhbfgkaaDoor
