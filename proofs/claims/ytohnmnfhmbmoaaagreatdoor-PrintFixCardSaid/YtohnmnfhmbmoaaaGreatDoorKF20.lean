/- THE TEXTS MERGED: Tail SyDeepP SySim. -/
import Derived.Test.YtohnmnfhmbmoaaaGreatDoorKF1
import Derived.OrdersHeld
import Derived.Deep.RegionHeld
import Derived.WalkKit
import Derived.Lib.Hide
import Derived.Test.YtohnmnfhmbmoaaaGreatDoorKF6
namespace Go.Proofs.YtohnmnfhmbmoaaaGreatDoor
open Go.RowKit
set_option linter.unusedVariables false
section
variable {P:Program} {ops:Array Oper} {Q:Exit->Act->World->Prop} {md:Region.Mode} {S:World->Prop} {T:List Nat}
/-- whatever order is picked; S holds behind each operation that is not of T -/
def TlAny (P:Program) (md:Region.Mode) (ops:Array Oper) (Q:Exit->Act->World->Prop) (S:World->Prop) (T:List Nat):Nat->Array Bool->Act->World->Prop
 | 0,done,a,w=>Region.ready md ops done=[]/\Q .normal a w
 | f+1,done,a,w=>(Region.ready md ops done=[]->Q .normal a w) /\
   ∀ i,i∈Region.ready md ops done->wpOp P ops Q i (fun b v=>(T.contains i=false->S v)/\TlAny P md ops Q S T f (done.setIfInBounds i true) b v) a w
theorem TlAny.any:∀ (f:Nat) (done:Array Bool) (a:Act) (w:World),TlAny P md ops Q S T f done a w->wpAny P md ops Q f done a w
 | 0,_,_,_,h=>h
 | f+1,_,_,_,h=>⟨h.1,fun i hi=>wpOp_mono (fun b v hb=>TlAny.any f _ b v hb.2) (h.2 i hi)⟩
/-- each operation of T that has not come up waits for number i -/
def tlWaits (md:Region.Mode) (ops:Array Oper) (T:List Nat) (done:Array Bool) (i:Nat):Bool :=
 T.all fun j=>done.getD j true || match ops[j]? with
  | some o=>o.after.any (fun e=>Region.binds md e && e.on == i)
  | none=>true
theorem TlAny.first {i:Nat} {oi:Oper} {v:Value} (hi:ops[i]?=some oi) (hs:Region.noSelect ops=true) (hit:T.contains i=false) (hQ:∀ c a w,Q (.panic c) (a.put oi.dst v) w->Q (.panic c) a w) :
  ∀ (f:Nat) (done:Array Bool) (a:Act) (w:World),
   (∀ j oj,ops[j]?=some oj->j≠i->done.getD j true=false->(∀ e∈oj.after,Region.binds md e=true->e.on≠i)->oi.apart ops oj=true/\T.contains j=false) ->
   i∈Region.ready md ops done->YieldsIf P ops S oi v a->S w->TlAny P md ops Q S T f (done.setIfInBounds i true) (a.put oi.dst v) w->TlAny P md ops Q S T (f+1) done a w:=by
 have hsel:=Region.noSelect_spec hs
 intro f
 induction f with
 | zero =>
  intro done a w _ hr hy hS H
  refine ⟨fun h0=>(by rw [h0] at hr;cases hr),fun j hj=>?_⟩
  rcases Nat.decEq j i with hne | rfl
  ·exact absurd (ready_mono hj hne) (by rw [H.1];exact List.not_mem_nil)
  ·exact hy.wpOp hi hS ⟨fun _=>hS,H⟩
 | succ f ih =>
  intro done a w hfree hr hy hS H
  refine ⟨fun h0=>(by rw [h0] at hr;cases hr),fun j hj=>?_⟩
  rcases Nat.decEq j i with hne | rfl
  ·obtain ⟨hjun,oj,hoj,hall⟩:=mem_ready.1 hj
   have hnot:∀ e∈oj.after,Region.binds md e=true->e.on≠i:=fun e he hb heq=>by
    have h1:=hall e he hb
    have h0:=(mem_ready.1 hr).1
    rw [heq] at h1
    rcases Nat.lt_or_ge i done.size with hlt | hge
    ·simp [hlt] at h0 h1;rw [h0] at h1;cases h1
    ·simp [Array.getElem?_eq_none hge] at h1
   obtain ⟨hap,hjt⟩:=hfree j oj hoj hne hjun hnot
   have h2:=wpOp_putIf hoj hap (fun cs b=>hsel i oi cs b hi) (fun cs b=>hsel j oj cs b hoj) hQ hy (H.2 j (ready_mono hj hne))
   refine wpOp_mono (fun b u h3=>⟨fun _=>h3.2.1 hjt,ih (done.setIfInBounds j true) b u ?_ (ready_mono hr (Ne.symm hne)) h3.1 (h3.2.1 hjt) ?_⟩) h2
   ·intro k ok hk hki hun hno
    refine hfree k ok hk hki ?_ hno
    rcases Nat.decEq j k with hjk | rfl
    ·rw [getD_set_ne true hjk] at hun;exact hun
    ·exact hjun
   ·rw [Array.setIfInBounds_comm _ _ hne]
    exact h3.2.2
  ·exact hy.wpOp hi hS ⟨fun _=>hS,H⟩
theorem TlAny.take (i:Nat) {oi:Oper} {v:Value} {f:Nat} {done:Array Bool} {a:Act} {w:World} (hS:S w) (hy:YieldsIf P ops S oi v a) (hQ:∀ c a w,Q (.panic c) (a.put oi.dst v) w->Q (.panic c) a w)
  (h:TlAny P md ops Q S T f (done.setIfInBounds i true) (a.put oi.dst v) w)
  (hi:ops[i]?=some oi:=by (simp only [List.getElem?_toArray,List.getElem?_cons_succ,List.getElem?_cons_zero]) <;> rfl)
  (hs:Region.noSelect ops=true:=by kernel_rfl) (hf:Region.free md ops done i=true:=by kernel_rfl) (hr:(Region.ready md ops done).contains i=true:=by kernel_rfl)
  (ht:tlWaits md ops T done i=true:=by kernel_rfl) (hit:T.contains i=false:=by kernel_rfl):TlAny P md ops Q S T (f+1) done a w:=by
 refine TlAny.first hi hs hit hQ f done a w (fun j oj hj hne hun hno=>⟨Region.free_spec hi hf j oj hj hne hun hno,?_⟩) (by simpa using hr) hy hS h
 cases hc:T.contains j with
 | false=>rfl
 | true =>
  have hm:=List.all_eq_true.1 ht j (by simpa using hc)
  simp only [hun,hj,Bool.false_or,Array.any_eq_true] at hm
  obtain ⟨k,hk,hb⟩:=hm
  simp only [Bool.and_eq_true,beq_iff_eq] at hb
  exact absurd hb.2 (hno _ (Array.getElem_mem hk) hb.1)
theorem TlAny.firstY {i:Nat} {oi:Oper} {v:Value} (hi:ops[i]?=some oi) (hs:Region.noSelect ops=true) (hit:T.contains i=true) (hQ:∀ c a w,Q (.panic c) (a.put oi.dst v) w->Q (.panic c) a w) :
  ∀ (f:Nat) (done:Array Bool) (a:Act) (w:World),
   (∀ j oj,ops[j]?=some oj->j≠i->done.getD j true=false->(∀ e∈oj.after,Region.binds md e=true->e.on≠i)->oi.apart ops oj=true) ->
   i∈Region.ready md ops done->YieldsIf P ops (fun _=>True) oi v a->TlAny P md ops Q S T f (done.setIfInBounds i true) (a.put oi.dst v) w->TlAny P md ops Q S T (f+1) done a w:=by
 have hsel:=Region.noSelect_spec hs
 have hno':∀ w:World,T.contains i=false->S w:=fun w h=>by rw [hit] at h;cases h
 intro f
 induction f with
 | zero =>
  intro done a w _ hr hy H
  refine ⟨fun h0=>(by rw [h0] at hr;cases hr),fun j hj=>?_⟩
  rcases Nat.decEq j i with hne | rfl
  ·exact absurd (ready_mono hj hne) (by rw [H.1];exact List.not_mem_nil)
  ·exact hy.wpOp hi trivial ⟨hno' w,H⟩
 | succ f ih =>
  intro done a w hfree hr hy H
  refine ⟨fun h0=>(by rw [h0] at hr;cases hr),fun j hj=>?_⟩
  rcases Nat.decEq j i with hne | rfl
  ·obtain ⟨hjun,oj,hoj,hall⟩:=mem_ready.1 hj
   have hnot:∀ e∈oj.after,Region.binds md e=true->e.on≠i:=fun e he hb heq=>by
    have h1:=hall e he hb
    have h0:=(mem_ready.1 hr).1
    rw [heq] at h1
    rcases Nat.lt_or_ge i done.size with hlt | hge
    ·simp [hlt] at h0 h1;rw [h0] at h1;cases h1
    ·simp [Array.getElem?_eq_none hge] at h1
   have h2:=wpOp_putIf hoj (hfree j oj hoj hne hjun hnot) (fun cs b=>hsel i oi cs b hi) (fun cs b=>hsel j oj cs b hoj) hQ hy (H.2 j (ready_mono hj hne))
   refine wpOp_mono (fun b u h3=>⟨h3.2.1,ih (done.setIfInBounds j true) b u ?_ (ready_mono hr (Ne.symm hne)) h3.1 ?_⟩) h2
   ·intro k ok hk hki hun hno
    refine hfree k ok hk hki ?_ hno
    rcases Nat.decEq j k with hjk | rfl
    ·rw [getD_set_ne true hjk] at hun;exact hun
    ·exact hjun
   ·rw [Array.setIfInBounds_comm _ _ hne]
    exact h3.2.2
  ·exact hy.wpOp hi trivial ⟨hno' w,H⟩
/-- an operation of T that yields in whatever world -/
theorem TlAny.pure (i:Nat) {oi:Oper} {v:Value} {f:Nat} {done:Array Bool} {a:Act} {w:World} (hy:YieldsIf P ops (fun _=>True) oi v a) (hQ:∀ c a w,Q (.panic c) (a.put oi.dst v) w->Q (.panic c) a w)
  (h:TlAny P md ops Q S T f (done.setIfInBounds i true) (a.put oi.dst v) w)
  (hi:ops[i]?=some oi:=by (simp only [List.getElem?_toArray,List.getElem?_cons_succ,List.getElem?_cons_zero]) <;> rfl)
  (hs:Region.noSelect ops=true:=by kernel_rfl) (hf:Region.free md ops done i=true:=by kernel_rfl) (hr:(Region.ready md ops done).contains i=true:=by kernel_rfl)
  (hit:T.contains i=true:=by kernel_rfl):TlAny P md ops Q S T (f+1) done a w :=
 TlAny.firstY hi hs hit hQ f done a w (Region.free_spec hi hf) (by simpa using hr) hy h
/-- one operation comes up next -/
theorem TlAny.one (i:Nat) {o:Oper} {f:Nat} {done:Array Bool} {a:Act} {w:World}
  (h:∀ K:Act->World->Prop,Shut (∀ a w,(T.contains i=false->S w)->TlAny P md ops Q S T f (done.setIfInBounds i true) a w->K a w)->if Region.wanted o (yielded ops a.tmps)=true then Oper.wp P o a w K Q else K (a.put o.dst undef) w)
  (hi:ops[i]?=some o:=by (simp only [List.getElem?_toArray,List.getElem?_cons_succ,List.getElem?_cons_zero]) <;> rfl)
  (hr:Region.ready md ops done=[i]:=by kernel_rfl):TlAny P md ops Q S T (f+1) done a w:=by
 refine ⟨fun h0=>absurd (hr ▸ h0) (by simp),fun j hj=>?_⟩
 rw [hr,Msq] at hj
 subst hj
 exact wpOp_step hi (fun K hK=>h K (fun a w h1 h2=>hK a w ⟨h1,h2⟩))
theorem TlAny.fin {f:Nat} {done:Array Bool} {a:Act} {w:World} (h:Q .normal a w) (hr:Region.ready md ops done=[]:=by kernel_rfl):TlAny P md ops Q S T f done a w:=by
 cases f with
 | zero=>exact ⟨hr,h⟩
 | succ f=>exact ⟨fun _=>h,by rw [hr];simp⟩
/-- the beginning -/
theorem tl_region (S:World->Prop) (T:List Nat) {id:Nat} {a:Act} {w:World} (hm:P.follows .mixedOrders=true) (h:TlAny P .any ops Q S T ops.size (Array.replicate ops.size false) a w.drew):(Code.region id ops true).wp P Q a w :=
 wp_region_any hm (TlAny.any _ _ _ _ h)
end
end Go.Proofs.YtohnmnfhmbmoaaaGreatDoor
namespace Go.Proofs.YtohnmnfhmbmoaaaGreatDoor.Sy
open Lx (Tok St word skipN goes)
open Pr (Ex)
set_option linter.unusedVariables false
set_option linter.unusedSimpArgs false
/-- a word but for its place -/
structure Sh where
 kind:Nat
 text:List Nat
 vk:Nat
 num:Nat
 sym:List Nat
deriving DecidableEq
def sh (t:Lx.Tok):Sh:=⟨t.kind,t.text,t.vk,t.num,t.sym⟩
/-- the words ts stand at place i -/
def At (v:Env) (i:Nat) (ts:List Sh):Prop:=∀ j (h:j<ts.length),sh (v.tk (i+j))=ts[j]
theorem At.head {v:Env} {i:Nat} {t:Sh} {ts:List Sh} (h:At v i (t :: ts)):sh (v.tk i)=t:=h 0 (by simp)
theorem At.tail {v:Env} {i:Nat} {t:Sh} {ts:List Sh} (h:At v i (t :: ts)):At v (i+1) ts:=fun j hj=>by
 have:=h (j+1) (by simpa using hj)
 rw [show i+1+j=i+(j+1) by omega]
 simpa using this
theorem At.left {v:Env} {i:Nat} {a b:List Sh} (h:At v i (a++b)):At v i a:=fun j hj=>by
 have:=h j (by rw [List.length_append];omega)
 rwa [List.getElem_append_left hj] at this
theorem At.right {v:Env} {i:Nat} {a b:List Sh} (h:At v i (a++b)):At v (i+a.length) b:=fun j hj=>by
 have:=h (a.length+j) (by rw [List.length_append];omega)
 rw [List.getElem_append_right (by omega)] at this
 rw [Nat.add_assoc]
 simpa using this
theorem chain_stop {v:Env} {line:Nat} {sub:Nat->Nat->PR (Ex × Nat)} {above n:Nat} {e:Ex} {d i:Nat} (h:(level (v.tk i)).1≠line):chainF v line sub above (n+1) e d i=.ok (e,d) i:=by
 rw [chainF,if_pos h]
open Lx (Tok)
open Pr (Term Atom Ex Li Rul Rel Prog)
/-- without places -/
def bareL:Li->Li
 | .mk k a op l r fn av of body ln cl=>.mk k a op l r fn av of (bareLs body) 0 0
where bareLs:List Li->List Li
 | []=>[]
 | x :: r=>bareL x :: bareLs r
theorem bareLs_map (l:List Li):bareL.bareLs l=l.map bareL:=by
 induction l with
 | nil=>rfl
 | cons a r ih=>rw [bareL.bareLs,ih];rfl
theorem bareL_eq (k:Int) (a:Atom) (op:Int) (l r:Ex) (fn:Int) (av:ByteArray) (of:Ex) (body:List Li) (ln cl:Int):bareL (.mk k a op l r fn av of body ln cl)=.mk k a op l r fn av of (body.map bareL) 0 0:=by
 rw [bareL,bareLs_map]
def bareU (x:Rul):Rul:=⟨x.head,x.body.map bareL,0,0⟩
def bareR (x:Rel):Rel:=⟨x.name,x.types,0,0⟩
def bareP (p:Prog):Prog:=⟨p.rels.map bareR,p.rules.map bareU⟩
/-- one by one -/
inductive All2 {α:Type} (R:α->α->Prop):List α->List α->Prop
 | nil:All2 R [] []
 | cons {a b:α} {l l':List α} (h:R a b) (t:All2 R l l'):All2 R (a :: l) (b :: l')
section
variable {α β:Type} {v v':Env}
theorem sign_sh {t t':Lx.Tok} (h:sh t'=sh t) (s:List Nat):sign t' s=sign t s:=by
 unfold sh at h
 simp only [Sh.mk.injEq] at h
 unfold sign
 rw [h.1,h.2.1]
theorem kind_sh' {t t':Lx.Tok} (h:sh t'=sh t):t'.kind=t.kind:=congrArg Sh.kind h
theorem text_sh {t t':Lx.Tok} (h:sh t'=sh t):t'.text=t.text:=congrArg Sh.text h
theorem plain_sh {t t':Lx.Tok} (h:sh t'=sh t):plain t'=plain t:=by
 unfold plain
 rw [kind_sh' h,text_sh h]
theorem placeF_sh' {t t':Lx.Tok} (h:sh t'=sh t):∀ (l:List (List Nat)) (k:Nat),placeF t' l k=placeF t l k
 | [],k=>rfl
 | s :: r,k=>by rw [placeF,placeF,sign_sh h,placeF_sh' h r (k+1)]
theorem fnOf_sh {t t':Lx.Tok} (h:sh t'=sh t):fnOf t'=fnOf t:=placeF_sh' h _ _
theorem cmpOf_sh {t t':Lx.Tok} (h:sh t'=sh t):cmpOf t'=cmpOf t:=placeF_sh' h _ _
theorem tyOf_sh {t t':Lx.Tok} (h:sh t'=sh t):tyOf t'=tyOf t:=placeF_sh' h _ _
theorem level_sh {t t':Lx.Tok} (h:sh t'=sh t):level t'=level t:=by
 unfold level
 simp only [sign_sh h]
def RA (g g':Ag):Prop:=g'.fn=g.fn/\g'.av=g.av/\g'.of=g.of/\g.body.map bareL=g'.body.map bareL
end
end Go.Proofs.YtohnmnfhmbmoaaaGreatDoor.Sy
