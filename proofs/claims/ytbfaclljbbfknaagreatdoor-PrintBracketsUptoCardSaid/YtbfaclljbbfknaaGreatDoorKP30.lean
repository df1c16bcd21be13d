/- THE TEXTS MERGED: RtMay RtMayP RtVal RtByte PwGlob PwMem SySame2 SyGrow. -/
import Derived.Test.YtbfaclljbbfknaaGreatDoorKP29
import Derived.ProofKit
import Derived.OpenShut
import Derived.LaidMore
import Derived.Stop.LaidErr
import Derived.Stop.Joined
namespace Go.Proofs.YtbfaclljbbfknaaGreatDoor.Lx
set_option linter.unusedVariables false
set_option linter.unusedSimpArgs false
theorem take_run (p:Nat->Bool) (s:List Nat):s.take (run p s)=s.takeWhile p:=by
 unfold run
 induction s with
 | nil=>rfl
 | cons c r ih=>rw [List.takeWhile_cons];split <;> simp [ih]
theorem run_own (p:Nat->Bool) (s:List Nat):run p (s.takeWhile p)=(s.takeWhile p).length:=by
 induction s with
 | nil=>rfl
 | cons c r ih =>
  rw [List.takeWhile_cons]
  split
  ·rename_i h
   rw [run_cons,if_pos h,ih];rfl
  ·rfl
theorem wordB_run {p:Nat->Bool} {s:List Nat} (h0:s≠[]) (hp:p (s.headD 0)=true) (hg:goes (s.headD 0)=true) (hl:run goes s<=32):Va.wordB p (s.take (run goes s))=true:=by
 have h1:1<=run goes s:=run_pos h0 hg
 have hlen:(s.take (run goes s)).length=run goes s:=by rw [List.length_take];have:=run_le goes s;omega
 unfold Va.wordB
 simp only [Bool.and_eq_true,decide_eq_true_eq]
 refine ⟨fun e=>by rw [e] at hlen;simp at hlen;omega,by omega,?_,?_⟩
 ·cases s with
  | nil=>exact absurd rfl h0
  | cons c r =>
   obtain ⟨m,hm⟩:∃ m,run goes (c :: r)=m+1:=⟨run goes (c :: r) - 1,by omega⟩
   rw [hm]
   exact hp
 ·rw [take_run]
  exact run_own _ _
/-- a word: what its text, its value may be -/
structure TokM (t:Tok):Prop where
 var:t.kind=2->Va.variable_ t.text=true
 nam:t.kind=1->Va.wordB small t.text=true
 num:t.kind=3->t.vk=1/\t.num<=2147483647/\t.sym=[]
 quo:t.kind=4->t.vk=2/\t.num=0/\t.sym.length<=64
theorem next_m {x y:St} {t:Tok} (hb:∀ c∈x.s,c<256) (h:next x=(y,some t)):TokM t:=by
 unfold next at h
 split at h
 ·simp at h
 ·split at h
  ·simp at h
  ·split at h
   ·simp at h
   ·rename_i he
    split at h
    ·simp at h
    ·rename_i wd hw
     simp only [Prod.mk.injEq,Option.some.injEq] at h
     obtain ⟨-,rfl⟩:=h
     have hbs:∀ c∈x.skip.s,c<256:=fun c hc=>hb c (List.mem_of_mem_drop hc)
     generalize x.skip.s=s at he hw hbs ⊢
     unfold word at hw
     split at hw
     ·rename_i h1
      split at hw
      ·cases hw
      ·rename_i h2
       simp only [Rw.ok.injEq] at hw
       subst hw
       have hg:=goes_of_small h1
       refine ⟨fun hk=>?_,fun hk=>?_,fun hk=>?_,fun hk=>?_⟩
       ·simp only at hk
        split at hk
        ·rename_i hc
         exact wordB_run he hc hg (by omega)
        ·cases hk
       ·simp only at hk
        split at hk
        ·cases hk
        ·rename_i hc
         exact wordB_run he ((Bool.or_eq_true _ _ ▸ h1:small (s.headD 0)=true\/capital (s.headD 0)=true).resolve_right hc) hg (by omega)
       ·simp only at hk;split at hk <;> cases hk
       ·simp only at hk;split at hk <;> cases hk
     ·split at hw
      ·split at hw
       ·cases hw
       ·rename_i h2
        simp only [Rw.ok.injEq] at hw
        subst hw
        exact ⟨fun hk=>(by cases hk),fun hk=>(by cases hk),fun _=>⟨rfl,by simp only;omega,rfl⟩,fun hk=>(by cases hk)⟩
      ·split at hw
       ·split at hw
        ·cases hw
        ·rename_i l m hq
         simp only [Rw.ok.injEq] at hw
         subst hw
         exact ⟨fun hk=>(by cases hk),fun hk=>(by cases hk),fun hk=>(by cases hk),fun _=>⟨rfl,rfl,(quo_len hbs hq).2.2.2⟩⟩
       ·split at hw
        ·cases hw
        ·simp only [Rw.ok.injEq] at hw
         subst hw
         exact ⟨fun hk=>(by cases hk),fun hk=>(by cases hk),fun hk=>(by cases hk),fun hk=>(by cases hk)⟩
theorem all_m:∀ (k:Nat) (x:St),(∀ c∈x.s,c<256)->∀ t∈(allF k x).1,TokM t
 | 0,x,hb=>by simp [allF]
 | k+1,x,hb=>by
  rw [allF]
  cases hn:next x with
  | mk y o =>
   cases o with
   | none=>simp
   | some t =>
    obtain ⟨h1,h2,h3,h4,h5,h6,h7,h8,h9⟩:=next_ok hb hn
    intro u hu
    rcases List.mem_cons.1 hu with rfl | hu
    ·exact next_m hb hn
    ·exact all_m k y h7 u hu
end Go.Proofs.YtbfaclljbbfknaaGreatDoor.Lx
namespace Go.Proofs.YtbfaclljbbfknaaGreatDoor.Rt
open Lx (Tok Sq)
open Sy (sh Sh Env PR sign plain level txt must bodyF bodyOf litF aggOf expr exprF chainF constant operand fnOf cmpOf tyOf bareL ex0 at0 progF)
open Pr (Ex Li Atom Term Rul Rel Prog seqO commas pL pE pO pT pA pR pD pP pB binds strength)
open Cod (str)
set_option linter.unusedVariables false
set_option linter.unusedSimpArgs false
/-- the words of a text -/
structure WM (v:Env):Prop where
 m:∀ i,Lx.TokM (v.tk i)
 b:∀ i,∀ c∈(v.tk i).text,c<256
theorem wm_of (s:List Nat) (hb:∀ c∈s,c<256):WM (Sy.envOf s):=by
 have h1:=(Sy.env_toks s hb).1
 have h2:∀ t∈(Sy.envOf s).ws,Lx.TokM t:=Lx.all_m _ (Lx.start s) hb
 have key:∀ i,(Sy.envOf s).tk i=Sy.zT\/(Sy.envOf s).tk i∈(Sy.envOf s).ws:=by
  intro i
  unfold Env.tk
  rw [List.getD_eq_getElem?_getD]
  by_cases h:i<(Sy.envOf s).ws.length
  ·rw [List.getElem?_eq_getElem h];exact .inr (List.getElem_mem h)
  ·rw [List.getElem?_eq_none (by omega)];exact .inl rfl
 refine ⟨fun i=>?_,fun i=>?_⟩
 ·rcases key i with h | h
  ·rw [h];exact ⟨fun hk=>(by cases hk),fun hk=>(by cases hk),fun hk=>(by cases hk),fun hk=>(by cases hk)⟩
  ·exact h2 _ h
 ·rcases key i with h | h
  ·rw [h];simp [Sy.zT]
  ·exact (h1 _ h).byte
theorem WM.str {v:Env} (h:WM v) (i:Nat):str (txt (v.tk i).text)=(v.tk i).text:=Lx.str_ofS (h.b i)
theorem WM.name {v:Env} (h:WM v) {i:Nat} (hp:plain (v.tk i)=true):Va.name (v.tk i).text=true:=by
 unfold plain at hp
 simp only [Bool.and_eq_true,decide_eq_true_eq] at hp
 unfold Va.name
 rw [(h.m i).nam hp.1,Bool.and_true]
 exact hp.2
theorem constant_can {v:Env} (h:WM v) {i n:Nat} {c:Va.Val} (hc:constant v i=some (c,n)):Va.may c=true/\(c.k=1->0<c.n->(v.tk i).kind=3):=by
 unfold constant at hc
 split at hc
 ·rename_i hk
  simp only [Option.some.injEq,Prod.mk.injEq] at hc
  obtain ⟨rfl,-⟩:=hc
  rcases hk with hk | hk
  ·obtain ⟨h1,h2,h3⟩:=(h.m i).num hk
   refine ⟨?_,fun _ _=>hk⟩
   unfold Va.may
   simp only [h1,h3]
   simp
   omega
  ·obtain ⟨h1,h2,h3⟩:=(h.m i).quo hk
   refine ⟨?_,fun h0=>?_⟩
   ·unfold Va.may
    simp only [h1,h2]
    simp
    omega
   ·simp only [h1] at h0
    exact absurd h0 (by decide)
 ·split at hc
  ·rename_i hp
   simp only [Option.some.injEq,Prod.mk.injEq] at hc
   obtain ⟨rfl,-⟩:=hc
   refine ⟨?_,fun h0=>absurd (show (2:Int)=1 from h0) (by decide)⟩
   have:=h.name hp
   unfold Va.name Va.wordB at this
   simp only [Bool.and_eq_true,decide_eq_true_eq] at this
   unfold Va.may
   simp
   omega
  ·split at hc
   ·rename_i hs
    simp only [Option.some.injEq,Prod.mk.injEq] at hc
    obtain ⟨rfl,-⟩:=hc
    obtain ⟨h1,h2,h3⟩:=(h.m (i+1)).num hs.2
    refine ⟨?_,fun _ h0=>?_⟩
    ·unfold Va.may
     simp
     omega
    ·simp only at h0;omega
   ·cases hc
theorem pE_mono:∀ (k:Nat) (e:Ex) (s:List Nat),pE k e=some s->∀ m,k<=m->pE m e=some s:=by
 intro k
 induction k using Nat.strongRecOn with
 | ind k ih =>
 intro e s h m hm
 cases k with
 | zero=>unfold pE at h;cases h
 | succ k =>
 obtain ⟨m,rfl⟩:∃ q,m=q+1:=⟨m - 1,by omega⟩
 by_cases h1:e.k=1
 ·rw [Pr.pE_var _ _ h1] at h ⊢;exact h
 by_cases h2:e.k=2
 ·rw [Pr.pE_val _ _ h2] at h ⊢;exact h
 by_cases h4:e.k=4
 ·rw [Pr.pE_op _ _ h4] at h ⊢
  by_cases hc:e.v.size=0/\e.x=Va.zero/\0<strength e.op
  ·rw [if_pos hc] at h ⊢
   cases k with
   | zero=>unfold pO at h;cases h
   | succ j =>
    obtain ⟨q,rfl⟩:∃ q,m=q+1:=⟨m - 1,by omega⟩
    have br:∀ (c:Prop) [Decidable c] (a:Ex) (f:List Nat->List Nat) (s:List Nat),(if c then (pE j a).map f else pE (j+1) a)=some s->(if c then (pE q a).map f else pE (q+1) a)=some s:=by
     intro c _ a f s hx
     split at hx
     ·rename_i hc
      rw [if_pos hc]
      obtain ⟨t,ht,rfl⟩:=Option.map_eq_some_iff.1 hx
      rw [ih j (by omega) a t ht q (by omega)]
      rfl
     ·rename_i hc
      rw [if_neg hc]
      exact ih (j+1) (by omega) a s hx (q+1) (by omega)
    clear hc h1 h2 h4
    obtain ⟨ek,ev,ex,op,args⟩:=e
    rcases args with _ | ⟨a,_ | ⟨b,_ | ⟨c,r⟩⟩⟩
    ·rw [pO_nil] at h;cases h
    ·rw [pO_one] at h ⊢
     by_cases h6:op=6
     ·rw [if_pos h6] at h ⊢
      obtain ⟨t,ht,rfl⟩:=Option.map_eq_some_iff.1 h
      rw [br _ _ _ _ ht]
      rfl
     ·rw [if_neg h6] at h;cases h
    ·rw [pO_two] at h ⊢
     by_cases h6:op=6
     ·rw [if_pos h6] at h;cases h
     ·rw [if_neg h6] at h ⊢
      generalize hX:(if binds a<strength op then (pE j a).map (fun t=>40 :: (t++[41])) else pE (j+1) a)=X at h
      generalize hY:(if binds b<=strength op then (pE j b).map (fun t=>40 :: (t++[41])) else pE (j+1) b)=Y at h
      cases X with
      | none=>cases h
      | some x =>
       cases Y with
       | none=>cases h
       | some y =>
        rw [br _ _ _ _ hX,br _ _ _ _ hY]
        exact h
    ·rw [pO_more] at h;cases h
  ·rw [if_neg hc] at h;cases h
 ·rw [Pr.pE_other _ _ h1 h2 h4] at h;cases h
/-- it can be written, with that depth -/
def Can (k:Nat) (e:Ex):Prop:=∃ s,pE k e=some s
theorem Can.mono {k m:Nat} {e:Ex} (h:Can k e) (hm:k<=m):Can m e:=h.imp (fun s hs=>pE_mono k e s hs m hm)
structure J (line:Nat) (e:Ex) (d:Nat):Prop where
 can:Can (d+1) e
 brk:binds e<line->Can d e
open Sy (sh Sh Env PR sign plain level txt must bodyF bodyOf litF aggOf expr constant fnOf cmpOf tyOf bareL ex0 at0 progF)
open Pr (Ex Li Atom Term Rul Rel Prog seqO commas pL pE pT pA pR pD pP pB)
theorem listF_can {α:Type} {v:Env} {fin:List Nat} {one:Nat->PR α} {P:α->Prop} (ho:∀ i a j,one i=.ok a j->P a):∀ (k:Nat) (acc:List α) (i:Nat) (l:List α) (j:Nat),(∀ a∈acc,P a)->Sy.listF v fin one k acc i=.ok l j->∀ a∈l,P a:=by
 intro k
 induction k with
 | zero=>intro acc i l j _ h;unfold Sy.listF at h;cases h
 | succ k ih =>
  intro acc i l j ha h
  rw [Sy.listF] at h
  by_cases hs:sign (v.tk i) [44]=true
  ·rw [if_pos hs] at h
   cases hr:one (i+1) with
   | err f=>rw [hr] at h;cases h
   | ok a q =>
    rw [hr] at h
    simp only [PR.bind_ok] at h
    refine ih _ _ _ _ (fun x hx=>?_) h
    rcases List.mem_append.1 hx with hx | hx
    ·exact ha x hx
    ·rw [Msq.1 hx];exact ho _ _ _ hr
  ·rw [if_neg hs] at h
   unfold must at h
   by_cases hf:sign (v.tk i) fin=true
   ·rw [if_pos hf] at h
    simp only [PR.bind_ok,PR.ok.injEq] at h
    obtain ⟨rfl,-⟩:=h
    exact ha
   ·rw [if_neg hf] at h;cases h
theorem list_can {α:Type} {v:Env} {fin:List Nat} {one:Nat->PR α} {P:α->Prop} (ho:∀ i a j,one i=.ok a j->P a) {i:Nat} {l:List α} {j:Nat} (h:Sy.list v fin one i=.ok l j):∀ a∈l,P a:=by
 unfold Sy.list at h
 by_cases hf:sign (v.tk i) fin=true
 ·rw [if_pos hf] at h
  simp only [PR.ok.injEq] at h
  obtain ⟨rfl,-⟩:=h
  simp
 ·rw [if_neg hf] at h
  cases hr:one i with
  | err f=>rw [hr] at h;cases h
  | ok a q =>
   rw [hr] at h
   simp only [PR.bind_ok] at h
   exact listF_can ho _ _ _ _ _ (fun x hx=>by rw [Msq.1 hx];exact ho _ _ _ hr) h
theorem bodyF_can {v:Env} {one:Nat->PR Li} {P:Li->Prop} (ho:∀ i a j,one i=.ok a j->P a):∀ (k:Nat) (acc:List Li) (i:Nat) (l:List Li) (j:Nat),acc≠[]->(∀ a∈acc,P a)->bodyF v one k acc i=.ok l j->l≠[]/\∀ a∈l,P a:=by
 intro k
 induction k with
 | zero=>intro acc i l j _ _ h;unfold bodyF at h;cases h
 | succ k ih =>
  intro acc i l j h0 ha h
  rw [bodyF] at h
  by_cases hs:sign (v.tk i) [44]=true
  ·rw [if_pos hs] at h
   cases hr:one (i+1) with
   | err f=>rw [hr] at h;cases h
   | ok a q =>
    rw [hr] at h
    simp only [PR.bind_ok] at h
    refine ih _ _ _ _ (by simp) (fun x hx=>?_) h
    rcases List.mem_append.1 hx with hx | hx
    ·exact ha x hx
    ·rw [Msq.1 hx];exact ho _ _ _ hr
  ·rw [if_neg hs] at h
   simp only [PR.ok.injEq] at h
   obtain ⟨rfl,-⟩:=h
   exact ⟨h0,ha⟩
theorem bodyOf_can {v:Env} {one:Nat->PR Li} {P:Li->Prop} (ho:∀ i a j,one i=.ok a j->P a) {i:Nat} {l:List Li} {j:Nat} (h:bodyOf v one i=.ok l j):l≠[]/\∀ a∈l,P a:=by
 unfold bodyOf at h
 cases hr:one i with
 | err f=>rw [hr] at h;cases h
 | ok a q =>
  rw [hr] at h
  simp only [PR.bind_ok] at h
  exact bodyF_can ho _ _ _ _ _ (by simp) (fun x hx=>by rw [Msq.1 hx];exact ho _ _ _ hr) h
open Sy (sh Sh Env PR sign plain level txt must bodyF bodyOf litF aggOf expr exprF chainF constant fnOf cmpOf tyOf bareL bareU bareR bareP ex0 at0 progF)
/-- a value of bytes, a number of 64 bits -/
structure VO (x:Va.Val):Prop where
 byte:∀ c∈x.s,c<256
 lo:-9223372036854775808<=x.n
 hi:x.n<=9223372036854775807
theorem vo_zero:VO Va.zero:=⟨by simp [Va.zero],by decide,by decide⟩
inductive ExV:Ex->Prop
 | mk {k:Int} {v:ByteArray} {x:Va.Val} {op:Int} {args:List Ex} (hx:VO x) (h:∀ a∈args,ExV a):ExV (.mk k v x op args)
inductive LiV:Li->Prop
 | mk {k:Int} {a:Atom} {op:Int} {l r:Ex} {fn:Int} {av:ByteArray} {of:Ex} {body:List Li} {ln cl:Int} (ha:∀ t∈a.terms,VO t.x) (hl:ExV l) (hr:ExV r) (ho:ExV of) (hb:∀ x∈body,LiV x):LiV (.mk k a op l r fn av of body ln cl)
theorem ExV.o {e:Ex} (h:ExV e):ExO e:=by
 induction h with
 | mk hx h ih=>exact .mk hx.byte ih
theorem LiV.o {e:Li} (h:LiV e):LiO e:=by
 induction h with
 | mk ha hl hr ho hb ih=>exact .mk (fun t ht=>(ha t ht).byte) hl.o hr.o ho.o ih
theorem exV0:ExV ex0:=.mk vo_zero (by simp)
/-- the words' symbols are of bytes -/
def WB (v:Env):Prop:=∀ i,∀ c∈(v.tk i).sym,c<256
theorem wb_of (s:List Nat) (hb:∀ c∈s,c<256):WB (Sy.envOf s):=by
 have h1:=(Sy.env_toks s hb).1
 intro i
 by_cases h:i<(Sy.envOf s).ws.length
 ·have:(Sy.envOf s).tk i∈(Sy.envOf s).ws:=by
   unfold Env.tk
   rw [List.getD_eq_getElem?_getD,List.getElem?_eq_getElem h]
   exact List.getElem_mem h
  exact (h1 _ this).sym
 ·have:(Sy.envOf s).tk i=Sy.zT:=by
   unfold Env.tk
   rw [List.getD_eq_getElem?_getD,List.getElem?_eq_none (by omega)]
   rfl
  rw [this]
  simp [Sy.zT]
theorem may_n {c:Va.Val} (h:Va.may c=true):-2147483647<=c.n/\c.n<=2147483647:=by
 rcases may_cases h with ⟨-,-,h1,h2⟩ | ⟨-,h1,-⟩
 ·exact ⟨h1,h2⟩
 ·rw [h1];exact ⟨by decide,by decide⟩
theorem constant_vo {v:Env} (hw:WM v) (hs:WB v) {i n:Nat} {c:Va.Val} (hc:constant v i=some (c,n)):VO c:=by
 have hm:=may_n (constant_can hw hc).1
 refine ⟨?_,by omega,by omega⟩
 unfold constant at hc
 split at hc
 ·simp only [Option.some.injEq,Prod.mk.injEq] at hc
  obtain ⟨rfl,-⟩:=hc
  exact hs i
 ·split at hc
  ·simp only [Option.some.injEq,Prod.mk.injEq] at hc
   obtain ⟨rfl,-⟩:=hc
   exact hw.b i
  ·split at hc
   ·simp only [Option.some.injEq,Prod.mk.injEq] at hc
    obtain ⟨rfl,-⟩:=hc
    simp
   ·cases hc
theorem chain_vo {v:Env} {line above:Nat} {sub:Nat->Nat->PR (Ex × Nat)} (hsub:∀ ab i r d j,sub ab i=.ok (r,d) j->ExV r) :
  ∀ (k:Nat) (e:Ex) (d i:Nat) (r:Ex) (d' j:Nat),ExV e->chainF v line sub above k e d i=.ok (r,d') j->ExV r:=by
 intro k
 induction k with
 | zero=>intro e d i r d' j _ h;unfold chainF at h;cases h
 | succ k ih =>
  intro e d i r d' j he h
  rw [chainF] at h
  split at h
  ·simp only [PR.ok.injEq,Prod.mk.injEq] at h
   obtain ⟨⟨rfl,rfl⟩,-⟩:=h
   exact he
  ·split at h
   ·cases h
   ·cases hs:sub (above+1) (i+1) with
    | err f=>rw [hs] at h;cases h
    | ok p q =>
     obtain ⟨r1,d1⟩:=p
     rw [hs] at h
     simp only [PR.bind_ok] at h
     refine ih _ _ _ _ _ _ (.mk vo_zero (fun a ha=>?_)) h
     simp only [List.mem_cons,List.not_mem_nil,or_false] at ha
     rcases ha with rfl | rfl
     ·exact he
     ·exact hsub _ _ _ _ _ hs
theorem exprF_vo {v:Env} (hw:WM v) (hb:WB v):∀ (k line above i:Nat) (e:Ex) (d j:Nat),exprF v k line above i=.ok (e,d) j->ExV e:=by
 intro k
 induction k with
 | zero=>intro line above i e d j h;unfold exprF at h;cases h
 | succ k ih =>
  intro line above i e d j h
  rw [exprF] at h
  by_cases h3:line=3
  ·rw [if_pos h3] at h
   by_cases hv:(v.tk i).kind=2
   ·rw [if_pos hv] at h
    simp only [PR.ok.injEq,Prod.mk.injEq] at h
    obtain ⟨⟨rfl,rfl⟩,-⟩:=h
    exact .mk vo_zero (by simp)
   ·rw [if_neg hv] at h
    cases hc:constant v i with
    | some p =>
     obtain ⟨c,n⟩:=p
     rw [hc] at h
     simp only [PR.ok.injEq,Prod.mk.injEq] at h
     obtain ⟨⟨rfl,rfl⟩,-⟩:=h
     exact .mk (constant_vo hw hb hc) (by simp)
    | none =>
     rw [hc] at h
     simp only at h
     by_cases hs:sign (v.tk i) [45]=true
     ·rw [if_pos hs] at h
      split at h
      ·cases h
      ·cases hr:exprF v k 3 (above+1) (i+1) with
       | err f=>rw [hr] at h;cases h
       | ok p q =>
        obtain ⟨r1,d1⟩:=p
        rw [hr] at h
        simp only [PR.bind_ok,PR.ok.injEq,Prod.mk.injEq] at h
        obtain ⟨⟨rfl,rfl⟩,-⟩:=h
        exact .mk vo_zero (fun a ha=>by rw [Msq.1 ha];exact ih _ _ _ _ _ _ hr)
     ·rw [if_neg hs] at h
      split at h
      ·cases h
      ·unfold must at h
       by_cases ho:sign (v.tk i) [40]=true
       ·rw [if_pos ho] at h
        simp only [PR.bind_ok] at h
        cases hr:exprF v k 1 (above+1) (i+1) with
        | err f=>rw [hr] at h;cases h
        | ok p q =>
         obtain ⟨r1,d1⟩:=p
         rw [hr] at h
         simp only [PR.bind_ok] at h
         by_cases hcl:sign (v.tk q) [41]=true
         ·rw [if_pos hcl] at h
          simp only [PR.bind_ok,PR.ok.injEq,Prod.mk.injEq] at h
          obtain ⟨⟨rfl,rfl⟩,-⟩:=h
          exact ih _ _ _ _ _ _ hr
         ·rw [if_neg hcl] at h;cases h
       ·rw [if_neg ho] at h;cases h
  ·rw [if_neg h3] at h
   cases hr:exprF v k (line+1) above i with
   | err f=>rw [hr] at h;cases h
   | ok p q =>
    obtain ⟨r1,d1⟩:=p
    rw [hr] at h
    simp only [PR.bind_ok] at h
    exact chain_vo (fun ab i r d j hs=>ih _ _ _ _ _ _ hs) _ _ _ _ _ _ _ (ih _ _ _ _ _ _ hr) h
theorem expr_vo {v:Env} (hw:WM v) (hb:WB v) {i j:Nat} {e:Ex} (h:expr v i=.ok e j):ExV e:=by
 unfold expr at h
 cases hr:exprF v 60 1 0 i with
 | err f=>rw [hr] at h;cases h
 | ok p q =>
  obtain ⟨r1,d1⟩:=p
  rw [hr] at h
  simp only [PR.bind_ok,PR.ok.injEq] at h
  obtain ⟨rfl,-⟩:=h
  exact exprF_vo hw hb _ _ _ _ _ _ _ hr
theorem term_vo {v:Env} (hw:WM v) (hb:WB v) {i j:Nat} {t:Term} (h:Sy.term v i=.ok t j):VO t.x:=by
 unfold Sy.term at h
 split at h
 ·simp only [PR.ok.injEq] at h
  obtain ⟨rfl,-⟩:=h
  exact vo_zero
 ·split at h
  ·simp only [PR.ok.injEq] at h
   obtain ⟨rfl,-⟩:=h
   exact vo_zero
  ·unfold Sy.value at h
   cases hc:constant v i with
   | none=>rw [hc] at h;cases h
   | some p =>
    obtain ⟨c,n⟩:=p
    rw [hc] at h
    simp only [PR.bind_ok,PR.ok.injEq] at h
    obtain ⟨rfl,-⟩:=h
    exact constant_vo hw hb hc
theorem atom_vo {v:Env} (hw:WM v) (hb:WB v) {i j:Nat} {a:Atom} (h:Sy.atom v i=.ok a j):∀ t∈a.terms,VO t.x:=by
 unfold Sy.atom Sy.name at h
 by_cases hp:plain (v.tk i)=true
 ·rw [if_pos hp] at h
  simp only [PR.bind_ok] at h
  unfold must at h
  by_cases ho:sign (v.tk (i+1)) [40]=true
  ·rw [if_pos ho] at h
   simp only [PR.bind_ok] at h
   cases hl:Sy.list v [41] (Sy.term v) (i+1+1) with
   | err f=>rw [hl] at h;cases h
   | ok l q =>
    rw [hl] at h
    simp only [PR.bind_ok,PR.ok.injEq] at h
    obtain ⟨rfl,-⟩:=h
    exact list_can (P:=fun t=>VO t.x) (fun i a j h=>term_vo hw hb h) hl
  ·rw [if_neg ho] at h;cases h
 ·rw [if_neg hp] at h;cases h
theorem litF_vo {v:Env} (hw:WM v) (hb:WB v):∀ (k br i:Nat) (l:Li) (j:Nat),litF v k br i=.ok l j->LiV l:=by
 intro k
 induction k with
 | zero=>intro br i l j h;unfold litF at h;cases h
 | succ k ih =>
  intro br i l j h
  rw [litF] at h
  split at h
  ·cases ha:Sy.atom v (i+1) with
   | err f=>rw [ha] at h;cases h
   | ok a q =>
    rw [ha] at h
    simp only [PR.bind_ok,PR.ok.injEq] at h
    obtain ⟨rfl,-⟩:=h
    exact .mk (atom_vo hw hb ha) exV0 exV0 exV0 (by simp)
  ·split at h
   ·cases ha:Sy.atom v i with
    | err f=>rw [ha] at h;cases h
    | ok a q =>
     rw [ha] at h
     simp only [PR.bind_ok,PR.ok.injEq] at h
     obtain ⟨rfl,-⟩:=h
     exact .mk (atom_vo hw hb ha) exV0 exV0 exV0 (by simp)
   ·split at h
    ·cases hg:aggOf v (litF v k (br+1)) br i with
     | err f=>rw [hg] at h;cases h
     | ok g q =>
      rw [hg] at h
      simp only [PR.bind_ok,PR.ok.injEq] at h
      obtain ⟨rfl,-⟩:=h
      unfold aggOf at hg
      split at hg
      ·cases hg
      ·cases h1:must v [123] (i+3) with
       | err f=>rw [h1] at hg;cases hg
       | ok u q0 =>
        rw [h1] at hg
        simp only [PR.bind_ok] at hg
        have tail:∀ (o:Ex) (q0:Nat),ExV o ->
          ((bodyOf v (litF v k (br+1)) q0).bind fun b j=>(must v [125] j).bind fun _ j=>.ok (⟨(fnOf (v.tk (i+2)):Nat),txt (v.tk i).text,o,b⟩:Sy.Ag) j)=.ok g q ->
          LiV (.mk 4 at0 0 ex0 ex0 g.fn g.av g.of g.body (v.tk i).line (v.tk i).col):=by
         intro o q0 hO hB
         cases hbd:bodyOf v (litF v k (br+1)) q0 with
         | err f=>rw [hbd] at hB;cases hB
         | ok b q1 =>
          rw [hbd] at hB
          simp only [PR.bind_ok] at hB
          cases h2:must v [125] q1 with
          | err f=>rw [h2] at hB;cases hB
          | ok u q2 =>
           rw [h2] at hB
           simp only [PR.bind_ok,PR.ok.injEq] at hB
           obtain ⟨rfl,-⟩:=hB
           exact .mk (by simp [at0]) exV0 exV0 hO (bodyOf_can (P:=LiV) (fun i a j h=>ih (br+1) i a j h) hbd).2
        by_cases hf:fnOf (v.tk (i+2))≠1
        ·rw [if_pos hf] at hg
         cases he:expr v q0 with
         | err f=>rw [he] at hg;cases hg
         | ok e q1 =>
          rw [he] at hg
          simp only [PR.bind_ok] at hg
          cases h2:must v [58] q1 with
          | err f=>rw [h2] at hg;cases hg
          | ok u q2 =>
           rw [h2] at hg
           simp only [PR.bind_ok] at hg
           exact tail e q2 (expr_vo hw hb he) hg
        ·rw [if_neg hf] at hg
         simp only [PR.bind_ok] at hg
         exact tail ex0 q0 exV0 hg
    ·cases hl:expr v i with
     | err f=>rw [hl] at h;cases h
     | ok l1 q =>
      rw [hl] at h
      simp only [PR.bind_ok] at h
      split at h
      ·cases h
      ·cases hr:expr v (q+1) with
       | err f=>rw [hr] at h;cases h
       | ok r1 q2 =>
        rw [hr] at h
        simp only [PR.bind_ok,PR.ok.injEq] at h
        obtain ⟨rfl,-⟩:=h
        exact .mk (by simp [at0]) (expr_vo hw hb hl) (expr_vo hw hb hr) exV0 (by simp)
open Pr
def By (l:List Nat):Prop:=∀ c∈l,c<256
theorem By.nil:By []:=fun c h=>by cases h
theorem By.cons {a:Nat} {l:List Nat} (ha:a<256) (h:By l):By (a :: l):=fun c hc=>by
 rcases List.mem_cons.1 hc with rfl | hc
 ·exact ha
 ·exact h c hc
theorem By.app {a b:List Nat} (ha:By a) (hb:By b):By (a++b):=fun c hc=>(List.mem_append.1 hc).elim (ha c) (hb c)
theorem By.str (s:ByteArray):By (Cod.str s):=Cod.str_lt s
theorem by_qb {c:Nat} (hc:c<256):By (Va.qb c):=by
 have:∀ c:_root_.Fin 256,∀ x∈Va.qb c.val,x<256:=by decide +kernel
 exact this ⟨c,hc⟩
theorem by_text {v:Va.Val} (hb:By v.s):By (Va.text v):=by
 unfold Va.text
 split
 ·exact Va.itoa_lt _
 ·split
  ·exact hb
  ·unfold Va.quoted
   intro c hc
   simp only [List.mem_append,List.mem_cons,List.mem_flatMap,List.not_mem_nil,or_false] at hc
   rcases hc with rfl | ⟨y,hy,hx⟩ | rfl
   ·decide
   ·exact by_qb (hb y hy) c hx
   ·decide
theorem by_sign (op:Int):By (Pr.sign op):=by
 unfold Pr.sign By
 (repeat' split) <;> decide
theorem by_wrap {o:Option (List Nat)} (h:∀ t,o=some t->By t) {t:List Nat} (e:o.map (fun t=>40 :: (t++[41]))=some t):By t:=by
 obtain ⟨x,hx,rfl⟩:=Option.map_eq_some_iff.1 e
 exact .cons (by decide) (.app (h x hx) (.cons (by decide) .nil))
theorem pO_by (j:Nat) (ih:∀ m,m<j+2->∀ (e:Ex) (t:List Nat),ExO e->pE m e=some t->By t) (e:Ex) (ha:∀ a∈e.args,ExO a) (t:List Nat) (h:pO (j+1) e=some t):By t:=by
 rw [pO] at h
 split at h
 ·rename_i a he
  have hA:=ha a (by rw [he];simp)
  split at h
  ·obtain ⟨y,hy,rfl⟩:=Option.map_eq_some_iff.1 h
   refine .cons (by decide) (.app ?_ ?_)
   ·split
    ·exact .cons (by decide) .nil
    ·exact .nil
   ·split at hy
    ·exact by_wrap (fun t ht=>ih j (by omega) a t hA ht) hy
    ·exact ih (j+1) (by omega) a y hA hy
  ·cases h
 ·rename_i a b he
  have hA:=ha a (by rw [he];simp)
  have hB:=ha b (by rw [he];simp)
  split at h
  ·cases h
  ·split at h
   ·rename_i l r e1 e2
    cases h
    refine .app ?_ (.cons (by decide) (.app (by_sign _) (.cons (by decide) ?_)))
    ·split at e1
     ·exact by_wrap (fun t ht=>ih j (by omega) a t hA ht) e1
     ·exact ih (j+1) (by omega) a _ hA e1
    ·split at e2
     ·exact by_wrap (fun t ht=>ih j (by omega) b t hB ht) e2
     ·exact ih (j+1) (by omega) b _ hB e2
   ·cases h
 ·cases h
theorem ExO.x {e:Ex} (h:ExO e):By e.x.s:=by cases h with | mk hx ha=>exact hx
theorem ExO.args {e:Ex} (h:ExO e):∀ a∈e.args,ExO a:=by cases h with | mk hx ha=>exact ha
theorem pE_by:∀ (k:Nat) (e:Ex) (t:List Nat),ExO e->pE k e=some t->By t:=by
 intro k
 induction k using Nat.strongRecOn with
 | ind k ih =>
  intro e t hO h
  cases k with
  | zero=>simp [pE] at h
  | succ k =>
   by_cases h1:e.k=1
   ·rw [pE_var _ _ h1] at h
    split at h
    ·cases h;exact .str _
    ·cases h
   ·by_cases h2:e.k=2
    ·rw [pE_val _ _ h2] at h
     split at h
     ·cases h;exact by_text hO.x
     ·cases h
    ·by_cases h4:e.k=4
     ·rw [pE_op _ _ h4] at h
      split at h
      ·cases k with
       | zero=>simp [pO] at h
       | succ j=>exact pO_by j (fun m hm=>ih m (by omega)) e hO.args t h
      ·cases h
     ·rw [pE_other _ e h1 h2 h4] at h
      cases h
end Go.Proofs.YtbfaclljbbfknaaGreatDoor.Rt
namespace Go.Proofs.YtbfaclljbbfknaaGreatDoor
open Go.RowKit
set_option linter.unusedVariables false
set_option linter.unusedSimpArgs false
set_option maxRecDepth 100000
theorem gRng : Tryz.prog.globalNamed "strconv.ErrRange" = some 4 := by kernel_rfl
theorem gSyn : Tryz.prog.globalNamed "strconv.ErrSyntax" = some 3 := by kernel_rfl
theorem gMrk : Tryz.prog.globalNamed "pedigree/lex.marks" = some 0 := by kernel_rfl
theorem tRng:(Tryz.prog.globals[4]?).map (·.type)=some 106:=by kernel_rfl
theorem tSyn:(Tryz.prog.globals[3]?).map (·.type)=some 106:=by kernel_rfl
theorem tMrk:(Tryz.prog.globals[0]?).map (·.type)=some 157:=by kernel_rfl
theorem starE : "*" ++ "errors.errorString" = "*errors.errorString" := by decide
theorem rowE (u : TypeId) (h : Tryz.prog.typeName? 3 u = some "*errors.errorString") : u = 192 :=
 typeName_ptr_named (nm := "errors.errorString") (by rw [starE]; kernel_rfl) (by kernel_rfl) (by decide) u (by rw [starE]; exact h)
theorem var_heapW {P:Program} {w:World} {n:String} {g:Nat} {cs:Array Value} (hg:P.globalNamed n=some g) (h:w.var? P n=some cs):∃ T fr,w.heap[g]?=some (.cells cs T fr):=by
 simp only [World.var?,hg,Option.bind_some] at h
 split at h
 ·rename_i c T fr he
  cases h
  exact ⟨_,_,he⟩
 ·cases h
theorem gTabV : Tryz.prog.globalNamed "internal/strconv.uint64pow10" = some 2 := by kernel_rfl
theorem tTabV:(Tryz.prog.globals[2]?).map (·.type)=some 183:=by kernel_rfl
theorem globV_of_laid {W:World} (h:laidMetH Tryz.prog Rows.printBracketsRow.laid W):GlobV W:=by
 rw [MakeChecks.laidMetH_plain _ _ _ (by kernel_rfl)] at h
 exact ⟨Lib.tabIs_of_head (zs:=Lib.pow10Tab) gTabV tTabV Tryz.underlying183 Tryz.underlying165 (by kernel_rfl) (by kernel_rfl) h.tail.tail⟩
theorem glob_of_laid {W:World} (h:laidMetH Tryz.prog Rows.printBracketsRow.laid W):Glob W:=by
 rw [MakeChecks.laidMetH_plain _ _ _ (by kernel_rfl)] at h
 have h3:=h.tail.tail.tail
 obtain ⟨a0,s0,hv0,-⟩:=laid_sentinel h3 gRng tRng Tryz.underlying106 rowE Tryz.underlying192 Tryz.underlying194 rfl rfl Tryz.underlying9 (by kernel_rfl) (by kernel_rfl)
 obtain ⟨a1,s1,hv1,-⟩:=laid_sentinel h3.tail gSyn tSyn Tryz.underlying106 rowE Tryz.underlying192 Tryz.underlying194 rfl rfl Tryz.underlying9 (by kernel_rfl) (by kernel_rfl)
 obtain ⟨T0,f0,hr⟩:=var_heapW gRng hv0
 obtain ⟨T1,f1,hs⟩:=var_heapW gSyn hv1
 obtain ⟨ps,⟨g2,t2,cs2,fu,p2,q2,hg2,ht2,hv2,hd2,-,-⟩,-,-⟩:=h3.tail.tail
 obtain rfl:=Option.some.inj (gMrk.symm.trans hg2)
 obtain rfl:=Option.some.inj (tMrk.symm.trans ht2)
 obtain ⟨T2,f2,hm⟩:=var_heapW gMrk hv2
 obtain ⟨xs,m,rfl,hx,hlen,hn,hel⟩:=DataW.trod_array Tryz.underlying157 hd2
 rw [show Tryz.prog.cellsOf 157=19 by kernel_rfl] at hlen
 rw [show Tryz.prog.cellsOf 9=1 by kernel_rfl] at hel
 simp only [Prod.mk.injEq,DataW.agg.injEq,Rows.laid_pedigree_lex_marks] at hx
 have hcs:cs2=(markL.map fun l=>Value.string (Lx.ofS l)).toArray:=by
  apply Array.ext'
  apply List.ext_getElem?
  intro i
  by_cases hi:i<19
  ·have he:=hel i hi
   have hlt:i<cs2.toList.length:=by omega
   have hone:(cs2.toList.drop (i * 1)).take 1=[cs2.toList[i]]:=by
    rw [Nat.mul_one,List.drop_eq_getElem_cons hlt];rfl
   rw [hone] at he
   have hxi:i<xs.length:=by omega
   rw [List.getElem?_eq_getElem hxi] at he
   obtain ⟨s,hc,hy,-⟩:=DataW.trod_string Tryz.underlying9 he
   rw [List.getElem?_eq_getElem hlt]
   have hlit:(markL.map fun l=>(DataW.lit (.string (l.map UInt8.ofNat)):DataW Unit))=xs.map (·.1):=hx.1
   have h1:(markL.map fun l=>(DataW.lit (.string (l.map UInt8.ofNat)):DataW Unit))[i]?=(xs.map (·.1))[i]?:=by rw [hlit]
   rw [List.getElem?_map,List.getElem?_map,List.getElem?_eq_getElem hxi,hy] at h1
   have hmi:i<markL.length:=by show i<19;exact hi
   rw [List.getElem?_eq_getElem hmi] at h1
   simp only [Option.map_some,Option.some.injEq,DataW.lit.injEq,Lit.string.injEq] at h1
   simp only [List.getElem?_map]
   rw [List.getElem?_eq_getElem hmi]
   have hcc:cs2.toList[i]=Value.string s:=by simpa using hc
   rw [hcc]
   simp only [Option.map_some]
   congr 2
   unfold Lx.ofS
   rw [h1]
  ·rw [List.getElem?_eq_none (by omega),List.getElem?_eq_none (by simp [markL];omega)]
 exact ⟨⟨_,_,hcs ▸ hm⟩,⟨_,_,_,_,hs⟩,⟨_,_,_,_,hr⟩⟩
theorem globs_of_laid {W:World} (h:laidMetH Tryz.prog Rows.printBracketsRow.laid W):Glob W/\GlobV W:=⟨glob_of_laid h,globV_of_laid h⟩
theorem Rt.VO.ok {x:Va.Val} (h:Rt.VO x):x.Ok:=⟨h.byte,h.lo,h.hi⟩
theorem ExAt.cells {w:World} {b o:Nat} {e:Pr.Ex} {u:Value} (h:CellsAt w b o (exV e u)):ExAt w b o e u :=
 ⟨h 0 _ rfl,h 1 _ rfl,h 2 _ rfl,h 3 _ rfl,h 4 _ rfl,h 5 _ rfl,h 6 _ rfl⟩
theorem TmAt.cells {w:World} {b o:Nat} {t:Pr.Term} (h:CellsAt w b o (tmV t)):TmAt w b o t :=
 ⟨h 0 _ rfl,h 1 _ rfl,h 2 _ rfl,h 3 _ rfl,h 4 _ rfl⟩
theorem EB.eok {F:Nat->Prop} {w:World} {e:Pr.Ex} {u:Value} (h:EB F w e u) (hv:Rt.ExV e):EOk w e u:=by
 induction h with
 | nil=>cases hv with | mk hx ha=>exact .nil hx.ok
 | row hF hb h1 h2 ih =>
  cases hv with
  | mk hx ha=>exact .row hx.ok (fun i h=>ExAt.cells (h1 i h)) (fun i h=>ih i h (ha _ (List.getElem_mem h)))
mutual
def liD:Pr.Li->Nat
 | .mk _ _ _ _ _ _ _ _ body _ _=>liDs body+1
def liDs:List Pr.Li->Nat
 | []=>0
 | e :: r=>max (liD e) (liDs r)
end
mutual
/-- no list is longer -/
def liM:Pr.Li->Nat
 | .mk _ a _ l r _ _ of body _ _=>max a.terms.length (max (exM l) (max (exM r) (max (exM of) (max body.length (liMs body)))))
def liMs:List Pr.Li->Nat
 | []=>0
 | e :: r=>max (liM e) (liMs r)
end
theorem CellsAt.rng {w:World} {b o:Nat} {xs:Array Value} (h:CellsAt w b o xs):w.rangeAt b o xs.toList:=fun j v hv=>h j v (by simpa using hv)
open Go.RowKit
set_option linter.unusedVariables false
set_option linter.unusedSimpArgs false
set_option maxRecDepth 100000
/-- what is kept, of things of n cells -/
structure Bears {α:Type} (n:Nat) (cs:α->Array Value) (B:(Nat->Prop)->World->α->Prop):Prop where
 size:∀ x,(cs x).size=n
 keep:∀ {F:Nat->Prop} {S:List Nat} {w w':World} {p:α},B F w p->Mod S w w'->(∀ s∈S,¬ F s)->B F w' p
 mono:∀ {F F':Nat->Prop} {w:World} {p:α},B F w p->(∀ k,F k->k<w.heap.size->F' k)->B F' w p
section
variable {α:Type} {T:TypeId} {n:Nat} {cs:α->Array Value} {B:(Nat->Prop)->World->α->Prop} {S:List Nat} {w0 W W':World} {acc:List α} {va:Option Addr} {vc:Nat}
end
/-- expressions with their arguments' slices -/
abbrev ExU:=Pr.Ex × Value
def csX (p:ExU):Array Value:=exV p.1 p.2
def BX (F:Nat->Prop) (w:World) (p:ExU):Prop:=EB F w p.1 p.2
theorem bearsX:Bears 7 csX BX:=⟨fun _=>rfl,fun h hm hs=>EB.keep h hm hs,fun h hF=>EB.mono h hF⟩
theorem EB.of_row {F:Nat->Prop} {w:World} {k:Int} {v:ByteArray} {x:Va.Val} {op:Int} {u:Value} (l:List ExU) (h:RowB F w 7 csX l u) (hs:∀ p∈l,BX F w p):EB F w (.mk k v x op (l.map (·.1))) u:=by
 cases h with
 | nil=>exact .nil
 | row hF hb h1 hcap =>
  rename_i g off c
  have:=@EB.row F w k v x op (l.map (·.1)) g off c (fun i=>if h:i<l.length then l[i].2 else .slice none 0 0) hF hb (fun i hi=>by
   rw [List.length_map] at hi
   simp only [dif_pos hi,List.getElem_map]
   exact h1 i hi) (fun i hi=>by
   rw [List.length_map] at hi
   simp only [dif_pos hi,List.getElem_map]
   exact hs _ (List.getElem_mem hi))
  simpa using this
end Go.Proofs.YtbfaclljbbfknaaGreatDoor
