/- THE TEXTS MERGED: RtVal PwMem PrAwP PrAwake. -/
import Derived.Test.YtohnmnfhmbmoaaaGreatDoorKF1
import Derived.Test.YtohnmnfhmbmoaaaGreatDoorKF36
import Derived.Test.YtohnmnfhmbmoaaaGreatDoorKF16
import Derived.Test.YtohnmnfhmbmoaaaGreatDoorKF31
namespace Go.Proofs.YtohnmnfhmbmoaaaGreatDoor.Rt
open Lx (Tok Sq)
open Sy (sh Sh Env PR sign plain level txt must bodyF bodyOf litF aggOf expr exprF chainF constant fnOf cmpOf tyOf bareL bareU bareR bareP ex0 at0 progF)
open Pr (Ex Li Atom Term Rul Rel Prog seqO commas pL pE pT pA pR pD pP pB)
open Cod (str)
set_option linter.unusedVariables false
set_option linter.unusedSimpArgs false
/-- a value of bytes, a number of 64 bits -/
structure VO (x:Va.Val):Prop where
 byte:∀ c∈x.s,c<256
 lo:-9223372036854775808<=x.n
 hi:x.n<=9223372036854775807
theorem vo_zero:VO Va.zero:=⟨by simp [Va.zero],by decide,by decide⟩
inductive ExV:Ex->Prop
 | mk {k:Int} {v:ByteArray} {x:Va.Val} {op:Int} {args:List Ex} (hx:VO x) (h:∀ a∈args,ExV a):ExV (.mk k v x op args)
inductive LiV:Li->Prop
 | mk {k:Int} {a:Atom} {op:Int} {l r:Ex} {fn:Int} {av:ByteArray} {of:Ex} {body:List Li} {ln cl:Int} (ha:∀ t∈a.terms,VO t.x) (hl:ExV l) (hr:ExV r) (ho:ExV of) (hb:∀ x∈body,LiV x):LiV (.mk k a op l r fn av of body ln cl)
def RuV (r:Rul):Prop:=(∀ t∈r.head.terms,VO t.x)/\∀ x∈r.body,LiV x
def PgV (p:Prog):Prop:=∀ r∈p.rules,RuV r
theorem ExV.o {e:Ex} (h:ExV e):ExO e:=by
 induction h with
 | mk hx h ih=>exact .mk hx.byte ih
theorem LiV.o {e:Li} (h:LiV e):LiO e:=by
 induction h with
 | mk ha hl hr ho hb ih=>exact .mk (fun t ht=>(ha t ht).byte) hl.o hr.o ho.o ih
theorem PgV.o {p:Prog} (h:PgV p):PgO p:=fun r hr=>⟨fun t ht=>((h r hr).1 t ht).byte,fun x hx=>((h r hr).2 x hx).o⟩
theorem exV0:ExV ex0:=.mk vo_zero (by simp)
/-- the words' symbols are of bytes -/
def WB (v:Env):Prop:=∀ i,∀ c∈(v.tk i).sym,c<256
theorem wb_of (s:List Nat) (hb:∀ c∈s,c<256):WB (Sy.envOf s):=by
 have h1:=(Sy.env_toks s hb).1
 intro i
 by_cases h:i<(Sy.envOf s).ws.length
 ·have:(Sy.envOf s).tk i∈(Sy.envOf s).ws:=by
   unfold Env.tk
   rw [List.getD_eq_getElem?_getD,List.getElem?_eq_getElem h]
   exact List.getElem_mem h
  exact (h1 _ this).sym
 ·have:(Sy.envOf s).tk i=Sy.zT:=by
   unfold Env.tk
   rw [List.getD_eq_getElem?_getD,List.getElem?_eq_none (by omega)]
   rfl
  rw [this]
  simp [Sy.zT]
theorem may_n {c:Va.Val} (h:Va.may c=true):-2147483647<=c.n/\c.n<=2147483647:=by
 rcases may_cases h with ⟨-,-,h1,h2⟩ | ⟨-,h1,-⟩
 ·exact ⟨h1,h2⟩
 ·rw [h1];exact ⟨by decide,by decide⟩
theorem constant_vo {v:Env} (hw:WM v) (hs:WB v) {i n:Nat} {c:Va.Val} (hc:constant v i=some (c,n)):VO c:=by
 have hm:=may_n (constant_can hw hc).1
 refine ⟨?_,by omega,by omega⟩
 unfold constant at hc
 split at hc
 ·simp only [Option.some.injEq,Prod.mk.injEq] at hc
  obtain ⟨rfl,-⟩:=hc
  exact hs i
 ·split at hc
  ·simp only [Option.some.injEq,Prod.mk.injEq] at hc
   obtain ⟨rfl,-⟩:=hc
   exact hw.b i
  ·split at hc
   ·simp only [Option.some.injEq,Prod.mk.injEq] at hc
    obtain ⟨rfl,-⟩:=hc
    simp
   ·cases hc
theorem chain_vo {v:Env} {line above:Nat} {sub:Nat->Nat->PR (Ex × Nat)} (hsub:∀ ab i r d j,sub ab i=.ok (r,d) j->ExV r) :
  ∀ (k:Nat) (e:Ex) (d i:Nat) (r:Ex) (d' j:Nat),ExV e->chainF v line sub above k e d i=.ok (r,d') j->ExV r:=by
 intro k
 induction k with
 | zero=>intro e d i r d' j _ h;unfold chainF at h;cases h
 | succ k ih =>
  intro e d i r d' j he h
  rw [chainF] at h
  split at h
  ·simp only [PR.ok.injEq,Prod.mk.injEq] at h
   obtain ⟨⟨rfl,rfl⟩,-⟩:=h
   exact he
  ·split at h
   ·cases h
   ·cases hs:sub (above+1) (i+1) with
    | err f=>rw [hs] at h;cases h
    | ok p q =>
     obtain ⟨r1,d1⟩:=p
     rw [hs] at h
     simp only [PR.bind_ok] at h
     refine ih _ _ _ _ _ _ (.mk vo_zero (fun a ha=>?_)) h
     simp only [List.mem_cons,List.not_mem_nil,or_false] at ha
     rcases ha with rfl | rfl
     ·exact he
     ·exact hsub _ _ _ _ _ hs
theorem exprF_vo {v:Env} (hw:WM v) (hb:WB v):∀ (k line above i:Nat) (e:Ex) (d j:Nat),exprF v k line above i=.ok (e,d) j->ExV e:=by
 intro k
 induction k with
 | zero=>intro line above i e d j h;unfold exprF at h;cases h
 | succ k ih =>
  intro line above i e d j h
  rw [exprF] at h
  by_cases h3:line=3
  ·rw [if_pos h3] at h
   by_cases hv:(v.tk i).kind=2
   ·rw [if_pos hv] at h
    simp only [PR.ok.injEq,Prod.mk.injEq] at h
    obtain ⟨⟨rfl,rfl⟩,-⟩:=h
    exact .mk vo_zero (by simp)
   ·rw [if_neg hv] at h
    cases hc:constant v i with
    | some p =>
     obtain ⟨c,n⟩:=p
     rw [hc] at h
     simp only [PR.ok.injEq,Prod.mk.injEq] at h
     obtain ⟨⟨rfl,rfl⟩,-⟩:=h
     exact .mk (constant_vo hw hb hc) (by simp)
    | none =>
     rw [hc] at h
     simp only at h
     by_cases hs:sign (v.tk i) [45]=true
     ·rw [if_pos hs] at h
      split at h
      ·cases h
      ·cases hr:exprF v k 3 (above+1) (i+1) with
       | err f=>rw [hr] at h;cases h
       | ok p q =>
        obtain ⟨r1,d1⟩:=p
        rw [hr] at h
        simp only [PR.bind_ok,PR.ok.injEq,Prod.mk.injEq] at h
        obtain ⟨⟨rfl,rfl⟩,-⟩:=h
        exact .mk vo_zero (fun a ha=>by rw [Msq.1 ha];exact ih _ _ _ _ _ _ hr)
     ·rw [if_neg hs] at h
      split at h
      ·cases h
      ·unfold must at h
       by_cases ho:sign (v.tk i) [40]=true
       ·rw [if_pos ho] at h
        simp only [PR.bind_ok] at h
        cases hr:exprF v k 1 (above+1) (i+1) with
        | err f=>rw [hr] at h;cases h
        | ok p q =>
         obtain ⟨r1,d1⟩:=p
         rw [hr] at h
         simp only [PR.bind_ok] at h
         by_cases hcl:sign (v.tk q) [41]=true
         ·rw [if_pos hcl] at h
          simp only [PR.bind_ok,PR.ok.injEq,Prod.mk.injEq] at h
          obtain ⟨⟨rfl,rfl⟩,-⟩:=h
          exact ih _ _ _ _ _ _ hr
         ·rw [if_neg hcl] at h;cases h
       ·rw [if_neg ho] at h;cases h
  ·rw [if_neg h3] at h
   cases hr:exprF v k (line+1) above i with
   | err f=>rw [hr] at h;cases h
   | ok p q =>
    obtain ⟨r1,d1⟩:=p
    rw [hr] at h
    simp only [PR.bind_ok] at h
    exact chain_vo (fun ab i r d j hs=>ih _ _ _ _ _ _ hs) _ _ _ _ _ _ _ (ih _ _ _ _ _ _ hr) h
theorem expr_vo {v:Env} (hw:WM v) (hb:WB v) {i j:Nat} {e:Ex} (h:expr v i=.ok e j):ExV e:=by
 unfold expr at h
 cases hr:exprF v 60 1 0 i with
 | err f=>rw [hr] at h;cases h
 | ok p q =>
  obtain ⟨r1,d1⟩:=p
  rw [hr] at h
  simp only [PR.bind_ok,PR.ok.injEq] at h
  obtain ⟨rfl,-⟩:=h
  exact exprF_vo hw hb _ _ _ _ _ _ _ hr
theorem term_vo {v:Env} (hw:WM v) (hb:WB v) {i j:Nat} {t:Term} (h:Sy.term v i=.ok t j):VO t.x:=by
 unfold Sy.term at h
 split at h
 ·simp only [PR.ok.injEq] at h
  obtain ⟨rfl,-⟩:=h
  exact vo_zero
 ·split at h
  ·simp only [PR.ok.injEq] at h
   obtain ⟨rfl,-⟩:=h
   exact vo_zero
  ·unfold Sy.value at h
   cases hc:constant v i with
   | none=>rw [hc] at h;cases h
   | some p =>
    obtain ⟨c,n⟩:=p
    rw [hc] at h
    simp only [PR.bind_ok,PR.ok.injEq] at h
    obtain ⟨rfl,-⟩:=h
    exact constant_vo hw hb hc
theorem atom_vo {v:Env} (hw:WM v) (hb:WB v) {i j:Nat} {a:Atom} (h:Sy.atom v i=.ok a j):∀ t∈a.terms,VO t.x:=by
 unfold Sy.atom Sy.name at h
 by_cases hp:plain (v.tk i)=true
 ·rw [if_pos hp] at h
  simp only [PR.bind_ok] at h
  unfold must at h
  by_cases ho:sign (v.tk (i+1)) [40]=true
  ·rw [if_pos ho] at h
   simp only [PR.bind_ok] at h
   cases hl:Sy.list v [41] (Sy.term v) (i+1+1) with
   | err f=>rw [hl] at h;cases h
   | ok l q =>
    rw [hl] at h
    simp only [PR.bind_ok,PR.ok.injEq] at h
    obtain ⟨rfl,-⟩:=h
    exact list_can (P:=fun t=>VO t.x) (fun i a j h=>term_vo hw hb h) hl
  ·rw [if_neg ho] at h;cases h
 ·rw [if_neg hp] at h;cases h
theorem litF_vo {v:Env} (hw:WM v) (hb:WB v):∀ (k br i:Nat) (l:Li) (j:Nat),litF v k br i=.ok l j->LiV l:=by
 intro k
 induction k with
 | zero=>intro br i l j h;unfold litF at h;cases h
 | succ k ih =>
  intro br i l j h
  rw [litF] at h
  split at h
  ·cases ha:Sy.atom v (i+1) with
   | err f=>rw [ha] at h;cases h
   | ok a q =>
    rw [ha] at h
    simp only [PR.bind_ok,PR.ok.injEq] at h
    obtain ⟨rfl,-⟩:=h
    exact .mk (atom_vo hw hb ha) exV0 exV0 exV0 (by simp)
  ·split at h
   ·cases ha:Sy.atom v i with
    | err f=>rw [ha] at h;cases h
    | ok a q =>
     rw [ha] at h
     simp only [PR.bind_ok,PR.ok.injEq] at h
     obtain ⟨rfl,-⟩:=h
     exact .mk (atom_vo hw hb ha) exV0 exV0 exV0 (by simp)
   ·split at h
    ·cases hg:aggOf v (litF v k (br+1)) br i with
     | err f=>rw [hg] at h;cases h
     | ok g q =>
      rw [hg] at h
      simp only [PR.bind_ok,PR.ok.injEq] at h
      obtain ⟨rfl,-⟩:=h
      unfold aggOf at hg
      split at hg
      ·cases hg
      ·cases h1:must v [123] (i+3) with
       | err f=>rw [h1] at hg;cases hg
       | ok u q0 =>
        rw [h1] at hg
        simp only [PR.bind_ok] at hg
        have tail:∀ (o:Ex) (q0:Nat),ExV o ->
          ((bodyOf v (litF v k (br+1)) q0).bind fun b j=>(must v [125] j).bind fun _ j=>.ok (⟨(fnOf (v.tk (i+2)):Nat),txt (v.tk i).text,o,b⟩:Sy.Ag) j)=.ok g q ->
          LiV (.mk 4 at0 0 ex0 ex0 g.fn g.av g.of g.body (v.tk i).line (v.tk i).col):=by
         intro o q0 hO hB
         cases hbd:bodyOf v (litF v k (br+1)) q0 with
         | err f=>rw [hbd] at hB;cases hB
         | ok b q1 =>
          rw [hbd] at hB
          simp only [PR.bind_ok] at hB
          cases h2:must v [125] q1 with
          | err f=>rw [h2] at hB;cases hB
          | ok u q2 =>
           rw [h2] at hB
           simp only [PR.bind_ok,PR.ok.injEq] at hB
           obtain ⟨rfl,-⟩:=hB
           exact .mk (by simp [at0]) exV0 exV0 hO (bodyOf_can (P:=LiV) (fun i a j h=>ih (br+1) i a j h) hbd).2
        by_cases hf:fnOf (v.tk (i+2))≠1
        ·rw [if_pos hf] at hg
         cases he:expr v q0 with
         | err f=>rw [he] at hg;cases hg
         | ok e q1 =>
          rw [he] at hg
          simp only [PR.bind_ok] at hg
          cases h2:must v [58] q1 with
          | err f=>rw [h2] at hg;cases hg
          | ok u q2 =>
           rw [h2] at hg
           simp only [PR.bind_ok] at hg
           exact tail e q2 (expr_vo hw hb he) hg
        ·rw [if_neg hf] at hg
         simp only [PR.bind_ok] at hg
         exact tail ex0 q0 exV0 hg
    ·cases hl:expr v i with
     | err f=>rw [hl] at h;cases h
     | ok l1 q =>
      rw [hl] at h
      simp only [PR.bind_ok] at h
      split at h
      ·cases h
      ·cases hr:expr v (q+1) with
       | err f=>rw [hr] at h;cases h
       | ok r1 q2 =>
        rw [hr] at h
        simp only [PR.bind_ok,PR.ok.injEq] at h
        obtain ⟨rfl,-⟩:=h
        exact .mk (by simp [at0]) (expr_vo hw hb hl) (expr_vo hw hb hr) exV0 (by simp)
theorem rule_vo {v:Env} (hw:WM v) (hb:WB v) {i j:Nat} {r:Rul} (h:Sy.rule v i=.ok r j):RuV r:=by
 unfold Sy.rule at h
 cases ha:Sy.atom v i with
 | err f=>rw [ha] at h;cases h
 | ok a q =>
  rw [ha] at h
  simp only [PR.bind_ok] at h
  by_cases hm:sign (v.tk q) [58,45]=true
  ·rw [if_pos hm] at h
   unfold Sy.body at h
   cases hbd:bodyOf v (Sy.lit v 0) (q+1) with
   | err f=>rw [hbd] at h;cases h
   | ok b q1 =>
    rw [hbd] at h
    simp only [PR.bind_ok,PR.ok.injEq] at h
    obtain ⟨rfl,-⟩:=h
    exact ⟨atom_vo hw hb ha,(bodyOf_can (P:=LiV) (fun i a j h=>litF_vo hw hb 18 0 i a j h) hbd).2⟩
  ·rw [if_neg hm] at h
   simp only [PR.bind_ok,PR.ok.injEq] at h
   obtain ⟨rfl,-⟩:=h
   exact ⟨atom_vo hw hb ha,by simp⟩
theorem progF_vo {v:Env} (hw:WM v) (hb:WB v):∀ (k:Nat) (p:Prog) (i:Nat) (q:Prog) (j:Nat),PgV p->progF v k p i=.ok q j->PgV q:=by
 intro k
 induction k with
 | zero=>intro p i q j _ h;unfold progF at h;cases h
 | succ k ih =>
  intro p i q j hp h
  rw [progF] at h
  split at h
  ·split at h
   ·cases hr:Sy.relation v (i+1) with
    | err f=>rw [hr] at h;cases h
    | ok x q1 =>
     rw [hr] at h
     simp only [PR.bind_ok] at h
     cases h2:must v [46] q1 with
     | err f=>rw [h2] at h;cases h
     | ok u q2 =>
      rw [h2] at h
      simp only [PR.bind_ok] at h
      exact ih ⟨p.rels++[x],p.rules⟩ _ _ _ hp h
   ·cases hr:Sy.rule v i with
    | err f=>rw [hr] at h;cases h
    | ok x q1 =>
     rw [hr] at h
     simp only [PR.bind_ok] at h
     cases h2:must v [46] q1 with
     | err f=>rw [h2] at h;cases h
     | ok u q2 =>
      rw [h2] at h
      simp only [PR.bind_ok] at h
      refine ih ⟨p.rels,p.rules++[x]⟩ _ _ _ (fun y hy=>?_) h
      rcases List.mem_append.1 hy with hy | hy
      ·exact hp y hy
      ·rw [Msq.1 hy];exact rule_vo hw hb hr
  ·simp only [PR.ok.injEq] at h
   obtain ⟨rfl,-⟩:=h
   exact hp
theorem prog_vo {s:List Nat} (hb:∀ c∈s,c<256) {q:Prog} {j:Nat} (h:Sy.whole (Sy.envOf s) (Sy.prog (Sy.envOf s))=.ok q j):PgV q:=by
 unfold Sy.whole Sy.prog at h
 cases hr:progF (Sy.envOf s) ((Sy.envOf s).ws.length+1) ⟨[],[]⟩ 0 with
 | err f=>rw [hr] at h;cases h
 | ok p i =>
  rw [hr] at h
  simp only [PR.bind_ok] at h
  split at h
  ·cases h
  ·simp only [PR.ok.injEq] at h
   obtain ⟨rfl,-⟩:=h
   exact progF_vo (wm_of s hb) (wb_of s hb) _ _ _ _ _ (fun r hr=>absurd hr (by simp)) hr
/-- places do not matter -/
theorem pL_bare:∀ (b:Nat) (li:Li),pL b (bareL li)=pL b li:=by
 intro b
 induction b with
 | zero =>
  intro li
  obtain ⟨k,a,op,l,r,fn,av,of,body,ln,cl⟩:=li
  rw [Sy.bareL_eq,pL.eq_def,pL.eq_def]
  simp only [List.length_map]
 | succ c ih =>
  intro li
  obtain ⟨k,a,op,l,r,fn,av,of,body,ln,cl⟩:=li
  rw [Sy.bareL_eq,pL.eq_def,pL.eq_def (c+1)]
  simp only [List.length_map,List.map_map]
  rw [show (pL c ∘ bareL)=pL c from funext ih]
theorem pR_bare (r:Rul):pR (bareU r)=pR r:=by
 unfold pR bareU pB
 simp only [List.length_map,List.map_map]
 rw [show (pL 16 ∘ bareL)=pL 16 from funext (pL_bare 16)]
theorem pP_bare (p:Prog):pP (bareP p)=pP p:=by
 unfold pP bareP
 simp only [List.map_map]
 rw [show (pD ∘ bareR)=pD from rfl,show (pR ∘ bareU)=pR from funext pR_bare]
/-- what is read of a text is written; what is written is read as the same, and written as the same -/
theorem fix_law {s:List Nat} (hb:∀ c∈s,c<256) {p:Prog} {i:Nat} (h:Sy.whole (Sy.envOf s) (Sy.prog (Sy.envOf s))=.ok p i) :
  ∃ t,pP p=some t/\((∀ c∈t,c<256)->t.length<=65536->∃ q j,Sy.whole (Sy.envOf t) (Sy.prog (Sy.envOf t))=.ok q j/\bareP q=bareP p/\pP q=some t):=by
 obtain ⟨t,ht⟩:=prog_can hb h
 refine ⟨t,ht,fun hbt hl=>?_⟩
 obtain ⟨q,j,h1,h2⟩:=prog_back (prog_vo hb h).o ht hbt hl
 exact ⟨q,j,h1,h2,by rw [<-pP_bare,h2,pP_bare,ht]⟩
end Go.Proofs.YtohnmnfhmbmoaaaGreatDoor.Rt
namespace Go.Proofs.YtohnmnfhmbmoaaaGreatDoor
open Go.RowKit
set_option linter.unusedVariables false
set_option linter.unusedSimpArgs false
theorem Rt.VO.ok {x:Va.Val} (h:Rt.VO x):x.Ok:=⟨h.byte,h.lo,h.hi⟩
theorem ExAt.cells {w:World} {b o:Nat} {e:Pr.Ex} {u:Value} (h:CellsAt w b o (exV e u)):ExAt w b o e u :=
 ⟨h 0 _ rfl,h 1 _ rfl,h 2 _ rfl,h 3 _ rfl,h 4 _ rfl,h 5 _ rfl,h 6 _ rfl⟩
theorem TmAt.cells {w:World} {b o:Nat} {t:Pr.Term} (h:CellsAt w b o (tmV t)):TmAt w b o t :=
 ⟨h 0 _ rfl,h 1 _ rfl,h 2 _ rfl,h 3 _ rfl,h 4 _ rfl⟩
theorem EB.eok {F:Nat->Prop} {w:World} {e:Pr.Ex} {u:Value} (h:EB F w e u) (hv:Rt.ExV e):EOk w e u:=by
 induction h with
 | nil=>cases hv with | mk hx ha=>exact .nil hx.ok
 | row hF hb h1 h2 ih =>
  cases hv with
  | mk hx ha=>exact .row hx.ok (fun i h=>ExAt.cells (h1 i h)) (fun i h=>ih i h (ha _ (List.getElem_mem h)))
theorem RowB.tok {F:Nat->Prop} {w:World} {ts:List Pr.Term} {u:Value} (h:RowB F w 5 tmV ts u) (hv:∀ t∈ts,Rt.VO t.x):TOk w ts u:=by
 cases h with
 | nil=>exact .nil
 | row hF hb h1 hc=>exact .row (fun i h=>TmAt.cells (h1 i h)) (fun i h=>(hv _ (List.getElem_mem h)).ok)
theorem LB.lok {F:Nat->Prop} {w:World} {e:Pr.Li} {U:LU} (h:LB F w e U) (hv:Rt.LiV e):LOk w e U:=by
 induction h with
 | @mk k a op l r fn av of body ln cl U ub cb us ht hl hr ho hb h1 h2 hc ih =>
  cases hv with
  | mk va vl vr vo vb =>
   rcases body with _ | ⟨x,rest⟩
   ·exact .nil (ht.tok va) (hl.eok vl) (hr.eok vr) (ho.eok vo) hb
   ·obtain ⟨g,off,rfl,-,-,-⟩:=h1 0 (by simp)
    refine .row (ht.tok va) (hl.eok vl) (hr.eok vr) (ho.eok vo) hb (fun i h=>?_) (fun i h=>ih i h (vb _ (List.getElem_mem h)))
    obtain ⟨g',off',e,-,-,hc⟩:=h1 i h
    cases e
    exact hc
theorem BB.bok {F:Nat->Prop} {w:World} {body:List Pr.Li} {u:Value} (h:BB F w body u) (hv:∀ x∈body,Rt.LiV x):BOk w body u:=by
 obtain ⟨ub,cb,us,rfl,h1,h2,-⟩:=h
 rcases body with _ | ⟨x,rest⟩
 ·exact .inl ⟨rfl,_,_,rfl⟩
 ·obtain ⟨g,off,rfl,-,-,-⟩:=h1 0 (by simp)
  refine .inr ⟨g,off,cb,us,rfl,fun i h=>?_,fun i h=>(h2 i h).lok (hv _ (List.getElem_mem h))⟩
  obtain ⟨g',off',e,-,-,hc⟩:=h1 i h
  cases e
  exact hc
theorem RowB.yok {F:Nat->Prop} {w:World} {ts:List Int} {u:Value} (h:RowB F w 1 intC ts u):YOk w ts u:=by
 cases h with
 | nil=>exact .nil
 | row hF hb h1 hc =>
  refine .row (fun i h=>?_)
  have:=h1 i h 0 (.int .i64 ts[i]) rfl
  simpa using this
/-- a program that was read: Program_any's hypotheses -/
theorem PgB.ok {F:Nat->Prop} {w:World} {p:Pr.Prog} {x:Value} (h:PgB F w p x) (hv:Rt.PgV p):∃ du ru,x=.agg #[du,ru]/\DsOk w p.rels du/\RsOk w p.rules ru:=by
 obtain ⟨rels,rus,u1,u2,rfl,rfl,h1,h2,h3,h4⟩:=h
 refine ⟨u1,u2,rfl,?_,?_⟩
 ·show DsOk w (rels.map (·.1)) u1
  cases h1 with
  | nil=>exact .nil
  | @row _ b off c hF hb hc hcap =>
   have:DsOk w (rels.map (·.1)) (.slice (some ⟨b,off,none⟩) (rels.map (·.1)).length c):=by
    refine .row (us:=fun i=>(rels.map (·.2)).getD i (.int .i64 0)) (fun i h=>?_) (fun i h=>?_)
    ·have hi:i<rels.length:=by simpa using h
     have:=hc i hi
     simp only [List.getElem_map,List.getD_eq_getElem?_getD,List.getElem?_map,List.getElem?_eq_getElem hi,Option.map_some,Option.getD_some]
     exact this
    ·have hi:i<rels.length:=by simpa using h
     simp only [List.getElem_map,List.getD_eq_getElem?_getD,List.getElem?_map,List.getElem?_eq_getElem hi,Option.map_some,Option.getD_some]
     exact RowB.yok (h3 _ (List.getElem_mem hi))
   simpa using this
 ·show RsOk w (rus.map (·.1)) u2
  have hv2:∀ q∈rus,Rt.RuV q.1:=fun q hq=>hv q.1 (List.mem_map.2 ⟨q,hq,rfl⟩)
  cases h2 with
  | nil=>exact .nil
  | @row _ b off c hF hb hc hcap =>
   have:RsOk w (rus.map (·.1)) (.slice (some ⟨b,off,none⟩) (rus.map (·.1)).length c):=by
    refine .row (ts:=fun i=>(rus.map (·.2.1)).getD i (.int .i64 0)) (us:=fun i=>(rus.map (·.2.2)).getD i (.int .i64 0)) (fun i h=>?_) (fun i h=>?_) (fun i h=>?_)
    ·have hi:i<rus.length:=by simpa using h
     have:=hc i hi
     simp only [List.getElem_map,List.getD_eq_getElem?_getD,List.getElem?_map,List.getElem?_eq_getElem hi,Option.map_some,Option.getD_some]
     exact this
    ·have hi:i<rus.length:=by simpa using h
     simp only [List.getElem_map,List.getD_eq_getElem?_getD,List.getElem?_map,List.getElem?_eq_getElem hi,Option.map_some,Option.getD_some]
     exact (h4 _ (List.getElem_mem hi)).1.tok (hv2 _ (List.getElem_mem hi)).1
    ·have hi:i<rus.length:=by simpa using h
     simp only [List.getElem_map,List.getD_eq_getElem?_getD,List.getElem?_map,List.getElem?_eq_getElem hi,Option.map_some,Option.getD_some]
     exact (h4 _ (List.getElem_mem hi)).2.bok (hv2 _ (List.getElem_mem hi)).2
   simpa using this
set_option maxRecDepth 100000
def xOne:Pr.Ex:=.mk 2 ⟨#[]⟩ ⟨1,1,[]⟩ 0 []
def xName (s:ByteArray):Pr.Ex:=.mk 1 s Va.zero 0 []
def xNeg:Pr.Ex:=.mk 4 ⟨#[]⟩ Va.zero 6 [xOne]
def xAdd:Pr.Ex:=.mk 4 ⟨#[]⟩ Va.zero 1 [xName { data:=#[89] },xOne]
def xMul:Pr.Ex:=.mk 4 ⟨#[]⟩ Va.zero 3 [xName { data:=#[88] },xAdd]
def xProg:Pr.Prog:=⟨[⟨{ data:=#[112] },[1,2],0,0⟩],[⟨⟨{ data:=#[113] },[]⟩,[],0,0⟩]⟩
def xSum:Pr.Atom:=⟨{ data:=#[115,117,109] },[]⟩
theorem text_one:Va.text ⟨1,1,[]⟩=[49]:=by
 unfold Va.text Va.itoa Lib.itoa
 rw [if_pos rfl,if_neg (by decide)]
 simp [Lib.decDigits]
theorem pE_one (k:Nat):Pr.pE (k+1) xOne=some [49]:=by
 rw [Pr.pE_val _ _ rfl]
 show (if _ then some (Va.text ⟨1,1,[]⟩) else none)=_
 rw [text_one]
 decide
theorem pE_X (k:Nat) (s:ByteArray) (h:Va.variable_ (Cod.str s)=true):Pr.pE (k+1) (xName s)=some (Cod.str s):=by
 rw [Pr.pE_var _ _ rfl]
 exact if_pos ⟨h,rfl,rfl,rfl⟩
theorem pE_neg:Pr.pE 17 xNeg=some [45,40,49,41]:=by
 rw [Pr.pE_op _ _ rfl]
 show (if _ then Pr.pO 16 xNeg else none)=_
 rw [if_pos (by decide)]
 have:Pr.pO 16 xNeg=(if Pr.binds xOne<3\/(xOne.k=2/\xOne.x.k=1/\0<xOne.x.n) then (Pr.pE 15 xOne).map (fun t=>40 :: (t++[41])) else Pr.pE 16 xOne).map
     (fun t=>45 :: ((if xOne.k=2/\xOne.x.k=1/\xOne.x.n=0 then [45] else [])++t)):=by rfl
 rw [this,if_pos (show Pr.binds xOne<3\/(xOne.k=2/\xOne.x.k=1/\0<xOne.x.n) by decide),if_neg (show ¬ (xOne.k=2/\xOne.x.k=1/\xOne.x.n=0) by decide),pE_one]
 rfl
theorem pE_add (k:Nat):Pr.pE (k+2) xAdd=some [89,32,43,32,49]:=by
 rw [Pr.pE_op _ _ rfl,if_pos (by decide)]
 show Pr.pO (k+1) (.mk 4 _ _ 1 [xName { data:=#[89] },xOne])=_
 rw [pO_two _ _ _ _ _ _ _ (by decide),if_neg (by decide),if_neg (by decide),pE_X _ _ (by decide),pE_one]
 rfl
theorem pE_mul:Pr.pE 17 xMul=some [88,32,42,32,40,89,32,43,32,49,41]:=by
 rw [Pr.pE_op _ _ rfl,if_pos (by decide)]
 show Pr.pO (15+1) (.mk 4 _ _ 3 [xName { data:=#[88] },xAdd])=_
 rw [pO_two _ _ _ _ _ _ _ (by decide),if_neg (by decide),if_pos (by decide),pE_X _ _ (by decide),pE_add]
 rfl
theorem pP_prog:Pr.pP xProg=some [114,101,108,97,116,105,111,110,32,112,40,110,117,109,44,32,115,121,109,41,46,10,113,40,41,46,10]:=by
 have h1:Pr.pD ⟨{ data:=#[112] },[1,2],0,0⟩=some [114,101,108,97,116,105,111,110,32,112,40,110,117,109,44,32,115,121,109,41]:=by decide
 have h2:Pr.pA ⟨{ data:=#[113] },[]⟩=some [113,40,41]:=by decide
 have h3:Pr.pR ⟨⟨{ data:=#[113] },[]⟩,[],0,0⟩=some [113,40,41]:=by rw [pR_eq];rw [h2];rfl
 unfold Pr.pP xProg
 simp only [List.map_cons,List.map_nil,h1,h3]
 rfl
theorem pA_sum:Pr.pA xSum=none:=by decide
theorem one_any (w:World):Calls Tryz.prog 23 #[] w fun e w'=>e=.returned (.agg (exV xOne (.slice none 0 0)))/\Mod [] w w':=by
 go_enter Tryz.func23,Tryz.ntmps23
 go_wp2_with fail
 refine bodyPost_ret (results_cell_row rfl _ _ _ _ _ _ _ rfl (heap_alloc_new w _) Tryz.underlying38 rfl (by kernel_rfl)) rfl ⟨rfl,(Mod.refl [] w).alloc _⟩
theorem xname_any (s:ByteArray) (w:World):Calls Tryz.prog 24 #[.string s] w fun e w'=>e=.returned (.agg (exV (xName s) (.slice none 0 0)))/\Mod [] w w':=by
 go_enter Tryz.func24,Tryz.ntmps24
 go_wp2_with fail
 refine bodyPost_ret (results_cell_row rfl _ _ _ _ _ _ _ rfl (heap_alloc_new w _) Tryz.underlying38 rfl (by kernel_rfl)) rfl ⟨rfl,(Mod.refl [] w).alloc _⟩
theorem zOk:Va.zero.Ok:=by constructor <;> decide
theorem oneOk:(⟨1,1,[]⟩:Va.Val).Ok:=by constructor <;> decide
theorem eok_one (w:World):EOk w xOne (.slice none 0 0):=.nil oneOk
theorem eok_name (w:World) (s:ByteArray):EOk w (xName s) (.slice none 0 0):=.nil zOk
/-- two expressions in a row -/
theorem eok_two (w:World) (k:Int) (v:ByteArray) (x:Va.Val) (op:Int) (a b:Pr.Ex) (u u':Value) (hx:x.Ok) (ha:EOk w a u) (hb:EOk w b u') :
  EOk (w.alloc (Obj.cells (exV a u++exV b u') 38)) (.mk k v x op [a,b]) (.slice (some ⟨w.heap.size,0,none⟩) 2 2):=by
 have hcell:=heap_alloc_new w (Obj.cells (exV a u++exV b u') 38)
 have m:=(Mod.refl [] w).alloc (Obj.cells (exV a u++exV b u') 38)
 refine .row (us:=fun i=>if i=0 then u else u') hx (fun i hi=>?_) (fun i hi=>?_)
 ·have:i=0\/i=1:=by simp at hi;omega
  rcases this with rfl | rfl <;> constructor <;> simp only [World.cell?,hcell] <;> rfl
 ·have:i=0\/i=1:=by simp at hi;omega
  rcases this with rfl | rfl
  ·exact ha.past m
  ·exact hb.past m
theorem eok_onerow (w:World) (k:Int) (v:ByteArray) (x:Va.Val) (op:Int) (a:Pr.Ex) (u:Value) (hx:x.Ok) (ha:EOk w a u) :
  EOk (w.alloc (Obj.cells (exV a u) 38)) (.mk k v x op [a]) (.slice (some ⟨w.heap.size,0,none⟩) 1 1):=by
 have hcell:=heap_alloc_new w (Obj.cells (exV a u) 38)
 have m:=(Mod.refl [] w).alloc (Obj.cells (exV a u) 38)
 refine .row (us:=fun i=>u) hx (fun i hi=>?_) (fun i hi=>?_)
 ·have:i=0:=by simp at hi;omega
  subst this
  constructor <;> simp only [World.cell?,hcell] <;> rfl
 ·have:i=0:=by simp at hi;omega
  subst this
  exact ha.past m
theorem ofS1:Lx.ofS [45,40,49,41]={ data:=#[45,40,49,41] }:=by rfl
theorem ofS2:Lx.ofS [88,32,42,32,40,89,32,43,32,49,41]={ data:=#[88,32,42,32,40,89,32,43,32,49,41] }:=by rfl
theorem ofS3:Lx.ofS [114,101,108,97,116,105,111,110,32,112,40,110,117,109,44,32,115,121,109,41,46,10,113,40,41,46,10]={ data:=#[114,101,108,97,116,105,111,110,32,112,40,110,117,109,44,32,115,121,109,41,46,10,113,40,41,46,10] }:=by rfl
theorem wt1:exWt xNeg<=140737488000000:=by
 have:exWt xNeg=600:=by rfl
 omega
theorem wt2:exWt xMul<=140737488000000:=by
 have:exWt xMul=1502:=by rfl
 omega
theorem wt3:dsWt xProg.rels+rsWt xProg.rules<=140737488000000:=by
 have:dsWt xProg.rels+rsWt xProg.rules=366:=by rfl
 omega
theorem wt4:aWt xSum<=140737488000000:=by
 have:aWt xSum=303:=by rfl
 omega
theorem one_is (w:World):Calls Tryz.prog 23 #[] w fun e w'=>e=.returned (.agg #[.int .i64 2,.string ⟨#[]⟩,.int .i64 1,.int .i64 1,.string ⟨#[]⟩,.int .i64 0,.slice none 0 0])/\Mod [] w w':=one_any w
theorem name_is (s:ByteArray) (w:World):Calls Tryz.prog 24 #[.string s] w fun e w'=>e=.returned (.agg #[.int .i64 1,.string s,.int .i64 0,.int .i64 0,.string ⟨#[]⟩,.int .i64 0,.slice none 0 0])/\Mod [] w w':=xname_any s w
theorem dat2 {w:World}:YOk (w.alloc (Obj.cells #[.int .i64 1,.int .i64 2] 3)) [1,2] (.slice (some ⟨w.heap.size,0,none⟩) 2 2):=by
 have hcell:=heap_alloc_new w (Obj.cells #[.int .i64 1,.int .i64 2] 3)
 refine .row (ts:=[1,2]) (fun i hi=>?_)
 have:i=0\/i=1:=by simp at hi;omega
 rcases this with rfl | rfl <;> simp only [World.cell?,hcell] <;> rfl
theorem dat3 {w:World} {u:Value} (h:YOk w [1,2] u):DsOk (w.alloc (Obj.cells #[.string { data:=#[112] },u,.int .i64 0,.int .i64 0] 70)) xProg.rels (.slice (some ⟨w.heap.size,0,none⟩) 1 1):=by
 have hcell:=heap_alloc_new w (Obj.cells #[.string { data:=#[112] },u,.int .i64 0,.int .i64 0] 70)
 refine .row (ds:=xProg.rels) (us:=fun _=>u) (fun i hi=>?_) (fun i hi=>?_)
 ·have:i=0:=by simp [xProg] at hi;omega
  subst this
  exact CellsAt.of hcell
 ·have:i=0:=by simp [xProg] at hi;omega
  subst this
  exact h.past ((Mod.refl [] w).alloc _)
theorem dat4 {w:World}:RsOk (w.alloc (Obj.cells #[.string { data:=#[113] },.slice none 0 0,.slice none 0 0,.int .i64 0,.int .i64 0] 63)) xProg.rules (.slice (some ⟨w.heap.size,0,none⟩) 1 1):=by
 have hcell:=heap_alloc_new w (Obj.cells #[.string { data:=#[113] },.slice none 0 0,.slice none 0 0,.int .i64 0,.int .i64 0] 63)
 refine .row (rs:=xProg.rules) (ts:=fun _=>.slice none 0 0) (us:=fun _=>.slice none 0 0) (fun i hi=>?_) (fun i hi=>?_) (fun i hi=>?_)
 ·have:i=0:=by simp [xProg] at hi;omega
  subst this
  exact CellsAt.of hcell
 ·have:i=0:=by simp [xProg] at hi;omega
  subst this
  exact .nil
 ·have:i=0:=by simp [xProg] at hi;omega
  subst this
  exact .inl ⟨rfl,none,0,rfl⟩
set_option maxHeartbeats 4000000 in
theorem awake_any (w:World) (hG:GlobV w):Calls Tryz.prog 7 #[] w fun e w'=>e=.returned (.bool true)/\Mod [] w w':=by
 have HG:=Lib.hid hG
 clear hG
 have H1:Hid (∀ (u:Value) (w:World),EOk w xNeg u->GlobV w->Calls Tryz.prog 15 #[.agg #[.int .i64 4,.string ⟨#[]⟩,.int .i64 0,.int .i64 0,.string ⟨#[]⟩,.int .i64 6,u]] w (fun e w'=>e=.returned (.tuple #[.string { data:=#[45,40,49,41] },.int .i64 0])/\Mod [] w w')):=Hxq (fun u w hE hG=>by
  have h:=Expr_any xNeg u w hE hG wt1
  rw [pE_neg] at h
  exact h.mono (by rintro e w' ⟨rfl,m,-⟩;exact ⟨by unfold tv;simp only [ofS1],m⟩))
 have H2:Hid (∀ (u:Value) (w:World),EOk w xMul u->GlobV w->Calls Tryz.prog 15 #[.agg #[.int .i64 4,.string ⟨#[]⟩,.int .i64 0,.int .i64 0,.string ⟨#[]⟩,.int .i64 3,u]] w (fun e w'=>e=.returned (.tuple #[.string { data:=#[88,32,42,32,40,89,32,43,32,49,41] },.int .i64 0])/\Mod [] w w')):=Hxq (fun u w hE hG=>by
  have h:=Expr_any xMul u w hE hG wt2
  rw [pE_mul] at h
  exact h.mono (by rintro e w' ⟨rfl,m,-⟩;exact ⟨by unfold tv;simp only [ofS2],m⟩))
 have H3:Hid (∀ (du ru:Value) (w:World),DsOk w xProg.rels du->RsOk w xProg.rules ru->GlobV w->Calls Tryz.prog 9 #[.agg #[du,ru]] w (fun e w'=>e=.returned (.tuple #[.string { data:=#[114,101,108,97,116,105,111,110,32,112,40,110,117,109,44,32,115,121,109,41,46,10,113,40,41,46,10] },.int .i64 0])/\Mod [] w w')):=Hxq (fun du ru w hD hR hG=>by
  have h:=Program_any xProg du ru w hD hR hG wt3
  rw [pP_prog] at h
  exact h.mono (by rintro e w' ⟨rfl,m,-⟩;exact ⟨by unfold tv;simp only [ofS3],m⟩))
 have H4:Hid (∀ (w:World),GlobV w->Calls Tryz.prog 25 #[.agg #[.string { data:=#[115,117,109] },.slice none 0 0]] w (fun e w'=>e=.returned (.tuple #[.string ⟨#[]⟩,.int .i64 50])/\Mod [] w w')):=Hxq (fun w hG=>by
  have h:=Atom_any xSum (.slice none 0 0) w .nil hG wt4
  rw [pA_sum] at h
  exact h.mono (by rintro e w' ⟨rfl,m,-⟩;exact ⟨rfl,m⟩))
 go_enter Tryz.func7,Tryz.ntmps7
 go_wp2_with fail
 refine (one_is _).mono ?_
 rintro e1 w1 ⟨rfl,m1⟩
 have M1:=Hxq (Mod.alloc m1 (Obj.cells #[Value.int IntKind.i64 2,Value.string ⟨#[]⟩,Value.int IntKind.i64 1,Value.int IntKind.i64 1,Value.string ⟨#[]⟩,Value.int IntKind.i64 0,Value.slice none 0 0] 38))
 have E1:Hid (EOk (w1.alloc (Obj.cells #[Value.int IntKind.i64 2,Value.string ⟨#[]⟩,Value.int IntKind.i64 1,Value.int IntKind.i64 1,Value.string ⟨#[]⟩,Value.int IntKind.i64 0,Value.slice none 0 0] 38)) xNeg (.slice (some ⟨w1.heap.size,0,none⟩) 1 1)):=Hxq (eok_onerow w1 4 ⟨#[]⟩ Va.zero 6 xOne (.slice none 0 0) zOk (eok_one _))
 clear m1
 go_wp2_with fail
 refine (H1.out _ _ E1.out (HG.out.past M1.out (by simp))).mono ?_
 rintro e2 w2 ⟨rfl,m2⟩
 have M2:=Hxq (M1.out.trans m2 (by simp))
 clear m2 M1 E1
 go_wp2_with fail
 refine (name_is _ _).mono ?_
 rintro e3 w3 ⟨rfl,m3⟩
 have M3:=Hxq (M2.out.trans m3 (by simp))
 clear m3 M2
 go_wp2_with fail
 refine (name_is _ _).mono ?_
 rintro e4 w4 ⟨rfl,m4⟩
 have M4:=Hxq (M3.out.trans m4 (by simp))
 clear m4 M3
 go_wp2_with fail
 refine (one_is _).mono ?_
 rintro e5 w5 ⟨rfl,m5⟩
 have M5:=Hxq (Mod.alloc (M4.out.trans m5 (by simp)) (Obj.cells #[Value.int IntKind.i64 1,Value.string { data:=#[89] },Value.int IntKind.i64 0,Value.int IntKind.i64 0,Value.string ⟨#[]⟩,Value.int IntKind.i64 0,Value.slice none 0 0,Value.int IntKind.i64 2,Value.string ⟨#[]⟩,Value.int IntKind.i64 1,Value.int IntKind.i64 1,Value.string ⟨#[]⟩,Value.int IntKind.i64 0,Value.slice none 0 0] 38))
 have E5:Hid (EOk (w5.alloc (Obj.cells #[Value.int IntKind.i64 1,Value.string { data:=#[89] },Value.int IntKind.i64 0,Value.int IntKind.i64 0,Value.string ⟨#[]⟩,Value.int IntKind.i64 0,Value.slice none 0 0,Value.int IntKind.i64 2,Value.string ⟨#[]⟩,Value.int IntKind.i64 1,Value.int IntKind.i64 1,Value.string ⟨#[]⟩,Value.int IntKind.i64 0,Value.slice none 0 0] 38)) xAdd (.slice (some ⟨w5.heap.size,0,none⟩) 2 2)):=Hxq (eok_two w5 4 ⟨#[]⟩ Va.zero 1 (xName { data:=#[89] }) xOne (.slice none 0 0) (.slice none 0 0) zOk (eok_name _ _) (eok_one _))
 generalize hw6:w5.alloc (Obj.cells #[Value.int IntKind.i64 1,Value.string { data:=#[89] },Value.int IntKind.i64 0,Value.int IntKind.i64 0,Value.string ⟨#[]⟩,Value.int IntKind.i64 0,Value.slice none 0 0,Value.int IntKind.i64 2,Value.string ⟨#[]⟩,Value.int IntKind.i64 1,Value.int IntKind.i64 1,Value.string ⟨#[]⟩,Value.int IntKind.i64 0,Value.slice none 0 0] 38)=w6 at *
 have M6:=Hxq (Mod.alloc M5.out (Obj.cells #[Value.int IntKind.i64 1,Value.string { data:=#[88] },Value.int IntKind.i64 0,Value.int IntKind.i64 0,Value.string ⟨#[]⟩,Value.int IntKind.i64 0,Value.slice none 0 0,Value.int IntKind.i64 4,Value.string ⟨#[]⟩,Value.int IntKind.i64 0,Value.int IntKind.i64 0,Value.string ⟨#[]⟩,Value.int IntKind.i64 1,Value.slice (some ⟨w5.heap.size,0,none⟩) 2 2] 38))
 have E6:Hid (EOk (w6.alloc (Obj.cells #[Value.int IntKind.i64 1,Value.string { data:=#[88] },Value.int IntKind.i64 0,Value.int IntKind.i64 0,Value.string ⟨#[]⟩,Value.int IntKind.i64 0,Value.slice none 0 0,Value.int IntKind.i64 4,Value.string ⟨#[]⟩,Value.int IntKind.i64 0,Value.int IntKind.i64 0,Value.string ⟨#[]⟩,Value.int IntKind.i64 1,Value.slice (some ⟨w5.heap.size,0,none⟩) 2 2] 38)) xMul (.slice (some ⟨w6.heap.size,0,none⟩) 2 2)):=Hxq (eok_two w6 4 ⟨#[]⟩ Va.zero 3 (xName { data:=#[88] }) xAdd (.slice none 0 0) _ zOk (eok_name _ _) E5.out)
 have hz6:w6.heap.size=w5.heap.size+1:=by rw [<-hw6];simp
 rw [hz6] at E6
 subst hw6
 clear hz6
 clear m5 M4 M5 E5
 go_wp2_with fail
 refine (H2.out _ _ E6.out (HG.out.past M6.out (by simp))).mono ?_
 rintro e7 w7 ⟨rfl,m7⟩
 have M7:=Hxq (M6.out.trans m7 (by simp))
 clear m7 M6 E6
 have Y7:=Hxq (dat2 (w:=w7))
 have M8:=Hxq (Mod.alloc M7.out (Obj.cells #[Value.int IntKind.i64 1,Value.int IntKind.i64 2] 3))
 generalize hw8:w7.alloc (Obj.cells #[Value.int IntKind.i64 1,Value.int IntKind.i64 2] 3)=w8 at *
 have D8:=Hxq (dat3 Y7.out)
 have M9:=Hxq (Mod.alloc M8.out (Obj.cells #[Value.string { data:=#[112] },Value.slice (some ⟨w7.heap.size,0,none⟩) 2 2,Value.int IntKind.i64 0,Value.int IntKind.i64 0] 70))
 generalize hw9:w8.alloc (Obj.cells #[Value.string { data:=#[112] },Value.slice (some ⟨w7.heap.size,0,none⟩) 2 2,Value.int IntKind.i64 0,Value.int IntKind.i64 0] 70)=w9 at *
 have R9:=Hxq (dat4 (w:=w9))
 have D9:=Hxq (D8.out.past ((Mod.refl [] w9).alloc (Obj.cells #[Value.string { data:=#[113] },Value.slice none 0 0,Value.slice none 0 0,Value.int IntKind.i64 0,Value.int IntKind.i64 0] 63)))
 have M10:=Hxq (Mod.alloc M9.out (Obj.cells #[Value.string { data:=#[113] },Value.slice none 0 0,Value.slice none 0 0,Value.int IntKind.i64 0,Value.int IntKind.i64 0] 63))
 have hz8:w8.heap.size=w7.heap.size+1:=by rw [<-hw8];simp
 have hz9:w9.heap.size=w7.heap.size+1+1:=by rw [<-hw9,<-hz8];simp
 rw [hz8] at D9
 rw [hz9] at R9
 clear hz8 hz9
 subst hw9
 subst hw8
 clear Y7 M8 D8 M9 M7
 go_wp2_with fail
 refine (H3.out _ _ _ D9.out R9.out (HG.out.past M10.out (by simp))).mono ?_
 rintro e11 w11 ⟨rfl,m11⟩
 have M11:=Hxq (M10.out.trans m11 (by simp))
 clear m11 M10 D9 R9
 go_wp2_with fail
 refine (H4.out _ (HG.out.past M11.out (by simp))).mono ?_
 rintro e12 w12 ⟨rfl,m12⟩
 have M12:=Hxq (M11.out.trans m12 (by simp))
 clear m12 M11
 go_wp2_with fail
 go_ret
 exact ⟨rfl,M12.out⟩
end Go.Proofs.YtohnmnfhmbmoaaaGreatDoor
