/- THE TEXTS MERGED: RtWt RtByte SySize SyDeepQ SyBlankL. -/
import Derived.Test.YtohnmnfhmbmoaaaGreatDoorKF1
import Derived.Test.YtohnmnfhmbmoaaaGreatDoorKF37
import Derived.Test.YtohnmnfhmbmoaaaGreatDoorKF22
import Derived.Test.YtohnmnfhmbmoaaaGreatDoorKF18
import Derived.Test.YtohnmnfhmbmoaaaGreatDoorKF8
import Derived.Test.YtohnmnfhmbmoaaaGreatDoorKF20
import Derived.Test.YtohnmnfhmbmoaaaGreatDoorKF34
namespace Go.Proofs.YtohnmnfhmbmoaaaGreatDoor.Rt
open Lx (Tok Sq)
open Sy (sh Sh Env PR sign plain level txt must bodyF bodyOf litF aggOf expr exprF chainF constant fnOf cmpOf tyOf ex0 at0 progF)
open Pr (Ex Li Atom Term Rul Rel Prog)
open Cod (str)
set_option linter.unusedVariables false
set_option linter.unusedSimpArgs false
theorem txt_size (l:List Nat):(txt l).size=l.length:=by
 show (Lx.ofS l).size=_
 unfold Lx.ofS
 show ((l.map UInt8.ofNat).toArray).size=_
 simp
theorem WM.nlen {v:Env} (h:WM v) {i:Nat} (hp:plain (v.tk i)=true):(txt (v.tk i).text).size<=32:=by
 rw [txt_size]
 have:=h.name hp
 unfold Va.name Va.wordB at this
 simp only [Bool.and_eq_true,decide_eq_true_eq] at this
 exact this.2.2.1
theorem WM.vlen {v:Env} (h:WM v) {i:Nat} (hp:(v.tk i).kind=2):(txt (v.tk i).text).size<=32:=by
 rw [txt_size]
 have:=(h.m i).var hp
 unfold Va.variable_ Va.wordB at this
 simp only [Bool.and_eq_true,decide_eq_true_eq] at this
 exact this.2.1
theorem sign_lt {v:Env} {i:Nat} {s:List Nat} (h:sign (v.tk i) s=true):i<v.ws.length:=by
 apply Classical.byContradiction
 intro hn
 have:v.tk i=Sy.zT:=by
  unfold Env.tk
  rw [List.getD_eq_getElem?_getD,List.getElem?_eq_none (by omega)]
  rfl
 rw [this] at h
 unfold sign Sy.zT at h
 simp at h
theorem must_lt {v:Env} {s:List Nat} {i j:Nat} {u:Unit} (h:must v s i=.ok u j):j=i+1/\i<v.ws.length:=by
 unfold must at h
 split at h
 ·rename_i hs
  simp only [PR.ok.injEq] at h
  exact ⟨h.2.symm,sign_lt hs⟩
 ·cases h
theorem listF_wt {α:Type} {v:Env} {fin:List Nat} {one:Nat->PR α} {f:α->Nat} {C:Nat} (ho:∀ i a j,one i=.ok a j->i<j/\f a<=C * (j - i)):∀ (k:Nat) (acc:List α) (i:Nat) (l:List α) (j:Nat),Sy.listF v fin one k acc i=.ok l j->i<j/\(l.map f).sum<=(acc.map f).sum+C * (j - i):=by
 intro k
 induction k with
 | zero=>intro acc i l j h;unfold Sy.listF at h;cases h
 | succ k ih =>
  intro acc i l j h
  rw [Sy.listF] at h
  by_cases hs:sign (v.tk i) [44]=true
  ·rw [if_pos hs] at h
   cases hr:one (i+1) with
   | err f=>rw [hr] at h;cases h
   | ok a q =>
    rw [hr] at h
    simp only [PR.bind_ok] at h
    obtain ⟨h1,h2⟩:=ho _ _ _ hr
    obtain ⟨h3,h4⟩:=ih _ _ _ _ h
    refine ⟨by omega,?_⟩
    simp only [List.map_append,List.map_cons,List.map_nil,List.sum_append,List.sum_cons,List.sum_nil] at h4
    have e:C * (j - i)=C * (j - q)+C * (q - (i+1))+C * 1:=by rw [<-Nat.mul_add,<-Nat.mul_add];congr 1;omega
    omega
  ·rw [if_neg hs] at h
   cases hm:must v fin i with
   | err f=>rw [hm] at h;cases h
   | ok u q =>
    rw [hm] at h
    simp only [PR.bind_ok,PR.ok.injEq] at h
    obtain ⟨rfl,rfl⟩:=h
    have:=(must_lt hm).1
    exact ⟨by omega,Nat.le_add_right _ _⟩
theorem list_wt {α:Type} {v:Env} {fin:List Nat} {one:Nat->PR α} {f:α->Nat} {C:Nat} (ho:∀ i a j,one i=.ok a j->i<j/\f a<=C * (j - i)) {i:Nat} {l:List α} {j:Nat} (h:Sy.list v fin one i=.ok l j):i<j/\(l.map f).sum<=C * (j - i):=by
 unfold Sy.list at h
 split at h
 ·simp only [PR.ok.injEq] at h
  obtain ⟨rfl,rfl⟩:=h
  exact ⟨by omega,by simp⟩
 ·cases hr:one i with
  | err f=>rw [hr] at h;cases h
  | ok a q =>
   rw [hr] at h
   simp only [PR.bind_ok] at h
   obtain ⟨h1,h2⟩:=ho _ _ _ hr
   obtain ⟨h3,h4⟩:=listF_wt ho _ _ _ _ _ h
   simp only [List.map_cons,List.map_nil,List.sum_cons,List.sum_nil] at h4
   have e:C * (j - i)=C * (j - q)+C * (q - i):=by rw [<-Nat.mul_add];congr 1;omega
   exact ⟨by omega,by omega⟩
theorem constant_pos {v:Env} {i n:Nat} {c:Va.Val} (h:constant v i=some (c,n)):1<=n:=by
 unfold constant at h
 split at h
 ·simp only [Option.some.injEq,Prod.mk.injEq] at h;omega
 ·split at h
  ·simp only [Option.some.injEq,Prod.mk.injEq] at h;omega
  ·split at h
   ·simp only [Option.some.injEq,Prod.mk.injEq] at h;omega
   ·cases h
theorem term_wt {v:Env} (hw:WM v) {i j:Nat} {t:Term} (h:Sy.term v i=.ok t j):i<j/\t.v.size+300<=400 * (j - i):=by
 unfold Sy.term at h
 split at h
 ·rename_i hk
  simp only [PR.ok.injEq] at h
  obtain ⟨rfl,rfl⟩:=h
  have:=hw.vlen hk
  exact ⟨by omega,by simp only;omega⟩
 ·split at h
  ·simp only [PR.ok.injEq] at h
   obtain ⟨rfl,rfl⟩:=h
   have:=txt_size []
   simp only [List.length_nil] at this
   exact ⟨by omega,by simp only [this];omega⟩
  ·unfold Sy.value at h
   cases hc:constant v i with
   | none=>rw [hc] at h;cases h
   | some p =>
    obtain ⟨c,n⟩:=p
    rw [hc] at h
    simp only [PR.bind_ok,PR.ok.injEq] at h
    obtain ⟨rfl,rfl⟩:=h
    have:=txt_size []
    simp only [List.length_nil] at this
    have hn:=constant_pos hc
    exact ⟨by omega,by simp only [this];omega⟩
theorem atom_wt {v:Env} (hw:WM v) {i j:Nat} {a:Atom} (h:Sy.atom v i=.ok a j):i<j/\aWt a<=400 * (j - i):=by
 unfold Sy.atom Sy.name at h
 by_cases hp:plain (v.tk i)=true
 ·rw [if_pos hp] at h
  simp only [PR.bind_ok] at h
  cases hm:must v [40] (i+1) with
  | err f=>rw [hm] at h;cases h
  | ok u q0 =>
   rw [hm] at h
   simp only [PR.bind_ok] at h
   have:=(must_lt hm).1
   subst this
   cases hl:Sy.list v [41] (Sy.term v) (i+1+1) with
   | err f=>rw [hl] at h;cases h
   | ok l q =>
    rw [hl] at h
    simp only [PR.bind_ok,PR.ok.injEq] at h
    obtain ⟨rfl,rfl⟩:=h
    obtain ⟨h1,h2⟩:=list_wt (f:=fun t:Term=>t.v.size+300) (C:=400) (fun i a j h=>term_wt hw h) hl
    have:=hw.nlen hp
    unfold aWt tsWt
    exact ⟨by omega,by simp only;omega⟩
 ·rw [if_neg hp] at h;cases h
theorem exWt_mk (k:Int) (v:ByteArray) (x:Va.Val) (op:Int) (args:List Ex):exWt (.mk k v x op args)=v.size+300+exWts args:=by rw [exWt]
theorem exWts_one (a:Ex):exWts [a]=exWt a:=by rw [exWts,exWts];rfl
theorem exWts_two (a b:Ex):exWts [a,b]=exWt a+exWt b:=by rw [exWts,exWts_one]
theorem txt0:(txt []).size=0:=txt_size []
theorem exWt_ex0:exWt ex0=300:=by unfold ex0;rw [exWt_mk,txt0,exWts]
theorem aWt_at0:aWt at0=300:=by unfold aWt at0 tsWt;simp only;rw [txt0];rfl
theorem chain_wt {v:Env} {line above:Nat} {sub:Nat->Nat->PR (Ex × Nat)} (hsub:∀ ab i r d j,sub ab i=.ok (r,d) j->i<j/\exWt r<=400 * (j - i)) (s:Nat) :
  ∀ (k:Nat) (e:Ex) (d i:Nat) (r:Ex) (d' j:Nat),s<i->exWt e<=400 * (i - s)->chainF v line sub above k e d i=.ok (r,d') j->s<j/\exWt r<=400 * (j - s):=by
 intro k
 induction k with
 | zero=>intro e d i r d' j _ _ h;unfold chainF at h;cases h
 | succ k ih =>
  intro e d i r d' j hsi he h
  rw [chainF] at h
  split at h
  ·simp only [PR.ok.injEq,Prod.mk.injEq] at h
   obtain ⟨⟨rfl,rfl⟩,rfl⟩:=h
   exact ⟨hsi,he⟩
  ·split at h
   ·cases h
   ·cases hs:sub (above+1) (i+1) with
    | err f=>rw [hs] at h;cases h
    | ok p q =>
     obtain ⟨r1,d1⟩:=p
     rw [hs] at h
     simp only [PR.bind_ok] at h
     obtain ⟨h1,h2⟩:=hsub _ _ _ _ _ hs
     refine ih _ _ _ _ _ _ (by omega) ?_ h
     rw [exWt_mk,exWts_two,txt0]
     omega
theorem exprF_wt {v:Env} (hw:WM v):∀ (k line above i:Nat) (e:Ex) (d j:Nat),exprF v k line above i=.ok (e,d) j->i<j/\exWt e<=400 * (j - i):=by
 intro k
 induction k with
 | zero=>intro line above i e d j h;unfold exprF at h;cases h
 | succ k ih =>
  intro line above i e d j h
  rw [exprF] at h
  by_cases h3:line=3
  ·rw [if_pos h3] at h
   by_cases hv:(v.tk i).kind=2
   ·rw [if_pos hv] at h
    simp only [PR.ok.injEq,Prod.mk.injEq] at h
    obtain ⟨⟨rfl,rfl⟩,rfl⟩:=h
    have:=hw.vlen hv
    rw [exWt_mk,exWts]
    exact ⟨by omega,by omega⟩
   ·rw [if_neg hv] at h
    cases hc:constant v i with
    | some p =>
     obtain ⟨c,n⟩:=p
     rw [hc] at h
     simp only [PR.ok.injEq,Prod.mk.injEq] at h
     obtain ⟨⟨rfl,rfl⟩,rfl⟩:=h
     have:=constant_pos hc
     rw [exWt_mk,exWts,txt0]
     exact ⟨by omega,by omega⟩
    | none =>
     rw [hc] at h
     simp only at h
     by_cases hs:sign (v.tk i) [45]=true
     ·rw [if_pos hs] at h
      split at h
      ·cases h
      ·cases hr:exprF v k 3 (above+1) (i+1) with
       | err f=>rw [hr] at h;cases h
       | ok p q =>
        obtain ⟨r1,d1⟩:=p
        rw [hr] at h
        simp only [PR.bind_ok,PR.ok.injEq,Prod.mk.injEq] at h
        obtain ⟨⟨rfl,rfl⟩,rfl⟩:=h
        obtain ⟨h1,h2⟩:=ih _ _ _ _ _ _ hr
        rw [exWt_mk,exWts_one,txt0]
        exact ⟨by omega,by omega⟩
     ·rw [if_neg hs] at h
      split at h
      ·cases h
      ·cases hm:must v [40] i with
       | err f=>rw [hm] at h;cases h
       | ok u q0 =>
        rw [hm] at h
        simp only [PR.bind_ok] at h
        have:=(must_lt hm).1
        cases hr:exprF v k 1 (above+1) q0 with
        | err f=>rw [hr] at h;cases h
        | ok p q =>
         obtain ⟨r1,d1⟩:=p
         rw [hr] at h
         simp only [PR.bind_ok] at h
         cases hm2:must v [41] q with
         | err f=>rw [hm2] at h;cases h
         | ok u2 q2 =>
          rw [hm2] at h
          simp only [PR.bind_ok,PR.ok.injEq,Prod.mk.injEq] at h
          obtain ⟨⟨rfl,rfl⟩,rfl⟩:=h
          have:=(must_lt hm2).1
          obtain ⟨h1,h2⟩:=ih _ _ _ _ _ _ hr
          exact ⟨by omega,by omega⟩
  ·rw [if_neg h3] at h
   cases hr:exprF v k (line+1) above i with
   | err f=>rw [hr] at h;cases h
   | ok p q =>
    obtain ⟨r1,d1⟩:=p
    rw [hr] at h
    simp only [PR.bind_ok] at h
    obtain ⟨h1,h2⟩:=ih _ _ _ _ _ _ hr
    exact chain_wt (fun ab i r d j hs=>ih _ _ _ _ _ _ hs) i _ _ _ _ _ _ _ h1 h2 h
theorem expr_wt {v:Env} (hw:WM v) {i j:Nat} {e:Ex} (h:expr v i=.ok e j):i<j/\exWt e<=400 * (j - i):=by
 unfold expr at h
 cases hr:exprF v 60 1 0 i with
 | err f=>rw [hr] at h;cases h
 | ok p q =>
  obtain ⟨r1,d1⟩:=p
  rw [hr] at h
  simp only [PR.bind_ok,PR.ok.injEq] at h
  obtain ⟨rfl,rfl⟩:=h
  exact exprF_wt hw _ _ _ _ _ _ _ hr
theorem lsWt_sum (l:List Li):lsWt l=(l.map lWt).sum:=by
 induction l with
 | nil=>rw [lsWt];rfl
 | cons a r ih=>rw [lsWt,ih];simp
theorem bodyF_wt {v:Env} {one:Nat->PR Li} {C:Nat} (ho:∀ i a j,one i=.ok a j->i<j/\lWt a<=C * (j - i)):∀ (k:Nat) (acc:List Li) (i:Nat) (l:List Li) (j:Nat),bodyF v one k acc i=.ok l j->i<=j/\lsWt l<=lsWt acc+C * (j - i):=by
 intro k
 induction k with
 | zero=>intro acc i l j h;unfold bodyF at h;cases h
 | succ k ih =>
  intro acc i l j h
  rw [bodyF] at h
  split at h
  ·cases hr:one (i+1) with
   | err f=>rw [hr] at h;cases h
   | ok a q =>
    rw [hr] at h
    simp only [PR.bind_ok] at h
    obtain ⟨h1,h2⟩:=ho _ _ _ hr
    obtain ⟨h3,h4⟩:=ih _ _ _ _ h
    rw [lsWt_sum (acc++[a]),lsWt_sum l] at h4
    rw [lsWt_sum,lsWt_sum]
    simp only [List.map_append,List.map_cons,List.map_nil,List.sum_append,List.sum_cons,List.sum_nil] at h4
    have e:C * (j - i)=C * (j - q)+C * (q - (i+1))+C * 1:=by rw [<-Nat.mul_add,<-Nat.mul_add];congr 1;omega
    exact ⟨by omega,by omega⟩
  ·simp only [PR.ok.injEq] at h
   obtain ⟨rfl,rfl⟩:=h
   exact ⟨by omega,Nat.le_add_right _ _⟩
theorem bodyOf_wt {v:Env} {one:Nat->PR Li} {C:Nat} (ho:∀ i a j,one i=.ok a j->i<j/\lWt a<=C * (j - i)) {i:Nat} {l:List Li} {j:Nat} (h:bodyOf v one i=.ok l j):i<j/\lsWt l<=C * (j - i):=by
 unfold bodyOf at h
 cases hr:one i with
 | err f=>rw [hr] at h;cases h
 | ok a q =>
  rw [hr] at h
  simp only [PR.bind_ok] at h
  obtain ⟨h1,h2⟩:=ho _ _ _ hr
  obtain ⟨h3,h4⟩:=bodyF_wt ho _ _ _ _ _ h
  rw [lsWt_sum [a]] at h4
  simp only [List.map_cons,List.map_nil,List.sum_cons,List.sum_nil] at h4
  have e:C * (j - i)=C * (j - q)+C * (q - i):=by rw [<-Nat.mul_add];congr 1;omega
  exact ⟨by omega,by omega⟩
theorem lWt_mk (k:Int) (a:Atom) (op:Int) (l r:Ex) (fn:Int) (av:ByteArray) (of:Ex) (body:List Li) (ln cl:Int):lWt (.mk k a op l r fn av of body ln cl)=aWt a+exWt l+exWt r+exWt of+av.size+1000+lsWt body:=by rw [lWt]
theorem lsWt_nil:lsWt []=0:=by rw [lsWt]
theorem litF_wt {v:Env} (hw:WM v):∀ (k br i:Nat) (l:Li) (j:Nat),litF v k br i=.ok l j->i<j/\lWt l<=2500 * (j - i):=by
 intro k
 induction k with
 | zero=>intro br i l j h;unfold litF at h;cases h
 | succ k ih =>
  intro br i l j h
  rw [litF] at h
  split at h
  ·cases ha:Sy.atom v (i+1) with
   | err f=>rw [ha] at h;cases h
   | ok a q =>
    rw [ha] at h
    simp only [PR.bind_ok,PR.ok.injEq] at h
    obtain ⟨rfl,rfl⟩:=h
    obtain ⟨h1,h2⟩:=atom_wt hw ha
    rw [lWt_mk,exWt_ex0,txt0,lsWt_nil]
    exact ⟨by omega,by omega⟩
  ·split at h
   ·cases ha:Sy.atom v i with
    | err f=>rw [ha] at h;cases h
    | ok a q =>
     rw [ha] at h
     simp only [PR.bind_ok,PR.ok.injEq] at h
     obtain ⟨rfl,rfl⟩:=h
     obtain ⟨h1,h2⟩:=atom_wt hw ha
     rw [lWt_mk,exWt_ex0,txt0,lsWt_nil]
     exact ⟨by omega,by omega⟩
   ·split at h
    ·rename_i hcond
     have hvar:=hw.vlen hcond.1
     cases hg:aggOf v (litF v k (br+1)) br i with
     | err f=>rw [hg] at h;cases h
     | ok g q =>
      rw [hg] at h
      simp only [PR.bind_ok,PR.ok.injEq] at h
      obtain ⟨rfl,rfl⟩:=h
      unfold aggOf at hg
      split at hg
      ·cases hg
      ·cases h1:must v [123] (i+3) with
       | err f=>rw [h1] at hg;cases hg
       | ok u q0 =>
        rw [h1] at hg
        simp only [PR.bind_ok] at hg
        have e0:=(must_lt h1).1
        have tail:∀ (o:Ex) (q1:Nat),q0<=q1->exWt o<=300+400 * (q1 - q0) ->
          ((bodyOf v (litF v k (br+1)) q1).bind fun b j=>(must v [125] j).bind fun _ j=>.ok (⟨(fnOf (v.tk (i+2)):Nat),txt (v.tk i).text,o,b⟩:Sy.Ag) j)=.ok g q ->
          i<q/\lWt (.mk 4 at0 0 ex0 ex0 g.fn g.av g.of g.body (v.tk i).line (v.tk i).col)<=2500 * (q - i):=by
         intro o q1 hq hO hB
         cases hbd:bodyOf v (litF v k (br+1)) q1 with
         | err f=>rw [hbd] at hB;cases hB
         | ok b q2 =>
          rw [hbd] at hB
          simp only [PR.bind_ok] at hB
          cases h2:must v [125] q2 with
          | err f=>rw [h2] at hB;cases hB
          | ok u q3 =>
           rw [h2] at hB
           simp only [PR.bind_ok,PR.ok.injEq] at hB
           obtain ⟨rfl,rfl⟩:=hB
           have e2:=(must_lt h2).1
           obtain ⟨h3,h4⟩:=bodyOf_wt (fun i a j h=>ih (br+1) i a j h) hbd
           rw [lWt_mk,exWt_ex0,aWt_at0]
           simp only
           exact ⟨by omega,by omega⟩
        by_cases hf:fnOf (v.tk (i+2))≠1
        ·rw [if_pos hf] at hg
         cases he:expr v q0 with
         | err f=>rw [he] at hg;cases hg
         | ok e q1 =>
          rw [he] at hg
          simp only [PR.bind_ok] at hg
          cases h2:must v [58] q1 with
          | err f=>rw [h2] at hg;cases hg
          | ok u q2 =>
           rw [h2] at hg
           simp only [PR.bind_ok] at hg
           obtain ⟨h3,h4⟩:=expr_wt hw he
           have e2:=(must_lt h2).1
           exact tail e q2 (by omega) (by omega) hg
        ·rw [if_neg hf] at hg
         simp only [PR.bind_ok] at hg
         exact tail ex0 q0 (by omega) (by rw [exWt_ex0];omega) hg
    ·cases hl:expr v i with
     | err f=>rw [hl] at h;cases h
     | ok l1 q =>
      rw [hl] at h
      simp only [PR.bind_ok] at h
      split at h
      ·cases h
      ·cases hr:expr v (q+1) with
       | err f=>rw [hr] at h;cases h
       | ok r1 q2 =>
        rw [hr] at h
        simp only [PR.bind_ok,PR.ok.injEq] at h
        obtain ⟨rfl,rfl⟩:=h
        obtain ⟨h1,h2⟩:=expr_wt hw hl
        obtain ⟨h3,h4⟩:=expr_wt hw hr
        rw [lWt_mk,exWt_ex0,aWt_at0,txt0,lsWt_nil]
        exact ⟨by omega,by omega⟩
theorem rule_wt {v:Env} (hw:WM v) {i j:Nat} {r:Rul} (h:Sy.rule v i=.ok r j):i<j/\rWt r+2<=2500 * (j - i):=by
 unfold Sy.rule at h
 cases ha:Sy.atom v i with
 | err f=>rw [ha] at h;cases h
 | ok a q =>
  rw [ha] at h
  simp only [PR.bind_ok] at h
  obtain ⟨h1,h2⟩:=atom_wt hw ha
  by_cases hm:sign (v.tk q) [58,45]=true
  ·rw [if_pos hm] at h
   unfold Sy.body at h
   cases hbd:bodyOf v (Sy.lit v 0) (q+1) with
   | err f=>rw [hbd] at h;cases h
   | ok b q1 =>
    rw [hbd] at h
    simp only [PR.bind_ok,PR.ok.injEq] at h
    obtain ⟨rfl,rfl⟩:=h
    obtain ⟨h3,h4⟩:=bodyOf_wt (fun i a j h=>litF_wt hw 18 0 i a j h) hbd
    unfold rWt
    simp only
    exact ⟨by omega,by omega⟩
  ·rw [if_neg hm] at h
   simp only [PR.bind_ok,PR.ok.injEq] at h
   obtain ⟨rfl,rfl⟩:=h
   unfold rWt
   simp only
   rw [lsWt_nil]
   exact ⟨by omega,by omega⟩
theorem ty_wt {v:Env} {i j:Nat} {t:Int} (h:Sy.ty v i=.ok t j):i<j/\1<=1 * (j - i):=by
 unfold Sy.ty at h
 split at h
 ·cases h
 ·simp only [PR.ok.injEq] at h
  obtain ⟨-,rfl⟩:=h
  exact ⟨by omega,by omega⟩
theorem sum_ones:∀ (l:List Int),(l.map (fun _:Int=>1)).sum=l.length
 | []=>rfl
 | a :: r=>by
  have:=sum_ones r
  rw [List.map_cons,List.sum_cons,List.length_cons,this]
  omega
theorem rel_wt {v:Env} (hw:WM v) {i j:Nat} {x:Rel} (h:Sy.relation v i=.ok x j):i<j/\dWt x+2<=2500 * (j - i):=by
 unfold Sy.relation Sy.name at h
 by_cases hp:plain (v.tk i)=true
 ·rw [if_pos hp] at h
  simp only [PR.bind_ok] at h
  cases hm:must v [40] (i+1) with
  | err f=>rw [hm] at h;cases h
  | ok u q0 =>
   rw [hm] at h
   simp only [PR.bind_ok] at h
   have:=(must_lt hm).1
   subst this
   cases hl:Sy.list v [41] (Sy.ty v) (i+1+1) with
   | err f=>rw [hl] at h;cases h
   | ok l q =>
    rw [hl] at h
    simp only [PR.bind_ok,PR.ok.injEq] at h
    obtain ⟨rfl,rfl⟩:=h
    obtain ⟨h1,h2⟩:=list_wt (f:=fun _:Int=>1) (C:=1) (fun i a j h=>ty_wt h) hl
    have:=hw.nlen hp
    have hs:=sum_ones l
    rw [hs] at h2
    unfold dWt
    simp only
    exact ⟨by omega,by omega⟩
 ·rw [if_neg hp] at h;cases h
theorem progF_wt {v:Env} (hw:WM v):∀ (k:Nat) (p:Prog) (i:Nat) (q:Prog) (j:Nat),i<=v.ws.length->dsWt p.rels+rsWt p.rules<=2500 * i->progF v k p i=.ok q j->dsWt q.rels+rsWt q.rules<=2500 * v.ws.length:=by
 intro k
 induction k with
 | zero=>intro p i q j _ _ h;unfold progF at h;cases h
 | succ k ih =>
  intro p i q j hi hp h
  rw [progF] at h
  split at h
  ·split at h
   ·cases hr:Sy.relation v (i+1) with
    | err f=>rw [hr] at h;cases h
    | ok x q1 =>
     rw [hr] at h
     simp only [PR.bind_ok] at h
     cases h2:must v [46] q1 with
     | err f=>rw [h2] at h;cases h
     | ok u q2 =>
      rw [h2] at h
      simp only [PR.bind_ok] at h
      have e2:=must_lt h2
      obtain ⟨h3,h4⟩:=rel_wt hw hr
      refine ih ⟨p.rels++[x],p.rules⟩ _ _ _ (by omega) ?_ h
      unfold dsWt at hp ⊢
      simp only [List.map_append,List.map_cons,List.map_nil,List.sum_append,List.sum_cons,List.sum_nil]
      omega
   ·cases hr:Sy.rule v i with
    | err f=>rw [hr] at h;cases h
    | ok x q1 =>
     rw [hr] at h
     simp only [PR.bind_ok] at h
     cases h2:must v [46] q1 with
     | err f=>rw [h2] at h;cases h
     | ok u q2 =>
      rw [h2] at h
      simp only [PR.bind_ok] at h
      have e2:=must_lt h2
      obtain ⟨h3,h4⟩:=rule_wt hw hr
      refine ih ⟨p.rels,p.rules++[x]⟩ _ _ _ (by omega) ?_ h
      unfold rsWt at hp ⊢
      simp only [List.map_append,List.map_cons,List.map_nil,List.sum_append,List.sum_cons,List.sum_nil]
      omega
  ·simp only [PR.ok.injEq] at h
   obtain ⟨rfl,-⟩:=h
   omega
/-- a program that was read of a text is light -/
theorem prog_wt {s:List Nat} (hb:∀ c∈s,c<256) {q:Prog} {j:Nat} (h:Sy.whole (Sy.envOf s) (Sy.prog (Sy.envOf s))=.ok q j):dsWt q.rels+rsWt q.rules<=163840000:=by
 unfold Sy.whole Sy.prog at h
 cases hr:progF (Sy.envOf s) ((Sy.envOf s).ws.length+1) ⟨[],[]⟩ 0 with
 | err f=>rw [hr] at h;cases h
 | ok p i =>
  rw [hr] at h
  simp only [PR.bind_ok] at h
  split at h
  ·cases h
  ·simp only [PR.ok.injEq] at h
   obtain ⟨rfl,-⟩:=h
   have:=progF_wt (wm_of s hb) _ ⟨[],[]⟩ 0 _ _ (Nat.zero_le _) (show dsWt []+rsWt []<=2500 * 0 from Nat.le_refl 0) hr
   have:=(Sy.env_toks s hb).2
   omega
open Pr
def By (l:List Nat):Prop:=∀ c∈l,c<256
theorem By.nil:By []:=fun c h=>by cases h
theorem By.cons {a:Nat} {l:List Nat} (ha:a<256) (h:By l):By (a :: l):=fun c hc=>by
 rcases List.mem_cons.1 hc with rfl | hc
 ·exact ha
 ·exact h c hc
theorem By.app {a b:List Nat} (ha:By a) (hb:By b):By (a++b):=fun c hc=>(List.mem_append.1 hc).elim (ha c) (hb c)
theorem By.str (s:ByteArray):By (Cod.str s):=Cod.str_lt s
theorem by_qb {c:Nat} (hc:c<256):By (Va.qb c):=by
 have:∀ c:_root_.Fin 256,∀ x∈Va.qb c.val,x<256:=by decide +kernel
 exact this ⟨c,hc⟩
theorem by_text {v:Va.Val} (hb:By v.s):By (Va.text v):=by
 unfold Va.text
 split
 ·exact Va.itoa_lt _
 ·split
  ·exact hb
  ·unfold Va.quoted
   intro c hc
   simp only [List.mem_append,List.mem_cons,List.mem_flatMap,List.not_mem_nil,or_false] at hc
   rcases hc with rfl | ⟨y,hy,hx⟩ | rfl
   ·decide
   ·exact by_qb (hb y hy) c hx
   ·decide
theorem by_sign (op:Int):By (Pr.sign op):=by
 unfold Pr.sign By
 (repeat' split) <;> decide
theorem by_cmp (op:Int):By (Pr.cmp op):=by
 unfold Pr.cmp By
 (repeat' split) <;> decide
theorem by_word (fn:Int):By (Pr.word fn):=by
 unfold Pr.word By
 (repeat' split) <;> decide
theorem by_wrap {o:Option (List Nat)} (h:∀ t,o=some t->By t) {t:List Nat} (e:o.map (fun t=>40 :: (t++[41]))=some t):By t:=by
 obtain ⟨x,hx,rfl⟩:=Option.map_eq_some_iff.1 e
 exact .cons (by decide) (.app (h x hx) (.cons (by decide) .nil))
theorem pO_by (j:Nat) (ih:∀ m,m<j+2->∀ (e:Ex) (t:List Nat),ExO e->pE m e=some t->By t) (e:Ex) (ha:∀ a∈e.args,ExO a) (t:List Nat) (h:pO (j+1) e=some t):By t:=by
 rw [pO] at h
 split at h
 ·rename_i a he
  have hA:=ha a (by rw [he];simp)
  split at h
  ·obtain ⟨y,hy,rfl⟩:=Option.map_eq_some_iff.1 h
   refine .cons (by decide) (.app ?_ ?_)
   ·split
    ·exact .cons (by decide) .nil
    ·exact .nil
   ·split at hy
    ·exact by_wrap (fun t ht=>ih j (by omega) a t hA ht) hy
    ·exact ih (j+1) (by omega) a y hA hy
  ·cases h
 ·rename_i a b he
  have hA:=ha a (by rw [he];simp)
  have hB:=ha b (by rw [he];simp)
  split at h
  ·cases h
  ·split at h
   ·rename_i l r e1 e2
    cases h
    refine .app ?_ (.cons (by decide) (.app (by_sign _) (.cons (by decide) ?_)))
    ·split at e1
     ·exact by_wrap (fun t ht=>ih j (by omega) a t hA ht) e1
     ·exact ih (j+1) (by omega) a _ hA e1
    ·split at e2
     ·exact by_wrap (fun t ht=>ih j (by omega) b t hB ht) e2
     ·exact ih (j+1) (by omega) b _ hB e2
   ·cases h
 ·cases h
theorem ExO.x {e:Ex} (h:ExO e):By e.x.s:=by cases h with | mk hx ha=>exact hx
theorem ExO.args {e:Ex} (h:ExO e):∀ a∈e.args,ExO a:=by cases h with | mk hx ha=>exact ha
theorem pE_by:∀ (k:Nat) (e:Ex) (t:List Nat),ExO e->pE k e=some t->By t:=by
 intro k
 induction k using Nat.strongRecOn with
 | ind k ih =>
  intro e t hO h
  cases k with
  | zero=>simp [pE] at h
  | succ k =>
   by_cases h1:e.k=1
   ·rw [pE_var _ _ h1] at h
    split at h
    ·cases h;exact .str _
    ·cases h
   ·by_cases h2:e.k=2
    ·rw [pE_val _ _ h2] at h
     split at h
     ·cases h;exact by_text hO.x
     ·cases h
    ·by_cases h4:e.k=4
     ·rw [pE_op _ _ h4] at h
      split at h
      ·cases k with
       | zero=>simp [pO] at h
       | succ j=>exact pO_by j (fun m hm=>ih m (by omega)) e hO.args t h
      ·cases h
     ·rw [pE_other _ e h1 h2 h4] at h
      cases h
theorem seqO_by {α:Type} {f:α->Option (List Nat)}:∀ (l:List α),(∀ x∈l,∀ t,f x=some t->By t)->∀ ls,seqO (l.map f)=some ls->∀ t∈ls,By t
 | [],_,ls,h,t,ht=>by simp [seqO] at h;subst h;cases ht
 | x :: r,hf,ls,h,t,ht=>by
  simp only [List.map_cons,seqO] at h
  split at h
  ·rename_i a l e1 e2
   cases h
   rcases List.mem_cons.1 ht with rfl | ht
   ·exact hf x (by simp) _ e1
   ·exact seqO_by r (fun y hy=>hf y (List.mem_cons_of_mem _ hy)) l e2 t ht
  ·cases h
theorem by_commas:∀ (ls:List (List Nat)),(∀ t∈ls,By t)->By (commas ls)
 | [],_=>by simp [commas,By]
 | [a],h=>by simpa [commas] using h a (by simp)
 | a :: b :: r,h=>by
  have ih:=by_commas (b :: r) (fun t ht=>h t (List.mem_cons_of_mem _ ht))
  have e:commas (a :: b :: r)=a++([44,32]++commas (b :: r)):=by simp [commas,List.intercalate]
  rw [e]
  exact .app (h a (by simp)) (.app (.cons (by decide) (.cons (by decide) .nil)) ih)
theorem pT_by {t:Term} (hb:By t.x.s) {s:List Nat} (h:pT t=some s):By s:=by
 unfold pT at h
 repeat' split at h
 all_goals first | (cases h;done) | (cases h;exact .str _) | (cases h;exact by_text hb) | (cases h;exact .cons (by decide) .nil)
theorem pA_by {a:Atom} (hb:∀ t∈a.terms,By t.x.s) {s:List Nat} (h:pA a=some s):By s:=by
 unfold pA at h
 split at h
 ·obtain ⟨ls,hl,rfl⟩:=Option.map_eq_some_iff.1 h
  exact .app (.str _) (.cons (by decide) (.app (by_commas _ (seqO_by _ (fun t ht s hs=>pT_by (hb t ht) hs) _ hl)) (.cons (by decide) .nil)))
 ·cases h
theorem by_lit {l:List Nat} (h:l.all (·<256)=true):By l:=fun c hc=>by simpa using List.all_eq_true.1 h c hc
theorem pL_by:∀ (b:Nat) (li:Li) (t:List Nat),LiO li->pL b li=some t->By t:=by
 intro b
 induction b with
 | zero =>
  intro li t hO h
  cases hO with
  | mk ha hl hr ho hb =>
   rw [pL.eq_def] at h
   simp only at h
   repeat' split at h
   all_goals first
    | (cases h;done)
    | exact pA_by ha h
    | (obtain ⟨x,hx,rfl⟩:=Option.map_eq_some_iff.1 h;exact .app (by_lit (by decide)) (pA_by ha hx))
    | (rename_i e1 e2;cases h;exact .app (pE_by _ _ _ hl e1) (.app (by_cmp _) (pE_by _ _ _ hr e2)))
 | succ c ih =>
  intro li t hO h
  cases hO with
  | mk ha hl hr ho hb =>
   rw [pL.eq_def] at h
   simp only at h
   repeat' split at h
   all_goals first
    | (cases h;done)
    | exact pA_by ha h
    | (obtain ⟨x,hx,rfl⟩:=Option.map_eq_some_iff.1 h;exact .app (by_lit (by decide)) (pA_by ha hx))
    | (rename_i e1 e2;cases h;exact .app (pE_by _ _ _ hl e1) (.app (by_cmp _) (pE_by _ _ _ hr e2)))
    | skip
   all_goals (
    rename_i e1 e2
    cases h
    have h2:=by_commas _ (seqO_by _ (fun x hx s hs=>ih x s (hb x hx) hs) _ e2)
    refine .app (.str _) (.app (by_lit (by decide)) (.app (by_word _) (.app (by_lit (by decide)) (.app ?_ (.app h2 (by_lit (by decide)))))))
    first
     | (cases e1;exact .nil)
     | (obtain ⟨x,hx,rfl⟩:=Option.map_eq_some_iff.1 e1;exact .app (pE_by _ _ _ ho hx) (by_lit (by decide)))
     | (split at e1 <;> first | (cases e1;done) | (cases e1;exact .nil) | (obtain ⟨x,hx,rfl⟩:=Option.map_eq_some_iff.1 e1;exact .app (pE_by _ _ _ ho hx) (by_lit (by decide))) | (split at e1 <;> first | (cases e1;done) | (cases e1;exact .nil))))
theorem pR_by {r:Rul} (hO:RuO r) {t:List Nat} (h:pR r=some t):By t:=by
 unfold pR at h
 split at h
 ·cases h
 ·rename_i x e
  have hA:=pA_by hO.1 e
  split at h
  ·cases h;exact hA
  ·obtain ⟨y,hy,rfl⟩:=Option.map_eq_some_iff.1 h
   unfold pB at hy
   obtain ⟨ls,hl,rfl⟩:=Option.map_eq_some_iff.1 hy
   exact .app hA (.app (by_lit (by decide)) (by_commas _ (seqO_by _ (fun x hx s hs=>pL_by 16 x s (hO.2 x hx) hs) _ hl)))
theorem pD_by {x:Rel} {t:List Nat} (h:pD x=some t):By t:=by
 unfold pD at h
 split at h
 ·obtain ⟨ls,hl,rfl⟩:=Option.map_eq_some_iff.1 h
  refine .app (by_lit (by decide)) (.app (.str _) (.cons (by decide) (.app (by_commas _ (seqO_by _ (fun y hy s hs=>?_) _ hl)) (.cons (by decide) .nil))))
  unfold pTy at hs
  repeat' split at hs
  all_goals first | (cases hs;done) | (cases hs;exact by_lit (by decide))
 ·cases h
theorem by_lines:∀ (ls:List (List Nat)),(∀ t∈ls,By t)->By (lines ls):=fun ls h c hc=>by
 obtain ⟨l,hl,hx⟩:=List.mem_flatMap.1 hc
 exact By.app (h l hl) (by_lit (by decide)) c hx
theorem pP_by {p:Prog} (hO:PgO p) {t:List Nat} (h:pP p=some t):By t:=by
 unfold pP at h
 split at h
 ·rename_i a b e1 e2
  cases h
  exact .app (by_lines _ (seqO_by _ (fun x hx s hs=>pD_by hs) _ e1)) (by_lines _ (seqO_by _ (fun r hr s hs=>pR_by (hO r hr) hs) _ e2))
 ·cases h
end Go.Proofs.YtohnmnfhmbmoaaaGreatDoor.Rt
namespace Go.Proofs.YtohnmnfhmbmoaaaGreatDoor.Sy
open Pr (Ex Li Atom Rul Rel Prog)
set_option linter.unusedVariables false
theorem listF_len {α:Type} {v:Env} {fin:List Nat} {one:Nat->PR α}:∀ (k:Nat) (acc:List α) (i:Nat) (l:List α) (j:Nat),listF v fin one k acc i=.ok l j->l.length<=acc.length+k
 | 0,acc,i,l,j,h=>by cases h
 | k+1,acc,i,l,j,h=>by
  rw [listF] at h
  split at h
  ·obtain ⟨a,m,-,h2⟩:=bind_ok h
   have:=listF_len k _ _ l j h2
   simp at this
   omega
  ·obtain ⟨a,m,-,h2⟩:=bind_ok h
   cases h2
   omega
theorem list_len {α:Type} {v:Env} {fin:List Nat} {one:Nat->PR α} {i:Nat} {l:List α} {j:Nat} (h:list v fin one i=.ok l j):l.length<=v.ws.length+2:=by
 unfold list at h
 split at h
 ·cases h;simp
 ·obtain ⟨a,m,-,h2⟩:=bind_ok h
  have:=listF_len _ _ _ l j h2
  simp at this
  omega
theorem atom_len {v:Env} {i:Nat} {a:Atom} {j:Nat} (h:atom v i=.ok a j):a.terms.length<=v.ws.length+2:=by
 unfold atom at h
 obtain ⟨t,m,-,h⟩:=bind_ok h
 obtain ⟨_,m2,-,h⟩:=bind_ok h
 obtain ⟨l,m3,h1,h⟩:=bind_ok h
 cases h
 exact list_len h1
theorem chain_M {v:Env} {line:Nat} {sub:Nat->Nat->PR (Ex × Nat)} {above:Nat} (hs:∀ ab i r j,sub ab i=.ok r j->exM r.1<=2):∀ (n:Nat) (e:Ex) (d i:Nat) (r:Ex × Nat) (j:Nat),exM e<=2->chainF v line sub above n e d i=.ok r j->exM r.1<=2
 | 0,e,d,i,r,j,he,h=>by cases h
 | n+1,e,d,i,r,j,he,h=>by
  rw [chainF] at h
  split at h
  ·cases h;exact he
  ·split at h
   ·cases h
   ·obtain ⟨x,m,h1,h2⟩:=bind_ok h
    have:=hs _ _ _ _ h1
    exact chain_M hs n _ _ m r j (by simp [exM,exMs];omega) h2
theorem expr_M (v:Env):∀ (n line above i:Nat) (r:Ex × Nat) (j:Nat),exprF v n line above i=.ok r j->exM r.1<=2
 | 0,line,above,i,r,j,h=>by cases h
 | n+1,line,above,i,r,j,h=>by
  rw [exprF] at h
  split at h
  ·split at h
   ·cases h;simp [exM,exMs]
   ·split at h
    ·cases h;simp [exM,exMs]
    ·split at h
     ·split at h
      ·cases h
      ·obtain ⟨x,m,h1,h2⟩:=bind_ok h
       cases h2
       have:=expr_M v n _ _ _ _ _ h1
       simp [exM,exMs];omega
     ·split at h
      ·cases h
      ·obtain ⟨_,m,-,h⟩:=bind_ok h
       obtain ⟨x,m2,h1,h⟩:=bind_ok h
       obtain ⟨_,m3,-,h⟩:=bind_ok h
       cases h
       exact expr_M v n _ _ _ x _ h1
  ·obtain ⟨x,m,h1,h2⟩:=bind_ok h
   exact chain_M (fun ab i r j=>expr_M v n _ ab i r j) _ _ _ m r j (expr_M v n _ _ _ _ _ h1) h2
theorem expr_M1 {v:Env} {i:Nat} {e:Ex} {j:Nat} (h:expr v i=.ok e j):exM e<=2:=by
 unfold expr at h
 obtain ⟨x,m,h1,h2⟩:=bind_ok h
 cases h2
 exact expr_M v _ _ _ _ _ _ h1
theorem liMs_snoc (acc:List Li) (a:Li):liMs (acc++[a])=max (liMs acc) (liM a):=by
 induction acc with
 | nil=>simp [liMs]
 | cons x r ih=>simp only [List.cons_append,liMs,ih];omega
theorem body_M {v:Env} {one:Nat->PR Li} {B:Nat} (h1:∀ i a j,one i=.ok a j->liM a<=B):∀ (k:Nat) (acc:List Li) (i:Nat) (l:List Li) (j:Nat),liMs acc<=B->bodyF v one k acc i=.ok l j->liMs l<=B/\l.length<=acc.length+k
 | 0,acc,i,l,j,ha,h=>by cases h
 | k+1,acc,i,l,j,ha,h=>by
  rw [bodyF] at h
  split at h
  ·obtain ⟨a,m,h2,h3⟩:=bind_ok h
   have:=body_M h1 k _ _ l j (by rw [liMs_snoc];have:=h1 _ _ _ h2;omega) h3
   refine ⟨this.1,?_⟩
   have h4:=this.2
   simp at h4
   omega
  ·cases h
   exact ⟨ha,by omega⟩
theorem bodyOf_M {v:Env} {one:Nat->PR Li} {B:Nat} (h1:∀ i a j,one i=.ok a j->liM a<=B) {i:Nat} {l:List Li} {j:Nat} (h:bodyOf v one i=.ok l j):liMs l<=B/\l.length<=v.ws.length+2:=by
 unfold bodyOf at h
 obtain ⟨a,m,h2,h3⟩:=bind_ok h
 have:=body_M h1 _ _ _ l j (by simp only [liMs];have:=h1 _ _ _ h2;omega) h3
 refine ⟨this.1,?_⟩
 have h4:=this.2
 simp at h4
 omega
theorem lit_M (v:Env):∀ (k br i:Nat) (a:Li) (j:Nat),litF v k br i=.ok a j->liM a<=v.ws.length+2
 | 0,br,i,a,j,h=>by cases h
 | k+1,br,i,a,j,h=>by
  have e0:exM ex0=0:=by simp [ex0,exM,exMs]
  have a0:at0.terms.length=0:=rfl
  rw [litF] at h
  split at h
  ·obtain ⟨x,m,h1,h2⟩:=bind_ok h
   cases h2
   have:=atom_len h1
   simp [liM,liMs,e0];omega
  ·split at h
   ·obtain ⟨x,m,h1,h2⟩:=bind_ok h
    cases h2
    have:=atom_len h1
    simp [liM,liMs,e0];omega
   ·split at h
    ·obtain ⟨g,m,h1,h2⟩:=bind_ok h
     cases h2
     unfold aggOf at h1
     split at h1
     ·cases h1
     ·obtain ⟨_,m1,-,h1⟩:=bind_ok h1
      obtain ⟨o,m2,h3,h1⟩:=bind_ok h1
      obtain ⟨b,m3,h4,h1⟩:=bind_ok h1
      obtain ⟨_,m4,-,h1⟩:=bind_ok h1
      cases h1
      have hb:=bodyOf_M (lit_M v k (br+1)) h4
      have ho:exM o<=2:=by
       split at h3
       ·obtain ⟨e,m5,h5,h3⟩:=bind_ok h3
        obtain ⟨_,m6,-,h3⟩:=bind_ok h3
        cases h3
        exact expr_M1 h5
       ·cases h3;rw [e0];omega
      simp only [liM,e0,a0];omega
    ·obtain ⟨x,m,h1,h2⟩:=bind_ok h
     split at h2
     ·cases h2
     ·obtain ⟨y,m2,h3,h2⟩:=bind_ok h2
      cases h2
      have:=expr_M1 h1
      have:=expr_M1 h3
      simp [liM,liMs,e0,a0];omega
theorem rule_M {v:Env} {i:Nat} {r:Rul} {j:Nat} (h:rule v i=.ok r j):r.head.terms.length<=v.ws.length+2/\r.body.length<=v.ws.length+2/\liMs r.body<=v.ws.length+2:=by
 unfold rule at h
 obtain ⟨x,m,h1,h2⟩:=bind_ok h
 obtain ⟨b,m2,h3,h2⟩:=bind_ok h2
 cases h2
 refine ⟨atom_len h1,?_⟩
 split at h3
 ·have:=bodyOf_M (fun i a j=>lit_M v _ _ i a j) h3
  exact ⟨this.2,this.1⟩
 ·cases h3;simp [liMs]
theorem relation_M {v:Env} {i:Nat} {r:Rel} {j:Nat} (h:relation v i=.ok r j):r.types.length<=v.ws.length+2:=by
 unfold relation at h
 obtain ⟨t,m,-,h⟩:=bind_ok h
 obtain ⟨_,m2,-,h⟩:=bind_ok h
 obtain ⟨l,m3,h1,h⟩:=bind_ok h
 cases h
 exact list_len h1
theorem prog_M {v:Env}:∀ (n:Nat) (p:Prog) (i:Nat) (q:Prog) (j:Nat),(∀ r∈p.rels,r.types.length<=v.ws.length+2)->(∀ r∈p.rules,r.head.terms.length<=v.ws.length+2/\r.body.length<=v.ws.length+2/\liMs r.body<=v.ws.length+2)->progF v n p i=.ok q j ->
  q.rels.length<=p.rels.length+n/\q.rules.length<=p.rules.length+n/\(∀ r∈q.rels,r.types.length<=v.ws.length+2)/\∀ r∈q.rules,r.head.terms.length<=v.ws.length+2/\r.body.length<=v.ws.length+2/\liMs r.body<=v.ws.length+2
 | 0,p,i,q,j,h1,h2,h=>by cases h
 | n+1,p,i,q,j,h1,h2,h=>by
  rw [progF] at h
  split at h
  ·split at h
   ·obtain ⟨x,m,h3,h⟩:=bind_ok h
    obtain ⟨_,m2,-,h⟩:=bind_ok h
    have:=prog_M n ⟨p.rels++[x],p.rules⟩ m2 q j (by
     intro r hr
     rcases List.mem_append.1 hr with hr | hr
     ·exact h1 r hr
     ·rw [Msq] at hr;subst hr;exact relation_M h3) h2 h
    refine ⟨?_,?_,this.2.2.1,this.2.2.2⟩
    ·have:=this.1;simp at this;omega
    ·have:=this.2.1;simp at this;omega
   ·obtain ⟨x,m,h3,h⟩:=bind_ok h
    obtain ⟨_,m2,-,h⟩:=bind_ok h
    have:=prog_M n ⟨p.rels,p.rules++[x]⟩ m2 q j h1 (by
     intro r hr
     rcases List.mem_append.1 hr with hr | hr
     ·exact h2 r hr
     ·rw [Msq] at hr;subst hr;exact rule_M h3) h
    refine ⟨?_,?_,this.2.2.1,this.2.2.2⟩
    ·have:=this.1;simp at this;omega
    ·have:=this.2.1;simp at this;omega
  ·cases h
   exact ⟨by omega,by omega,h1,h2⟩
theorem prog_pgM {v:Env} (hv:v.ws.length<=65536) {p:Prog} {j:Nat} (h:whole v (prog v)=.ok p j):PgM p:=by
 unfold whole at h
 obtain ⟨x,m,h1,h2⟩:=bind_ok h
 split at h2
 ·cases h2
 ·cases h2
  have:=prog_M _ _ _ _ _ (by simp) (by simp) h1
  simp at this
  obtain ⟨k1,k2,k3,k4⟩:=this
  exact ⟨by omega,by omega,fun r hr=>by have:=k3 r hr;omega,fun r hr=>by have:=(k4 r hr).1;omega,fun r hr=>by have:=(k4 r hr).2.1;omega,fun r hr=>by have:=(k4 r hr).2.2;omega⟩
open Lx (Tok goes)
open Pr (Ex Li)
set_option linter.unusedSimpArgs false
theorem at_all {v:Env} {ts:List Sh} (h:v.ws.map sh=ts):At v 0 ts:=by
 subst h
 intro j hj
 rw [List.length_map] at hj
 rw [List.getElem_map,Nat.zero_add]
 unfold Env.tk
 rw [List.getD_eq_getElem?_getD,List.getElem?_eq_getElem hj]
 rfl
section
variable {s:List Nat} {l:List Sh} {d:Nat}
end
open Pr (Term Atom Ex Li Rul Rel Prog)
set_option linter.unusedVariables false
set_option linter.unusedSimpArgs false
theorem liMs_bare:∀ (d:Nat) (l:List Li),liDs l<d->liMs (l.map bareL)=liMs l
 | 0,l,h=>absurd h (by omega)
 | d+1,[],h=>rfl
 | d+1,.mk k a op le re fn av of body ln cl :: r,h=>by
  simp only [liDs,liD] at h
  rw [List.map_cons,bareL_eq]
  simp only [liMs,liM,List.length_map]
  rw [liMs_bare d body (by omega),liMs_bare (d+1) r (by omega)]
theorem liMs_bareL (l:List Li):liMs (l.map bareL)=liMs l:=liMs_bare (liDs l+1) l (Nat.lt_succ_self _)
theorem bareP_M {p:Prog} (h:PgM p):PgM (bareP p):=by
 refine ⟨by simpa [bareP] using h.rels,by simpa [bareP] using h.rules,fun r hr=>?_,fun r hr=>?_,fun r hr=>?_,fun r hr=>?_⟩
 all_goals
  simp only [bareP,List.mem_map] at hr
  obtain ⟨q,hq,rfl⟩:=hr
 ·exact h.types q hq
 ·exact h.terms q hq
 ·simpa [bareU] using h.body q hq
 ·simpa [bareU,liMs_bareL] using h.deep q hq
end Go.Proofs.YtohnmnfhmbmoaaaGreatDoor.Sy
