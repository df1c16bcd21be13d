/- THE TEXTS MERGED: SyDot SyPieceP SyGrow SyCopy. -/
import Derived.Test.YtppigckioalhhaaGreatDoorRKP1
import Derived.Test.YtppigckioalhhaaGreatDoorRKP23
import Derived.Test.YtppigckioalhhaaGreatDoorRKP8
import Derived.Test.YtppigckioalhhaaGreatDoorRKP20
import Derived.Test.YtppigckioalhhaaGreatDoorRKP22
namespace Go.Proofs.YtppigckioalhhaaGreatDoorR.Sy
open Lx (Tok)
open Pr (Term Atom Ex Li Rul Rel Prog)
set_option linter.unusedVariables false
set_option linter.unusedSimpArgs false
def isDot (t:Lx.Tok):Bool:=decide (t.kind=5) && decide (t.text=[46])
def NoDot (v:Env) (j k:Nat):Prop:=∀ i,j<=i->i<k->isDot (v.tk i)=false
def ND {α:Type} (v:Env) (one:Nat->PR α):Prop:=∀ j a k,j<=v.ws.length->one j=.ok a k->NoDot v j k
section
variable {α β:Type} {v:Env}
theorem NoDot.nil (j:Nat):NoDot v j j:=fun i h1 h2=>by omega
theorem NoDot.one {j:Nat} (h:isDot (v.tk j)=false):NoDot v j (j+1):=fun i h1 h2=>by
 obtain rfl:i=j:=by omega
 exact h
theorem NoDot.trans {j m k:Nat} (h:NoDot v j m) (h2:NoDot v m k):NoDot v j k:=fun i h3 h4=>by
 by_cases hi:i<m
 ·exact h i h3 hi
 ·exact h2 i (by omega) h4
theorem nd_bind {one:Nat->PR α} {f:α->Nat->PR β} (h:ND v one) (ha:Adv v one) (hf:∀ x,ND v (f x)):ND v (fun i=>(one i).bind f):=by
 intro j b k hj e
 obtain ⟨x,m,h1,h2⟩:=bind_ok e
 exact (h j x m hj h1).trans (hf x m b k (ha j x m hj h1).2 h2)
theorem nd_ret (g:Nat->α):ND v (fun i=>.ok (g i) i):=fun j a k hj e=>by cases e;exact .nil _
theorem dot_sign {t:Lx.Tok} {s:List Nat} (h:sign t s=true) (hs:s≠[46]):isDot t=false:=by
 unfold sign at h
 simp only [Bool.and_eq_true,decide_eq_true_eq] at h
 unfold isDot
 rw [h.1,decide_eq_false hs,Bool.and_false]
theorem dot_kind {t:Lx.Tok} (h:t.kind≠5):isDot t=false:=by
 unfold isDot
 rw [decide_eq_false h];rfl
theorem plain_kind {t:Lx.Tok} (h:plain t=true):t.kind=1:=by
 unfold plain at h
 simp only [Bool.and_eq_true,decide_eq_true_eq] at h
 exact h.1
theorem dot_placeF {t:Lx.Tok}:∀ (l:List (List Nat)) (n:Nat),0<placeF t l n->(∀ s∈l,s≠[46])->isDot t=false
 | [],n,h,_=>by simp [placeF] at h
 | s :: r,n,h,hl=>by
  rw [placeF] at h
  split at h
  ·rename_i hs;exact dot_sign hs (hl s (by simp))
  ·exact dot_placeF r (n+1) h (fun s hs=>hl s (by simp [hs]))
theorem nd_must {s:List Nat} (hs:s≠[46]):ND v (must v s):=by
 intro j a k hj h
 obtain ⟨rfl,h2⟩:k=j+1/\sign (v.tk j) s=true:=by
  unfold must at h
  split at h
  ·rename_i hh;cases h;exact ⟨rfl,hh⟩
  ·cases h
 exact .one (dot_sign h2 hs)
theorem nd_name:ND v (name v):=by
 intro j a k hj h
 unfold name at h
 split at h
 ·rename_i hs
  cases h
  exact .one (dot_kind (by rw [plain_kind hs];decide))
 ·cases h
theorem nd_const {j:Nat} {c:Va.Val} {n:Nat} (h:constant v j=some (c,n)):NoDot v j (j+n):=by
 unfold constant at h
 split at h
 ·rename_i hk
  cases h
  exact .one (dot_kind (by omega))
 ·split at h
  ·rename_i hp
   cases h
   exact .one (dot_kind (by rw [plain_kind hp];decide))
  ·split at h
   ·rename_i hs
    cases h
    exact (NoDot.one (dot_sign hs.1 (by decide))).trans (NoDot.one (dot_kind (by omega)))
   ·cases h
theorem nd_value:ND v (value v):=by
 intro j a k hj h
 unfold value at h
 split at h
 ·rename_i c n hc
  cases h
  exact nd_const hc
 ·cases h
theorem nd_term:ND v (term v):=by
 intro j a k hj h
 unfold term at h
 split at h
 ·rename_i hk
  cases h
  exact .one (dot_kind (by omega))
 ·split at h
  ·rename_i hs
   cases h
   exact .one (dot_sign hs (by decide))
  ·obtain ⟨c,m,h1,h2⟩:=bind_ok h
   cases h2
   exact nd_value j c k hj h1
theorem nd_listF {fin:List Nat} (hfin:fin≠[46]) {one:Nat->PR α} (h1:ND v one) (h2:Adv v one):∀ (n:Nat) (acc:List α),ND v (listF v fin one n acc)
 | 0,acc=>fun j a k hj h=>by cases h
 | n+1,acc=>by
  intro j a k hj h
  rw [listF] at h
  split at h
  ·rename_i hs
   have:=sign_lt hs
   obtain ⟨x,m,e1,e2⟩:=bind_ok h
   exact ((NoDot.one (dot_sign hs (by decide))).trans (h1 (j+1) x m (by omega) e1)).trans (nd_listF hfin h1 h2 n _ m a k (h2 (j+1) x m (by omega) e1).2 e2)
  ·obtain ⟨x,m,e1,e2⟩:=bind_ok h
   cases e2
   exact nd_must hfin j x k hj e1
theorem nd_list {fin:List Nat} (hfin:fin≠[46]) {one:Nat->PR α} (h1:ND v one) (h2:Adv v one):ND v (list v fin one):=by
 intro j a k hj h
 unfold list at h
 split at h
 ·rename_i hs
  cases h
  exact .one (dot_sign hs hfin)
 ·obtain ⟨x,m,e1,e2⟩:=bind_ok h
  exact (h1 j x m hj e1).trans (nd_listF hfin h1 h2 _ _ m a k (h2 j x m hj e1).2 e2)
theorem nd_atom:ND v (atom v):=nd_bind nd_name (adv_name v) fun t=>nd_bind (nd_must (by decide)) (adv_must v _) fun _=>nd_bind (nd_list (by decide) nd_term (adv_term v)) (adv_list (adv_term v)) fun l=>nd_ret _
theorem dot_level {t:Lx.Tok} (h:(level t).1≠0):isDot t=false:=by
 unfold level at h
 repeat' (split at h)
 all_goals first
  | (rename_i hs;exact dot_sign hs (by decide))
  | exact absurd rfl h
theorem nd_chain {line:Nat} (h0:line≠0) {sub:Nat->Nat->PR (Ex × Nat)} (h1:∀ ab,ND v (sub ab)) (h2:∀ ab,Adv v (sub ab)) {above:Nat}:∀ (n:Nat) (e:Ex) (d:Nat),ND v (chainF v line sub above n e d)
 | 0,e,d=>fun j a k hj h=>by cases h
 | n+1,e,d=>by
  intro j a k hj h
  rw [chainF] at h
  split at h
  ·cases h;exact .nil _
  ·rename_i hl
   split at h
   ·cases h
   ·have hlv:(level (v.tk j)).1≠0:=by omega
    have:=level_lt hlv
    obtain ⟨x,m,e1,e2⟩:=bind_ok h
    exact ((NoDot.one (dot_level hlv)).trans (h1 _ (j+1) x m (by omega) e1)).trans (nd_chain h0 h1 h2 n _ _ m a k (h2 _ (j+1) x m (by omega) e1).2 e2)
theorem nd_exprF:∀ (k line above:Nat),line≠0->ND v (exprF v k line above)
 | 0,line,above,_=>fun j a k hj h=>by cases h
 | k+1,line,above,h0=>by
  intro j x m hj h
  rw [exprF] at h
  split at h
  ·split at h
   ·rename_i hk
    cases h
    exact .one (dot_kind (by omega))
   ·split at h
    ·rename_i c n hc
     cases h
     exact nd_const hc
    ·split at h
     ·rename_i hs
      have:=sign_lt hs
      split at h
      ·cases h
      ·obtain ⟨y,q,h1,h2⟩:=bind_ok h
       cases h2
       exact (NoDot.one (dot_sign hs (by decide))).trans (nd_exprF k 3 (above+1) (by decide) (j+1) y m (by omega) h1)
     ·split at h
      ·cases h
      ·obtain ⟨_,q,h1,h2⟩:=bind_ok h
       have h3:=adv_must v [40] j _ q hj h1
       obtain ⟨y,q2,h4,h5⟩:=bind_ok h2
       have h6:=adv_exprF v k 1 (above+1) (by decide) q y q2 h3.2 h4
       obtain ⟨_,q3,h7,h8⟩:=bind_ok h5
       cases h8
       exact ((nd_must (by decide) j _ q hj h1).trans (nd_exprF k 1 (above+1) (by decide) q y q2 h3.2 h4)).trans (nd_must (by decide) q2 _ m h6.2 h7)
  ·obtain ⟨y,q,h1,h2⟩:=bind_ok h
   exact (nd_exprF k (line+1) above (by omega) j y q hj h1).trans (nd_chain h0 (fun ab=>nd_exprF k (line+1) ab (by omega)) (fun ab=>adv_exprF v k (line+1) ab (by omega)) _ _ _ q x m (adv_exprF v k (line+1) above (by omega) j y q hj h1).2 h2)
theorem nd_expr:ND v (expr v):=nd_bind (nd_exprF 60 1 0 (by decide)) (adv_exprF v 60 1 0 (by decide)) fun r=>nd_ret _
theorem nd_bodyF {one:Nat->PR Li} (h1:ND v one) (h2:Adv v one):∀ (n:Nat) (acc:List Li),ND v (bodyF v one n acc)
 | 0,acc=>fun j a k hj h=>by cases h
 | n+1,acc=>by
  intro j a k hj h
  rw [bodyF] at h
  split at h
  ·rename_i hs
   have:=sign_lt hs
   obtain ⟨x,m,e1,e2⟩:=bind_ok h
   exact ((NoDot.one (dot_sign hs (by decide))).trans (h1 (j+1) x m (by omega) e1)).trans (nd_bodyF h1 h2 n _ m a k (h2 (j+1) x m (by omega) e1).2 e2)
  ·cases h;exact .nil _
theorem nd_bodyOf {one:Nat->PR Li} (h1:ND v one) (h2:Adv v one):ND v (bodyOf v one):=nd_bind h1 h2 fun a=>nd_bodyF h1 h2 _ _
theorem nd_litF:∀ (k br:Nat),ND v (litF v k br)
 | 0,br=>fun j a k hj h=>by cases h
 | k+1,br=>by
  intro j x m hj h
  rw [litF] at h
  split at h
  ·rename_i hs
   have:=sign_lt hs
   obtain ⟨y,q,h1,h2⟩:=bind_ok h
   cases h2
   exact (NoDot.one (dot_sign hs (by decide))).trans (nd_atom (j+1) y m (by omega) h1)
  ·split at h
   ·obtain ⟨y,q,h1,h2⟩:=bind_ok h
    cases h2
    exact nd_atom j y m hj h1
   ·split at h
    ·rename_i hc
     have h3:j+2<v.ws.length:=fn_lt hc.2.2
     obtain ⟨g,q,h1,h2⟩:=bind_ok h
     cases h2
     have hb3:NoDot v j (j+3):=((NoDot.one (dot_kind (by omega))).trans (NoDot.one (dot_sign hc.2.1 (by decide)))).trans (NoDot.one (dot_placeF [[99,111,117,110,116],[115,117,109],[109,105,110],[109,97,120]] 0 hc.2.2 (by decide)))
     unfold aggOf at h1
     split at h1
     ·cases h1
     ·obtain ⟨_,q1,e1,e2⟩:=bind_ok h1
      obtain ⟨o,q2,e3,e4⟩:=bind_ok e2
      obtain ⟨b,q3,e5,e6⟩:=bind_ok e4
      obtain ⟨_,q4,e7,e8⟩:=bind_ok e6
      cases e8
      have a1:=adv_must v _ _ _ _ (by omega) e1
      have n1:=nd_must (by decide) _ _ _ (by omega) e1
      have n2:NoDot v q1 q2/\q2<=v.ws.length:=by
       split at e3
       ·obtain ⟨e,r1,f1,f2⟩:=bind_ok e3
        obtain ⟨_,r2,f3,f4⟩:=bind_ok f2
        cases f4
        have b1:=adv_expr v _ _ _ a1.2 f1
        exact ⟨(nd_expr _ _ _ a1.2 f1).trans (nd_must (by decide) _ _ _ b1.2 f3),(adv_must v _ _ _ _ b1.2 f3).2⟩
       ·cases e3
        exact ⟨.nil _,a1.2⟩
      have a3:=adv_bodyOf (adv_litF v k (br+1)) _ _ _ n2.2 e5
      exact (((hb3.trans n1).trans n2.1).trans (nd_bodyOf (nd_litF k (br+1)) (adv_litF v k (br+1)) _ _ _ n2.2 e5)).trans (nd_must (by decide) _ _ _ a3.2 e7)
    ·obtain ⟨y,q,h1,h2⟩:=bind_ok h
     split at h2
     ·cases h2
     ·rename_i hc
      have hq:=cmp_lt hc
      obtain ⟨z,q2,h4,h5⟩:=bind_ok h2
      cases h5
      exact ((nd_expr j y q hj h1).trans (NoDot.one (dot_placeF [[61],[33,61],[60],[60,61],[62],[62,61]] 0 (show 0<cmpOf (v.tk q) by omega) (by decide)))).trans (nd_expr (q+1) z m (by omega) h4)
theorem nd_rule:ND v (rule v):=by
 intro j x m hj h
 unfold rule at h
 obtain ⟨t,q,h1,h2⟩:=bind_ok h
 obtain ⟨b,q2,h3,h4⟩:=bind_ok h2
 cases h4
 have a1:=adv_atom v j t q hj h1
 refine (nd_atom j t q hj h1).trans ?_
 split at h3
 ·rename_i hs
  have:=sign_lt hs
  exact (NoDot.one (dot_sign hs (by decide))).trans (nd_bodyOf (nd_litF 18 0) (adv_litF v 18 0) (q+1) b m (by omega) h3)
 ·cases h3;exact .nil _
theorem nd_ty:ND v (ty v):=by
 intro j a k hj h
 unfold ty at h
 split at h
 ·cases h
 ·rename_i hc
  cases h
  exact .one (dot_placeF [[110,117,109],[115,121,109]] 0 (show 0<tyOf (v.tk j) by omega) (by decide))
theorem nd_relation:ND v (relation v):=nd_bind nd_name (adv_name v) fun t=>nd_bind (nd_must (by decide)) (adv_must v _) fun _=>nd_bind (nd_list (by decide) nd_ty (adv_ty v)) (adv_list (adv_ty v)) fun l=>nd_ret _
/-- a literal tells where it stands -/
def Li.line:Li->Int | .mk _ _ _ _ _ _ _ _ _ ln _=>ln
def Li.col:Li->Int | .mk _ _ _ _ _ _ _ _ _ _ cl=>cl
theorem lit_place:∀ (k br i:Nat) (x:Li) (j:Nat),litF v k br i=.ok x j->Li.line x=(v.tk i).line/\Li.col x=(v.tk i).col
 | 0,br,i,x,j,h=>by cases h
 | k+1,br,i,x,j,h=>by
  rw [litF] at h
  repeat' (split at h)
  ·obtain ⟨y,q,h1,h2⟩:=bind_ok h
   cases h2;exact ⟨rfl,rfl⟩
  ·obtain ⟨y,q,h1,h2⟩:=bind_ok h
   cases h2;exact ⟨rfl,rfl⟩
  ·obtain ⟨y,q,h1,h2⟩:=bind_ok h
   cases h2;exact ⟨rfl,rfl⟩
  ·obtain ⟨y,q,h1,h2⟩:=bind_ok h
   split at h2
   ·cases h2
   ·obtain ⟨z,q2,h4,h5⟩:=bind_ok h2
    cases h5;exact ⟨rfl,rfl⟩
/-- literals one behind the other -/
inductive Lits (v:Env):Nat->List Li->Nat->Prop
 | one {s e:Nat} {x:Li} (h:lit v 0 s=.ok x e):Lits v s [x] e
 | cons {s m e:Nat} {x:Li} {l:List Li} (h:lit v 0 s=.ok x m) (hc:sign (v.tk m) [44]=true) (t:Lits v (m+1) l e):Lits v s (x :: l) e
theorem lits_bodyF:∀ (n:Nat) (acc:List Li) (i:Nat) (b:List Li) (e:Nat),bodyF v (lit v 0) n acc i=.ok b e->(b=acc/\e=i)\/∃ l,b=acc++l/\sign (v.tk i) [44]=true/\Lits v (i+1) l e
 | 0,acc,i,b,e,h=>by cases h
 | n+1,acc,i,b,e,h=>by
  rw [bodyF] at h
  split at h
  ·rename_i hs
   obtain ⟨x,m,h1,h2⟩:=bind_ok h
   rcases lits_bodyF n _ m b e h2 with ⟨h3,h4⟩ | ⟨l,h3,h4,h5⟩
   ·exact .inr ⟨[x],h3,hs,by subst h4;exact .one h1⟩
   ·exact .inr ⟨x :: l,by rw [h3];simp,hs,.cons h1 h4 h5⟩
  ·cases h;exact .inl ⟨rfl,rfl⟩
theorem lits_body {i:Nat} {b:List Li} {e:Nat} (h:body v i=.ok b e):Lits v i b e:=by
 unfold body bodyOf at h
 obtain ⟨x,m,h1,h2⟩:=bind_ok h
 rcases lits_bodyF _ _ m b e h2 with ⟨h3,h4⟩ | ⟨l,h3,h4,h5⟩
 ·rw [h3,h4];exact .one h1
 ·rw [h3];exact .cons h1 h4 h5
theorem Lits.at {s e:Nat} {l:List Li} (h:Lits v s l e):e<=v.ws.length->s<=v.ws.length->∀ (i:Nat) (hi:i<l.length),∃ st sp,lit v 0 st=.ok l[i] sp/\s<=st/\st<sp/\sp<=e/\(i=0->st=s)/\(i+1=l.length->sp=e)/\∀ (h2:i+1<l.length),∃ sq,lit v 0 (sp+1)=.ok (l[i+1]'h2) sq/\sp+1<sq/\sq<=e:=by
 induction h with
 | @one s e x h =>
  intro he hs i hi
  obtain rfl:i=0:=by simpa using hi
  have:=str_litF 18 0 s x e hs h
  exact ⟨s,e,h,Nat.le_refl _,this.1,Nat.le_refl _,fun _=>rfl,fun _=>rfl,fun h2=>absurd h2 (by simp)⟩
 | @cons s m e x l h hc t ih =>
  intro he hs i hi
  have h1:=str_litF 18 0 s x m hs h
  have hml:=sign_lt hc
  have ih:=ih he (by omega)
  have h0:∃ (h0:0<l.length),True:=by cases t <;> exact ⟨by simp,trivial⟩
  obtain ⟨h0,-⟩:=h0
  cases i with
  | zero =>
   obtain ⟨st,sp,g1,g2,g3,g4,g5,g6,g7⟩:=ih 0 h0
   have:=g5 rfl
   subst this
   refine ⟨s,m,h,Nat.le_refl _,h1.1,by omega,fun _=>rfl,fun hh=>?_,fun h2=>⟨sp,g1,g3,g4⟩⟩
   simp only [List.length_cons] at hh
   omega
  | succ i =>
   obtain ⟨st,sp,g1,g2,g3,g4,g5,g6,g7⟩:=ih i (by simpa using hi)
   exact ⟨st,sp,g1,by omega,g3,g4,fun hh=>by omega,fun hh=>g6 (by simpa using hh),fun h2=>g7 (by simpa using h2)⟩
theorem Lits.ne {s e:Nat} {l:List Li} (h:Lits v s l e):l≠[]:=by cases h <;> simp
/-- a rule's parts -/
theorem rule_parts {i j:Nat} {r:Rul} (h:rule v i=.ok r j) (hi:i<=v.ws.length):∃ e,atom v i=.ok r.head e/\i<e/\e<=j/\j<=v.ws.length/\plain (v.tk i)=true/\((r.body=[]/\e=j)\/(e<j/\Lits v (e+1) r.body j)):=by
 have hj:=(adv_rule v i r j hi h).2
 unfold rule at h
 obtain ⟨t,q,h1,h2⟩:=bind_ok h
 obtain ⟨b,q2,h3,h4⟩:=bind_ok h2
 cases h4
 have a1:=str_atom i t q hi h1
 have hp:plain (v.tk i)=true:=by
  unfold atom at h1
  obtain ⟨w,q1,e1,e2⟩:=bind_ok h1
  unfold name at e1
  split at e1
  ·assumption
  ·cases e1
 split at h3
 ·rename_i hs
  have hq:=sign_lt hs
  have:=adv_body v (q+1) b j (by omega) h3
  exact ⟨q,h1,a1.1,by omega,hj,hp,.inr ⟨by omega,lits_body h3⟩⟩
 ·cases h3
  exact ⟨_,h1,a1.1,Nat.le_refl _,hj,hp,.inl ⟨rfl,rfl⟩⟩
theorem prog_more:∀ (n:Nat) (p:Prog) (i:Nat) (q:Prog) (j:Nat),progF v n p i=.ok q j->∃ R U,q=⟨p.rels++R,p.rules++U⟩
 | 0,p,i,q,j,h=>by cases h
 | n+1,p,i,q,j,h=>by
  rw [progF] at h
  split at h
  ·split at h
   ·obtain ⟨x,j1,h1,h2⟩:=bind_ok h
    obtain ⟨_,j2,h3,h4⟩:=bind_ok h2
    obtain ⟨R,U,e⟩:=prog_more n _ _ q j h4
    exact ⟨[x]++R,U,by rw [e];simp⟩
   ·obtain ⟨x,j1,h1,h2⟩:=bind_ok h
    obtain ⟨_,j2,h3,h4⟩:=bind_ok h2
    obtain ⟨R,U,e⟩:=prog_more n _ _ q j h4
    exact ⟨R,[x]++U,by rw [e];simp⟩
  ·cases h
   exact ⟨[],[],by simp⟩
/-- where a program's reading stands: behind n rules, at a statement's begin -/
structure Stand (v:Env) (p:Prog) (n i:Nat):Prop where
 le:i<=v.ws.length
 rest:∃ k rels e,progF v k ⟨rels,p.rules.take n⟩ i=.ok p e
 n:n<=p.rules.length
theorem Stand.begin {p:Prog} {e:Nat} (h:prog v 0=.ok p e):Stand v p 0 0:=⟨Nat.zero_le _,⟨_,[],e,by rw [List.take_zero];exact h⟩,Nat.zero_le _⟩
theorem Stand.stop {p:Prog} {n i:Nat} (h:Stand v p n i) (hi:i=v.ws.length):n=p.rules.length:=by
 obtain ⟨k,rels,e,h1⟩:=h.rest
 cases k with
 | zero=>cases h1
 | succ k =>
  rw [progF,if_neg (by omega)] at h1
  simp only [PR.ok.injEq] at h1
  have h2:=congrArg (fun q=>q.rules.length) h1.1
  have:=h.n
  simp only [List.length_take] at h2
  omega
/-- one statement, up to its dot -/
theorem Stand.next {p:Prog} {n i:Nat} (h:Stand v p n i) (hi:i<v.ws.length) (hk:∀ i,(v.tk i).kind=1->(v.tk i).text≠[46]) :
  ∃ d,i<=d/\d<v.ws.length/\isDot (v.tk d)=true/\NoDot v i d /\
   ((sign (v.tk i) [114,101,108,97,116,105,111,110]=true/\Stand v p n (d+1))\/(plain (v.tk i)=true/\∃ hn:n<p.rules.length,rule v i=.ok p.rules[n] d/\Stand v p (n+1) (d+1))):=by
 obtain ⟨k,rels,e,h1⟩:=h.rest
 have hdot:∀ d,sign (v.tk d) [46]=true->isDot (v.tk d)=true:=fun d hs=>by
  unfold sign at hs
  simp only [Bool.and_eq_true,Bool.or_eq_true,decide_eq_true_eq] at hs
  unfold isDot
  rcases hs.2 with h5 | h5
  ·rw [h5,hs.1];rfl
  ·exact absurd hs.1 (hk d h5)
 cases k with
 | zero=>cases h1
 | succ k =>
  rw [progF,if_pos hi] at h1
  split at h1
  ·rename_i hs
   obtain ⟨x,d,h2,h3⟩:=bind_ok h1
   obtain ⟨_,d2,h4,h5⟩:=bind_ok h3
   have hm:d2=d+1/\sign (v.tk d) [46]=true:=by
    unfold must at h4
    split at h4
    ·rename_i hh;cases h4;exact ⟨rfl,hh⟩
    ·cases h4
   obtain ⟨rfl,hd⟩:=hm
   have ha:=adv_relation v (i+1) x d (by omega) h2
   have hl:=sign_lt hd
   exact ⟨d,by omega,hl,hdot d hd,(NoDot.one (dot_sign hs (by decide))).trans (nd_relation (i+1) x d (by omega) h2),.inl ⟨hs,⟨by omega,⟨_,_,e,h5⟩,h.n⟩⟩⟩
  ·obtain ⟨x,d,h2,h3⟩:=bind_ok h1
   obtain ⟨_,d2,h4,h5⟩:=bind_ok h3
   have hm:d2=d+1/\sign (v.tk d) [46]=true:=by
    unfold must at h4
    split at h4
    ·rename_i hh;cases h4;exact ⟨rfl,hh⟩
    ·cases h4
   obtain ⟨rfl,hd⟩:=hm
   have ha:=adv_rule v i x d (by omega) h2
   have hl:=sign_lt hd
   obtain ⟨R,U,hq⟩:=prog_more k _ _ p e h5
   have hr:p.rules=p.rules.take n++([x]++U):=by
    have:=congrArg Prog.rules hq
    simpa using this
   have hlen:(p.rules.take n).length=n:=by rw [List.length_take];have:=h.n;omega
   have hn:n<p.rules.length:=by
    have:=congrArg List.length hr
    rw [List.length_append,hlen] at this
    simp at this
    omega
   have hx:p.rules[n]=x:=by
    have:p.rules[n]?=some x:=by
     rw [hr,List.getElem?_append_right (by omega),hlen,Nat.sub_self]
     rfl
    rw [List.getElem?_eq_getElem hn] at this
    exact Option.some.inj this
   obtain ⟨e1,-,-,-,-,hp,-⟩:=rule_parts h2 (by omega)
   refine ⟨d,ha.1,hl,hdot d hd,nd_rule i x d (by omega) h2,.inr ⟨hp,hn,by rw [hx];exact h2,⟨by omega,⟨k,rels,e,?_⟩,hn⟩⟩⟩
   rw [List.take_succ_eq_append_getElem hn,hx]
   exact h5
end
open Lx (Tok)
open Pr (Term Atom Ex Li Rul Rel Prog)
set_option linter.unusedVariables false
set_option linter.unusedSimpArgs false
/-- where a word stands in a text -/
def offT (s:List Nat) (t:Lx.Tok):Nat:=Lx.offF s (t.line - 1)+t.col - 1
/-- the text between two words -/
def cutT (s:List Nat) (t u:Lx.Tok):List Nat:=(s.drop (offT s t)).take (offT s u - offT s t)
structure Placed (s:List Nat) (t:Lx.Tok):Prop where
 l1:1<=t.line
 l2:t.line<=s.length+1
 c1:1<=t.col
 c2:t.col<=2 * s.length+1
 off:Lx.offF s (t.line - 1)+t.col=offT s t+1
 le:offT s t<=s.length
theorem placed_of {s:List Nat} {t:Lx.Tok} {g:Nat} (hg:g<=s.length) (h:(t.line,t.col)=Lx.adv (1,1) (s.take g)):Placed s t/\offT s t=g:=by
 have ho:=Lx.off_place s g hg
 rw [<-h] at ho
 simp only at ho
 have hL:=Lx.adv_line (s.take g) (1,1)
 rw [<-h] at hL
 simp only at hL
 have hC:1<=t.col:=by
  have:∀ (l:List Nat) (p:Nat × Nat),1<=p.2->1<=(Lx.adv p l).2:=by
   intro l
   induction l with
   | nil=>exact fun p h=>h
   | cons c t ih =>
    intro p h
    rw [Lx.adv]
    split
    ·exact ih _ (Nat.le_refl _)
    ·exact ih _ (by simp)
  have:=this (s.take g) (1,1) (Nat.le_refl _)
  rw [<-h] at this
  exact this
 have hU:=Lx.adv_le (1,1) (s.take g)
 rw [<-h,List.length_take] at hU
 simp only at hU
 have hg2:offT s t=g:=by unfold offT;omega
 exact ⟨⟨hL,by omega,hC,by omega,by omega,by omega⟩,hg2⟩
theorem tk_get {s:List Nat} {k:Nat} (hk:k<(Lx.given s).1.length):(envOf s).tk k=(Lx.given s).1[k]:=by
 unfold Env.tk
 rw [List.getD_eq_getElem?_getD]
 show (((Lx.given s).1)[k]?).getD zT=_
 rw [List.getElem?_eq_getElem hk]
 rfl
structure Apart (s:List Nat) (p e:Nat):Prop where
 pp:Placed s ((envOf s).tk p)
 pe:Placed s ((envOf s).tk e)
 lt:offT s ((envOf s).tk p)<offT s ((envOf s).tk e)
 win:Win (envOf s) (envOf (cutT s ((envOf s).tk p) ((envOf s).tk e))) p (e - p)
 last:(envOf (cutT s ((envOf s).tk p) ((envOf s).tk e))).last.1=42
theorem apart_of {s:List Nat} (hb:∀ c∈s,c<256) (hc:(Lx.given s).2.code=0) {p e:Nat} (hpe:p<e) (he:e<(envOf s).ws.length):Apart s p e:=by
 have he':e<(Lx.given s).1.length:=he
 obtain ⟨gp,ge,h1,h2,h3,h4,h5,h6⟩:=env_piece hb hc (ws:=(Lx.given s).1) rfl hpe he'
 rw [<-tk_get (by omega)] at h3
 rw [<-tk_get he'] at h4
 obtain ⟨p1,p2⟩:=placed_of (by omega) h3
 obtain ⟨q1,q2⟩:=placed_of h2 h4
 have hcut:(s.drop gp).take (ge - gp)=cutT s ((envOf s).tk p) ((envOf s).tk e):=by unfold cutT;rw [p2,q2]
 rw [hcut] at h5 h6
 refine ⟨p1,q1,?_,h5,h6⟩
 rw [p2,q2]
 rcases Nat.lt_or_ge gp ge with h | h
 ·exact h
 ·exfalso
  have hl:=h5.len
  have:cutT s ((envOf s).tk p) ((envOf s).tk e)=[]:=by rw [<-hcut,show ge - gp=0 by omega,List.take_zero]
  rw [this] at hl
  have h0:(envOf []).ws.length=0:=by decide
  omega
/-- two words stand at two places -/
theorem place_ne {s:List Nat} (hb:∀ c∈s,c<256) (hc:(Lx.given s).2.code=0) {p e:Nat} (hpe:p<e) (he:e<(envOf s).ws.length):¬ (((envOf s).tk p).line=((envOf s).tk e).line/\((envOf s).tk p).col=((envOf s).tk e).col):=by
 intro ⟨h1,h2⟩
 have:=(apart_of hb hc hpe he).lt
 unfold offT at this
 rw [h1,h2] at this
 omega
section
variable {s:List Nat}
theorem rule_piece {p e:Nat} (h:Apart s p e) {r:Rul} (hr:rule (envOf s) p=.ok r e) (hpe:p<e):∃ r' j,whole (envOf (cutT s ((envOf s).tk p) ((envOf s).tk e))) (rule (envOf (cutT s ((envOf s).tk p) ((envOf s).tk e))))=.ok r' j/\bareU r=bareU r':=by
 obtain ⟨x,h1,h2⟩:=piece h.win (P:=rule (envOf s)) (P':=rule (envOf (cutT s ((envOf s).tk p) ((envOf s).tk e)))) (h.win.rule (Nat.zero_le _)) (x:=r) (by rw [show p+(e - p)=e by omega];exact hr) h.last
 exact ⟨x,_,h1,h2⟩
theorem lit_piece {p e:Nat} (h:Apart s p e) {x:Li} (hr:lit (envOf s) 0 p=.ok x e) (hpe:p<e):∃ x' j,whole (envOf (cutT s ((envOf s).tk p) ((envOf s).tk e))) (fun i=>lit (envOf (cutT s ((envOf s).tk p) ((envOf s).tk e))) 0 i)=.ok x' j/\bareL x=bareL x':=by
 obtain ⟨x,h1,h2⟩:=piece h.win (P:=fun i=>lit (envOf s) 0 i) (P':=fun i=>lit (envOf (cutT s ((envOf s).tk p) ((envOf s).tk e))) 0 i) (h.win.litF 18 0 0 (Nat.zero_le _)) (x:=x) (by rw [show p+(e - p)=e by omega];exact hr) h.last
 exact ⟨x,_,h1,h2⟩
theorem atom_piece {p e:Nat} (h:Apart s p e) {x:Atom} (hr:atom (envOf s) p=.ok x e) (hpe:p<e):∃ j,whole (envOf (cutT s ((envOf s).tk p) ((envOf s).tk e))) (atom (envOf (cutT s ((envOf s).tk p) ((envOf s).tk e))))=.ok x j:=by
 obtain ⟨x,h1,h2⟩:=piece h.win (P:=atom (envOf s)) (P':=atom (envOf (cutT s ((envOf s).tk p) ((envOf s).tk e)))) (h.win.atom (Nat.zero_le _)) (x:=x) (by rw [show p+(e - p)=e by omega];exact hr) h.last
 subst h2
 exact ⟨_,h1⟩
end
/-- the rule's parts, as the statement goes through them -/
structure Parts (v:Env) (r:Rul) (from_ dot e:Nat):Prop where
 head:atom v from_=.ok r.head e
 lo:from_<e
 hi:e<=dot
 fit:dot<v.ws.length
 body:(r.body=[]/\e=dot)\/(e<dot/\Lits v (e+1) r.body dot)
theorem Parts.of {v:Env} {r:Rul} {i d:Nat} (h:rule v i=.ok r d) (hi:i<=v.ws.length) (hd:d<v.ws.length):∃ e,Parts v r i d e:=by
 obtain ⟨e,h1,h2,h3,h4,h5,h6⟩:=rule_parts h hi
 exact ⟨e,h1,h2,h3,hd,h6⟩
/-- literal k's words -/
structure Lit1 (v:Env) (x:Li) (from_ dot st sp:Nat):Prop where
 ok:lit v 0 st=.ok x sp
 lo:from_<st
 lt:st<sp
 hi:sp<=dot
 pl:Li.line x=(v.tk st).line
 pc:Li.col x=(v.tk st).col
theorem Parts.lit {v:Env} {r:Rul} {from_ dot e:Nat} (h:Parts v r from_ dot e) {k:Nat} (hk:k<r.body.length) :
  ∃ st sp,Lit1 v r.body[k] from_ dot st sp/\(k=0->st=e+1)/\(k+1=r.body.length->sp=dot)/\∀ (h2:k+1<r.body.length),sp+1<dot/\Li.line (r.body[k+1]'h2)=(v.tk (sp+1)).line/\Li.col (r.body[k+1]'h2)=(v.tk (sp+1)).col:=by
 have hf:=h.fit
 rcases h.body with ⟨hb,-⟩ | ⟨hlt,hL⟩
 ·rw [hb] at hk;simp at hk
 ·obtain ⟨st,sp,g1,g2,g3,g4,g5,g6,g7⟩:=hL.at (by omega) (by omega) k hk
  have hpl:=lit_place _ _ _ _ _ g1
  have:=h.lo
  refine ⟨st,sp,⟨g1,by omega,g3,g4,hpl.1,hpl.2⟩,g5,g6,fun h2=>?_⟩
  obtain ⟨sq,k1,k2,k3⟩:=g7 h2
  have hq:=lit_place _ _ _ _ _ k1
  exact ⟨by omega,hq.1,hq.2⟩
theorem one_of {α:Type} {v:Env} {one:Nat->PR α} {a:α} {j:Nat} (h:whole v one=.ok a j):∃ i,one 0=.ok a i:=by
 unfold whole at h
 obtain ⟨x,m,h1,h2⟩:=bind_ok h
 split at h2
 ·cases h2
 ·cases h2
  exact ⟨_,h1⟩
/-- a rule's first word is not 'relation' -/
theorem plain_word {t:Lx.Tok} (h:plain t=true):t.text≠[114,101,108,97,116,105,111,110]:=by
 intro e
 unfold plain at h
 rw [e] at h
 simp only [Bool.and_eq_true,decide_eq_true_eq] at h
 exact absurd h.2 (by decide)
theorem sign_word {t:Lx.Tok} {l:List Nat} (h:sign t l=true):t.text=l:=by
 unfold sign at h
 simp only [Bool.and_eq_true,decide_eq_true_eq] at h
 exact h.1
end Go.Proofs.YtppigckioalhhaaGreatDoorR.Sy
namespace Go.Proofs.YtppigckioalhhaaGreatDoorR
open Go.RowKit
set_option linter.unusedVariables false
set_option linter.unusedSimpArgs false
set_option maxRecDepth 100000
/-- what is kept, of things of n cells -/
structure Bears {α:Type} (n:Nat) (cs:α->Array Value) (B:(Nat->Prop)->World->α->Prop):Prop where
 size:∀ x,(cs x).size=n
 keep:∀ {F:Nat->Prop} {S:List Nat} {w w':World} {p:α},B F w p->Mod S w w'->(∀ s∈S,¬ F s)->B F w' p
 mono:∀ {F F':Nat->Prop} {w:World} {p:α},B F w p->(∀ k,F k->k<w.heap.size->F' k)->B F' w p
structure GI {α:Type} (T:TypeId) (n:Nat) (cs:α->Array Value) (B:(Nat->Prop)->World->α->Prop) (S:List Nat) (w0 W:World) (acc:List α) (va:Option Addr) (vc:Nat):Prop where
 row:W.ownsRow 0 T n (.slice va acc.length vc) acc.length (rowCells cs acc)
 new:∀ k∈fp (.slice va acc.length vc),w0.heap.size<=k
 sub:∀ p∈acc,B (fun k=>w0.heap.size<=k/\k∉fp (.slice va acc.length vc)) W p
 low:∀ s∈S,s<w0.heap.size
 mod:Mod S w0 W
section
variable {α:Type} {T:TypeId} {n:Nat} {cs:α->Array Value} {B:(Nat->Prop)->World->α->Prop} {S:List Nat} {w0 W W':World} {acc:List α} {va:Option Addr} {vc:Nat}
theorem GI.nil (hS:∀ s∈S,s<w0.heap.size):GI T n cs B S w0 w0 [] none 0:=⟨World.ownsRow_nil _ _ _ _,by simp [fp],by simp,hS,Mod.refl _ _⟩
theorem GI.keep (hB:Bears n cs B) (h:GI T n cs B S w0 W acc va vc) (hm:Mod S W W'):GI T n cs B S w0 W' acc va vc:=by
 have hl:=h.low
 refine ⟨hm.owns h.row (fun k hk hs=>?_),h.new,fun p hp=>hB.keep (h.sub p hp) hm (fun s hs hh=>?_),h.low,h.mod.trans hm (fun t ht=>.inl ht)⟩
 ·have:=h.new k hk;have:=hl k hs;omega
 ·have:=hl s hs;omega
theorem GI.grow {va':Option Addr} {vc':Nat} {p:α} {m:Nat} (hB:Bears n cs B) (h:GI T n cs B S w0 W acc va vc) (hm:Mod (fp (.slice va acc.length vc)) W W') (hp:B (fun k=>m<=k) W p) (hn:∀ k∈fp (.slice va acc.length vc),k<m) (hn0:w0.heap.size<=m)
  (hown:W'.ownsRow 0 T n (.slice va' (acc.length+1) vc') (acc.length+1) (rowCells cs acc++(cs p).toList)) (hf:∀ k∈fp (.slice va' (acc.length+1) vc'),k∈fp (.slice va acc.length vc)\/W.heap.size<=k) :
  GI T n cs B S w0 W' (acc++[p]) va' vc':=by
 have e1:(acc++[p]).length=acc.length+1:=by simp
 have hnew:=h.new
 have hsz:=h.mod.size
 have hnew':∀ k∈fp (.slice va' (acc.length+1) vc'),w0.heap.size<=k:=fun k hk=>by
  rcases hf k hk with hh | hh
  ·exact hnew k hh
  ·omega
 refine ⟨?_,by rw [e1];exact hnew',?_,h.low,h.mod.trans hm (fun k hk=>.inr (hnew k hk))⟩
 ·rw [e1,rowCells_snoc]
  exact hown
 ·intro q hq
  rw [e1]
  rcases List.mem_append.1 hq with hq | hq
  ·refine hB.mono (hB.keep (hB.mono (F':=fun k=>w0.heap.size<=k/\k∉fp (.slice va acc.length vc)/\k<W.heap.size) (h.sub q hq) (fun k hk hk2=>⟨hk.1,hk.2,hk2⟩)) hm (fun s hs hh=>hh.2.1 hs)) (fun k hk hk2=>⟨hk.1,fun hh=>?_⟩)
   rcases hf k hh with h1 | h1
   ·exact hk.2.1 h1
   ·have:=hk.2.2;omega
  ·rw [Msq] at hq
   subst hq
   refine hB.mono (hB.keep (hB.mono (F':=fun k=>m<=k/\k<W.heap.size) hp (fun k hk hk2=>⟨hk,hk2⟩)) hm (fun s hs hh=>by have:=hn s hs;omega)) (fun k hk hk2=>⟨by omega,fun hh=>?_⟩)
   rcases hf k hh with h1 | h1
   ·have:=hn k h1;omega
   ·have:=hk.2;omega
end
/-- what is in a list's row may be appended whole -/
theorem rows_src {α:Type} {F:Nat->Prop} {w:World} {n:Nat} {cs:α->Array Value} {l:List α} {u:Value} {TS e:TypeId} (hu:Tryz.prog.underlying TS=some (.slice e)) (hn:∀ x,(cs x).size=n) (h0:0<n) (h1:∀ x,∀ v∈(cs x).toList,v.oneCell'=true) (h:RowB F w n cs l u) :
  Src Tryz.prog n TS u l.length (rowCells cs l) w:=by
 have hone:∀ v∈rowCells cs l,v.oneCell'=true:=by
  intro v hv
  obtain ⟨x,-,hx⟩:=List.mem_flatMap.1 hv
  exact h1 x v hx
 cases h with
 | nil =>
  rename_i a c
  cases a with
  | none=>exact Src.ofNil w hu c
  | some ad=>exact Src.ofSlice w hu ad 0 c [] (by simp) (fun j u hu=>by simp at hu) (by simp)
 | row hF hb hc hcap =>
  rename_i b off c
  refine Src.ofSlice w hu _ _ c _ (rowCells_len hn l) (fun j v hv=>?_) hone
  rw [addr_add]
  have hj:=(List.getElem?_eq_some_iff.1 hv).1
  rw [rowCells_len hn] at hj
  have hi:j / n<l.length:=Nat.div_lt_of_lt_mul (by rw [Nat.mul_comm];exact hj)
  have hmd:j % n<n:=Nat.mod_lt _ h0
  have hsz:j % n<(cs l[j / n]).size:=by rw [hn];exact hmd
  have key:=rowCells_get hn l (j / n) hi (j % n) _ (Array.getElem?_eq_getElem hsz)
  have hjj:j / n * n+j % n=j:=by rw [Nat.mul_comm];exact Nat.div_add_mod j n
  rw [hjj,hv] at key
  have:=hc (j / n) hi (j % n) _ (Array.getElem?_eq_getElem hsz)
  rw [Nat.add_assoc,hjj] at this
  rw [this,key]
/-- expressions with their arguments' slices -/
abbrev ExU:=Pr.Ex × Value
def csX (p:ExU):Array Value:=exV p.1 p.2
def BX (F:Nat->Prop) (w:World) (p:ExU):Prop:=EB F w p.1 p.2
theorem bearsX:Bears 7 csX BX:=⟨fun _=>rfl,fun h hm hs=>EB.keep h hm hs,fun h hF=>EB.mono h hF⟩
theorem csX_one {F:Nat->Prop} {w:World} {p:ExU} (h:BX F w p):∀ u∈(csX p).toList,u.oneCell'=true:=by
 obtain ⟨e,u⟩:=p
 obtain ⟨a,c,hu⟩:=EB.lit h
 simp only at hu
 subst hu
 intro x hx
 simp [csX,exV] at hx
 rcases hx with rfl | rfl | rfl | rfl | rfl | rfl | rfl <;> rfl
theorem EB.of_row {F:Nat->Prop} {w:World} {k:Int} {v:ByteArray} {x:Va.Val} {op:Int} {u:Value} (l:List ExU) (h:RowB F w 7 csX l u) (hs:∀ p∈l,BX F w p):EB F w (.mk k v x op (l.map (·.1))) u:=by
 cases h with
 | nil=>exact .nil
 | row hF hb h1 hcap =>
  rename_i g off c
  have:=@EB.row F w k v x op (l.map (·.1)) g off c (fun i=>if h:i<l.length then l[i].2 else .slice none 0 0) hF hb (fun i hi=>by
   rw [List.length_map] at hi
   simp only [dif_pos hi,List.getElem_map]
   exact h1 i hi) (fun i hi=>by
   rw [List.length_map] at hi
   simp only [dif_pos hi,List.getElem_map]
   exact hs _ (List.getElem_mem hi))
  simpa using this
open Go.RowKit
set_option linter.unusedVariables false
set_option linter.unusedSimpArgs false
set_option maxRecDepth 100000
/-- a copy: in new blocks alone -/
def CpA (a:Pr.Atom) (w:World) (e:Ending) (w':World):Prop:=∃ u,e=.returned (.agg #[.string a.rel,u])/\RowB (fun k=>w.heap.size<=k) w' 5 tmV a.terms u/\Mod [] w w'
set_option maxHeartbeats 4000000 in
theorem copyAtom_any {F:Nat->Prop} (a:Pr.Atom) (hl:a.terms.length<=1048576) (u:Value) (w:World) (h:RowB F w 5 tmV a.terms u) :
  Calls Tryz.prog 97 #[.agg #[.string a.rel,u]] w (CpA a w):=by
 obtain ⟨rel,ts⟩:=a
 dsimp only at *
 obtain ⟨i0,hinf,hz0,hz1,hz2⟩:=info_parts Tryz.infoTerm
 obtain ⟨a1,c1,rfl⟩:=h.lit
 have hsrc:=rows_src Tryz.underlying38 tmV_size (by omega) tmV_one h
 have mA:=((Mod.refl [] w).alloc (Obj.cells #[.string rel,.slice a1 ts.length c1] 40)).alloc (Obj.cells #[.string ⟨#[]⟩,.slice none 0 0] 40)
 have eA:=two_a w #[.string rel,.slice a1 ts.length c1] #[.string ⟨#[]⟩,.slice none 0 0] 40 40
 have eB:=two_b w #[.string rel,.slice a1 ts.length c1] #[.string ⟨#[]⟩,.slice none 0 0] 40 40
 have H1:=h.keep mA (by simp)
 have S1:=Hxq (rows_src Tryz.underlying38 tmV_size (by omega) tmV_one H1)
 clear h hsrc H1
 go_enter Tryz.func97,Tryz.ntmps97
 go_upto_region 1 with fail
 generalize (w.alloc (Obj.cells _ 40)).alloc (Obj.cells _ 40)=w0 at *
 have M0:=Lib.hid mA;have E0:=Lib.hid eA;have E1:=Lib.hid eB
 clear mA eA eB
 have x0:=cell_at E0.out 0;have x1:=cell_at E0.out 1
 simp only [List.getElem?_toArray,List.getElem?_cons_zero,List.getElem?_cons_succ] at x0 x1
 go_wp2_with (at_builtin;refine wpList_append_src _ rfl _ _ 38 38 rfl 113 i0 (.agg #[Value.int IntKind.i64 0,Value.string ⟨#[]⟩,Value.int IntKind.i64 0,Value.int IntKind.i64 0,Value.string ⟨#[]⟩]) 5 56 Tryz.underlying38 hinf hz0 hz1 hz2 rfl (.slice none 0 0) 0 [] rfl (World.ownsRow_nil _ _ _ _) _ ts.length (rowCells tmV ts) rfl S1.out (by unfold maxLen;omega) (by omega) ?_)
 intro v2 w2 hown2 hm2 hf2 hn2
 (try rw [Nat.zero_add] at hown2);(try rw [List.nil_append] at hown2)
 obtain ⟨a2,c2,rfl⟩:=owns_slice hown2
 have M2:=Hxq (show Mod [] w0 w2 from hm2)
 have hR:=RowB.of_owns (F:=fun k=>w0.heap.size<=k) tmV_size hown2 (fun k hk=>by
  rcases hf2 k hk with hh | hh
  ·simp [fp] at hh
  ·exact hh)
 have R2:=Lib.hid hR
 clear hown2 hm2 hf2 hn2 x0 x1 S1 hR
 have E2:=Hxq (M2.out.at E0.out (by simp));have E3:=Hxq (M2.out.at E1.out (by simp))
 have x0:=cell_at E2.out 0;have y0:=cell_at E3.out 0;have y1:=cell_at E3.out 1
 simp only [List.getElem?_toArray,List.getElem?_cons_zero,List.getElem?_cons_succ] at x0 y0 y1
 have fA:∀ j,w2.frozen? ⟨w.heap.size+1,j,none⟩=false:=fun j=>free_at E3.out j
 have hz:=M0.out.size
 have hz2:=lt_of_block E1.out
 go_wp2_with fail
 have mR:=setCs_mod (w.heap.size+1) [.string rel,.slice a2 ts.length c2] 0 w2
 refine bodyPost_ret (results_cell_row rfl _ _ _ _ _ _ _ rfl (setCs_row (vs:=[.string rel,.slice a2 ts.length c2]) E3.out rfl) Tryz.underlying40 rfl (by kernel_rfl)) rfl ⟨_,rfl,?_,(M0.out.trans M2.out (by simp)).trans mR (by simp)⟩
 exact (R2.out.keep mR (fun s hs=>by rw [Msq] at hs;omega)).mono (fun k hk _=>by omega)
end Go.Proofs.YtppigckioalhhaaGreatDoorR
