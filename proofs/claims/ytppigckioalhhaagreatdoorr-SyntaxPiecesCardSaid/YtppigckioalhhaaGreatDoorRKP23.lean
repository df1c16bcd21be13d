/- THE TEXTS MERGED: SyWin SyWin2. -/
import Derived.Test.YtppigckioalhhaaGreatDoorRKP1
import Derived.Test.YtppigckioalhhaaGreatDoorRKP8
import Derived.Test.YtppigckioalhhaaGreatDoorRKP22
import Derived.Test.YtppigckioalhhaaGreatDoorRKP20
namespace Go.Proofs.YtppigckioalhhaaGreatDoorR.Sy
open Lx (Tok)
open Pr (Term Atom Ex Li Rul Rel Prog)
set_option linter.unusedVariables false
set_option linter.unusedSimpArgs false
/-- v' has v's n words from a on -/
structure Win (v v':Env) (a n:Nat):Prop where
 len:v'.ws.length=n
 tk:∀ i,i<n->sh (v'.tk i)=sh (v.tk (a+i))
 fit:a+n<=v.ws.length
theorem Win.out {v v':Env} {a n:Nat} (h:Win v v' a n) {i:Nat} (hi:n<=i):v'.tk i=zT:=by
 unfold Env.tk
 rw [List.getD_eq_getElem?_getD,List.getElem?_eq_none (by rw [h.len];exact hi)]
 rfl
/-- what is read within the piece is read of the piece -/
def Wn {α:Type} (R:α->α->Prop) (a n:Nat) (p p':PR α):Prop:=∀ x j,p=.ok x j->j<=a+n->∃ x' j',j=a+j'/\p'=.ok x' j'/\R x x'
/-- it goes on by a word at least -/
def Str {α:Type} (v:Env) (one:Nat->PR α):Prop:=∀ j a k,j<=v.ws.length->one j=.ok a k->j<k/\k<=v.ws.length
section
variable {α β:Type} {v v':Env} {a n:Nat}
theorem Str.adv {one:Nat->PR α} (h:Str v one):Adv v one:=fun j a k hj e=>by have:=h j a k hj e;omega
theorem str_bind {one:Nat->PR α} {f:α->Nat->PR β} (h:Str v one) (hf:∀ x,Adv v (f x)):Str v (fun i=>(one i).bind f):=by
 intro j b k hj e
 obtain ⟨x,m,h1,h2⟩:=bind_ok e
 have h3:=h j x m hj h1
 have h4:=hf x m b k h3.2 h2
 omega
theorem adv_bind {one:Nat->PR α} {f:α->Nat->PR β} (h:Adv v one) (hf:∀ x,Adv v (f x)):Adv v (fun i=>(one i).bind f):=by
 intro j b k hj e
 obtain ⟨x,m,h1,h2⟩:=bind_ok e
 have h3:=h j x m hj h1
 have h4:=hf x m b k h3.2 h2
 omega
theorem adv_ret (g:Nat->α):Adv v (fun i=>.ok (g i) i):=fun j a k hj e=>by cases e;omega
theorem str_must (s:List Nat):Str v (must v s):=by
 intro j a k hj h
 unfold must at h
 split at h
 ·rename_i hs
  have:=sign_lt hs
  cases h;omega
 ·cases h
theorem str_name:Str v (name v):=by
 intro j a k hj h
 unfold name at h
 split at h
 ·rename_i hs
  have:=plain_lt hs
  cases h;omega
 ·cases h
theorem str_value:Str v (value v):=by
 intro j a k hj h
 unfold value at h
 split at h
 ·rename_i c n hc
  have:=constant_adv hc
  cases h;omega
 ·cases h
theorem str_term:Str v (term v):=by
 intro j a k hj h
 unfold term at h
 split at h
 ·rename_i hk
  have:j<v.ws.length:=kind_lt (by omega)
  cases h;omega
 ·split at h
  ·rename_i hs
   have:=sign_lt hs
   cases h;omega
  ·obtain ⟨c,m,h1,h2⟩:=bind_ok h
   cases h2
   exact str_value j c k hj h1
theorem str_atom:Str v (atom v):=str_bind str_name fun t=>adv_bind (adv_must v [40]) fun _=>adv_bind (adv_list (adv_term v)) fun l=>adv_ret _
theorem str_exprF:∀ (k line above:Nat),line≠0->Str v (exprF v k line above)
 | 0,line,above,_=>fun j a k hj h=>by cases h
 | k+1,line,above,h0=>by
  intro j x m hj h
  rw [exprF] at h
  split at h
  ·split at h
   ·rename_i hk
    have:j<v.ws.length:=kind_lt (by omega)
    cases h;omega
   ·split at h
    ·rename_i c n hc
     have:=constant_adv hc
     cases h;omega
    ·split at h
     ·rename_i hs
      have:=sign_lt hs
      split at h
      ·cases h
      ·obtain ⟨y,q,h1,h2⟩:=bind_ok h
       have:=adv_exprF v k 3 (above+1) (by decide) (j+1) y q (by omega) h1
       cases h2;omega
     ·split at h
      ·cases h
      ·obtain ⟨_,q,h1,h2⟩:=bind_ok h
       have h3:=str_must [40] j _ q hj h1
       obtain ⟨y,q2,h4,h5⟩:=bind_ok h2
       have h6:=adv_exprF v k 1 (above+1) (by decide) q y q2 h3.2 h4
       obtain ⟨_,q3,h7,h8⟩:=bind_ok h5
       have h9:=adv_must v [41] q2 _ q3 h6.2 h7
       cases h8;omega
  ·obtain ⟨y,q,h1,h2⟩:=bind_ok h
   have h3:=str_exprF k (line+1) above (by omega) j y q hj h1
   have h4:=adv_chainF h0 (fun ab=>adv_exprF v k (line+1) ab (by omega)) _ _ _ q x m h3.2 h2
   omega
theorem str_expr:Str v (expr v):=str_bind (str_exprF 60 1 0 (by decide)) fun r=>adv_ret _
theorem str_litF:∀ (k br:Nat),Str v (litF v k br)
 | 0,br=>fun j a k hj h=>by cases h
 | k+1,br=>by
  intro j x m hj h
  rw [litF] at h
  split at h
  ·rename_i hs
   have:=sign_lt hs
   obtain ⟨y,q,h1,h2⟩:=bind_ok h
   have:=adv_atom v (j+1) y q (by omega) h1
   cases h2;omega
  ·split at h
   ·obtain ⟨y,q,h1,h2⟩:=bind_ok h
    have:=str_atom j y q hj h1
    cases h2;omega
   ·split at h
    ·rename_i hc
     have h3:j+2<v.ws.length:=kind_lt (placeF_pos [[99,111,117,110,116],[115,117,109],[109,105,110],[109,97,120]] 0 hc.2.2)
     obtain ⟨y,q,h1,h2⟩:=bind_ok h
     have:=adv_aggOf (adv_litF v k (br+1)) br (by omega) h1
     cases h2;omega
    ·obtain ⟨y,q,h1,h2⟩:=bind_ok h
     have h3:=str_expr j y q hj h1
     split at h2
     ·cases h2
     ·rename_i hc
      have hq:q<v.ws.length:=by
       exact kind_lt (placeF_pos [[61],[33,61],[60],[60,61],[62],[62,61]] 0 (show 0<cmpOf (v.tk q) by omega))
      obtain ⟨z,q2,h4,h5⟩:=bind_ok h2
      have:=adv_expr v (q+1) z q2 (by omega) h4
      cases h5;omega
theorem wn_bind {R:α->α->Prop} {Q:β->β->Prop} {p p':PR α} {f f':α->Nat->PR β} (h:Wn R a n p p') (hp:∀ x j,p=.ok x j->j<=v.ws.length) (hf:∀ x,Adv v (f x)) (hw:∀ x x' j',a+j'<=a+n->R x x'->Wn Q a n (f x (a+j')) (f' x' j')):Wn Q a n (p.bind f) (p'.bind f'):=by
 intro y k e hk
 obtain ⟨x,j,h1,h2⟩:=bind_ok e
 have h3:=hf x j y k (hp x j h1) h2
 obtain ⟨x',j',rfl,h5,h6⟩:=h x j h1 (by omega)
 obtain ⟨y',k',h7,h8,h9⟩:=hw x x' j' (by omega) h6 y k h2 hk
 exact ⟨y',k',h7,by rw [h5,PR.bind_ok];exact h8,h9⟩
theorem wn_ok {R:α->α->Prop} {x x':α} {j j':Nat} (hj:j=a+j') (h:R x x'):Wn R a n (.ok x j) (.ok x' j'):=fun y k e _=>by
 cases e
 exact ⟨x',j',hj,rfl,h⟩
theorem wn_err {R:α->α->Prop} {f:Flt} {p':PR α}:Wn R a n (.err f) p':=fun y k e _=>by cases e
/-- at the end it reads on: out of the piece -/
theorem wn_end {R:α->α->Prop} {one:Nat->PR α} (hs:Str v one) (hfit:a+n<=v.ws.length) {i:Nat} (hi:i=n) {p':PR α}:Wn R a n (one (a+i)) p':=fun x j e hj=>by
 have:=hs (a+i) x j (by omega) e
 omega
theorem wn_out {R:α->α->Prop} {p p':PR α} (h:∀ x j,p=.ok x j->a+n<j):Wn R a n p p':=fun x j e hj=>by
 have:=h x j e
 omega
theorem Win.lt {i:Nat} (h:Win v v' a n) (hi:i<n):a+i<v.ws.length:=by have:=h.fit;omega
theorem Win.must (h:Win v v' a n) (s:List Nat) {i:Nat} (hi:i<=n):Wn (fun _ _=>True) a n (Sy.must v s (a+i)) (Sy.must v' s i):=by
 by_cases hl:i<n
 ·unfold Sy.must
  rw [sign_sh (h.tk i hl)]
  split
  ·exact wn_ok (by omega) trivial
  ·exact wn_err
 ·exact wn_end (str_must s) h.fit (by omega)
theorem Win.name (h:Win v v' a n) {i:Nat} (hi:i<=n):Wn (fun t t'=>t'.text=t.text) a n (Sy.name v (a+i)) (Sy.name v' i):=by
 by_cases hl:i<n
 ·unfold Sy.name
  rw [plain_sh (h.tk i hl)]
  split
  ·exact wn_ok (by omega) (text_sh (h.tk i hl))
  ·exact wn_err
 ·exact wn_end str_name h.fit (by omega)
/-- constants alike, but for one that goes on beyond the piece -/
theorem Win.constant (h:Win v v' a n) {i:Nat} (hl:i<n):Sy.constant v' i=Sy.constant v (a+i)\/(∃ c,Sy.constant v (a+i)=some (c,2)/\a+i+2=a+n+1):=by
 by_cases h1:i+1<n
 ·exact .inl (const_sh2 (h.tk i hl) (by have:=h.tk (i+1) h1;rwa [<-Nat.add_assoc] at this))
 ·have h0:=h.tk i hl
  have e0:=h0
  unfold sh at e0
  simp only [Sh.mk.injEq] at e0
  unfold Sy.constant
  rw [h.out (by omega:n<=i+1),plain_sh h0,sign_sh h0,e0.1,e0.2.1,e0.2.2.1,e0.2.2.2.1,e0.2.2.2.2]
  by_cases c1:(v.tk (a+i)).kind=3\/(v.tk (a+i)).kind=4
  ·rw [if_pos c1,if_pos c1];exact .inl rfl
  ·rw [if_neg c1,if_neg c1]
   by_cases c2:plain (v.tk (a+i))=true
   ·rw [if_pos c2,if_pos c2];exact .inl rfl
   ·rw [if_neg c2,if_neg c2]
    by_cases c3:sign (v.tk (a+i)) [45]=true/\(v.tk (a+i+1)).kind=3
    ·rw [if_pos c3];exact .inr ⟨_,rfl,by omega⟩
    ·rw [if_neg c3,if_neg (by simp [zT])];exact .inl rfl
theorem Win.value (h:Win v v' a n) {i:Nat} (hi:i<=n):Wn Eq a n (Sy.value v (a+i)) (Sy.value v' i):=by
 by_cases hl:i<n
 ·unfold Sy.value
  rcases h.constant hl with e | ⟨c,e,h2⟩
  ·rw [e]
   split
   ·exact wn_ok (by omega) rfl
   ·exact wn_err
  ·rw [e]
   exact wn_out fun x j e=>by cases e;omega
 ·exact wn_end str_value h.fit (by omega)
theorem Win.term (h:Win v v' a n) {i:Nat} (hi:i<=n):Wn Eq a n (Sy.term v (a+i)) (Sy.term v' i):=by
 by_cases hl:i<n
 ·unfold Sy.term
  rw [kind_sh' (h.tk i hl),sign_sh (h.tk i hl),text_sh (h.tk i hl)]
  split
  ·exact wn_ok (by omega) rfl
  ·split
   ·exact wn_ok (by omega) rfl
   ·exact wn_bind (v:=v) (h.value hi) (fun x j e=>(adv_value v _ x j (by have:=h.fit;omega) e).2) (fun x=>adv_ret _) fun x x' j' _ e=>by subst e;exact wn_ok rfl rfl
 ·exact wn_end str_term h.fit (by omega)
theorem Win.listF (h:Win v v' a n) (fin:List Nat) {R:α->α->Prop} {one one':Nat->PR α} (hs:Str v one) (h1:∀ i,i<=n->Wn R a n (one (a+i)) (one' i)):∀ (k k':Nat) (acc acc':List α) (i:Nat),i<=n->n<k'+i->All2 R acc acc'->Wn (All2 R) a n (Sy.listF v fin one k acc (a+i)) (Sy.listF v' fin one' k' acc' i)
 | 0,k',acc,acc',i,hi,hk,ha=>wn_err
 | k+1,k',acc,acc',i,hi,hk,ha=>by
  have hfit:=h.fit
  by_cases hl:i<n
  ·obtain ⟨k',rfl⟩:∃ m,k'=m+1:=⟨k' - 1,by omega⟩
   rw [Sy.listF,Sy.listF,sign_sh (h.tk i hl)]
   split
   ·intro y m e hm
    obtain ⟨x,j,e1,e2⟩:=bind_ok e
    have e3:=hs (a+i+1) x j (by omega) e1
    have e4:=adv_listF hs.adv k (acc++[x]) j y m e3.2 e2
    obtain ⟨x',j',e5,e6,e7⟩:=h1 (i+1) (by omega) x j (by rw [<-Nat.add_assoc];exact e1) (by omega)
    subst e5
    obtain ⟨y',m',f1,f2,f3⟩:=h.listF fin hs h1 k k' (acc++[x]) (acc'++[x']) j' (by omega) (by omega) (snoc2 ha e7) y m e2 hm
    exact ⟨y',m',f1,by rw [e6,PR.bind_ok];exact f2,f3⟩
   ·exact wn_bind (v:=v) (h.must fin hi) (fun x j e=>(adv_must v fin _ x j (by omega) e).2) (fun x=>adv_ret _) fun x x' j' _ e=>wn_ok rfl ha
  ·refine wn_out fun x j e=>?_
   rw [Sy.listF] at e
   split at e
   ·rename_i hsg
    have:=sign_lt hsg
    obtain ⟨y,q,e1,e2⟩:=bind_ok e
    have e3:=hs (a+i+1) y q (by omega) e1
    have e4:=adv_listF hs.adv k _ q x j e3.2 e2
    omega
   ·obtain ⟨y,q,e1,e2⟩:=bind_ok e
    have e3:=str_must fin (a+i) y q (by omega) e1
    cases e2
    omega
theorem Win.list (h:Win v v' a n) (fin:List Nat) {R:α->α->Prop} {one one':Nat->PR α} (hs:Str v one) (h1:∀ i,i<=n->Wn R a n (one (a+i)) (one' i)) {i:Nat} (hi:i<=n):Wn (All2 R) a n (Sy.list v fin one (a+i)) (Sy.list v' fin one' i):=by
 have hfit:=h.fit
 by_cases hl:i<n
 ·unfold Sy.list
  rw [sign_sh (h.tk i hl)]
  split
  ·exact wn_ok (by omega) .nil
  ·exact wn_bind (v:=v) (h1 i hi) (fun x j e=>(hs _ x j (by omega) e).2) (fun x=>adv_listF hs.adv _ _) fun x x' j' hj e=>h.listF fin hs h1 _ _ _ _ j' (by omega) (by rw [h.len];omega) (.cons e .nil)
 ·refine wn_out fun x j e=>?_
  unfold Sy.list at e
  split at e
  ·cases e;omega
  ·obtain ⟨y,q,e1,e2⟩:=bind_ok e
   have e3:=hs (a+i) y q (by omega) e1
   have e4:=adv_listF hs.adv _ _ q x j e3.2 e2
   omega
theorem Win.atom (h:Win v v' a n) {i:Nat} (hi:i<=n):Wn Eq a n (Sy.atom v (a+i)) (Sy.atom v' i):=by
 have hfit:=h.fit
 unfold Sy.atom
 refine wn_bind (v:=v) (h.name hi) (fun x j e=>(str_name _ x j (by omega) e).2) (fun t=>adv_bind (adv_must v [40]) fun _=>adv_bind (adv_list (adv_term v)) fun l=>adv_ret _) fun t t' j' hj ht=>?_
 refine wn_bind (v:=v) (h.must [40] (by omega)) (fun x j e=>(str_must _ _ x j (by omega) e).2) (fun _=>adv_bind (adv_list (adv_term v)) fun l=>adv_ret _) fun _ _ j' hj _=>?_
 refine wn_bind (v:=v) (h.list [41] str_term (fun i hi=>h.term hi) (by omega)) (fun x j e=>(adv_list (adv_term v) _ x j (by omega) e).2) (fun l=>adv_ret _) fun l l' j' hj hl=>wn_ok rfl ?_
 rw [ht,forall2_eq hl]
theorem Win.chain (h:Win v v' a n) {line:Nat} (h0:line≠0) {sub sub':Nat->Nat->PR (Ex × Nat)} (hs:∀ ab,Str v (sub ab)) (h1:∀ ab i,i<=n->Wn Eq a n (sub ab (a+i)) (sub' ab i)) (above:Nat):∀ (k k':Nat) (e:Ex) (d i:Nat),i<=n->n<k'+i->Wn Eq a n (chainF v line sub above k e d (a+i)) (chainF v' line sub' above k' e d i)
 | 0,k',e,d,i,hi,hk=>wn_err
 | k+1,k',e,d,i,hi,hk=>by
  have hfit:=h.fit
  obtain ⟨k',rfl⟩:∃ m,k'=m+1:=⟨k' - 1,by omega⟩
  by_cases hl:i<n
  ·rw [chainF,chainF,level_sh (h.tk i hl)]
   split
   ·exact wn_ok rfl rfl
   ·split
    ·exact wn_err
    ·intro y m e1 hm
     obtain ⟨x,j,e2,e3⟩:=bind_ok e1
     have e4:=hs _ (a+i+1) x j (by omega) e2
     have e5:=adv_chainF h0 (fun ab=>(hs ab).adv) k _ _ j y m e4.2 e3
     obtain ⟨x',j',e6,e7,e8⟩:=h1 (above+1) (i+1) (by omega) x j (by rw [<-Nat.add_assoc];exact e2) (by omega)
     subst e6;subst e8
     obtain ⟨y',m',f1,f2,f3⟩:=h.chain h0 hs h1 above k k' _ _ j' (by omega) (by omega) y m e3 hm
     exact ⟨y',m',f1,by rw [e7,PR.bind_ok];exact f2,f3⟩
  ·rw [chainF,chainF,h.out (by omega:n<=i)]
   have hz:(level zT).1≠line:=by show 0≠line;omega
   rw [if_pos hz]
   split
   ·exact wn_ok rfl rfl
   ·rename_i hlv
    split
    ·exact wn_err
    ·refine wn_out fun x j e1=>?_
     have hlt:=level_lt (v:=v) (i:=a+i) (by omega)
     obtain ⟨y,q,e2,e3⟩:=bind_ok e1
     have e4:=hs _ (a+i+1) y q (by omega) e2
     have e5:=adv_chainF h0 (fun ab=>(hs ab).adv) k _ _ q x j e4.2 e3
     omega
theorem Win.exprF (h:Win v v' a n):∀ (k line above i:Nat),line≠0->i<=n->Wn Eq a n (Sy.exprF v k line above (a+i)) (Sy.exprF v' k line above i)
 | 0,line,above,i,_,hi=>wn_err
 | k+1,line,above,i,h0,hi=>by
  have hfit:=h.fit
  by_cases hl:i<n
  ·rw [Sy.exprF,Sy.exprF]
   by_cases h3:line=3
   ·rw [if_pos h3,if_pos h3,kind_sh' (h.tk i hl),text_sh (h.tk i hl),sign_sh (h.tk i hl),sign_sh (h.tk i hl)]
    split
    ·exact wn_ok (by omega) rfl
    ·rcases h.constant hl with e | ⟨c,e,h2⟩
     ·rw [e]
      split
      ·exact wn_ok (by omega) rfl
      ·split
       ·by_cases hl1:i+1<n
        ·have e1:=h.tk (i+1) hl1
         rw [<-Nat.add_assoc] at e1
         rw [operand_sh e1]
         split
         ·exact wn_err
         ·have:=h.exprF k 3 (above+1) (i+1) (by decide) (by omega)
          rw [<-Nat.add_assoc] at this
          exact wn_bind (v:=v) this (fun x j e=>(adv_exprF v k 3 _ (by decide) _ x j (by omega) e).2) (fun x=>adv_ret _) fun x x' j' _ e=>by subst e;exact wn_ok rfl rfl
        ·split
         ·exact wn_err
         ·refine wn_out fun x j e1=>?_
          obtain ⟨y,q,e2,e3⟩:=bind_ok e1
          have:=str_exprF k 3 (above+1) (by decide) (a+i+1) y q (by omega) e2
          cases e3;omega
       ·split
        ·exact wn_err
        ·refine wn_bind (v:=v) (h.must [40] hi) (fun x j e=>(str_must _ _ x j (by omega) e).2) (fun _=>adv_bind (adv_exprF v k 1 _ (by decide)) fun _=>adv_bind (adv_must v _) fun _=>adv_ret _) fun _ _ j' hj _=>?_
         refine wn_bind (v:=v) (h.exprF k 1 (above+1) j' (by decide) (by omega)) (fun x j e=>(adv_exprF v k 1 _ (by decide) _ x j (by omega) e).2) (fun _=>adv_bind (adv_must v _) fun _=>adv_ret _) fun x x' j' hj e=>?_
         subst e
         exact wn_bind (v:=v) (h.must [41] (by omega)) (fun x j e=>(str_must _ _ x j (by omega) e).2) (fun _=>adv_ret _) fun _ _ j' hj _=>wn_ok rfl rfl
     ·rw [e]
      exact wn_out fun x j e=>by cases e;omega
   ·rw [if_neg h3,if_neg h3]
    refine wn_bind (v:=v) (h.exprF k (line+1) above i (by omega) hi) (fun x j e=>(adv_exprF v k _ _ (by omega) _ x j (by omega) e).2) (fun x=>adv_chainF h0 (fun ab=>adv_exprF v k _ ab (by omega)) _ _ _) fun x x' j' hj e=>?_
    subst e
    exact h.chain h0 (fun ab=>str_exprF k _ ab (by omega)) (fun ab i hi=>h.exprF k (line+1) ab i (by omega) hi) above _ _ _ _ j' (by omega) (by rw [h.len];omega)
  ·exact wn_end (str_exprF (k+1) line above h0) hfit (by omega)
theorem Win.expr (h:Win v v' a n) {i:Nat} (hi:i<=n):Wn Eq a n (Sy.expr v (a+i)) (Sy.expr v' i):=by
 have hfit:=h.fit
 exact wn_bind (v:=v) (h.exprF 60 1 0 i (by decide) hi) (fun x j e=>(adv_exprF v 60 1 0 (by decide) _ x j (by omega) e).2) (fun x=>adv_ret _) fun x x' j' _ e=>by subst e;exact wn_ok rfl rfl
theorem Win.bodyF (h:Win v v' a n) {one one':Nat->PR Li} (hs:Str v one) (h1:∀ i,i<=n->Wn RL a n (one (a+i)) (one' i)):∀ (k k':Nat) (acc acc':List Li) (i:Nat),i<=n->n<k'+i->All2 RL acc acc'->Wn (All2 RL) a n (Sy.bodyF v one k acc (a+i)) (Sy.bodyF v' one' k' acc' i)
 | 0,k',acc,acc',i,hi,hk,ha=>wn_err
 | k+1,k',acc,acc',i,hi,hk,ha=>by
  have hfit:=h.fit
  obtain ⟨k',rfl⟩:∃ m,k'=m+1:=⟨k' - 1,by omega⟩
  by_cases hl:i<n
  ·rw [Sy.bodyF,Sy.bodyF,sign_sh (h.tk i hl)]
   split
   ·intro y m e hm
    obtain ⟨x,j,e1,e2⟩:=bind_ok e
    have e3:=hs (a+i+1) x j (by omega) e1
    have e4:=adv_bodyF hs.adv k (acc++[x]) j y m e3.2 e2
    obtain ⟨x',j',e5,e6,e7⟩:=h1 (i+1) (by omega) x j (by rw [<-Nat.add_assoc];exact e1) (by omega)
    subst e5
    obtain ⟨y',m',f1,f2,f3⟩:=h.bodyF hs h1 k k' (acc++[x]) (acc'++[x']) j' (by omega) (by omega) (snoc2 ha e7) y m e2 hm
    exact ⟨y',m',f1,by rw [e6,PR.bind_ok];exact f2,f3⟩
   ·exact wn_ok rfl ha
  ·rw [Sy.bodyF,Sy.bodyF,h.out (by omega:n<=i),if_neg (show ¬ sign zT [44]=true by decide)]
   split
   ·rename_i hsg
    refine wn_out fun x j e=>?_
    have:=sign_lt hsg
    obtain ⟨y,q,e1,e2⟩:=bind_ok e
    have e3:=hs (a+i+1) y q (by omega) e1
    have e4:=adv_bodyF hs.adv k _ q x j e3.2 e2
    omega
   ·exact wn_ok rfl ha
theorem Win.bodyOf (h:Win v v' a n) {one one':Nat->PR Li} (hs:Str v one) (h1:∀ i,i<=n->Wn RL a n (one (a+i)) (one' i)) {i:Nat} (hi:i<=n):Wn (All2 RL) a n (Sy.bodyOf v one (a+i)) (Sy.bodyOf v' one' i):=by
 have hfit:=h.fit
 unfold Sy.bodyOf
 exact wn_bind (v:=v) (h1 i hi) (fun x j e=>(hs _ x j (by omega) e).2) (fun x=>adv_bodyF hs.adv _ _) fun x x' j' hj e=>h.bodyF hs h1 _ _ _ _ j' (by omega) (by rw [h.len];omega) (.cons e .nil)
end
open Lx (Tok)
open Pr (Term Atom Ex Li Rul Rel Prog)
set_option linter.unusedVariables false
set_option linter.unusedSimpArgs false
section
variable {α β:Type} {v v':Env} {a n:Nat}
theorem fn_z:fnOf zT=0:=rfl
theorem sgn_z (s:List Nat):sign zT s=false:=by unfold sign;simp [zT]
theorem fn_lt {i:Nat} (h:0<fnOf (v.tk i)):i<v.ws.length:=kind_lt (placeF_pos [[99,111,117,110,116],[115,117,109],[109,105,110],[109,97,120]] 0 h)
theorem cmp_lt {i:Nat} (h:cmpOf (v.tk i)≠0):i<v.ws.length:=kind_lt (placeF_pos [[61],[33,61],[60],[60,61],[62],[62,61]] 0 (show 0<cmpOf (v.tk i) by omega))
theorem Win.aggOf (h:Win v v' a n) {one one':Nat->PR Li} (hs:Str v one) (h1:∀ i,i<=n->Wn RL a n (one (a+i)) (one' i)) (br:Nat) {i:Nat} (hi:i+3<=n):Wn RA a n (Sy.aggOf v one br (a+i)) (Sy.aggOf v' one' br i):=by
 have hfit:=h.fit
 have e2:=h.tk (i+2) (by omega)
 rw [<-Nat.add_assoc] at e2
 have hbd:∀ o:Ex,Adv v (fun j=>(Sy.bodyOf v one j).bind fun b j=>(Sy.must v [125] j).bind fun _ j=>PR.ok (⟨(fnOf (v.tk (a+i+2)):Nat),txt (v.tk (a+i)).text,o,b⟩:Ag) j):=fun o=>adv_bind (adv_bodyOf hs.adv) fun b=>adv_bind (adv_must v _) fun _=>adv_ret _
 have hr:∀ j',j'<=n->Wn RA a n ((if fnOf (v.tk (a+i+2))≠1 then (Sy.expr v (a+j')).bind fun e j=>(Sy.must v [58] j).bind fun _ j=>.ok e j else .ok ex0 (a+j')).bind fun o j =>
   (Sy.bodyOf v one j).bind fun b j=>(Sy.must v [125] j).bind fun _ j=>.ok (⟨(fnOf (v.tk (a+i+2)):Nat),txt (v.tk (a+i)).text,o,b⟩:Ag) j) ((if fnOf (v.tk (a+i+2))≠1 then (Sy.expr v' j').bind fun e j=>(Sy.must v' [58] j).bind fun _ j=>.ok e j else .ok ex0 j').bind fun o j =>
   (Sy.bodyOf v' one' j).bind fun b j=>(Sy.must v' [125] j).bind fun _ j=>.ok (⟨(fnOf (v.tk (a+i+2)):Nat),txt (v.tk (a+i)).text,o,b⟩:Ag) j):=by
  intro j' hj'
  refine wn_bind (v:=v) (R:=Eq) ?_ (fun x j e=>?_) hbd fun o o' j' hj e=>?_
  ·split
   ·refine wn_bind (v:=v) (h.expr hj') (fun x j e=>(str_expr _ x j (by omega) e).2) (fun x=>adv_bind (adv_must v _) fun _=>adv_ret _) fun x x' j' hj e=>?_
    subst e
    exact wn_bind (v:=v) (h.must [58] (by omega)) (fun x j e=>(str_must _ _ x j (by omega) e).2) (fun _=>adv_ret _) fun _ _ j' hj _=>wn_ok rfl rfl
   ·exact wn_ok rfl rfl
  ·split at e
   ·exact (adv_bind (adv_expr v) (f:=fun e j=>(Sy.must v [58] j).bind fun _ j=>PR.ok e j) (fun x=>adv_bind (adv_must v _) fun _=>adv_ret _) (a+j') x j (by omega) e).2
   ·cases e;omega
  ·subst e
   refine wn_bind (v:=v) (h.bodyOf hs h1 (by omega)) (fun x j e=>(adv_bodyOf hs.adv _ x j (by omega) e).2) (fun b=>adv_bind (adv_must v _) fun _=>adv_ret _) fun b b' j' hj hb=>?_
   exact wn_bind (v:=v) (h.must [125] (by omega)) (fun x j e=>(str_must _ _ x j (by omega) e).2) (fun _=>adv_ret _) fun _ _ j' hj _=>wn_ok rfl ⟨rfl,rfl,rfl,forall2_map hb⟩
 have hall:∀ o:Unit,Adv v (fun j=>(if fnOf (v.tk (a+i+2))≠1 then (Sy.expr v j).bind fun e j=>(Sy.must v [58] j).bind fun _ j=>PR.ok e j else .ok ex0 j).bind fun o j =>
   (Sy.bodyOf v one j).bind fun b j=>(Sy.must v [125] j).bind fun _ j=>PR.ok (⟨(fnOf (v.tk (a+i+2)):Nat),txt (v.tk (a+i)).text,o,b⟩:Ag) j):=fun _=>by
  refine adv_bind (one:=fun j=>if fnOf (v.tk (a+i+2))≠1 then (Sy.expr v j).bind fun e j=>(Sy.must v [58] j).bind fun _ j=>PR.ok e j else .ok ex0 j) ?_ hbd
  intro j x k hj e
  simp only at e
  split at e
  ·exact adv_bind (adv_expr v) (f:=fun e j=>(Sy.must v [58] j).bind fun _ j=>PR.ok e j) (fun x=>adv_bind (adv_must v _) fun _=>adv_ret _) j x k hj e
  ·cases e;omega
 have hm:Wn RA a n ((Sy.must v [123] (a+i+3)).bind fun _ j =>
  (if fnOf (v.tk (a+i+2))≠1 then (Sy.expr v j).bind fun e j=>(Sy.must v [58] j).bind fun _ j=>.ok e j else .ok ex0 j).bind fun o j =>
   (Sy.bodyOf v one j).bind fun b j=>(Sy.must v [125] j).bind fun _ j=>.ok (⟨(fnOf (v.tk (a+i+2)):Nat),txt (v.tk (a+i)).text,o,b⟩:Ag) j) ((Sy.must v' [123] (i+3)).bind fun _ j =>
  (if fnOf (v.tk (a+i+2))≠1 then (Sy.expr v' j).bind fun e j=>(Sy.must v' [58] j).bind fun _ j=>.ok e j else .ok ex0 j).bind fun o j =>
   (Sy.bodyOf v' one' j).bind fun b j=>(Sy.must v' [125] j).bind fun _ j=>.ok (⟨(fnOf (v.tk (a+i+2)):Nat),txt (v.tk (a+i)).text,o,b⟩:Ag) j):=by
  have hmu:=h.must [123] hi
  rw [<-Nat.add_assoc] at hmu
  exact wn_bind (v:=v) hmu (fun x j e=>(str_must _ _ x j (by omega) e).2) hall fun _ _ j' hj _=>hr j' (by omega)
 unfold Sy.aggOf
 rw [fnOf_sh e2,text_sh (h.tk i (by omega))]
 split
 ·exact wn_err
 ·rename_i hc
  by_cases hl:i+3<n
  ·have e3:=h.tk (i+3) hl
   rw [<-Nat.add_assoc] at e3
   rw [sign_sh e3,if_neg hc]
   exact hm
  ·rw [h.out (by omega:n<=i+3),if_neg (by rw [sgn_z];simp)]
   exact hm
theorem Win.litF (h:Win v v' a n):∀ (k br i:Nat),i<=n->Wn RL a n (Sy.litF v k br (a+i)) (Sy.litF v' k br i)
 | 0,br,i,hi=>wn_err
 | k+1,br,i,hi=>by
  have hfit:=h.fit
  by_cases hl:i<n
  ·rw [Sy.litF,Sy.litF,sign_sh (h.tk i hl),plain_sh (h.tk i hl),kind_sh' (h.tk i hl)]
   split
   ·have:=h.atom (i:=i+1) (by omega)
    rw [<-Nat.add_assoc] at this
    exact wn_bind (v:=v) this (fun x j e=>(str_atom _ x j (by omega) e).2) (fun x=>adv_ret _) fun x x' j' hj e=>by subst e;exact wn_ok rfl (by unfold RL;rw [bareL_eq,bareL_eq])
   ·by_cases c2:plain (v.tk (a+i))=true/\sign (v.tk (a+i+1)) [40]=true
    ·rw [if_pos c2]
     by_cases hl1:i+1<n
     ·have e1:=h.tk (i+1) hl1
      rw [<-Nat.add_assoc] at e1
      rw [sign_sh e1,if_pos c2]
      exact wn_bind (v:=v) (h.atom hi) (fun x j e=>(str_atom _ x j (by omega) e).2) (fun x=>adv_ret _) fun x x' j' hj e=>by subst e;exact wn_ok rfl (by unfold RL;rw [bareL_eq,bareL_eq])
     ·refine wn_out fun x j e=>?_
      obtain ⟨y,q,e1,e2⟩:=bind_ok e
      cases e2
      unfold Sy.atom at e1
      obtain ⟨t,q1,e3,e4⟩:=bind_ok e1
      obtain ⟨_,q2,e5,e6⟩:=bind_ok e4
      obtain ⟨l,q3,e7,e8⟩:=bind_ok e6
      have f1:=str_name _ _ _ (by omega) e3
      have f2:=str_must _ _ _ _ f1.2 e5
      have f3:=adv_list (adv_term v) _ _ _ f2.2 e7
      cases e8
      omega
    ·rw [if_neg c2]
     have c2':¬ (plain (v.tk (a+i))=true/\sign (v'.tk (i+1)) [40]=true):=fun hh=>by
      by_cases hl1:i+1<n
      ·have e1:=h.tk (i+1) hl1
       rw [<-Nat.add_assoc] at e1
       rw [sign_sh e1] at hh
       exact c2 hh
      ·rw [h.out (by omega:n<=i+1),sgn_z] at hh
       exact absurd hh.2 (by simp)
     rw [if_neg c2']
     by_cases c3:(v.tk (a+i)).kind=2/\sign (v.tk (a+i+1)) [61]=true/\0<fnOf (v.tk (a+i+2))
     ·rw [if_pos c3]
      by_cases hl2:i+2<n
      ·have e1:=h.tk (i+1) (by omega)
       have e2:=h.tk (i+2) hl2
       rw [<-Nat.add_assoc] at e1 e2
       rw [sign_sh e1,fnOf_sh e2,if_pos c3]
       refine wn_bind (v:=v) (h.aggOf (str_litF k (br+1)) (fun i hi=>h.litF k (br+1) i hi) br (by omega)) (fun x j e=>(adv_aggOf (adv_litF v k (br+1)) br (by omega) e).2) (fun x=>adv_ret _) fun g g' j' hj e=>wn_ok rfl ?_
       unfold RL
       rw [bareL_eq,bareL_eq,e.1,e.2.1,e.2.2.1,e.2.2.2]
      ·refine wn_out fun x j e=>?_
       have:=fn_lt c3.2.2
       obtain ⟨y,q,e1,e2⟩:=bind_ok e
       have:=adv_aggOf (adv_litF v k (br+1)) br (by omega) e1
       cases e2;omega
     ·rw [if_neg c3]
      have c3':¬ ((v.tk (a+i)).kind=2/\sign (v'.tk (i+1)) [61]=true/\0<fnOf (v'.tk (i+2))):=fun hh=>by
       by_cases hl2:i+2<n
       ·have e1:=h.tk (i+1) (by omega)
        have e2:=h.tk (i+2) hl2
        rw [<-Nat.add_assoc] at e1 e2
        rw [sign_sh e1,fnOf_sh e2] at hh
        exact c3 hh
       ·rw [h.out (by omega:n<=i+2),fn_z] at hh
        exact absurd hh.2.2 (by simp)
      rw [if_neg c3']
      have hadv:∀ l:Ex,Adv v (fun j=>if cmpOf (v.tk j)=0 then .err (v.give 40 j) else (Sy.expr v (j+1)).bind fun r j2=>PR.ok (Li.mk 3 at0 (cmpOf (v.tk j):Nat) l r 0 (txt []) ex0 [] (v.tk (a+i)).line (v.tk (a+i)).col) j2):=fun l j x q hj e=>by
       simp only at e
       split at e
       ·cases e
       ·rename_i hc
        have:=cmp_lt hc
        obtain ⟨y,q2,e1,e2⟩:=bind_ok e
        have:=str_expr (j+1) y q2 (by omega) e1
        cases e2;omega
      refine wn_bind (v:=v) (h.expr hi) (fun x j e=>(str_expr _ x j (by omega) e).2) hadv fun l l' j' hj e=>?_
      subst e
      by_cases hlj:j'<n
      ·rw [cmpOf_sh (h.tk j' hlj)]
       split
       ·exact wn_err
       ·have:=h.expr (i:=j'+1) (by omega)
        rw [<-Nat.add_assoc] at this
        exact wn_bind (v:=v) this (fun x j e=>(str_expr _ x j (by omega) e).2) (fun x=>adv_ret _) fun x x' j' hj e=>by subst e;exact wn_ok rfl (by unfold RL;rw [bareL_eq,bareL_eq])
      ·split
       ·exact wn_err
       ·rename_i hc
        refine wn_out fun x j e=>?_
        have:=cmp_lt hc
        obtain ⟨y,q,e1,e2⟩:=bind_ok e
        have:=str_expr (a+j'+1) y q (by omega) e1
        cases e2;omega
  ·exact wn_end (str_litF (k+1) br) hfit (by omega)
theorem Win.rule (h:Win v v' a n) {i:Nat} (hi:i<=n):Wn (fun x y=>bareU x=bareU y) a n (Sy.rule v (a+i)) (Sy.rule v' i):=by
 have hfit:=h.fit
 have hb:∀ t:Atom,Adv v (fun j=>(if sign (v.tk j) [58,45]=true then Sy.body v (j+1) else .ok [] j).bind fun b j=>PR.ok (⟨t,b,(v.tk (a+i)).line,(v.tk (a+i)).col⟩:Rul) j):=fun t j x k hj e=>by
  simp only at e
  obtain ⟨y,q,e1,e2⟩:=bind_ok e
  cases e2
  split at e1
  ·rename_i hs
   have:=sign_lt hs
   have:=adv_body v (j+1) y k (by omega) e1
   omega
  ·cases e1;omega
 unfold Sy.rule
 refine wn_bind (v:=v) (h.atom hi) (fun x j e=>(str_atom _ x j (by omega) e).2) hb fun t t' j' hj e=>?_
 subst e
 refine wn_bind (v:=v) (R:=All2 RL) ?_ (fun x j e=>?_) (fun b=>adv_ret _) fun b b' j' hj hb=>wn_ok rfl (by show bareU _=bareU _;unfold bareU;rw [forall2_map (f:=bareL) hb])
 ·by_cases hlj:j'<n
  ·rw [sign_sh (h.tk j' hlj)]
   split
   ·have:=h.bodyOf (str_litF 18 0) (fun i hi=>h.litF 18 0 i hi) (i:=j'+1) (by omega)
    rw [<-Nat.add_assoc] at this
    exact this
   ·exact wn_ok rfl .nil
  ·rw [h.out (by omega:n<=j'),if_neg (show ¬ sign zT [58,45]=true by rw [sgn_z];simp)]
   split
   ·rename_i hs
    refine wn_out fun x j e=>?_
    have:=sign_lt hs
    have:=adv_body v (a+j'+1) x j (by omega) e
    omega
   ·exact wn_ok rfl .nil
 ·split at e
  ·rename_i hs
   have:=sign_lt hs
   exact (adv_body v (a+j'+1) x j (by omega) e).2
  ·cases e;omega
/-- a whole piece -/
theorem piece {R:α->α->Prop} (h:Win v v' a n) {P P':Nat->PR α} (hw:Wn R a n (P (a+0)) (P' 0)) {x:α} (hx:P a=.ok x (a+n)) (hl:v'.last.1=42):∃ x',Sy.whole v' P'=.ok x' n/\R x x':=by
 obtain ⟨x',j',e1,e2,e3⟩:=hw x (a+n) hx (Nat.le_refl _)
 have:j'=n:=by omega
 subst this
 refine ⟨x',?_,e3⟩
 unfold Sy.whole
 rw [e2,PR.bind_ok,if_neg (by rw [h.len];omega)]
end
theorem Sq_skip {s r:List Nat} {p q:Nat × Nat} {t:Lx.Tok} {l:List Lx.Tok} (h:Lx.Sq s p (t :: l) r q):Lx.Sq (s.drop (Lx.skipN false s)) (Lx.adv p (s.take (Lx.skipN false s))) (t :: l) r q:=by
 generalize hx:t :: l=x at h
 cases h with
 | nil=>cases hx
 | @word _ _ u w l' _ _ hs h0 hw h =>
  have hz:Lx.skipN false (s.drop (Lx.skipN false s))=0:=Lx.skip_done' s
  have:=Lx.Sq.word (s:=s.drop (Lx.skipN false s)) (p:=Lx.adv p (s.take (Lx.skipN false s))) (u:=u) (w:=w) (l:=l') (r:=r) (q:=q) (by rw [hz];exact hs) h0 hw (by rw [hz];exact h)
  rw [hz] at this
  exact this
/-- a piece of a text: from one word up to another one -/
theorem env_piece {s:List Nat} (hb:∀ c∈s,c<256) (hc:(Lx.given s).2.code=0) {ws:List Lx.Tok} (hws:(Lx.given s).1=ws) {p e:Nat} (hpe:p<e) (he:e<ws.length) :
  ∃ gp ge,gp<=ge/\ge<=s.length/\((ws[p]'(by omega)).line,(ws[p]'(by omega)).col)=Lx.adv (1,1) (s.take gp)/\(ws[e].line,ws[e].col)=Lx.adv (1,1) (s.take ge) /\
   Win (envOf s) (envOf ((s.drop gp).take (ge - gp))) p (e - p)/\(envOf ((s.drop gp).take (ge - gp))).last.1=42:=by
 obtain ⟨r,q,h,hr⟩:=Lx.sq_of_given hb hc
 have hlong:=Lx.given_long hc
 have hwin:∀ v':Env,v'.ws.map sh=(((Lx.given s).1.drop p).take (e - p)).map sh->Win (envOf s) v' p (e - p):=fun v' hv=>by
  have hlen:v'.ws.length=e - p:=by
   have:=congrArg List.length hv
   simp [hws] at this
   omega
  have hwl:(Lx.given s).1.length=ws.length:=by rw [hws]
  refine ⟨hlen,fun i hi=>?_,by show p+(e - p)<=(Lx.given s).1.length;rw [hws];omega⟩
  have:=congrArg (fun l=>l[i]?) hv
  simp only [List.getElem?_map,List.getElem?_take,if_pos hi,List.getElem?_drop] at this
  unfold Env.tk
  rw [List.getD_eq_getElem?_getD,List.getD_eq_getElem?_getD]
  show sh ((v'.ws[i]?).getD zT)=sh (((Lx.given s).1[p+i]?).getD zT)
  rw [List.getElem?_eq_getElem (by omega:i<v'.ws.length),List.getElem?_eq_getElem (by omega:p+i<(Lx.given s).1.length)] at this ⊢
  simpa using this
 rw [hws] at h hwin
 have hsp:ws=ws.take p++((ws.drop p).take (e - p)++ws.drop e):=by
  have:ws.drop e=(ws.drop p).drop (e - p):=by rw [List.drop_drop];congr 1;omega
  rw [this,List.take_append_drop,List.take_append_drop]
 rw [hsp] at h
 obtain ⟨m0,q0,h1,h2⟩:=h.split
 obtain ⟨m1,q1,h3,h4⟩:=h2.split
 obtain ⟨a,ha,hq0⟩:=h1.suf
 obtain ⟨b,hbb,hq1⟩:=h3.suf
 have ep:(ws.drop p).take (e - p)=ws[p] :: ((ws.drop (p+1)).take (e - p - 1)):=by
  rw [List.drop_eq_getElem_cons (by omega),show e - p=(e - p - 1)+1 by omega,List.take_succ_cons]
  rfl
 have ee:ws.drop e=ws[e] :: ws.drop (e+1):=List.drop_eq_getElem_cons he
 have hbm:∀ c∈m0,c<256:=fun c hc=>hb c (by rw [ha];simp [hc])
 have hsk0:=Lx.skipN_le false m0
 have hsk1:=Lx.skipN_le false m1
 have hsl:s.length=a.length+m0.length:=by rw [ha,List.length_append]
 have hml:m0.length=b.length+m1.length:=by rw [hbb,List.length_append]
 -- places
 have pl:∀ (m:List Nat) (o:Nat × Nat) (t:Lx.Tok) (l:List Lx.Tok),Lx.Sq m o (t :: l) r q->(t.line,t.col)=Lx.adv o (m.take (Lx.skipN false m)):=by
  intro m o t l hh
  generalize hx:t :: l=x at hh
  cases hh with
  | nil=>cases hx
  | word hs h0 hw h =>
   simp only [List.cons.injEq] at hx
   rw [hx.1]
 have hp1:=pl m0 q0 ws[p] _ (by rw [ep,List.cons_append] at h2;exact h2)
 have hp2:=pl m1 q1 ws[e] _ (by rw [ee] at h4;exact h4)
 have hu:=Lx.Sq.take (Sq_skip (by rw [ep] at h3;exact h3)) (fun c hc=>hbm c (List.mem_of_mem_drop hc)) (Lx.skipN false m1)
 obtain ⟨l',q',hu2,hu3⟩:=hu.place (1,1)
 have hb0:b.length ≥ Lx.skipN false m0:=by
  have:=(Sq_skip (by rw [ep] at h3;exact h3)).len (fun c hc=>hbm c (List.mem_of_mem_drop hc))
  rw [List.length_drop] at this
  simp at this
  omega
 have hcut:(m0.drop (Lx.skipN false m0)).length - m1.length+Lx.skipN false m1=(a.length+b.length+Lx.skipN false m1) - (a.length+Lx.skipN false m0):=by
  rw [List.length_drop];omega
 have hsd:s.drop (a.length+Lx.skipN false m0)=m0.drop (Lx.skipN false m0):=by
  rw [ha,List.drop_append,show a.drop (a.length+Lx.skipN false m0)=[] from List.drop_eq_nil_of_le (by omega),Nat.add_sub_cancel_left]
  rfl
 rw [hcut,<-hsd] at hu2
 have hbl:Lx.Bl (m1.take (Lx.skipN false m1)):=by
  unfold Lx.Bl
  rw [Lx.skip_take,Nat.min_self]
  exact List.drop_eq_nil_of_le (by rw [List.length_take];omega)
 obtain ⟨g1,g2⟩:=Lx.given_of_sq hu2 (fun c hc=>hb c (List.mem_of_mem_drop (List.mem_of_mem_take hc))) hbl (by rw [List.length_take,List.length_drop];omega)
 refine ⟨a.length+Lx.skipN false m0,a.length+b.length+Lx.skipN false m1,by omega,by omega,?_,?_,hwin _ ?_,?_⟩
 ·rw [hp1,hq0,<-Lx.adv_append]
  congr 1
  rw [ha,List.take_append,show a.take (a.length+Lx.skipN false m0)=a from List.take_of_length_le (by omega),Nat.add_sub_cancel_left]
 ·rw [hp2,hq1,hq0,<-Lx.adv_append,<-Lx.adv_append]
  congr 1
  rw [ha,hbb,<-List.append_assoc a b m1,List.take_append,show (a++b).take (a.length+b.length+Lx.skipN false m1)=a++b from List.take_of_length_le (by rw [List.length_append];omega),List.length_append,show a.length+b.length+Lx.skipN false m1 - (a.length+b.length)=Lx.skipN false m1 by omega,List.append_assoc]
 ·unfold envOf
  simp only
  rw [g1,ep]
  have e1:∀ t:Lx.Tok,sh t=(fun (x:Nat × List Nat × Nat × Nat × List Nat)=>(⟨x.1,x.2.1,x.2.2.1,x.2.2.2.1,x.2.2.2.2⟩:Sh)) (t.kind,t.text,t.vk,t.num,t.sym):=fun t=>rfl
  have e2:∀ l:List Lx.Tok,l.map sh=(l.map (fun t=>(t.kind,t.text,t.vk,t.num,t.sym))).map (fun x=>(⟨x.1,x.2.1,x.2.2.1,x.2.2.2.1,x.2.2.2.2⟩:Sh)):=fun l=>by rw [List.map_map];rfl
  rw [e2,e2,hu3]
 ·unfold envOf
  simp only
  rw [if_pos g2]
end Go.Proofs.YtppigckioalhhaaGreatDoorR.Sy
