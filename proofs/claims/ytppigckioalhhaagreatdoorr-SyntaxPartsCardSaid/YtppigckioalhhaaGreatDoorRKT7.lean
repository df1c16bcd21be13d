/- THE TEXTS MERGED: SyAdv SyNz SyEnv SyKind. -/
import Derived.Test.YtppigckioalhhaaGreatDoorRKT1
import Derived.Test.YtppigckioalhhaaGreatDoorRKT5
namespace Go.Proofs.YtppigckioalhhaaGreatDoorR.Sy
open Lx (Tok)
open Pr (Term Atom Ex Li Rul Rel Prog)
set_option linter.unusedVariables false
set_option linter.unusedSimpArgs false
/-- it goes on, and not beyond the words -/
def Adv {α:Type} (v:Env) (one:Nat->PR α):Prop:=∀ j a k,j<=v.ws.length->one j=.ok a k->j<=k/\k<=v.ws.length
theorem bind_ok {α β:Type} {p:PR α} {f:α->Nat->PR β} {b:β} {k:Nat} (h:p.bind f=.ok b k):∃ a j,p=.ok a j/\f a j=.ok b k:=by
 cases p with
 | ok a j=>exact ⟨a,j,rfl,h⟩
 | err e=>cases h
theorem tk_lt {v:Env} {i:Nat} (h:v.tk i≠zT):i<v.ws.length:=by
 by_cases hk:i<v.ws.length
 ·exact hk
 ·exact absurd (by unfold Env.tk;rw [List.getD_eq_getElem?_getD,List.getElem?_eq_none (by omega)];rfl) h
theorem kind_lt {v:Env} {i:Nat} (h:(v.tk i).kind≠0):i<v.ws.length:=tk_lt (fun e=>h (by rw [e];rfl))
theorem sign_kind {t:Tok} {s:List Nat} (h:sign t s=true):t.kind≠0:=by
 unfold sign at h
 simp only [Bool.and_eq_true,Bool.or_eq_true,decide_eq_true_eq] at h
 omega
theorem sign_lt {v:Env} {i:Nat} {s:List Nat} (h:sign (v.tk i) s=true):i<v.ws.length:=kind_lt (sign_kind h)
theorem plain_lt {v:Env} {i:Nat} (h:plain (v.tk i)=true):i<v.ws.length:=by
 refine kind_lt ?_
 unfold plain at h
 simp only [Bool.and_eq_true,decide_eq_true_eq] at h
 omega
theorem placeF_pos {t:Tok}:∀ (l:List (List Nat)) (n:Nat),0<placeF t l n->t.kind≠0
 | [],n,h=>by simp [placeF] at h
 | s :: r,n,h=>by
  rw [placeF] at h
  split at h
  ·rename_i hs;exact sign_kind hs
  ·exact placeF_pos r (n+1) h
theorem adv_must (v:Env) (s:List Nat):Adv v (must v s):=by
 intro j a k hj h
 unfold must at h
 split at h
 ·rename_i hs
  have:=sign_lt hs
  cases h;omega
 ·cases h
theorem adv_name (v:Env):Adv v (name v):=by
 intro j a k hj h
 unfold name at h
 split at h
 ·rename_i hs
  have:=plain_lt hs
  cases h;omega
 ·cases h
theorem constant_adv {v:Env} {j:Nat} {c:Va.Val} {n:Nat} (h:constant v j=some (c,n)):0<n/\j+n<=v.ws.length:=by
 unfold constant at h
 split at h
 ·rename_i hk
  have:j<v.ws.length:=kind_lt (by omega)
  cases h;omega
 ·split at h
  ·rename_i hp
   have:=plain_lt hp
   cases h;omega
  ·split at h
   ·rename_i hs
    have:j+1<v.ws.length:=kind_lt (by rw [hs.2];omega)
    cases h;omega
   ·cases h
theorem adv_value (v:Env):Adv v (value v):=by
 intro j a k hj h
 unfold value at h
 split at h
 ·rename_i c n hc
  have:=constant_adv hc
  cases h;omega
 ·cases h
theorem adv_term (v:Env):Adv v (term v):=by
 intro j a k hj h
 unfold term at h
 split at h
 ·rename_i hk
  have:j<v.ws.length:=kind_lt (by omega)
  cases h;omega
 ·split at h
  ·rename_i hs
   have:=sign_lt hs
   cases h;omega
  ·obtain ⟨c,m,h1,h2⟩:=bind_ok h
   cases h2
   exact adv_value v j c k hj h1
theorem adv_listF {α:Type} {v:Env} {fin:List Nat} {one:Nat->PR α} (hone:Adv v one):∀ (n:Nat) (acc:List α),Adv v (listF v fin one n acc)
 | 0,acc=>fun j a k hj h=>by cases h
 | n+1,acc=>by
  intro j a k hj h
  rw [listF] at h
  split at h
  ·rename_i hs
   have:=sign_lt hs
   obtain ⟨x,m,h1,h2⟩:=bind_ok h
   have h3:=hone (j+1) x m (by omega) h1
   have h4:=adv_listF hone n (acc++[x]) m a k h3.2 h2
   omega
  ·obtain ⟨x,m,h1,h2⟩:=bind_ok h
   have h3:=adv_must v fin j x m hj h1
   cases h2
   omega
theorem adv_list {α:Type} {v:Env} {fin:List Nat} {one:Nat->PR α} (hone:Adv v one):Adv v (list v fin one):=by
 intro j a k hj h
 unfold list at h
 split at h
 ·rename_i hs
  have:=sign_lt hs
  cases h;omega
 ·obtain ⟨x,m,h1,h2⟩:=bind_ok h
  have h3:=hone j x m hj h1
  have h4:=adv_listF hone _ [x] m a k h3.2 h2
  omega
theorem adv_atom (v:Env):Adv v (atom v):=by
 intro j a k hj h
 obtain ⟨t,m,h1,h2⟩:=bind_ok h
 obtain ⟨_,m2,h3,h4⟩:=bind_ok h2
 obtain ⟨l,m3,h5,h6⟩:=bind_ok h4
 cases h6
 have a1:=adv_name v j t m hj h1
 have a2:=adv_must v _ m _ m2 a1.2 h3
 have a3:=adv_list (adv_term v) m2 l k a2.2 h5
 omega
theorem adv_fact (v:Env):Adv v (fact v):=by
 intro j a k hj h
 obtain ⟨t,m,h1,h2⟩:=bind_ok h
 obtain ⟨_,m2,h3,h4⟩:=bind_ok h2
 obtain ⟨l,m3,h5,h6⟩:=bind_ok h4
 cases h6
 have a1:=adv_name v j t m hj h1
 have a2:=adv_must v _ m _ m2 a1.2 h3
 have a3:=adv_list (adv_value v) m2 l k a2.2 h5
 omega
theorem adv_ty (v:Env):Adv v (ty v):=by
 intro j a k hj h
 unfold ty at h
 split at h
 ·cases h
 ·rename_i hn
  have:j<v.ws.length:=kind_lt (placeF_pos _ _ (Nat.pos_of_ne_zero hn))
  cases h;omega
theorem adv_relation (v:Env):Adv v (relation v):=by
 intro j a k hj h
 obtain ⟨t,m,h1,h2⟩:=bind_ok h
 obtain ⟨_,m2,h3,h4⟩:=bind_ok h2
 obtain ⟨l,m3,h5,h6⟩:=bind_ok h4
 cases h6
 have a1:=adv_name v j t m hj h1
 have a2:=adv_must v _ m _ m2 a1.2 h3
 have a3:=adv_list (adv_ty v) m2 l k a2.2 h5
 omega
theorem level_lt {v:Env} {i:Nat} (h:(level (v.tk i)).1≠0):i<v.ws.length:=by
 unfold level at h
 split at h
 ·exact sign_lt ‹_›
 ·split at h
  ·exact sign_lt ‹_›
  ·split at h
   ·exact sign_lt ‹_›
   ·split at h
    ·exact sign_lt ‹_›
    ·split at h
     ·exact sign_lt ‹_›
     ·exact absurd rfl h
theorem adv_chainF {v:Env} {line:Nat} {sub:Nat->Nat->PR (Ex × Nat)} {above:Nat} (hl:line≠0) (hs:∀ ab,Adv v (sub ab)):∀ (n:Nat) (e:Ex) (d:Nat),Adv v (chainF v line sub above n e d)
 | 0,e,d=>fun j a k hj h=>by cases h
 | n+1,e,d=>by
  intro j a k hj h
  rw [chainF] at h
  split at h
  ·cases h;omega
  ·rename_i hne
   have hj2:j<v.ws.length:=level_lt (by omega)
   split at h
   ·cases h
   ·obtain ⟨x,m,h1,h2⟩:=bind_ok h
    have h3:=hs _ (j+1) x m (by omega) h1
    have h4:=adv_chainF hl hs n _ _ m a k h3.2 h2
    omega
theorem adv_exprF (v:Env):∀ (n line above:Nat),line≠0->Adv v (exprF v n line above)
 | 0,line,above,_=>fun j a k hj h=>by cases h
 | n+1,line,above,hl=>by
  intro j a k hj h
  rw [exprF] at h
  split at h
  ·split at h
   ·rename_i hk
    have:j<v.ws.length:=kind_lt (by omega)
    cases h;omega
   ·split at h
    ·rename_i c m hc
     have:=constant_adv hc
     cases h;omega
    ·split at h
     ·rename_i hs
      have:=sign_lt hs
      split at h
      ·cases h
      ·obtain ⟨x,m,h1,h2⟩:=bind_ok h
       cases h2
       have:=adv_exprF v n 3 (above+1) (by omega) (j+1) _ k (by omega) h1
       omega
     ·split at h
      ·cases h
      ·obtain ⟨_,m,h1,h2⟩:=bind_ok h
       obtain ⟨x,m2,h3,h4⟩:=bind_ok h2
       obtain ⟨_,m3,h5,h6⟩:=bind_ok h4
       cases h6
       have a1:=adv_must v _ j _ m hj h1
       have a2:=adv_exprF v n 1 (above+1) (by omega) m x m2 a1.2 h3
       have a3:=adv_must v _ m2 _ k a2.2 h5
       omega
  ·obtain ⟨x,m,h1,h2⟩:=bind_ok h
   have a1:=adv_exprF v n (line+1) above (by omega) j x m hj h1
   have a2:=adv_chainF hl (fun ab=>adv_exprF v n (line+1) ab (by omega)) _ _ _ m a k a1.2 h2
   omega
theorem adv_expr (v:Env):Adv v (expr v):=by
 intro j a k hj h
 obtain ⟨x,m,h1,h2⟩:=bind_ok h
 cases h2
 exact adv_exprF v 60 1 0 (by omega) j _ k hj h1
theorem adv_bodyF {v:Env} {one:Nat->PR Li} (hone:Adv v one):∀ (n:Nat) (acc:List Li),Adv v (bodyF v one n acc)
 | 0,acc=>fun j a k hj h=>by cases h
 | n+1,acc=>by
  intro j a k hj h
  rw [bodyF] at h
  split at h
  ·rename_i hs
   have:=sign_lt hs
   obtain ⟨x,m,h1,h2⟩:=bind_ok h
   have h3:=hone (j+1) x m (by omega) h1
   have h4:=adv_bodyF hone n (acc++[x]) m a k h3.2 h2
   omega
  ·cases h;omega
theorem adv_bodyOf {v:Env} {one:Nat->PR Li} (hone:Adv v one):Adv v (bodyOf v one):=by
 intro j a k hj h
 obtain ⟨x,m,h1,h2⟩:=bind_ok h
 have h3:=hone j x m hj h1
 have h4:=adv_bodyF hone _ [x] m a k h3.2 h2
 omega
theorem adv_aggOf {v:Env} {one:Nat->PR Li} (hone:Adv v one) (br:Nat) {j k:Nat} {a:Ag} (hj:j+3<=v.ws.length) (h:aggOf v one br j=.ok a k):j+3<=k/\k<=v.ws.length:=by
 unfold aggOf at h
 split at h
 ·cases h
 ·obtain ⟨_,m,h1,h2⟩:=bind_ok h
  obtain ⟨o,m2,h3,h4⟩:=bind_ok h2
  obtain ⟨bd,m3,h5,h6⟩:=bind_ok h4
  obtain ⟨_,m4,h7,h8⟩:=bind_ok h6
  cases h8
  have a1:=adv_must v _ (j+3) _ m hj h1
  have a2:m<=m2/\m2<=v.ws.length:=by
   split at h3
   ·obtain ⟨x,n1,g1,g2⟩:=bind_ok h3
    obtain ⟨_,n2,g3,g4⟩:=bind_ok g2
    cases g4
    have b1:=adv_expr v m _ n1 a1.2 g1
    have b2:=adv_must v _ n1 _ m2 b1.2 g3
    omega
   ·cases h3;omega
  have a3:=adv_bodyOf hone m2 bd m3 a2.2 h5
  have a4:=adv_must v _ m3 _ k a3.2 h7
  omega
theorem adv_litF (v:Env):∀ (n br:Nat),Adv v (litF v n br)
 | 0,br=>fun j a k hj h=>by cases h
 | n+1,br=>by
  intro j a k hj h
  rw [litF] at h
  split at h
  ·rename_i hs
   have:=sign_lt hs
   obtain ⟨x,m,h1,h2⟩:=bind_ok h
   cases h2
   have:=adv_atom v (j+1) _ k (by omega) h1
   omega
  ·split at h
   ·obtain ⟨x,m,h1,h2⟩:=bind_ok h
    cases h2
    exact adv_atom v j _ k hj h1
   ·split at h
    ·rename_i hc
     have:j+2<v.ws.length:=kind_lt (placeF_pos _ _ hc.2.2)
     obtain ⟨g,m,h1,h2⟩:=bind_ok h
     cases h2
     have:=adv_aggOf (adv_litF v n (br+1)) br (by omega) h1
     omega
    ·obtain ⟨l,m,h1,h2⟩:=bind_ok h
     have a1:=adv_expr v j l m hj h1
     split at h2
     ·cases h2
     ·rename_i hc
      have:m<v.ws.length:=kind_lt (placeF_pos _ _ (Nat.pos_of_ne_zero hc))
      obtain ⟨r,m2,h3,h4⟩:=bind_ok h2
      cases h4
      have a2:=adv_expr v (m+1) r k (by omega) h3
      omega
theorem adv_lit (v:Env) (br:Nat):Adv v (lit v br):=adv_litF v _ br
theorem adv_body (v:Env):Adv v (body v):=adv_bodyOf (adv_lit v 0)
theorem adv_rule (v:Env):Adv v (rule v):=by
 intro j a k hj h
 obtain ⟨x,m,h1,h2⟩:=bind_ok h
 obtain ⟨b,m2,h3,h4⟩:=bind_ok h2
 cases h4
 have a1:=adv_atom v j x m hj h1
 split at h3
 ·rename_i hs
  have:=sign_lt hs
  have:=adv_body v (m+1) b k (by omega) h3
  omega
 ·cases h3;omega
def Nz {α:Type} (p:PR α):Prop:=∀ f,p=.err f->f.1≠0
section
variable {α β:Type} {v:Env}
theorem Nz.bind {p:PR α} {f:α->Nat->PR β} (h:Nz p) (hf:∀ a i,Nz (f a i)):Nz (p.bind f):=by
 cases p with
 | ok a i=>exact hf a i
 | err e=>exact fun g hg=>by cases hg;exact h e rfl
theorem nz_ok (a:α) (i:Nat):Nz (.ok a i):=fun f h=>by cases h
theorem nz_give (hv:v.last.1≠0) (c i:Nat) (hc:c≠0):Nz (.err (v.give c i):PR α):=fun f h=>by
 cases h
 unfold Env.give
 split
 ·exact hc
 ·exact hv
theorem nz_last (hv:v.last.1≠0):Nz (.err v.last:PR α):=fun f h=>by cases h;exact hv
theorem nz_must (hv:v.last.1≠0) (s:List Nat) (i:Nat):Nz (must v s i):=by
 unfold must
 split
 ·exact nz_ok _ _
 ·exact nz_give hv _ _ (by decide)
theorem nz_listF (hv:v.last.1≠0) (fin:List Nat) {one:Nat->PR α} (h:∀ i,Nz (one i)):∀ (n:Nat) (acc:List α) (i:Nat),Nz (listF v fin one n acc i)
 | 0,acc,i=>nz_last hv
 | n+1,acc,i=>by
  rw [listF]
  split
  ·exact (h _).bind fun a j=>nz_listF hv fin h n _ j
  ·exact (nz_must hv _ _).bind fun _ j=>nz_ok _ _
theorem nz_list (hv:v.last.1≠0) (fin:List Nat) {one:Nat->PR α} (h:∀ i,Nz (one i)) (i:Nat):Nz (list v fin one i):=by
 unfold list
 split
 ·exact nz_ok _ _
 ·exact (h _).bind fun a j=>nz_listF hv fin h _ _ j
theorem nz_name (hv:v.last.1≠0) (i:Nat):Nz (name v i):=by
 unfold name
 split
 ·exact nz_ok _ _
 ·exact nz_give hv _ _ (by decide)
theorem nz_value (hv:v.last.1≠0) (i:Nat):Nz (value v i):=by
 unfold value
 split
 ·exact nz_ok _ _
 ·exact nz_give hv _ _ (by decide)
theorem nz_term (hv:v.last.1≠0) (i:Nat):Nz (term v i):=by
 unfold term
 split
 ·exact nz_ok _ _
 ·split
  ·exact nz_ok _ _
  ·exact (nz_value hv _).bind fun _ _=>nz_ok _ _
theorem nz_atom (hv:v.last.1≠0) (i:Nat):Nz (atom v i):=(nz_name hv _).bind fun _ _=>(nz_must hv _ _).bind fun _ j=>(nz_list hv _ (nz_term hv) j).bind fun _ _=>nz_ok _ _
theorem nz_fact (hv:v.last.1≠0) (i:Nat):Nz (fact v i):=(nz_name hv _).bind fun _ _=>(nz_must hv _ _).bind fun _ j=>(nz_list hv _ (nz_value hv) j).bind fun _ _=>nz_ok _ _
theorem nz_chain (hv:v.last.1≠0) {line:Nat} {sub:Nat->Nat->PR (Ex × Nat)} (h:∀ ab i,Nz (sub ab i)) {above:Nat}:∀ (n:Nat) (e:Ex) (d i:Nat),Nz (chainF v line sub above n e d i)
 | 0,e,d,i=>nz_last hv
 | n+1,e,d,i=>by
  rw [chainF]
  split
  ·exact nz_ok _ _
  ·split
   ·exact nz_give hv _ _ (by decide)
   ·exact (h _ _).bind fun _ j=>nz_chain hv h n _ _ j
theorem nz_exprF (hv:v.last.1≠0):∀ (k line above i:Nat),Nz (exprF v k line above i)
 | 0,line,above,i=>nz_last hv
 | k+1,line,above,i=>by
  rw [exprF]
  split
  ·split
   ·exact nz_ok _ _
   ·split
    ·exact nz_ok _ _
    ·split
     ·split
      ·exact nz_give hv _ _ (by decide)
      ·exact (nz_exprF hv k _ _ _).bind fun _ _=>nz_ok _ _
     ·split
      ·exact nz_give hv _ _ (by decide)
      ·exact (nz_must hv _ _).bind fun _ j=>(nz_exprF hv k _ _ j).bind fun _ j=>(nz_must hv _ j).bind fun _ _=>nz_ok _ _
  ·exact (nz_exprF hv k _ _ _).bind fun _ j=>nz_chain hv (fun ab i=>nz_exprF hv k _ ab i) _ _ _ j
theorem nz_expr (hv:v.last.1≠0) (i:Nat):Nz (expr v i):=(nz_exprF hv _ _ _ _).bind fun _ _=>nz_ok _ _
theorem nz_bodyF (hv:v.last.1≠0) {one:Nat->PR Li} (h:∀ i,Nz (one i)):∀ (n:Nat) (acc:List Li) (i:Nat),Nz (bodyF v one n acc i)
 | 0,acc,i=>nz_last hv
 | n+1,acc,i=>by
  rw [bodyF]
  split
  ·exact (h _).bind fun a j=>nz_bodyF hv h n _ j
  ·exact nz_ok _ _
theorem nz_bodyOf (hv:v.last.1≠0) {one:Nat->PR Li} (h:∀ i,Nz (one i)) (i:Nat):Nz (bodyOf v one i):=(h _).bind fun a j=>nz_bodyF hv h _ _ j
theorem nz_agg (hv:v.last.1≠0) {one:Nat->PR Li} (h:∀ i,Nz (one i)) (br i:Nat):Nz (aggOf v one br i):=by
 unfold aggOf
 split
 ·exact nz_give hv _ _ (by decide)
 ·refine (nz_must hv _ _).bind fun _ j=>Nz.bind ?_ fun o j=>(nz_bodyOf hv h j).bind fun _ j=>(nz_must hv _ j).bind fun _ _=>nz_ok _ _
  split
  ·exact (nz_expr hv _).bind fun _ j=>(nz_must hv _ j).bind fun _ _=>nz_ok _ _
  ·exact nz_ok _ _
theorem nz_litF (hv:v.last.1≠0):∀ (k br i:Nat),Nz (litF v k br i)
 | 0,br,i=>nz_last hv
 | k+1,br,i=>by
  rw [litF]
  split
  ·exact (nz_atom hv _).bind fun _ _=>nz_ok _ _
  ·split
   ·exact (nz_atom hv _).bind fun _ _=>nz_ok _ _
   ·split
    ·exact (nz_agg hv (fun i=>nz_litF hv k _ i) _ _).bind fun _ _=>nz_ok _ _
    ·refine (nz_expr hv _).bind fun _ j=>?_
     split
     ·exact nz_give hv _ _ (by decide)
     ·exact (nz_expr hv _).bind fun _ _=>nz_ok _ _
theorem nz_lit (hv:v.last.1≠0) (br i:Nat):Nz (lit v br i):=nz_litF hv _ _ _
theorem nz_rule (hv:v.last.1≠0) (i:Nat):Nz (rule v i):=by
 unfold rule
 refine (nz_atom hv _).bind fun _ j=>Nz.bind ?_ fun _ _=>nz_ok _ _
 split
 ·exact nz_bodyOf hv (fun i=>nz_lit hv 0 i) _
 ·exact nz_ok _ _
theorem nz_relation (hv:v.last.1≠0) (i:Nat):Nz (relation v i):=(nz_name hv _).bind fun _ _=>(nz_must hv _ _).bind fun _ j=>(nz_list hv _ (fun i=>by
  unfold ty
  split
  ·exact nz_give hv _ _ (by decide)
  ·exact nz_ok _ _) j).bind fun _ _=>nz_ok _ _
theorem nz_progF (hv:v.last.1≠0):∀ (n:Nat) (p:Prog) (i:Nat),Nz (progF v n p i)
 | 0,p,i=>nz_last hv
 | n+1,p,i=>by
  rw [progF]
  split
  ·split
   ·exact (nz_relation hv _).bind fun _ j=>(nz_must hv _ j).bind fun _ j=>nz_progF hv n _ j
   ·exact (nz_rule hv _).bind fun _ j=>(nz_must hv _ j).bind fun _ j=>nz_progF hv n _ j
  ·exact nz_ok _ _
theorem nz_prog (hv:v.last.1≠0) (i:Nat):Nz (prog v i):=nz_progF hv _ _ _
theorem nz_whole (hv:v.last.1≠0) {one:Nat->PR α} (h:Nz (one 0)):Nz (whole v one):=by
 unfold whole
 refine h.bind fun a i=>?_
 split
 ·exact nz_give hv _ _ (by decide)
 ·exact nz_ok _ _
end
theorem adv_progF (v:Env):∀ (n:Nat) (p:Prog),Adv v (progF v n p)
 | 0,p=>fun j a k hj h=>by cases h
 | n+1,p=>by
  intro j a k hj h
  rw [progF] at h
  split at h
  ·rename_i hl
   split at h
   ·obtain ⟨x,m,h1,h2⟩:=bind_ok h
    have h3:=adv_relation v (j+1) x m (by omega) h1
    obtain ⟨_,m2,h4,h5⟩:=bind_ok h2
    have h6:=adv_must v _ m _ m2 h3.2 h4
    have:=adv_progF v n _ m2 a k h6.2 h5
    omega
   ·obtain ⟨x,m,h1,h2⟩:=bind_ok h
    have h3:=adv_rule v j x m hj h1
    obtain ⟨_,m2,h4,h5⟩:=bind_ok h2
    have h6:=adv_must v _ m _ m2 h3.2 h4
    have:=adv_progF v n _ m2 a k h6.2 h5
    omega
  ·cases h;omega
theorem adv_prog (v:Env):Adv v (prog v):=adv_progF v _ _
theorem env_last (s:List Nat):(envOf s).last.1≠0:=by
 unfold envOf
 simp only
 split
 ·exact (by decide:(42:Nat)≠0)
 ·assumption
end Go.Proofs.YtppigckioalhhaaGreatDoorR.Sy
namespace Go.Proofs.YtppigckioalhhaaGreatDoorR.Lx
set_option linter.unusedVariables false
theorem next_ok {x y:St} {t:Tok} (hb:∀ c∈x.s,c<256) (h:next x=(y,some t)):t.num<=2147483647/\(∀ c∈t.text,c<256)/\(∀ c∈t.sym,c<256)/\t.kind<=5/\t.vk<=2/\y.s.length<x.s.length/\(∀ c∈y.s,c<256)/\x.long=false/\y.long=false:=by
 unfold next at h
 split at h
 ·simp at h
 ·split at h
  ·simp at h
  ·rename_i hl
   have hl':x.long=false:=by simpa using hl
   split at h
   ·simp at h
   ·rename_i he
    split at h
    ·simp at h
    ·rename_i wd hw
     have hbs:∀ c∈x.skip.s,c<256:=fun c hc=>hb c (List.mem_of_mem_drop hc)
     obtain ⟨h1,h2,h3,h4,h5,h6⟩:=word_len hbs he hw
     simp only [Prod.mk.injEq,Option.some.injEq] at h
     obtain ⟨rfl,rfl⟩:=h
     have hsk:x.skip.s.length<=x.s.length:=by unfold St.skip;simp
     refine ⟨h4,fun c hc=>hbs c (List.mem_of_mem_take hc),h3,h5,h6,?_,fun c hc=>hbs c (List.mem_of_mem_drop hc),hl',hl'⟩
     simp only [List.length_drop];omega
structure TokOk (t:Tok):Prop where
 num:t.num<=2147483647
 byte:∀ c∈t.text,c<256
 sym:∀ c∈t.sym,c<256
 kind:t.kind<=5
 vk:t.vk<=2
theorem all_ok:∀ (k:Nat) (x:St),(∀ c∈x.s,c<256)->(∀ t∈(allF k x).1,TokOk t)/\(allF k x).1.length<=x.s.length/\((allF k x).1≠[]->x.long=false)
 | 0,x,hb=>⟨by simp [allF],by simp [allF],by simp [allF]⟩
 | k+1,x,hb=>by
  rw [allF]
  cases hn:next x with
  | mk y o =>
   cases o with
   | none=>exact ⟨by simp,by simp,by simp⟩
   | some t =>
    obtain ⟨h1,h2,h3,h4,h5,h6,h7,h8,h9⟩:=next_ok hb hn
    obtain ⟨g1,g2,g3⟩:=all_ok k y h7
    refine ⟨fun u hu=>?_,by simp only [List.length_cons];omega,fun _=>h8⟩
    rcases List.mem_cons.1 hu with rfl | hu
    ·exact ⟨h1,h2,h3,h4,h5⟩
    ·exact g1 u hu
end Go.Proofs.YtppigckioalhhaaGreatDoorR.Lx
namespace Go.Proofs.YtppigckioalhhaaGreatDoorR.Sy
theorem env_toks (s:List Nat) (hb:∀ c∈s,c<256):(∀ t∈(envOf s).ws,Lx.TokOk t)/\(envOf s).ws.length<=65536:=by
 obtain ⟨h1,h2,h3⟩:=Lx.all_ok (s.length+1) (Lx.start s) hb
 refine ⟨h1,?_⟩
 show (Lx.allF (s.length+1) (Lx.start s)).1.length<=65536
 by_cases h:(Lx.allF (s.length+1) (Lx.start s)).1=[]
 ·rw [h];simp
 ·have:=h3 h
  simp only [Lx.start,decide_eq_false_iff_not] at this
  have h4:(Lx.start s).s.length=s.length:=rfl
  omega
end Go.Proofs.YtppigckioalhhaaGreatDoorR.Sy
namespace Go.Proofs.YtppigckioalhhaaGreatDoorR.Lx
set_option linter.unusedVariables false
/-- a name begins with a small letter, a mark does not -/
structure TokK (t:Tok):Prop where
 name:t.kind=1->small (t.text.headD 0)=true
 mark:t.kind=5->small (t.text.headD 0)=false
theorem word_k {s:List Nat} {w:Wd} (h:word s=.ok w) (hs:s≠[]):(w.kind=1->small ((s.take w.n).headD 0)=true)/\(w.kind=5->small ((s.take w.n).headD 0)=false):=by
 obtain ⟨c,r,rfl⟩:∃ c r,s=c :: r:=by
  cases s with
  | nil=>exact absurd rfl hs
  | cons c r=>exact ⟨c,r,rfl⟩
 unfold word at h
 rw [show (c :: r).headD 0=c from rfl] at h
 by_cases h0:(small c || capital c)=true
 ·rw [if_pos h0] at h
  split at h
  ·cases h
  ·cases h
   refine ⟨fun hk=>?_,fun hk=>?_⟩
   ·by_cases hc:capital c=true
    ·rw [if_pos hc] at hk;cases hk
    ·have hsm:small c=true:=by simpa [hc] using h0
     have hg:goes c=true:=by unfold goes;rw [hsm];rfl
     rw [run_cons,if_pos hg,List.take_succ_cons]
     exact hsm
   ·by_cases hc:capital c=true
    ·rw [if_pos hc] at hk;cases hk
    ·rw [if_neg hc] at hk;cases hk
 ·rw [if_neg h0] at h
  have hsm:small c=false:=by
   cases hh:small c with
   | false=>rfl
   | true=>rw [hh] at h0;exact absurd rfl h0
  have hz:∀ n,small (((c :: r).take n).headD 0)=false:=fun n=>by
   cases n with
   | zero=>rfl
   | succ n=>rw [List.take_succ_cons];exact hsm
  split at h
  ·split at h
   ·cases h
   ·cases h;exact ⟨fun hk=>(by cases hk),fun hk=>(by cases hk)⟩
  ·split at h
   ·split at h
    ·cases h
    ·cases h;exact ⟨fun hk=>(by cases hk),fun hk=>(by cases hk)⟩
   ·split at h
    ·cases h
    ·cases h;exact ⟨fun hk=>(by cases hk),fun _=>hz _⟩
theorem next_k {x y:St} {t:Tok} (h:next x=(y,some t)):TokK t:=by
 unfold next at h
 split at h
 ·simp at h
 ·split at h
  ·simp at h
  ·split at h
   ·simp at h
   ·rename_i he
    split at h
    ·simp at h
    ·rename_i wd hw
     simp only [Prod.mk.injEq,Option.some.injEq] at h
     obtain ⟨-,rfl⟩:=h
     obtain ⟨h1,h2⟩:=word_k hw he
     exact ⟨h1,h2⟩
theorem all_k:∀ (k:Nat) (x:St),∀ t∈(allF k x).1,TokK t
 | 0,x=>by simp [allF]
 | k+1,x=>by
  rw [allF]
  cases hn:next x with
  | mk y o =>
   cases o with
   | none=>simp
   | some t =>
    intro u hu
    rcases List.mem_cons.1 hu with rfl | hu
    ·exact next_k hn
    ·exact all_k k y u hu
end Go.Proofs.YtppigckioalhhaaGreatDoorR.Lx
namespace Go.Proofs.YtppigckioalhhaaGreatDoorR.Sy
set_option linter.unusedVariables false
theorem env_k (s:List Nat):∀ t∈(envOf s).ws,Lx.TokK t:=Lx.all_k _ _
/-- a mark's sign is a mark; a word's sign is a name -/
def mk (t:Lx.Tok) (s:List Nat):Bool:=decide (t.kind=5) && decide (t.text=s)
def nm (t:Lx.Tok) (s:List Nat):Bool:=decide (t.kind=1) && decide (t.text=s)
theorem mk_sign {t:Lx.Tok} (h:Lx.TokK t) {s:List Nat} (hs:Lx.small (s.headD 0)=false):mk t s=sign t s:=by
 unfold mk sign
 by_cases h1:t.text=s
 ·by_cases h5:t.kind=5
  ·simp [h1,h5]
  ·have hn:t.kind≠1:=fun e=>by have:=h.name e;rw [h1,hs] at this;cases this
   simp [h1,h5,hn]
 ·simp [h1]
theorem nm_sign {t:Lx.Tok} (h:Lx.TokK t) {s:List Nat} (hs:Lx.small (s.headD 0)=true):nm t s=sign t s:=by
 unfold nm sign
 by_cases h1:t.text=s
 ·by_cases h5:t.kind=1
  ·simp [h1,h5]
  ·have hn:t.kind≠5:=fun e=>by have:=h.mark e;rw [h1,hs] at this;cases this
   simp [h1,h5,hn]
 ·simp [h1]
end Go.Proofs.YtppigckioalhhaaGreatDoorR.Sy
