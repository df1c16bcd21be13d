/- THE TEXTS MERGED: SyDeepP SySim SySize SyBlankP SyDeepQ SyBlankL SyLawDeep SyLawBlank SyLawReads SyGlob PfSyReads. -/
import Derived.Test.YtppigckioalhhaaGreatDoorRKS1
import Derived.Test.YtppigckioalhhaaGreatDoorRKS8
import Derived.Test.YtppigckioalhhaaGreatDoorRKS35
import Derived.Test.YtppigckioalhhaaGreatDoorRKS9
import Derived.Test.YtppigckioalhhaaGreatDoorRKS45
import Derived.Test.YtppigckioalhhaaGreatDoorRKS28
import Derived.Test.YtppigckioalhhaaGreatDoorRKS38
import Derived.Laws.OwnMore
import Derived.Test.YtppigckioalhhaaGreatDoorRKS47
import Derived.Test.YtppigckioalhhaaGreatDoorRRows
import Derived.ProofKit
import Derived.OpenShut
import Derived.LaidMore
import Derived.Stop.LaidErr
import Derived.Stop.Joined
import Derived.Test.YtppigckioalhhaaGreatDoorRCards
import Derived.Test.YtppigckioalhhaaGreatDoorRTie
import Derived.ShutString
import Derived.SizedLaws
import Derived.JoinedCond
import Derived.Deep.CondSized
import Derived.Deep.DeepHandedRow
import Derived.Deep.DeepWitnessRowRef
import Derived.SevenTiedAt
namespace Go.Proofs.YtppigckioalhhaaGreatDoorR.Sy
open Lx (Tok St word skipN goes)
open Pr (Ex)
set_option linter.unusedVariables false
set_option linter.unusedSimpArgs false
/-- a word but for its place -/
structure Sh where
 kind:Nat
 text:List Nat
 vk:Nat
 num:Nat
 sym:List Nat
deriving DecidableEq
theorem digit_goes {c:Nat} (h:goes c=false):Lx.digit c=false:=by
 cases hd:Lx.digit c with
 | false=>rfl
 | true=>rw [Lx.goes_of_digit hd] at h;cases h
open Lx (Tok)
open Pr (Term Atom Ex Li Rul Rel Prog)
/-- without places -/
def bareL:Li->Li
 | .mk k a op l r fn av of body ln cl=>.mk k a op l r fn av of (bareLs body) 0 0
where bareLs:List Li->List Li
 | []=>[]
 | x :: r=>bareL x :: bareLs r
section
variable {α β:Type} {v v':Env}
def RA (g g':Ag):Prop:=g'.fn=g.fn/\g'.av=g.av/\g'.of=g.of/\g.body.map bareL=g'.body.map bareL
end
open Pr (Ex Li Atom Rul Rel Prog)
set_option linter.unusedVariables false
theorem listF_len {α:Type} {v:Env} {fin:List Nat} {one:Nat->PR α}:∀ (k:Nat) (acc:List α) (i:Nat) (l:List α) (j:Nat),listF v fin one k acc i=.ok l j->l.length<=acc.length+k
 | 0,acc,i,l,j,h=>by cases h
 | k+1,acc,i,l,j,h=>by
  rw [listF] at h
  split at h
  ·obtain ⟨a,m,-,h2⟩:=bind_ok h
   have:=listF_len k _ _ l j h2
   simp at this
   omega
  ·obtain ⟨a,m,-,h2⟩:=bind_ok h
   cases h2
   omega
theorem list_len {α:Type} {v:Env} {fin:List Nat} {one:Nat->PR α} {i:Nat} {l:List α} {j:Nat} (h:list v fin one i=.ok l j):l.length<=v.ws.length+2:=by
 unfold list at h
 split at h
 ·cases h;simp
 ·obtain ⟨a,m,-,h2⟩:=bind_ok h
  have:=listF_len _ _ _ l j h2
  simp at this
  omega
theorem atom_len {v:Env} {i:Nat} {a:Atom} {j:Nat} (h:atom v i=.ok a j):a.terms.length<=v.ws.length+2:=by
 unfold atom at h
 obtain ⟨t,m,-,h⟩:=bind_ok h
 obtain ⟨_,m2,-,h⟩:=bind_ok h
 obtain ⟨l,m3,h1,h⟩:=bind_ok h
 cases h
 exact list_len h1
theorem chain_M {v:Env} {line:Nat} {sub:Nat->Nat->PR (Ex × Nat)} {above:Nat} (hs:∀ ab i r j,sub ab i=.ok r j->exM r.1<=2):∀ (n:Nat) (e:Ex) (d i:Nat) (r:Ex × Nat) (j:Nat),exM e<=2->chainF v line sub above n e d i=.ok r j->exM r.1<=2
 | 0,e,d,i,r,j,he,h=>by cases h
 | n+1,e,d,i,r,j,he,h=>by
  rw [chainF] at h
  split at h
  ·cases h;exact he
  ·split at h
   ·cases h
   ·obtain ⟨x,m,h1,h2⟩:=bind_ok h
    have:=hs _ _ _ _ h1
    exact chain_M hs n _ _ m r j (by simp [exM,exMs];omega) h2
theorem expr_M (v:Env):∀ (n line above i:Nat) (r:Ex × Nat) (j:Nat),exprF v n line above i=.ok r j->exM r.1<=2
 | 0,line,above,i,r,j,h=>by cases h
 | n+1,line,above,i,r,j,h=>by
  rw [exprF] at h
  split at h
  ·split at h
   ·cases h;simp [exM,exMs]
   ·split at h
    ·cases h;simp [exM,exMs]
    ·split at h
     ·split at h
      ·cases h
      ·obtain ⟨x,m,h1,h2⟩:=bind_ok h
       cases h2
       have:=expr_M v n _ _ _ _ _ h1
       simp [exM,exMs];omega
     ·split at h
      ·cases h
      ·obtain ⟨_,m,-,h⟩:=bind_ok h
       obtain ⟨x,m2,h1,h⟩:=bind_ok h
       obtain ⟨_,m3,-,h⟩:=bind_ok h
       cases h
       exact expr_M v n _ _ _ x _ h1
  ·obtain ⟨x,m,h1,h2⟩:=bind_ok h
   exact chain_M (fun ab i r j=>expr_M v n _ ab i r j) _ _ _ m r j (expr_M v n _ _ _ _ _ h1) h2
theorem expr_M1 {v:Env} {i:Nat} {e:Ex} {j:Nat} (h:expr v i=.ok e j):exM e<=2:=by
 unfold expr at h
 obtain ⟨x,m,h1,h2⟩:=bind_ok h
 cases h2
 exact expr_M v _ _ _ _ _ _ h1
theorem liMs_snoc (acc:List Li) (a:Li):liMs (acc++[a])=max (liMs acc) (liM a):=by
 induction acc with
 | nil=>simp [liMs]
 | cons x r ih=>simp only [List.cons_append,liMs,ih];omega
theorem body_M {v:Env} {one:Nat->PR Li} {B:Nat} (h1:∀ i a j,one i=.ok a j->liM a<=B):∀ (k:Nat) (acc:List Li) (i:Nat) (l:List Li) (j:Nat),liMs acc<=B->bodyF v one k acc i=.ok l j->liMs l<=B/\l.length<=acc.length+k
 | 0,acc,i,l,j,ha,h=>by cases h
 | k+1,acc,i,l,j,ha,h=>by
  rw [bodyF] at h
  split at h
  ·obtain ⟨a,m,h2,h3⟩:=bind_ok h
   have:=body_M h1 k _ _ l j (by rw [liMs_snoc];have:=h1 _ _ _ h2;omega) h3
   refine ⟨this.1,?_⟩
   have h4:=this.2
   simp at h4
   omega
  ·cases h
   exact ⟨ha,by omega⟩
theorem bodyOf_M {v:Env} {one:Nat->PR Li} {B:Nat} (h1:∀ i a j,one i=.ok a j->liM a<=B) {i:Nat} {l:List Li} {j:Nat} (h:bodyOf v one i=.ok l j):liMs l<=B/\l.length<=v.ws.length+2:=by
 unfold bodyOf at h
 obtain ⟨a,m,h2,h3⟩:=bind_ok h
 have:=body_M h1 _ _ _ l j (by simp only [liMs];have:=h1 _ _ _ h2;omega) h3
 refine ⟨this.1,?_⟩
 have h4:=this.2
 simp at h4
 omega
theorem lit_M (v:Env):∀ (k br i:Nat) (a:Li) (j:Nat),litF v k br i=.ok a j->liM a<=v.ws.length+2
 | 0,br,i,a,j,h=>by cases h
 | k+1,br,i,a,j,h=>by
  have e0:exM ex0=0:=by simp [ex0,exM,exMs]
  have a0:at0.terms.length=0:=rfl
  rw [litF] at h
  split at h
  ·obtain ⟨x,m,h1,h2⟩:=bind_ok h
   cases h2
   have:=atom_len h1
   simp [liM,liMs,e0];omega
  ·split at h
   ·obtain ⟨x,m,h1,h2⟩:=bind_ok h
    cases h2
    have:=atom_len h1
    simp [liM,liMs,e0];omega
   ·split at h
    ·obtain ⟨g,m,h1,h2⟩:=bind_ok h
     cases h2
     unfold aggOf at h1
     split at h1
     ·cases h1
     ·obtain ⟨_,m1,-,h1⟩:=bind_ok h1
      obtain ⟨o,m2,h3,h1⟩:=bind_ok h1
      obtain ⟨b,m3,h4,h1⟩:=bind_ok h1
      obtain ⟨_,m4,-,h1⟩:=bind_ok h1
      cases h1
      have hb:=bodyOf_M (lit_M v k (br+1)) h4
      have ho:exM o<=2:=by
       split at h3
       ·obtain ⟨e,m5,h5,h3⟩:=bind_ok h3
        obtain ⟨_,m6,-,h3⟩:=bind_ok h3
        cases h3
        exact expr_M1 h5
       ·cases h3;rw [e0];omega
      simp only [liM,e0,a0];omega
    ·obtain ⟨x,m,h1,h2⟩:=bind_ok h
     split at h2
     ·cases h2
     ·obtain ⟨y,m2,h3,h2⟩:=bind_ok h2
      cases h2
      have:=expr_M1 h1
      have:=expr_M1 h3
      simp [liM,liMs,e0,a0];omega
theorem rule_M {v:Env} {i:Nat} {r:Rul} {j:Nat} (h:rule v i=.ok r j):r.head.terms.length<=v.ws.length+2/\r.body.length<=v.ws.length+2/\liMs r.body<=v.ws.length+2:=by
 unfold rule at h
 obtain ⟨x,m,h1,h2⟩:=bind_ok h
 obtain ⟨b,m2,h3,h2⟩:=bind_ok h2
 cases h2
 refine ⟨atom_len h1,?_⟩
 split at h3
 ·have:=bodyOf_M (fun i a j=>lit_M v _ _ i a j) h3
  exact ⟨this.2,this.1⟩
 ·cases h3;simp [liMs]
theorem relation_M {v:Env} {i:Nat} {r:Rel} {j:Nat} (h:relation v i=.ok r j):r.types.length<=v.ws.length+2:=by
 unfold relation at h
 obtain ⟨t,m,-,h⟩:=bind_ok h
 obtain ⟨_,m2,-,h⟩:=bind_ok h
 obtain ⟨l,m3,h1,h⟩:=bind_ok h
 cases h
 exact list_len h1
theorem prog_M {v:Env}:∀ (n:Nat) (p:Prog) (i:Nat) (q:Prog) (j:Nat),(∀ r∈p.rels,r.types.length<=v.ws.length+2)->(∀ r∈p.rules,r.head.terms.length<=v.ws.length+2/\r.body.length<=v.ws.length+2/\liMs r.body<=v.ws.length+2)->progF v n p i=.ok q j ->
  q.rels.length<=p.rels.length+n/\q.rules.length<=p.rules.length+n/\(∀ r∈q.rels,r.types.length<=v.ws.length+2)/\∀ r∈q.rules,r.head.terms.length<=v.ws.length+2/\r.body.length<=v.ws.length+2/\liMs r.body<=v.ws.length+2
 | 0,p,i,q,j,h1,h2,h=>by cases h
 | n+1,p,i,q,j,h1,h2,h=>by
  rw [progF] at h
  split at h
  ·split at h
   ·obtain ⟨x,m,h3,h⟩:=bind_ok h
    obtain ⟨_,m2,-,h⟩:=bind_ok h
    have:=prog_M n ⟨p.rels++[x],p.rules⟩ m2 q j (by
     intro r hr
     rcases List.mem_append.1 hr with hr | hr
     ·exact h1 r hr
     ·rw [Msq] at hr;subst hr;exact relation_M h3) h2 h
    refine ⟨?_,?_,this.2.2.1,this.2.2.2⟩
    ·have:=this.1;simp at this;omega
    ·have:=this.2.1;simp at this;omega
   ·obtain ⟨x,m,h3,h⟩:=bind_ok h
    obtain ⟨_,m2,-,h⟩:=bind_ok h
    have:=prog_M n ⟨p.rels,p.rules++[x]⟩ m2 q j h1 (by
     intro r hr
     rcases List.mem_append.1 hr with hr | hr
     ·exact h2 r hr
     ·rw [Msq] at hr;subst hr;exact rule_M h3) h
    refine ⟨?_,?_,this.2.2.1,this.2.2.2⟩
    ·have:=this.1;simp at this;omega
    ·have:=this.2.1;simp at this;omega
  ·cases h
   exact ⟨by omega,by omega,h1,h2⟩
theorem prog_pgM {v:Env} (hv:v.ws.length<=65536) {p:Prog} {j:Nat} (h:whole v (prog v)=.ok p j):PgM p:=by
 unfold whole at h
 obtain ⟨x,m,h1,h2⟩:=bind_ok h
 split at h2
 ·cases h2
 ·cases h2
  have:=prog_M _ _ _ _ _ (by simp) (by simp) h1
  simp at this
  obtain ⟨k1,k2,k3,k4⟩:=this
  exact ⟨by omega,by omega,fun r hr=>by have:=k3 r hr;omega,fun r hr=>by have:=(k4 r hr).1;omega,fun r hr=>by have:=(k4 r hr).2.1;omega,fun r hr=>by have:=(k4 r hr).2.2;omega⟩
end Go.Proofs.YtppigckioalhhaaGreatDoorR.Sy
namespace Go.Proofs.YtppigckioalhhaaGreatDoorR.Lx
set_option linter.unusedSimpArgs false
set_option linter.unusedVariables false
/-- the blanks -/
def bks:List (List Nat):=[[32],[10],[9,32],[32,32,13,10],[32,35,32,110,111,116,32,97,32,119,111,114,100,46,10],[10,10]]
/-- words with blanks ahead of each -/
inductive BT:List Tok->List Nat->Prop
 | nil:BT [] []
 | snoc {l:List Tok} {s:List Nat} {b:List Nat} {t:Tok} (h:BT l s) (hb:b∈bks):BT (l++[t]) (s++(b++t.text))
end Go.Proofs.YtppigckioalhhaaGreatDoorR.Lx
namespace Go.Proofs.YtppigckioalhhaaGreatDoorR.Sy
set_option linter.unusedVariables false
open Lx (Tok goes)
open Pr (Ex Li)
set_option linter.unusedSimpArgs false
def codeOf {α:Type}:PR α->Nat
 | .ok _ _=>0
 | .err f=>f.1
section
variable {s:List Nat} {l:List Sh} {d:Nat}
end
open Pr (Term Atom Ex Li Rul Rel Prog)
set_option linter.unusedVariables false
set_option linter.unusedSimpArgs false
def progOf:PR Prog->Prog
 | .ok p _=>p
 | .err _=>⟨[],[]⟩
theorem pgM_nil:PgM ⟨[],[]⟩:=⟨by simp,by simp,by simp,by simp,by simp,by simp⟩
theorem progOf_M (v:Env) (hv:v.ws.length<=65536):PgM (progOf (whole v (prog v))):=by
 cases h:whole v (prog v) with
 | ok p j=>exact prog_pgM hv h
 | err f=>exact pgM_nil
end Go.Proofs.YtppigckioalhhaaGreatDoorR.Sy
namespace Go.Proofs.YtppigckioalhhaaGreatDoorR
open Go.RowKit
set_option linter.unusedVariables false
set_option linter.unusedSimpArgs false
set_option maxRecDepth 100000
theorem AllRes.code {r:Sy.PR Pr.Li} {n:Nat} {w w':World} {e:Ending} (h:AllRes r (valL n) (.agg #[.int .i64 0,.string ⟨#[]⟩,.slice none 0 0,.int .i64 0,.int .i64 0,.string ⟨#[]⟩,.int .i64 0,.int .i64 0,.string ⟨#[]⟩,.int .i64 0,.slice none 0 0,.int .i64 0,.string ⟨#[]⟩,.int .i64 0,.int .i64 0,.string ⟨#[]⟩,.int .i64 0,.slice none 0 0,.int .i64 0,.string ⟨#[]⟩,.int .i64 0,.string ⟨#[]⟩,.int .i64 0,.int .i64 0,.string ⟨#[]⟩,.int .i64 0,.slice none 0 0,.slice none 0 0,.int .i64 0,.int .i64 0]) w e w') :
  ∃ (C:Array Value) (x y:Nat),e=.returned (.tuple #[.agg C,.agg #[.int .i64 (Sy.codeOf r:Nat),.int .i64 (x:Nat),.int .i64 (y:Nat)]])/\C.size=30/\C.toList.all (·.oneCell')=true/\Mod [] w w':=by
 cases r with
 | ok a i =>
  obtain ⟨C,rfl,hv,hm⟩:=h
  obtain ⟨h1,h2⟩:=valL_cells hv
  exact ⟨C,0,0,rfl,h1,h2,hm⟩
 | err g =>
  obtain ⟨rfl,hm⟩:=h
  exact ⟨_,g.2.1,g.2.2,rfl,rfl,rfl,hm⟩
/-- Program's answer: its code, its program (none where it is refused) -/
theorem AllRes.prog {r:Sy.PR Pr.Prog} {n:Nat} {w:World} {e:Ending} {w':World} (h:AllRes r (valP n) (.agg #[.slice none 0 0,.slice none 0 0]) w e w') :
  ∃ (a1:Option Addr) (c1:Nat) (a2:Option Addr) (c2 x y:Nat),e=.returned (.tuple #[.agg #[.slice a1 (Sy.progOf r).rels.length c1,.slice a2 (Sy.progOf r).rules.length c2],.agg #[.int .i64 (Sy.codeOf r:Nat),.int .i64 (x:Nat),.int .i64 (y:Nat)]]) /\
   PgB (fun k=>n<=k) w' (Sy.progOf r) (.agg #[.slice a1 (Sy.progOf r).rels.length c1,.slice a2 (Sy.progOf r).rules.length c2])/\Mod [] w w':=by
 cases r with
 | ok p i =>
  obtain ⟨C,rfl,hv,hm⟩:=h
  obtain ⟨a1,c1,a2,c2,hx⟩:=PgB.lit hv
  rw [hx] at hv
  simp only [Value.agg.injEq] at hx
  subst hx
  exact ⟨a1,c1,a2,c2,0,0,rfl,hv,hm⟩
 | err g =>
  obtain ⟨rfl,hm⟩:=h
  exact ⟨none,0,none,0,g.2.1,g.2.2,rfl,⟨[],[],.slice none 0 0,.slice none 0 0,rfl,rfl,.nil,.nil,by simp,by simp⟩,hm⟩
def Sy.fltOf {α:Type}:Sy.PR α->Sy.Flt
 | .ok _ _=>(0,0,0)
 | .err g=>g
/-- Program's answer: its fault, its program (none where it is refused) -/
theorem AllRes.prog3 {r:Sy.PR Pr.Prog} {n:Nat} {w:World} {e:Ending} {w':World} (h:AllRes r (valP n) (.agg #[.slice none 0 0,.slice none 0 0]) w e w') :
  ∃ (a1:Option Addr) (c1:Nat) (a2:Option Addr) (c2:Nat),e=.returned (.tuple #[.agg #[.slice a1 (Sy.progOf r).rels.length c1,.slice a2 (Sy.progOf r).rules.length c2],.agg #[.int .i64 ((Sy.fltOf r).1:Nat),.int .i64 ((Sy.fltOf r).2.1:Nat),.int .i64 ((Sy.fltOf r).2.2:Nat)]]) /\
   PgB (fun k=>n<=k) w' (Sy.progOf r) (.agg #[.slice a1 (Sy.progOf r).rels.length c1,.slice a2 (Sy.progOf r).rules.length c2])/\Mod [] w w':=by
 cases r with
 | ok p i =>
  obtain ⟨C,rfl,hv,hm⟩:=h
  obtain ⟨a1,c1,a2,c2,hx⟩:=PgB.lit hv
  rw [hx] at hv
  simp only [Value.agg.injEq] at hx
  subst hx
  exact ⟨a1,c1,a2,c2,rfl,hv,hm⟩
 | err g =>
  obtain ⟨rfl,hm⟩:=h
  exact ⟨none,0,none,0,rfl,⟨[],[],.slice none 0 0,.slice none 0 0,rfl,rfl,.nil,.nil,by simp,by simp⟩,hm⟩
set_option maxHeartbeats 16000000 in
theorem SyntaxReads_any (s:ByteArray) (hs:s.size<=140737488351232) (w:World) (hG:Glob w) :
  Calls Tryz.prog 3 #[.string s] w fun e w'=>e=.returned (.bool true)/\Mod [] w w':=by
 have HP:=Hxq (fun w hG=>entP_any s (by omega) w hG)
 have HR:=Hxq (fun w=>rentProgram_any s (by omega) w)
 have htk:=Sy.env_toks (Cod.str s) (Cod.str_lt s)
 have hpm:=Sy.progOf_M (Sy.envOf (Cod.str s)) htk.2
 generalize Sy.envOf (Cod.str s)=v at *
 generalize Sy.whole v (Sy.prog v)=r at *
 clear htk
 go_enter Tryz.func3,Tryz.ntmps3
 go_wp2_with fail
 refine (shown_any w hG).mono ?_
 rintro e0 w0 ⟨rfl,m0⟩
 have M0:=Lib.hid m0
 clear m0
 go_wp2_with fail
 refine (HP.out w0 (hG.past M0.out (by simp))).mono ?_
 rintro e3 w3 h3
 obtain ⟨a1,c1,a2,c2,rfl,hv1,m3⟩:=AllRes.prog3 h3
 clear h3 HP
 have HSM:=Hxq (fun u u' w h h'=>sameProg_any (F:=fun _=>True) (G:=fun _=>True) (Sy.progOf r) hpm u u' w h h')
 have M3:=Hxq (M0.out.trans m3 (by simp));have HV1:=Hxq (hv1.mono (G:=fun _=>True) (fun _ _ _=>trivial))
 clear hv1 m3 hpm
 have HR3:=Hxq (fun w e w' h=>AllRes.prog3 (r:=r) (n:=w.heap.size) (w:=w) (e:=e) (w':=w') h)
 generalize Sy.progOf r=p at *
 generalize Sy.fltOf r=fl at *
 generalize p.rels.length=n1 at *
 generalize p.rules.length=n2 at *
 obtain ⟨x0,x1,x2⟩:=fl
 dsimp only at *
 have mA:=((Mod.refl [] w3).alloc (Obj.cells #[.slice a1 n1 c1,.slice a2 n2 c2] 26)).alloc (Obj.cells #[.int .i64 (x0:Nat),.int .i64 (x1:Nat),.int .i64 (x2:Nat)] 31)
 have eA:=two_a w3 #[.slice a1 n1 c1,.slice a2 n2 c2] #[.int .i64 (x0:Nat),.int .i64 (x1:Nat),.int .i64 (x2:Nat)] 26 31
 have eB:=two_b w3 #[.slice a1 n1 c1,.slice a2 n2 c2] #[.int .i64 (x0:Nat),.int .i64 (x1:Nat),.int .i64 (x2:Nat)] 26 31
 go_upto_region 3 with fail
 generalize (w3.alloc (Obj.cells _ 26)).alloc (Obj.cells _ 31)=w4 at *
 have M4:=Hxq (M3.out.trans mA (by simp));have EA:=Lib.hid eA;have EB:=Lib.hid eB;have HV4:=Hxq (HV1.out.keep mA (by simp))
 clear mA eA eB HV1
 go_wp2_with fail
 refine (HR.out w4).mono ?_
 rintro e5 w5 h5
 obtain ⟨a3,c3,a4,c4,rfl,hv2,m5⟩:=HR3.out _ _ _ h5
 clear h5 HR HR3
 have M5:=Hxq (M4.out.trans m5 (by simp));have HV2:=Hxq (hv2.mono (G:=fun _=>True) (fun _ _ _=>trivial));have EA5:=Hxq (m5.at EA.out (by simp));have EB5:=Hxq (m5.at EB.out (by simp));have HV5:=Hxq (HV4.out.keep m5 (by simp))
 clear hv2 m5 EA EB HV4
 have mC:=((Mod.refl [] w5).alloc (Obj.cells #[.slice a3 n1 c3,.slice a4 n2 c4] 26)).alloc (Obj.cells #[.int .i64 (x0:Nat),.int .i64 (x1:Nat),.int .i64 (x2:Nat)] 31)
 have eC:=two_a w5 #[.slice a3 n1 c3,.slice a4 n2 c4] #[.int .i64 (x0:Nat),.int .i64 (x1:Nat),.int .i64 (x2:Nat)] 26 31
 have eD:=two_b w5 #[.slice a3 n1 c3,.slice a4 n2 c4] #[.int .i64 (x0:Nat),.int .i64 (x1:Nat),.int .i64 (x2:Nat)] 26 31
 have hz6:=lt_of_block EA5.out
 have hz7:=lt_of_block EB5.out
 go_upto_region 4 with fail
 generalize (w5.alloc (Obj.cells _ 26)).alloc (Obj.cells _ 31)=w6 at *
 have M6:=Hxq (M5.out.trans mC (by simp));have EA6:=Hxq (mC.at EA5.out (by simp));have EB6:=Hxq (mC.at EB5.out (by simp));have EC6:=Lib.hid eC;have ED6:=Lib.hid eD;have HV6:=Hxq (HV5.out.keep mC (by simp));have HW6:=Hxq (HV2.out.keep mC (by simp))
 clear mC eC eD EA5 EB5 HV5 HV2
 obtain ⟨qa,qb⟩:=cells2 EA6.out
 have f0:=cell_at EB6.out 0;have f1:=cell_at EB6.out 1;have f2:=cell_at EB6.out 2
 obtain ⟨qc,qd⟩:=cells2 EC6.out
 have g0:=cell_at ED6.out 0;have g1:=cell_at ED6.out 1;have g2:=cell_at ED6.out 2
 simp only [List.getElem?_toArray,List.getElem?_cons_zero,List.getElem?_cons_succ] at f0 f1 f2 g0 g1 g2
 have hc0:((x0:Int) == (x0:Int))=true:=by simp
 have hc1:((x1:Int) == (x1:Int))=true:=by simp
 have hc2:((x2:Int) == (x2:Int))=true:=by simp
 go_wp2_with fail
 refine (HSM.out _ _ _ HV6.out HW6.out).mono ?_
 rintro e7 w7 ⟨rfl,m7⟩
 have M7:=Hxq (M6.out.trans m7 (by simp))
 clear m7
 go_wp2_with fail
 go_ret
 exact ⟨rfl,M7.out⟩
theorem gRng : Tryz.prog.globalNamed "strconv.ErrRange" = some 3 := by kernel_rfl
theorem gSyn : Tryz.prog.globalNamed "strconv.ErrSyntax" = some 2 := by kernel_rfl
theorem gMrk : Tryz.prog.globalNamed "pedigree/lex.marks" = some 0 := by kernel_rfl
theorem tRng:(Tryz.prog.globals[3]?).map (·.type)=some 199:=by kernel_rfl
theorem tSyn:(Tryz.prog.globals[2]?).map (·.type)=some 199:=by kernel_rfl
theorem tMrk:(Tryz.prog.globals[0]?).map (·.type)=some 187:=by kernel_rfl
theorem starE : "*" ++ "errors.errorString" = "*errors.errorString" := by decide
theorem rowE (u : TypeId) (h : Tryz.prog.typeName? 3 u = some "*errors.errorString") : u = 234 :=
 typeName_ptr_named (nm := "errors.errorString") (by rw [starE]; kernel_rfl) (by kernel_rfl) (by decide) u (by rw [starE]; exact h)
theorem var_heap {P:Program} {w:World} {n:String} {g:Nat} {cs:Array Value} (hg:P.globalNamed n=some g) (h:w.var? P n=some cs):∃ T fr,w.heap[g]?=some (.cells cs T fr):=by
 simp only [World.var?,hg,Option.bind_some] at h
 split at h
 ·rename_i c T fr he
  cases h
  exact ⟨_,_,he⟩
 ·cases h
theorem glob_of_laid {W:World} (h:laidMetH Tryz.prog Rows.syntaxDeepRow.laid W):Glob W:=by
 rw [MakeChecks.laidMetH_plain _ _ _ (by kernel_rfl)] at h
 have h3:=h.tail.tail.tail
 obtain ⟨a0,s0,hv0,-⟩:=laid_sentinel h3 gRng tRng Tryz.underlying199 rowE Tryz.underlying234 Tryz.underlying236 rfl rfl Tryz.underlying9 (by kernel_rfl) (by kernel_rfl)
 obtain ⟨a1,s1,hv1,-⟩:=laid_sentinel h3.tail gSyn tSyn Tryz.underlying199 rowE Tryz.underlying234 Tryz.underlying236 rfl rfl Tryz.underlying9 (by kernel_rfl) (by kernel_rfl)
 obtain ⟨T0,f0,hr⟩:=var_heap gRng hv0
 obtain ⟨T1,f1,hs⟩:=var_heap gSyn hv1
 obtain ⟨ps,⟨g2,t2,cs2,fu,p2,q2,hg2,ht2,hv2,hd2,-,-⟩,-,-⟩:=h3.tail.tail
 obtain rfl:=Option.some.inj (gMrk.symm.trans hg2)
 obtain rfl:=Option.some.inj (tMrk.symm.trans ht2)
 obtain ⟨T2,f2,hm⟩:=var_heap gMrk hv2
 obtain ⟨xs,m,rfl,hx,hlen,hn,hel⟩:=DataW.trod_array Tryz.underlying187 hd2
 rw [show Tryz.prog.cellsOf 187=19 by kernel_rfl] at hlen
 rw [show Tryz.prog.cellsOf 9=1 by kernel_rfl] at hel
 simp only [Prod.mk.injEq,DataW.agg.injEq,Rows.laid_pedigree_lex_marks] at hx
 have hcs:cs2=(markL.map fun l=>Value.string (Lx.ofS l)).toArray:=by
  apply Array.ext'
  apply List.ext_getElem?
  intro i
  by_cases hi:i<19
  ·have he:=hel i hi
   have hlt:i<cs2.toList.length:=by omega
   have hone:(cs2.toList.drop (i * 1)).take 1=[cs2.toList[i]]:=by
    rw [Nat.mul_one,List.drop_eq_getElem_cons hlt];rfl
   rw [hone] at he
   have hxi:i<xs.length:=by omega
   rw [List.getElem?_eq_getElem hxi] at he
   obtain ⟨s,hc,hy,-⟩:=DataW.trod_string Tryz.underlying9 he
   rw [List.getElem?_eq_getElem hlt]
   have hlit:(markL.map fun l=>(DataW.lit (.string (l.map UInt8.ofNat)):DataW Unit))=xs.map (·.1):=hx.1
   have h1:(markL.map fun l=>(DataW.lit (.string (l.map UInt8.ofNat)):DataW Unit))[i]?=(xs.map (·.1))[i]?:=by rw [hlit]
   rw [List.getElem?_map,List.getElem?_map,List.getElem?_eq_getElem hxi,hy] at h1
   have hmi:i<markL.length:=by show i<19;exact hi
   rw [List.getElem?_eq_getElem hmi] at h1
   simp only [Option.map_some,Option.some.injEq,DataW.lit.injEq,Lit.string.injEq] at h1
   simp only [List.getElem?_map]
   rw [List.getElem?_eq_getElem hmi]
   have hcc:cs2.toList[i]=Value.string s:=by simpa using hc
   rw [hcc]
   simp only [Option.map_some]
   congr 2
   unfold Lx.ofS
   rw [h1]
  ·rw [List.getElem?_eq_none (by omega),List.getElem?_eq_none (by simp [markL];omega)]
 exact ⟨⟨_,_,hcs ▸ hm⟩,⟨_,_,_,_,hs⟩,⟨_,_,_,_,hr⟩⟩
end Go.Proofs.YtppigckioalhhaaGreatDoorR
namespace Go.Proofs.YtppigckioalhhaaGreatDoorR.pSyntaxReads
open Go.ChangeShapes Go.WideShapes Go.ChangeAt Go.RowKit
open Go.ChangeMaps (open_string shut_string)
set_option linter.unusedVariables false
set_option maxRecDepth 100000
set_option maxHeartbeats 1000000
theorem own:ownKnob Tryz.prog.godebug=none:=by kernel_rfl
theorem laidOut:laidOutB Tryz.prog=true:=by kernel_rfl
theorem contract (H:Type) (enc:TypeId × Value->H) (W:World) (base:Nat) (args:Array Value) (ds gs:List (DataW H)) (before:List MemPlace)
  (hval:∀ (j:Nat) t v,Tryz.f3.params[j]?=some t->args[j]?=some v->Value.okWide Tryz.prog W .any base t v)
  (hW:DataW.Whole enc Tryz.prog Tryz.f3.params.toList Rows.syntaxReadsSpec.vars false W args.toList ds gs before)
  (hsz0:(DataW.weightsEach Tryz.prog (Tryz.f3.params.toList++Rows.syntaxReadsSpec.plain.varTypes Tryz.prog) (ds++gs)).all (·<=reachBytes)=true)
  (hL:laidMetH Tryz.prog Rows.syntaxReadsRow.laid W) :
  Calls Tryz.prog 3 args W fun e W'=>∃ v,e=.returned v/\Rows.syntaxReadsSpec.post enc Tryz.prog Tryz.f3 false true false false W args v W':=by
 have hW':=hW
 have hG:=glob_of_laid hL
 obtain ⟨p,q,hA0,hV,rfl,hfz,hnd⟩:=hW
 have hA:DataW.TrodAll enc Tryz.prog W 0 (fun _=>true) true Tryz.f3.params.toList args.toList ds p:=hA0
 rw [Tryz.params3] at hA hval hsz0
 obtain ⟨v0,vs0,d0,ds0,p0,q0,hargs,rfl,rfl,h0,r0⟩:=trodAll_cons hA
 obtain ⟨rfl,rfl,rfl⟩:=trodAll_nil r0
 obtain rfl:args=#[v0]:=by cases args;simp_all
 obtain ⟨rfl,rfl⟩:=trodVars_none hV
 obtain ⟨s0,rfl,rfl,rfl,hz0⟩:=open_string Tryz.underlying9 (hval 0 9 v0 rfl rfl) h0
 have hs0:s0.size<=140737488351232:=by
  have:=sized_string hsz0 (j:=0) (t:=9) rfl rfl
  rw [Array.length_toList] at this
  exact this
 clear hA0
 refine (SyntaxReads_any s0 (by omega) W hG).mono fun e W' ⟨he,hm⟩=>?_
 subst he
 have bel:Below W.heap.size W W':=hm.below (Nat.le_refl _) (by simp)
 exact ⟨_,rfl,_,_,_,[],_,[],hW',trodAll_mk1 (shut_bool Tryz.underlying4 _),(trodAll_cons_mk (shut_string Tryz.underlying9 hz0) trodAll_mk0),rfl,bel.frame _,fun h=>by cases h⟩
theorem door_met (os:Os):laidMetH Tryz.prog Rows.syntaxReadsRow.laid ((World.doorLaid Tryz.prog 67 os).forCall (fun _ _=>0) ⟨#[],#[.string ⟨#[]⟩],[]⟩).memory:=by
 rw [MakeChecks.laidMetH_plain _ _ _ (by kernel_rfl)]
 exact laidMet_of_run' 8 (by kernel_rfl) (by kernel_rfl)
theorem reads (os:Os) {H:Type} (enc:TypeId × Value->H):∃ places,DataW.whole enc Tryz.prog ((World.doorLaid Tryz.prog 67 os).forCall (fun _ _=>0) ⟨#[],#[.string ⟨#[]⟩],[]⟩).memory Tryz.f3.params.toList Rows.syntaxReadsSpec.vars false (#[.string ⟨#[]⟩]:Array Value).toList 8=some ([.lit (.string [])],[],places) :=
 ⟨[],by kernel_rfl⟩
theorem lifted (os:Os) (started:os.Started) (H:Type) (enc:TypeId × Value->H) (F:Stop.Interp) :
  ReturnsInHanded {} Tryz.checked os 3 .any ((OpenSpec.ofChange Rows.syntaxReadsSpec).preRow enc Tryz.prog Tryz.f3 Rows.syntaxReadsRow.domain false Rows.syntaxReadsRow.laid) (((OpenSpec.ofChange Rows.syntaxReadsSpec).at F).post enc Tryz.prog Tryz.f3 false true false false):=by
 obtain ⟨places,hx⟩:=reads os enc
 refine returnsInHanded_of_row (C:=Tryz.checked) (s:=OpenSpec.ofChange Rows.syntaxReadsSpec) own started (by kernel_rfl) Tryz.func3
  (witness_row_atRef (enc:=enc) (C:=Tryz.checked) false (World.doorLaid Tryz.prog 67 os) #[.string ⟨#[]⟩] rfl (by kernel_rfl) (by kernel_rfl) (by kernel_rfl)
   (OpenSpec.preRow_of_cond 8 hx (by kernel_rfl) (fun k hk=>by cases hk) (by kernel_rfl) (door_met os))) ?_
 intro W base args ds gs before hval hW _ _ hsz hL _ _
 exact contract H enc W base args ds gs before hval hW hsz hL
theorem said:Rows.SyntaxReadsSaid :=
 OpenClaim.holds_of_cond 3 Tryz.f3 rfl rfl rfl rfl rfl rfl rfl ⟨rfl,rfl,rfl,rfl,rfl⟩ rfl rfl rfl rfl rfl (by kernel_rfl) Tryz.func3 (by kernel_rfl)
  (of_decide_eq_true (by kernel_rfl)) (by unfold Func.isWrapper;first | (rw [if_pos (by decide +kernel)];kernel_rfl) | (rw [if_neg (by decide +kernel)];exact ⟨rfl,rfl⟩))
  (fun os started H enc _ F=>by rw [OpenClaim.pre_eq_preRow];exact lifted os started H enc F)
theorem plain (f : FuncId) (fn : Func) (hf : Tryz.pinned.checked.prog.funcNamed "pedigree/pedigreelaw04.SyntaxReads" = some f) (hfn : Tryz.pinned.checked.prog.funcs[f]? = some fn) :
  true=Tryz.pinned.checked.prog.looks []/\∀ (j:Nat) t,fn.params[j]?=some t->Tryz.pinned.checked.prog.wantsStandIn t=false:=by
 obtain rfl : f = 3 := Option.some.inj ((show Tryz.prog.funcNamed "pedigree/pedigreelaw04.SyntaxReads" = some 3 by kernel_rfl).symm.trans hf) |>.symm
 obtain rfl:fn=Tryz.f3:=(Option.some.inj (Tryz.func3.symm.trans hfn)).symm
 refine ⟨by kernel_rfl,fun j t ht=>?_⟩
 rw [Tryz.params3] at ht
 have hm:t∈[9]:=by simpa using Array.mem_of_getElem? ht
 have hall:([9].all fun u=>!Tryz.prog.wantsStandIn u)=true:=by kernel_rfl
 exact (show Tryz.prog.wantsStandIn t=false by simpa using List.all_eq_true.1 hall t hm)
/-- THE STATEMENT -/
theorem proved:Rows.SyntaxReadsCardSaid :=
 Claim7.holds_tied_plain_at .later [] _ _ _ _ said (fun _ h=>by cases h) (by kernel_rfl) (fun _ h=>by cases h) syntaxReads_row_tie rfl ⟨rfl,rfl⟩ (by kernel_rfl) rfl plain (by kernel_rfl)
end Go.Proofs.YtppigckioalhhaaGreatDoorR.pSyntaxReads
