/- THE TEXTS MERGED: RtMay RtMayP. -/
import Derived.Test.YtohnmnfhmbmoaaaGreatDoorKF1
import Derived.Test.YtohnmnfhmbmoaaaGreatDoorKF35
import Derived.Test.YtohnmnfhmbmoaaaGreatDoorKF17
namespace Go.Proofs.YtohnmnfhmbmoaaaGreatDoor.Lx
set_option linter.unusedVariables false
set_option linter.unusedSimpArgs false
theorem take_run (p:Nat->Bool) (s:List Nat):s.take (run p s)=s.takeWhile p:=by
 unfold run
 induction s with
 | nil=>rfl
 | cons c r ih=>rw [List.takeWhile_cons];split <;> simp [ih]
theorem run_own (p:Nat->Bool) (s:List Nat):run p (s.takeWhile p)=(s.takeWhile p).length:=by
 induction s with
 | nil=>rfl
 | cons c r ih =>
  rw [List.takeWhile_cons]
  split
  ·rename_i h
   rw [run_cons,if_pos h,ih];rfl
  ·rfl
theorem wordB_run {p:Nat->Bool} {s:List Nat} (h0:s≠[]) (hp:p (s.headD 0)=true) (hg:goes (s.headD 0)=true) (hl:run goes s<=32):Va.wordB p (s.take (run goes s))=true:=by
 have h1:1<=run goes s:=run_pos h0 hg
 have hlen:(s.take (run goes s)).length=run goes s:=by rw [List.length_take];have:=run_le goes s;omega
 unfold Va.wordB
 simp only [Bool.and_eq_true,decide_eq_true_eq]
 refine ⟨fun e=>by rw [e] at hlen;simp at hlen;omega,by omega,?_,?_⟩
 ·cases s with
  | nil=>exact absurd rfl h0
  | cons c r =>
   obtain ⟨m,hm⟩:∃ m,run goes (c :: r)=m+1:=⟨run goes (c :: r) - 1,by omega⟩
   rw [hm]
   exact hp
 ·rw [take_run]
  exact run_own _ _
/-- a word: what its text, its value may be -/
structure TokM (t:Tok):Prop where
 var:t.kind=2->Va.variable_ t.text=true
 nam:t.kind=1->Va.wordB small t.text=true
 num:t.kind=3->t.vk=1/\t.num<=2147483647/\t.sym=[]
 quo:t.kind=4->t.vk=2/\t.num=0/\t.sym.length<=64
theorem next_m {x y:St} {t:Tok} (hb:∀ c∈x.s,c<256) (h:next x=(y,some t)):TokM t:=by
 unfold next at h
 split at h
 ·simp at h
 ·split at h
  ·simp at h
  ·split at h
   ·simp at h
   ·rename_i he
    split at h
    ·simp at h
    ·rename_i wd hw
     simp only [Prod.mk.injEq,Option.some.injEq] at h
     obtain ⟨-,rfl⟩:=h
     have hbs:∀ c∈x.skip.s,c<256:=fun c hc=>hb c (List.mem_of_mem_drop hc)
     generalize x.skip.s=s at he hw hbs ⊢
     unfold word at hw
     split at hw
     ·rename_i h1
      split at hw
      ·cases hw
      ·rename_i h2
       simp only [Rw.ok.injEq] at hw
       subst hw
       have hg:=goes_of_small h1
       refine ⟨fun hk=>?_,fun hk=>?_,fun hk=>?_,fun hk=>?_⟩
       ·simp only at hk
        split at hk
        ·rename_i hc
         exact wordB_run he hc hg (by omega)
        ·cases hk
       ·simp only at hk
        split at hk
        ·cases hk
        ·rename_i hc
         exact wordB_run he ((Bool.or_eq_true _ _ ▸ h1:small (s.headD 0)=true\/capital (s.headD 0)=true).resolve_right hc) hg (by omega)
       ·simp only at hk;split at hk <;> cases hk
       ·simp only at hk;split at hk <;> cases hk
     ·split at hw
      ·split at hw
       ·cases hw
       ·rename_i h2
        simp only [Rw.ok.injEq] at hw
        subst hw
        exact ⟨fun hk=>(by cases hk),fun hk=>(by cases hk),fun _=>⟨rfl,by simp only;omega,rfl⟩,fun hk=>(by cases hk)⟩
      ·split at hw
       ·split at hw
        ·cases hw
        ·rename_i l m hq
         simp only [Rw.ok.injEq] at hw
         subst hw
         exact ⟨fun hk=>(by cases hk),fun hk=>(by cases hk),fun hk=>(by cases hk),fun _=>⟨rfl,rfl,(quo_len hbs hq).2.2.2⟩⟩
       ·split at hw
        ·cases hw
        ·simp only [Rw.ok.injEq] at hw
         subst hw
         exact ⟨fun hk=>(by cases hk),fun hk=>(by cases hk),fun hk=>(by cases hk),fun hk=>(by cases hk)⟩
theorem all_m:∀ (k:Nat) (x:St),(∀ c∈x.s,c<256)->∀ t∈(allF k x).1,TokM t
 | 0,x,hb=>by simp [allF]
 | k+1,x,hb=>by
  rw [allF]
  cases hn:next x with
  | mk y o =>
   cases o with
   | none=>simp
   | some t =>
    obtain ⟨h1,h2,h3,h4,h5,h6,h7,h8,h9⟩:=next_ok hb hn
    intro u hu
    rcases List.mem_cons.1 hu with rfl | hu
    ·exact next_m hb hn
    ·exact all_m k y h7 u hu
end Go.Proofs.YtohnmnfhmbmoaaaGreatDoor.Lx
namespace Go.Proofs.YtohnmnfhmbmoaaaGreatDoor.Rt
open Lx (Tok Sq)
open Sy (sh Sh Env PR sign plain level txt must bodyF bodyOf litF aggOf expr exprF chainF constant operand fnOf cmpOf tyOf bareL ex0 at0 progF)
open Pr (Ex Li Atom Term Rul Rel Prog seqO commas pL pE pO pT pA pR pD pP pB binds strength)
open Cod (str)
set_option linter.unusedVariables false
set_option linter.unusedSimpArgs false
/-- the words of a text -/
structure WM (v:Env):Prop where
 m:∀ i,Lx.TokM (v.tk i)
 b:∀ i,∀ c∈(v.tk i).text,c<256
theorem wm_of (s:List Nat) (hb:∀ c∈s,c<256):WM (Sy.envOf s):=by
 have h1:=(Sy.env_toks s hb).1
 have h2:∀ t∈(Sy.envOf s).ws,Lx.TokM t:=Lx.all_m _ (Lx.start s) hb
 have key:∀ i,(Sy.envOf s).tk i=Sy.zT\/(Sy.envOf s).tk i∈(Sy.envOf s).ws:=by
  intro i
  unfold Env.tk
  rw [List.getD_eq_getElem?_getD]
  by_cases h:i<(Sy.envOf s).ws.length
  ·rw [List.getElem?_eq_getElem h];exact .inr (List.getElem_mem h)
  ·rw [List.getElem?_eq_none (by omega)];exact .inl rfl
 refine ⟨fun i=>?_,fun i=>?_⟩
 ·rcases key i with h | h
  ·rw [h];exact ⟨fun hk=>(by cases hk),fun hk=>(by cases hk),fun hk=>(by cases hk),fun hk=>(by cases hk)⟩
  ·exact h2 _ h
 ·rcases key i with h | h
  ·rw [h];simp [Sy.zT]
  ·exact (h1 _ h).byte
theorem WM.str {v:Env} (h:WM v) (i:Nat):str (txt (v.tk i).text)=(v.tk i).text:=Lx.str_ofS (h.b i)
theorem WM.name {v:Env} (h:WM v) {i:Nat} (hp:plain (v.tk i)=true):Va.name (v.tk i).text=true:=by
 unfold plain at hp
 simp only [Bool.and_eq_true,decide_eq_true_eq] at hp
 unfold Va.name
 rw [(h.m i).nam hp.1,Bool.and_true]
 exact hp.2
theorem constant_can {v:Env} (h:WM v) {i n:Nat} {c:Va.Val} (hc:constant v i=some (c,n)):Va.may c=true/\(c.k=1->0<c.n->(v.tk i).kind=3):=by
 unfold constant at hc
 split at hc
 ·rename_i hk
  simp only [Option.some.injEq,Prod.mk.injEq] at hc
  obtain ⟨rfl,-⟩:=hc
  rcases hk with hk | hk
  ·obtain ⟨h1,h2,h3⟩:=(h.m i).num hk
   refine ⟨?_,fun _ _=>hk⟩
   unfold Va.may
   simp only [h1,h3]
   simp
   omega
  ·obtain ⟨h1,h2,h3⟩:=(h.m i).quo hk
   refine ⟨?_,fun h0=>?_⟩
   ·unfold Va.may
    simp only [h1,h2]
    simp
    omega
   ·simp only [h1] at h0
    exact absurd h0 (by decide)
 ·split at hc
  ·rename_i hp
   simp only [Option.some.injEq,Prod.mk.injEq] at hc
   obtain ⟨rfl,-⟩:=hc
   refine ⟨?_,fun h0=>absurd (show (2:Int)=1 from h0) (by decide)⟩
   have:=h.name hp
   unfold Va.name Va.wordB at this
   simp only [Bool.and_eq_true,decide_eq_true_eq] at this
   unfold Va.may
   simp
   omega
  ·split at hc
   ·rename_i hs
    simp only [Option.some.injEq,Prod.mk.injEq] at hc
    obtain ⟨rfl,-⟩:=hc
    obtain ⟨h1,h2,h3⟩:=(h.m (i+1)).num hs.2
    refine ⟨?_,fun _ h0=>?_⟩
    ·unfold Va.may
     simp
     omega
    ·simp only at h0;omega
   ·cases hc
theorem pE_mono:∀ (k:Nat) (e:Ex) (s:List Nat),pE k e=some s->∀ m,k<=m->pE m e=some s:=by
 intro k
 induction k using Nat.strongRecOn with
 | ind k ih =>
 intro e s h m hm
 cases k with
 | zero=>unfold pE at h;cases h
 | succ k =>
 obtain ⟨m,rfl⟩:∃ q,m=q+1:=⟨m - 1,by omega⟩
 by_cases h1:e.k=1
 ·rw [Pr.pE_var _ _ h1] at h ⊢;exact h
 by_cases h2:e.k=2
 ·rw [Pr.pE_val _ _ h2] at h ⊢;exact h
 by_cases h4:e.k=4
 ·rw [Pr.pE_op _ _ h4] at h ⊢
  by_cases hc:e.v.size=0/\e.x=Va.zero/\0<strength e.op
  ·rw [if_pos hc] at h ⊢
   cases k with
   | zero=>unfold pO at h;cases h
   | succ j =>
    obtain ⟨q,rfl⟩:∃ q,m=q+1:=⟨m - 1,by omega⟩
    have br:∀ (c:Prop) [Decidable c] (a:Ex) (f:List Nat->List Nat) (s:List Nat),(if c then (pE j a).map f else pE (j+1) a)=some s->(if c then (pE q a).map f else pE (q+1) a)=some s:=by
     intro c _ a f s hx
     split at hx
     ·rename_i hc
      rw [if_pos hc]
      obtain ⟨t,ht,rfl⟩:=Option.map_eq_some_iff.1 hx
      rw [ih j (by omega) a t ht q (by omega)]
      rfl
     ·rename_i hc
      rw [if_neg hc]
      exact ih (j+1) (by omega) a s hx (q+1) (by omega)
    clear hc h1 h2 h4
    obtain ⟨ek,ev,ex,op,args⟩:=e
    rcases args with _ | ⟨a,_ | ⟨b,_ | ⟨c,r⟩⟩⟩
    ·rw [pO_nil] at h;cases h
    ·rw [pO_one] at h ⊢
     by_cases h6:op=6
     ·rw [if_pos h6] at h ⊢
      obtain ⟨t,ht,rfl⟩:=Option.map_eq_some_iff.1 h
      rw [br _ _ _ _ ht]
      rfl
     ·rw [if_neg h6] at h;cases h
    ·rw [pO_two] at h ⊢
     by_cases h6:op=6
     ·rw [if_pos h6] at h;cases h
     ·rw [if_neg h6] at h ⊢
      generalize hX:(if binds a<strength op then (pE j a).map (fun t=>40 :: (t++[41])) else pE (j+1) a)=X at h
      generalize hY:(if binds b<=strength op then (pE j b).map (fun t=>40 :: (t++[41])) else pE (j+1) b)=Y at h
      cases X with
      | none=>cases h
      | some x =>
       cases Y with
       | none=>cases h
       | some y =>
        rw [br _ _ _ _ hX,br _ _ _ _ hY]
        exact h
    ·rw [pO_more] at h;cases h
  ·rw [if_neg hc] at h;cases h
 ·rw [Pr.pE_other _ _ h1 h2 h4] at h;cases h
/-- it can be written, with that depth -/
def Can (k:Nat) (e:Ex):Prop:=∃ s,pE k e=some s
theorem Can.mono {k m:Nat} {e:Ex} (h:Can k e) (hm:k<=m):Can m e:=h.imp (fun s hs=>pE_mono k e s hs m hm)
theorem can_br {j:Nat} {a:Ex} {c:Prop} [Decidable c] {f:List Nat->List Nat} (h1:c->Can j a) (h2:Can (j+1) a):∃ s,(if c then (pE j a).map f else pE (j+1) a)=some s:=by
 by_cases hc:c
 ·obtain ⟨s,hs⟩:=h1 hc
  rw [if_pos hc,hs]
  exact ⟨_,rfl⟩
 ·rw [if_neg hc];exact h2
theorem can_un {j:Nat} {a:Ex} (h1:(binds a<3\/(a.k=2/\a.x.k=1/\0<a.x.n))->Can j a) (h2:Can (j+1) a):Can (j+2) (.mk 4 (txt []) Va.zero 6 [a]):=by
 unfold Can
 rw [Pr.pE_op _ _ rfl,if_pos ⟨rfl,rfl,show 0<strength 6 by decide⟩]
 obtain ⟨s,hs⟩:=can_br (f:=fun t=>40 :: (t++[41])) h1 h2
 rw [pO_one,if_pos rfl,hs]
 exact ⟨_,rfl⟩
theorem can_bin {j:Nat} {a b:Ex} {op:Int} (h0:0<strength op) (h6:op≠6) (h1:binds a<strength op->Can j a) (h2:Can (j+1) a) (h3:binds b<=strength op->Can j b) (h4:Can (j+1) b):Can (j+2) (.mk 4 (txt []) Va.zero op [a,b]):=by
 unfold Can
 rw [Pr.pE_op _ _ rfl,if_pos ⟨rfl,rfl,h0⟩]
 obtain ⟨s,hs⟩:=can_br (f:=fun t=>40 :: (t++[41])) h1 h2
 obtain ⟨t,ht⟩:=can_br (f:=fun t=>40 :: (t++[41])) h3 h4
 rw [pO_two,if_neg h6,hs,ht]
 exact ⟨_,rfl⟩
theorem can_var {v:ByteArray} (h:Va.variable_ (str v)=true):Can 1 (.mk 1 v Va.zero 0 []):=by
 unfold Can
 rw [Pr.pE_var _ _ rfl,if_pos ⟨h,rfl,rfl,rfl⟩]
 exact ⟨_,rfl⟩
theorem can_val {c:Va.Val} (h:Va.may c=true):Can 1 (.mk 2 (txt []) c 0 []):=by
 unfold Can
 rw [Pr.pE_val _ _ rfl,if_pos ⟨rfl,rfl,rfl,h⟩]
 exact ⟨_,rfl⟩
theorem level_st (t:Tok) (h:(level t).1≠0):strength ((level t).2:Nat)=(level t).1/\(((level t).2:Nat):Int)≠6:=by
 unfold level at h ⊢
 by_cases h1:sign t [43]=true
 ·rw [if_pos h1];exact ⟨by decide,by decide⟩
 by_cases h2:sign t [45]=true
 ·rw [if_neg h1,if_pos h2];exact ⟨by decide,by decide⟩
 by_cases h3:sign t [42]=true
 ·rw [if_neg h1,if_neg h2,if_pos h3];exact ⟨by decide,by decide⟩
 by_cases h4:sign t [47]=true
 ·rw [if_neg h1,if_neg h2,if_neg h3,if_pos h4];exact ⟨by decide,by decide⟩
 by_cases h5:sign t [109,111,100]=true
 ·rw [if_neg h1,if_neg h2,if_neg h3,if_neg h4,if_pos h5];exact ⟨by decide,by decide⟩
 rw [if_neg h1,if_neg h2,if_neg h3,if_neg h4,if_neg h5] at h
 exact absurd rfl h
structure J (line:Nat) (e:Ex) (d:Nat):Prop where
 can:Can (d+1) e
 brk:binds e<line->Can d e
theorem chain_can {v:Env} {line above:Nat} {sub:Nat->Nat->PR (Ex × Nat)} (h0:line≠0) (ha:above<=16)
  (hsub:∀ ab i r d j,ab<=16->sub ab i=.ok (r,d) j->J (line+1) r d/\ab+d<=16) :
  ∀ (k:Nat) (e:Ex) (d i:Nat) (r:Ex) (d' j:Nat),J line e d->above+d<=16->chainF v line sub above k e d i=.ok (r,d') j->J line r d'/\above+d'<=16:=by
 intro k
 induction k with
 | zero=>intro e d i r d' j _ _ h;unfold chainF at h;cases h
 | succ k ih =>
  intro e d i r d' j hj hd h
  rw [chainF] at h
  by_cases hl:(level (v.tk i)).1≠line
  ·rw [if_pos hl] at h
   simp only [PR.ok.injEq,Prod.mk.injEq] at h
   obtain ⟨⟨rfl,rfl⟩,-⟩:=h
   exact ⟨hj,hd⟩
  ·rw [if_neg hl] at h
   have hl:(level (v.tk i)).1=line:=by omega
   by_cases hx:16<above+d+1
   ·rw [if_pos hx] at h;cases h
   ·rw [if_neg hx] at h
    cases hs:sub (above+1) (i+1) with
    | err f=>rw [hs] at h;cases h
    | ok p q =>
     obtain ⟨r1,d1⟩:=p
     rw [hs] at h
     simp only [PR.bind_ok] at h
     obtain ⟨j1,j2⟩:=hsub _ _ _ _ _ (by omega) hs
     obtain ⟨s1,s2⟩:=level_st (v.tk i) (by omega)
     rw [hl] at s1
     have hnew:J line (.mk 4 (txt []) Va.zero ((level (v.tk i)).2:Nat) [e,r1]) (1+max d d1):=by
      refine ⟨?_,fun hb=>?_⟩
      ·have:=can_bin (j:=max d d1) (op:=((level (v.tk i)).2:Nat)) (a:=e) (b:=r1) (by omega) s2 (fun hb=>(hj.brk (by omega)).mono (by omega)) (hj.can.mono (by omega)) (fun hb=>(j1.brk (by omega)).mono (by omega)) (j1.can.mono (by omega))
       exact this.mono (by omega)
      ·exfalso
       have:binds (.mk 4 (txt []) Va.zero ((level (v.tk i)).2:Nat) [e,r1])=strength ((level (v.tk i)).2:Nat):=rfl
       omega
     exact ih _ _ _ _ _ _ hnew (by omega) h
theorem bad_operand {v:Env} {k above i:Nat} (h:operand (v.tk i)=false):∀ p j,exprF v k 3 above i≠.ok p j:=by
 intro p j hx
 cases k with
 | zero=>unfold exprF at hx;cases hx
 | succ k =>
  unfold operand at h
  simp only [Bool.or_eq_false_iff,decide_eq_false_iff_not] at h
  obtain ⟨h1,h2,h3,h4,h5,h6⟩:=h
  rw [exprF,if_pos rfl,if_neg h1] at hx
  have hc:constant v i=none:=by
   unfold constant
   rw [if_neg (by omega),if_neg (by simp [h4]),if_neg (by simp [h5])]
  rw [hc] at hx
  simp only at hx
  rw [if_neg (by simp [h5]),if_neg (by simp [h6])] at hx
  unfold must at hx
  rw [if_neg (by simp [h6])] at hx
  cases hx
theorem exprF_can {v:Env} (hw:WM v):∀ (k line above i:Nat) (e:Ex) (d j:Nat),1<=line->line<=3->above<=16->exprF v k line above i=.ok (e,d) j ->
  J line e d/\above+d<=16/\(line=3->d=0->e.k=2->e.x.k=1->0<e.x.n->(v.tk i).kind=3):=by
 intro k
 induction k with
 | zero=>intro line above i e d j _ _ _ h;unfold exprF at h;cases h
 | succ k ih =>
  intro line above i e d j hl1 hl3 ha h
  rw [exprF] at h
  by_cases h3:line=3
  ·subst h3
   rw [if_pos rfl] at h
   by_cases hv:(v.tk i).kind=2
   ·rw [if_pos hv] at h
    simp only [PR.ok.injEq,Prod.mk.injEq] at h
    obtain ⟨⟨rfl,rfl⟩,-⟩:=h
    refine ⟨⟨can_var (by rw [hw.str];exact (hw.m i).var hv),fun hb=>absurd (show 4<3 from hb) (by decide)⟩,by omega,fun _ _ h2=>absurd (show (1:Int)=2 from h2) (by decide)⟩
   ·rw [if_neg hv] at h
    cases hc:constant v i with
    | some p =>
     obtain ⟨c,n⟩:=p
     rw [hc] at h
     simp only [PR.ok.injEq,Prod.mk.injEq] at h
     obtain ⟨⟨rfl,rfl⟩,-⟩:=h
     obtain ⟨g1,g2⟩:=constant_can hw hc
     exact ⟨⟨can_val g1,fun hb=>absurd (show 4<3 from hb) (by decide)⟩,by omega,fun _ _ _ h1 h0=>g2 h1 h0⟩
    | none =>
     rw [hc] at h
     simp only at h
     by_cases hs:sign (v.tk i) [45]=true
     ·rw [if_pos hs] at h
      by_cases hx:16<=above/\operand (v.tk (i+1))=true
      ·rw [if_pos hx] at h;cases h
      ·rw [if_neg hx] at h
       cases hr:exprF v k 3 (above+1) (i+1) with
       | err f=>rw [hr] at h;cases h
       | ok p q =>
        obtain ⟨r1,d1⟩:=p
        rw [hr] at h
        simp only [PR.bind_ok,PR.ok.injEq,Prod.mk.injEq] at h
        obtain ⟨⟨rfl,rfl⟩,-⟩:=h
        have h16:above<16:=by
         apply Classical.byContradiction
         intro hn
         have:operand (v.tk (i+1))=false:=by
          cases ho:operand (v.tk (i+1)) with
          | true=>exact absurd ⟨by omega,ho⟩ hx
          | false=>rfl
         exact bad_operand this _ _ hr
        obtain ⟨j1,j2,j3⟩:=ih 3 (above+1) (i+1) r1 d1 q (by omega) (by omega) (by omega) hr
        have hn3:(v.tk (i+1)).kind≠3:=by
         intro h3
         unfold constant at hc
         split at hc
         ·cases hc
         ·split at hc
          ·cases hc
          ·rw [if_pos ⟨hs,h3⟩] at hc;cases hc
        refine ⟨⟨?_,fun hb=>absurd (show 3<3 from hb) (by decide)⟩,by omega,fun _ h0=>by omega⟩
        refine can_un (j:=d1) (fun hb=>?_) j1.can
        rcases hb with hb | ⟨b1,b2,b3⟩
        ·exact j1.brk hb
        ·by_cases hd:d1=0
         ·exact absurd (j3 rfl hd b1 b2 b3) hn3
         ·-- a value: depth 1 will do
          obtain ⟨s,hs⟩:=j1.can
          rw [Pr.pE_val _ _ b1] at hs
          obtain ⟨d2,rfl⟩:∃ q,d1=q+1:=⟨d1 - 1,by omega⟩
          exact ⟨s,by rw [Pr.pE_val _ _ b1];exact hs⟩
     ·rw [if_neg hs] at h
      by_cases hx:sign (v.tk i) [40]=true/\16<=above
      ·rw [if_pos hx] at h;cases h
      ·rw [if_neg hx] at h
       unfold must at h
       by_cases ho:sign (v.tk i) [40]=true
       ·rw [if_pos ho] at h
        simp only [PR.bind_ok] at h
        cases hr:exprF v k 1 (above+1) (i+1) with
        | err f=>rw [hr] at h;cases h
        | ok p q =>
         obtain ⟨r1,d1⟩:=p
         rw [hr] at h
         simp only [PR.bind_ok] at h
         by_cases hcl:sign (v.tk q) [41]=true
         ·rw [if_pos hcl] at h
          simp only [PR.bind_ok,PR.ok.injEq,Prod.mk.injEq] at h
          obtain ⟨⟨rfl,rfl⟩,-⟩:=h
          have h16:above<16:=by
           apply Classical.byContradiction
           intro hn
           exact hx ⟨ho,by omega⟩
          obtain ⟨j1,j2,j3⟩:=ih 1 (above+1) (i+1) r1 d1 q (by omega) (by omega) (by omega) hr
          exact ⟨⟨j1.can.mono (by omega),fun _=>j1.can⟩,by omega,fun _ h0=>by omega⟩
         ·rw [if_neg hcl] at h;cases h
       ·rw [if_neg ho] at h;cases h
  ·rw [if_neg h3] at h
   cases hr:exprF v k (line+1) above i with
   | err f=>rw [hr] at h;cases h
   | ok p q =>
    obtain ⟨r1,d1⟩:=p
    rw [hr] at h
    simp only [PR.bind_ok] at h
    obtain ⟨j1,j2,-⟩:=ih (line+1) above i r1 d1 q (by omega) (by omega) ha hr
    obtain ⟨k1,k2⟩:=chain_can (by omega) ha (fun ab i r d j hab hs=>by
     obtain ⟨x1,x2,-⟩:=ih (line+1) ab i r d j (by omega) (by omega) hab hs
     exact ⟨x1,x2⟩) _ _ _ _ _ _ _ ⟨j1.can,fun hb=>j1.brk (by omega)⟩ j2 h
    exact ⟨k1,k2,fun h=>absurd h h3⟩
theorem expr_can {v:Env} (hw:WM v) {i j:Nat} {e:Ex} (h:expr v i=.ok e j):Can 17 e:=by
 unfold expr at h
 cases hr:exprF v 60 1 0 i with
 | err f=>rw [hr] at h;cases h
 | ok p q =>
  obtain ⟨r1,d1⟩:=p
  rw [hr] at h
  simp only [PR.bind_ok,PR.ok.injEq] at h
  obtain ⟨rfl,-⟩:=h
  obtain ⟨j1,j2,-⟩:=exprF_can hw 60 1 0 i r1 d1 q (by omega) (by omega) (by omega) hr
  exact j1.can.mono (by omega)
open Sy (sh Sh Env PR sign plain level txt must bodyF bodyOf litF aggOf expr constant fnOf cmpOf tyOf bareL ex0 at0 progF)
open Pr (Ex Li Atom Term Rul Rel Prog seqO commas pL pE pT pA pR pD pP pB)
theorem term_can {v:Env} (hw:WM v) {i j:Nat} {t:Term} (h:Sy.term v i=.ok t j):∃ s,pT t=some s:=by
 unfold Sy.term at h
 by_cases hk:(v.tk i).kind=2
 ·rw [if_pos hk] at h
  simp only [PR.ok.injEq] at h
  obtain ⟨rfl,-⟩:=h
  unfold pT
  simp only
  rw [if_pos trivial,if_pos ⟨by rw [hw.str];exact (hw.m i).var hk,trivial⟩]
  exact ⟨_,rfl⟩
 ·rw [if_neg hk] at h
  by_cases hs:sign (v.tk i) [95]=true
  ·rw [if_pos hs] at h
   simp only [PR.ok.injEq] at h
   obtain ⟨rfl,-⟩:=h
   exact ⟨[95],rfl⟩
  ·rw [if_neg hs] at h
   unfold Sy.value at h
   cases hc:constant v i with
   | none=>rw [hc] at h;cases h
   | some p =>
    obtain ⟨c,n⟩:=p
    rw [hc] at h
    simp only [PR.bind_ok,PR.ok.injEq] at h
    obtain ⟨rfl,-⟩:=h
    have:=(constant_can hw hc).1
    exact ⟨Va.text c,by unfold pT;simp only;rw [if_neg (by decide),if_pos trivial,if_pos ⟨rfl,this⟩]⟩
theorem listF_can {α:Type} {v:Env} {fin:List Nat} {one:Nat->PR α} {P:α->Prop} (ho:∀ i a j,one i=.ok a j->P a):∀ (k:Nat) (acc:List α) (i:Nat) (l:List α) (j:Nat),(∀ a∈acc,P a)->Sy.listF v fin one k acc i=.ok l j->∀ a∈l,P a:=by
 intro k
 induction k with
 | zero=>intro acc i l j _ h;unfold Sy.listF at h;cases h
 | succ k ih =>
  intro acc i l j ha h
  rw [Sy.listF] at h
  by_cases hs:sign (v.tk i) [44]=true
  ·rw [if_pos hs] at h
   cases hr:one (i+1) with
   | err f=>rw [hr] at h;cases h
   | ok a q =>
    rw [hr] at h
    simp only [PR.bind_ok] at h
    refine ih _ _ _ _ (fun x hx=>?_) h
    rcases List.mem_append.1 hx with hx | hx
    ·exact ha x hx
    ·rw [Msq.1 hx];exact ho _ _ _ hr
  ·rw [if_neg hs] at h
   unfold must at h
   by_cases hf:sign (v.tk i) fin=true
   ·rw [if_pos hf] at h
    simp only [PR.bind_ok,PR.ok.injEq] at h
    obtain ⟨rfl,-⟩:=h
    exact ha
   ·rw [if_neg hf] at h;cases h
theorem list_can {α:Type} {v:Env} {fin:List Nat} {one:Nat->PR α} {P:α->Prop} (ho:∀ i a j,one i=.ok a j->P a) {i:Nat} {l:List α} {j:Nat} (h:Sy.list v fin one i=.ok l j):∀ a∈l,P a:=by
 unfold Sy.list at h
 by_cases hf:sign (v.tk i) fin=true
 ·rw [if_pos hf] at h
  simp only [PR.ok.injEq] at h
  obtain ⟨rfl,-⟩:=h
  simp
 ·rw [if_neg hf] at h
  cases hr:one i with
  | err f=>rw [hr] at h;cases h
  | ok a q =>
   rw [hr] at h
   simp only [PR.bind_ok] at h
   exact listF_can ho _ _ _ _ _ (fun x hx=>by rw [Msq.1 hx];exact ho _ _ _ hr) h
theorem seqO_can {α:Type} {f:α->Option (List Nat)} {l:List α} (h:∀ a∈l,∃ s,f a=some s):∃ ss,seqO (l.map f)=some ss:=by
 induction l with
 | nil=>exact ⟨[],rfl⟩
 | cons a r ih =>
  obtain ⟨s,hs⟩:=h a (by simp)
  obtain ⟨ss,hss⟩:=ih (fun x hx=>h x (by simp [hx]))
  exact ⟨s :: ss,by simp only [List.map_cons,seqO,hs,hss]⟩
theorem atom_can {v:Env} (hw:WM v) {i j:Nat} {a:Atom} (h:Sy.atom v i=.ok a j):∃ s,pA a=some s:=by
 unfold Sy.atom Sy.name at h
 by_cases hp:plain (v.tk i)=true
 ·rw [if_pos hp] at h
  simp only [PR.bind_ok] at h
  unfold must at h
  by_cases ho:sign (v.tk (i+1)) [40]=true
  ·rw [if_pos ho] at h
   simp only [PR.bind_ok] at h
   cases hl:Sy.list v [41] (Sy.term v) (i+1+1) with
   | err f=>rw [hl] at h;cases h
   | ok l q =>
    rw [hl] at h
    simp only [PR.bind_ok,PR.ok.injEq] at h
    obtain ⟨rfl,-⟩:=h
    obtain ⟨ss,hss⟩:=seqO_can (list_can (P:=fun t=>∃ s,pT t=some s) (fun i a j h=>term_can hw h) hl)
    unfold pA
    simp only
    rw [if_pos (by rw [hw.str];exact hw.name hp),hss]
    exact ⟨_,rfl⟩
  ·rw [if_neg ho] at h;cases h
 ·rw [if_neg hp] at h;cases h
theorem bodyF_can {v:Env} {one:Nat->PR Li} {P:Li->Prop} (ho:∀ i a j,one i=.ok a j->P a):∀ (k:Nat) (acc:List Li) (i:Nat) (l:List Li) (j:Nat),acc≠[]->(∀ a∈acc,P a)->bodyF v one k acc i=.ok l j->l≠[]/\∀ a∈l,P a:=by
 intro k
 induction k with
 | zero=>intro acc i l j _ _ h;unfold bodyF at h;cases h
 | succ k ih =>
  intro acc i l j h0 ha h
  rw [bodyF] at h
  by_cases hs:sign (v.tk i) [44]=true
  ·rw [if_pos hs] at h
   cases hr:one (i+1) with
   | err f=>rw [hr] at h;cases h
   | ok a q =>
    rw [hr] at h
    simp only [PR.bind_ok] at h
    refine ih _ _ _ _ (by simp) (fun x hx=>?_) h
    rcases List.mem_append.1 hx with hx | hx
    ·exact ha x hx
    ·rw [Msq.1 hx];exact ho _ _ _ hr
  ·rw [if_neg hs] at h
   simp only [PR.ok.injEq] at h
   obtain ⟨rfl,-⟩:=h
   exact ⟨h0,ha⟩
theorem bodyOf_can {v:Env} {one:Nat->PR Li} {P:Li->Prop} (ho:∀ i a j,one i=.ok a j->P a) {i:Nat} {l:List Li} {j:Nat} (h:bodyOf v one i=.ok l j):l≠[]/\∀ a∈l,P a:=by
 unfold bodyOf at h
 cases hr:one i with
 | err f=>rw [hr] at h;cases h
 | ok a q =>
  rw [hr] at h
  simp only [PR.bind_ok] at h
  exact bodyF_can ho _ _ _ _ _ (by simp) (fun x hx=>by rw [Msq.1 hx];exact ho _ _ _ hr) h
theorem pL_pos (b:Nat) (a:Atom) (ln cl:Int):pL b (.mk 1 a 0 ex0 ex0 0 (txt []) ex0 [] ln cl)=pA a:=by
 rw [pL.eq_def]
 simp only
 rw [if_pos (show Pr.lacks 1 a 0 ex0 ex0 0 (txt []) ex0 ([]:List Li).length=true from rfl),if_pos trivial]
theorem pL_not (b:Nat) (a:Atom) (ln cl:Int):pL b (.mk 2 a 0 ex0 ex0 0 (txt []) ex0 [] ln cl)=(pA a).map (fun t=>[110,111,116,32]++t):=by
 rw [pL.eq_def]
 simp only
 rw [if_pos (show Pr.lacks 2 a 0 ex0 ex0 0 (txt []) ex0 ([]:List Li).length=true from rfl),if_neg (by decide),if_pos trivial]
theorem pL_cmp (b:Nat) {op:Int} {l r:Ex} (ln cl:Int) (h1:1<=op) (h6:op<=6) {s t:List Nat} (hs:pE 17 l=some s) (ht:pE 17 r=some t):∃ u,pL b (.mk 3 at0 op l r 0 (txt []) ex0 [] ln cl)=some u:=by
 rw [pL.eq_def]
 simp only
 rw [if_pos (show Pr.lacks 3 at0 op l r 0 (txt []) ex0 ([]:List Li).length=true from rfl),if_neg (by decide),if_neg (by decide),if_pos trivial,if_pos ⟨h1,h6⟩,hs,ht]
 exact ⟨_,rfl⟩
theorem pL_agg (c:Nat) {fn:Int} {av:ByteArray} {of:Ex} {body:List Li} (ln cl:Int) (h1:1<=fn) (h4:fn<=4) (h0:body≠[]) (hv:Va.variable_ (str av)=true) (ho:(fn=1/\of=ex0)\/(fn≠1/\Can 17 of)) (hb:∀ x∈body,∃ s,pL c x=some s):∃ u,pL (c+1) (.mk 4 at0 0 ex0 ex0 fn av of body ln cl)=some u:=by
 rw [pL.eq_def]
 simp only
 obtain ⟨ss,hss⟩:=seqO_can hb
 have hlen:body.length≠0:=fun e=>h0 (List.eq_nil_of_length_eq_zero e)
 rw [if_pos (show Pr.lacks 4 at0 0 ex0 ex0 fn av of body.length=true from rfl),if_neg (by decide),if_neg (by decide),if_neg (by decide),if_pos trivial,if_pos ⟨h1,h4,hlen,hv⟩,hss]
 rcases ho with ⟨h,rfl⟩ | ⟨h,s,hs⟩
 ·rw [if_pos h,if_pos (show Pr.noExpr ex0=true from rfl)]
  exact ⟨_,rfl⟩
 ·rw [if_neg h,hs]
  exact ⟨_,rfl⟩
theorem place_le (t:Tok):∀ (l:List (List Nat)) (k:Nat),Sy.placeF t l k<=k+l.length
 | [],k=>by simp [Sy.placeF]
 | s :: r,k=>by
  rw [Sy.placeF]
  have:=place_le t r (k+1)
  split <;> simp only [List.length_cons] <;> omega
theorem litF_can {v:Env} (hw:WM v):∀ (k br i:Nat) (l:Li) (j:Nat),br<=16->litF v k br i=.ok l j->∃ s,pL (16 - br) l=some s:=by
 intro k
 induction k with
 | zero=>intro br i l j _ h;unfold litF at h;cases h
 | succ k ih =>
  intro br i l j hbr h
  rw [litF] at h
  by_cases h1:sign (v.tk i) [110,111,116]=true
  ·rw [if_pos h1] at h
   cases ha:Sy.atom v (i+1) with
   | err f=>rw [ha] at h;cases h
   | ok a q =>
    rw [ha] at h
    simp only [PR.bind_ok,PR.ok.injEq] at h
    obtain ⟨rfl,-⟩:=h
    obtain ⟨s,hs⟩:=atom_can hw ha
    exact ⟨_,by rw [pL_not,hs];rfl⟩
  ·rw [if_neg h1] at h
   by_cases h2:plain (v.tk i)=true/\sign (v.tk (i+1)) [40]=true
   ·rw [if_pos h2] at h
    cases ha:Sy.atom v i with
    | err f=>rw [ha] at h;cases h
    | ok a q =>
     rw [ha] at h
     simp only [PR.bind_ok,PR.ok.injEq] at h
     obtain ⟨rfl,-⟩:=h
     obtain ⟨s,hs⟩:=atom_can hw ha
     exact ⟨s,by rw [pL_pos,hs]⟩
   ·rw [if_neg h2] at h
    by_cases h3:(v.tk i).kind=2/\sign (v.tk (i+1)) [61]=true/\0<fnOf (v.tk (i+2))
    ·rw [if_pos h3] at h
     have hfn:fnOf (v.tk (i+2))<=4:=place_le _ _ 0
     have hf0:=h3.2.2
     have hvar:Va.variable_ (str (txt (v.tk i).text))=true:=by rw [hw.str];exact (hw.m i).var h3.1
     cases hg:aggOf v (litF v k (br+1)) br i with
     | err f=>rw [hg] at h;cases h
     | ok g q =>
      rw [hg] at h
      simp only [PR.bind_ok,PR.ok.injEq] at h
      obtain ⟨rfl,-⟩:=h
      unfold aggOf at hg
      by_cases hx:sign (v.tk (i+3)) [123]=true/\16<=br
      ·rw [if_pos hx] at hg;cases hg
      ·rw [if_neg hx] at hg
       by_cases ho:sign (v.tk (i+3)) [123]=true
       ·have hlt:br<16:=by
         apply Classical.byContradiction
         intro hn
         exact hx ⟨ho,by omega⟩
        rw [show must v [123] (i+3)=.ok () (i+3+1) from if_pos ho] at hg
        simp only [PR.bind_ok] at hg
        have tail:∀ (o:Ex) (q0:Nat),((fnOf (v.tk (i+2))=1/\o=ex0)\/(fnOf (v.tk (i+2))≠1/\Can 17 o)) ->
          ((bodyOf v (litF v k (br+1)) q0).bind fun b j=>(must v [125] j).bind fun _ j=>.ok (⟨(fnOf (v.tk (i+2)):Nat),txt (v.tk i).text,o,b⟩:Sy.Ag) j)=.ok g q ->
          ∃ s,pL (16 - br) (.mk 4 at0 0 ex0 ex0 g.fn g.av g.of g.body (v.tk i).line (v.tk i).col)=some s:=by
         intro o q0 hO hB
         cases hb:bodyOf v (litF v k (br+1)) q0 with
         | err f=>rw [hb] at hB;cases hB
         | ok b q1 =>
          rw [hb] at hB
          simp only [PR.bind_ok] at hB
          by_cases hc:sign (v.tk q1) [125]=true
          ·rw [show must v [125] q1=.ok () (q1+1) from if_pos hc] at hB
           simp only [PR.bind_ok,PR.ok.injEq] at hB
           obtain ⟨rfl,-⟩:=hB
           obtain ⟨b0,bP⟩:=bodyOf_can (P:=fun x=>∃ s,pL (16 - (br+1)) x=some s) (fun i a j h=>ih (br+1) i a j (by omega) h) hb
           obtain ⟨c,hc⟩:∃ c,16 - br=c+1:=⟨15 - br,by omega⟩
           rw [hc]
           rw [show 16 - (br+1)=c by omega] at bP
           refine pL_agg c _ _ (by simp only;omega) (by simp only;omega) b0 hvar ?_ bP
           rcases hO with ⟨e1,e2⟩ | ⟨e1,e2⟩
           ·exact .inl ⟨by simp only;omega,e2⟩
           ·exact .inr ⟨by simp only;omega,e2⟩
          ·rw [show must v [125] q1=.err (v.give 40 q1) from if_neg hc] at hB;cases hB
        by_cases hf:fnOf (v.tk (i+2))≠1
        ·rw [if_pos hf] at hg
         cases he:expr v (i+3+1) with
         | err f=>rw [he] at hg;cases hg
         | ok e q1 =>
          rw [he] at hg
          simp only [PR.bind_ok] at hg
          by_cases hc:sign (v.tk q1) [58]=true
          ·rw [show must v [58] q1=.ok () (q1+1) from if_pos hc] at hg
           simp only [PR.bind_ok] at hg
           exact tail e (q1+1) (.inr ⟨hf,expr_can hw he⟩) hg
          ·rw [show must v [58] q1=.err (v.give 40 q1) from if_neg hc] at hg;cases hg
        ·rw [if_neg hf] at hg
         simp only [PR.bind_ok] at hg
         exact tail ex0 (i+3+1) (.inl ⟨by omega,rfl⟩) hg
       ·rw [show must v [123] (i+3)=.err (v.give 40 (i+3)) from if_neg ho] at hg;cases hg
    ·rw [if_neg h3] at h
     cases hl:expr v i with
     | err f=>rw [hl] at h;cases h
     | ok l1 q =>
      rw [hl] at h
      simp only [PR.bind_ok] at h
      by_cases hc:cmpOf (v.tk q)=0
      ·rw [if_pos hc] at h;cases h
      ·rw [if_neg hc] at h
       cases hr:expr v (q+1) with
       | err f=>rw [hr] at h;cases h
       | ok r1 q2 =>
        rw [hr] at h
        simp only [PR.bind_ok,PR.ok.injEq] at h
        obtain ⟨rfl,-⟩:=h
        have hcm:cmpOf (v.tk q)<=6:=place_le _ _ 0
        obtain ⟨s,hs⟩:=expr_can hw hl
        obtain ⟨t,ht⟩:=expr_can hw hr
        exact pL_cmp _ _ _ (by omega) (by omega) hs ht
theorem rule_can {v:Env} (hw:WM v) {i j:Nat} {r:Rul} (h:Sy.rule v i=.ok r j):∃ s,pR r=some s:=by
 unfold Sy.rule at h
 cases ha:Sy.atom v i with
 | err f=>rw [ha] at h;cases h
 | ok a q =>
  rw [ha] at h
  simp only [PR.bind_ok] at h
  obtain ⟨s,hs⟩:=atom_can hw ha
  by_cases hm:sign (v.tk q) [58,45]=true
  ·rw [if_pos hm] at h
   unfold Sy.body at h
   cases hb:bodyOf v (fun i=>Sy.lit v 0 i) (q+1) with
   | err f =>
    have hb':bodyOf v (Sy.lit v 0) (q+1)=.err f:=hb
    rw [hb'] at h;cases h
   | ok b q1 =>
    have hb':bodyOf v (Sy.lit v 0) (q+1)=.ok b q1:=hb
    rw [hb'] at h
    simp only [PR.bind_ok,PR.ok.injEq] at h
    obtain ⟨rfl,-⟩:=h
    obtain ⟨b0,bP⟩:=bodyOf_can (P:=fun x=>∃ s,pL 16 x=some s) (fun i a j h=>litF_can hw 18 0 i a j (by omega) h) hb
    obtain ⟨ss,hss⟩:=seqO_can bP
    unfold pR pB
    simp only
    rw [hs]
    simp only
    rw [if_neg (fun e=>b0 (List.eq_nil_of_length_eq_zero e)),hss]
    exact ⟨_,rfl⟩
  ·rw [if_neg hm] at h
   simp only [PR.bind_ok,PR.ok.injEq] at h
   obtain ⟨rfl,-⟩:=h
   unfold pR
   simp only
   rw [hs]
   exact ⟨s,rfl⟩
theorem ty_can {v:Env} {i j:Nat} {t:Int} (h:Sy.ty v i=.ok t j):∃ s,Pr.pTy t=some s:=by
 unfold Sy.ty at h
 by_cases h0:tyOf (v.tk i)=0
 ·rw [if_pos h0] at h;cases h
 ·rw [if_neg h0] at h
  simp only [PR.ok.injEq] at h
  obtain ⟨rfl,-⟩:=h
  have h2:tyOf (v.tk i)<=2:=place_le _ _ 0
  have:tyOf (v.tk i)=1\/tyOf (v.tk i)=2:=by omega
  rcases this with e | e <;> rw [e] <;> exact ⟨_,rfl⟩
theorem rel_can {v:Env} (hw:WM v) {i j:Nat} {x:Rel} (h:Sy.relation v i=.ok x j):∃ s,pD x=some s:=by
 unfold Sy.relation Sy.name at h
 by_cases hp:plain (v.tk i)=true
 ·rw [if_pos hp] at h
  simp only [PR.bind_ok] at h
  unfold must at h
  by_cases ho:sign (v.tk (i+1)) [40]=true
  ·rw [if_pos ho] at h
   simp only [PR.bind_ok] at h
   cases hl:Sy.list v [41] (Sy.ty v) (i+1+1) with
   | err f=>rw [hl] at h;cases h
   | ok l q =>
    rw [hl] at h
    simp only [PR.bind_ok,PR.ok.injEq] at h
    obtain ⟨rfl,-⟩:=h
    obtain ⟨ss,hss⟩:=seqO_can (list_can (P:=fun t=>∃ s,Pr.pTy t=some s) (fun i a j h=>ty_can h) hl)
    unfold pD
    simp only
    rw [if_pos (by rw [hw.str];exact hw.name hp),hss]
    exact ⟨_,rfl⟩
  ·rw [if_neg ho] at h;cases h
 ·rw [if_neg hp] at h;cases h
/-- each relation, each rule can be written -/
structure PgC (p:Prog):Prop where
 rel:∀ x∈p.rels,∃ s,pD x=some s
 rul:∀ x∈p.rules,∃ s,pR x=some s
theorem progF_can {v:Env} (hw:WM v):∀ (k:Nat) (p:Prog) (i:Nat) (q:Prog) (j:Nat),PgC p->progF v k p i=.ok q j->PgC q:=by
 intro k
 induction k with
 | zero=>intro p i q j _ h;unfold progF at h;cases h
 | succ k ih =>
  intro p i q j hp h
  rw [progF] at h
  by_cases hi:i<v.ws.length
  ·rw [if_pos hi] at h
   by_cases hs:sign (v.tk i) [114,101,108,97,116,105,111,110]=true
   ·rw [if_pos hs] at h
    cases hr:Sy.relation v (i+1) with
    | err f=>rw [hr] at h;cases h
    | ok x q1 =>
     rw [hr] at h
     simp only [PR.bind_ok] at h
     by_cases hd:sign (v.tk q1) [46]=true
     ·rw [show must v [46] q1=.ok () (q1+1) from if_pos hd] at h
      simp only [PR.bind_ok] at h
      refine ih ⟨p.rels++[x],p.rules⟩ _ _ _ ⟨fun y hy=>?_,hp.rul⟩ h
      rcases List.mem_append.1 hy with hy | hy
      ·exact hp.rel y hy
      ·rw [Msq.1 hy];exact rel_can hw hr
     ·rw [show must v [46] q1=.err (v.give 40 q1) from if_neg hd] at h;cases h
   ·rw [if_neg hs] at h
    cases hr:Sy.rule v i with
    | err f=>rw [hr] at h;cases h
    | ok x q1 =>
     rw [hr] at h
     simp only [PR.bind_ok] at h
     by_cases hd:sign (v.tk q1) [46]=true
     ·rw [show must v [46] q1=.ok () (q1+1) from if_pos hd] at h
      simp only [PR.bind_ok] at h
      refine ih ⟨p.rels,p.rules++[x]⟩ _ _ _ ⟨hp.rel,fun y hy=>?_⟩ h
      rcases List.mem_append.1 hy with hy | hy
      ·exact hp.rul y hy
      ·rw [Msq.1 hy];exact rule_can hw hr
     ·rw [show must v [46] q1=.err (v.give 40 q1) from if_neg hd] at h;cases h
  ·rw [if_neg hi] at h
   simp only [PR.ok.injEq] at h
   obtain ⟨rfl,-⟩:=h
   exact hp
/-- what is read of a text can be written -/
theorem prog_can {s:List Nat} (hb:∀ c∈s,c<256) {q:Prog} {j:Nat} (h:Sy.whole (Sy.envOf s) (Sy.prog (Sy.envOf s))=.ok q j):∃ t,pP q=some t:=by
 unfold Sy.whole Sy.prog at h
 cases hr:progF (Sy.envOf s) ((Sy.envOf s).ws.length+1) ⟨[],[]⟩ 0 with
 | err f=>rw [hr] at h;cases h
 | ok p i =>
  rw [hr] at h
  simp only [PR.bind_ok] at h
  split at h
  ·cases h
  ·simp only [PR.ok.injEq] at h
   obtain ⟨rfl,-⟩:=h
   have:=progF_can (wm_of s hb) _ _ _ _ _ ⟨by simp,by simp⟩ hr
   obtain ⟨a,ha⟩:=seqO_can this.rel
   obtain ⟨b,hb⟩:=seqO_can this.rul
   unfold pP
   rw [ha,hb]
   exact ⟨_,rfl⟩
end Go.Proofs.YtohnmnfhmbmoaaaGreatDoor.Rt
