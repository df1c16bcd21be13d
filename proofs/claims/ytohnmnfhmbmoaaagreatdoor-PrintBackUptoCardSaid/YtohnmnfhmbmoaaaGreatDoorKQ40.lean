/- THE TEXTS MERGED: RtAtom RtLit. -/
import Derived.Test.YtohnmnfhmbmoaaaGreatDoorKQ1
import Derived.Test.YtohnmnfhmbmoaaaGreatDoorKQ39
import Derived.Test.YtohnmnfhmbmoaaaGreatDoorKQ27
namespace Go.Proofs.YtohnmnfhmbmoaaaGreatDoor.Rt
open Lx (Tok Sq)
open Sy (sh Sh Env PR constant sign plain level txt term list listF must)
open Pr (Ex Term Atom seqO commas)
open Cod (str)
set_option linter.unusedVariables false
set_option linter.unusedSimpArgs false
/-- a thing, its text, its words: read as such where what follows is no operation; R: what may differ -/
structure It {α:Type} (R:α->α->Prop) (one:Env->Nat->PR α) (a:α) (s:List Nat) (ts:List Tok):Prop where
 ne:s≠[]
 txt:Tx brk s ts
 read:∀ (v:Env) (i:Nat),At v i ts->(level (v.tk (i+ts.length))).1=0->∃ a',one v i=.ok a' (i+ts.length)/\R a' a
inductive Al3 {α:Type} (Q:α->List Nat->List Tok->Prop):List α->List (List Nat)->List (List Tok)->Prop
 | nil:Al3 Q [] [] []
 | cons {a:α} {s:List Nat} {ts:List Tok} {xs:List α} {ss:List (List Nat)} {tss:List (List Tok)} (h:Q a s ts) (t:Al3 Q xs ss tss):Al3 Q (a :: xs) (s :: ss) (ts :: tss)
theorem Al3.mono {α:Type} {Q Q':α->List Nat->List Tok->Prop} {xs:List α} {ss:List (List Nat)} {tss:List (List Tok)} (h:Al3 Q xs ss tss) (hq:∀ a s ts,Q a s ts->Q' a s ts):Al3 Q' xs ss tss:=by
 induction h with
 | nil=>exact .nil
 | cons h t ih=>exact .cons (hq _ _ _ h) ih
theorem Al3.mem {α:Type} {Q:α->List Nat->List Tok->Prop} {xs:List α} {ss:List (List Nat)} {tss:List (List Tok)} (h:Al3 Q xs ss tss) {C:List Tok->Prop} (hc:∀ a s ts,Q a s ts->C ts):∀ ts∈tss,C ts:=by
 induction h with
 | nil=>simp
 | cons h t ih =>
  intro x hx
  rcases List.mem_cons.1 hx with rfl | hx
  ·exact hc _ _ _ h
  ·exact ih x hx
theorem Al3.len {α:Type} {Q:α->List Nat->List Tok->Prop} {xs:List α} {ss:List (List Nat)} {tss:List (List Tok)} (h:Al3 Q xs ss tss):ss.length=xs.length/\tss.length=xs.length:=by
 induction h with
 | nil=>exact ⟨rfl,rfl⟩
 | cons h t ih=>simp [ih.1,ih.2]
abbrev Its {α:Type} (R:α->α->Prop) (one:Env->Nat->PR α):List α->List (List Nat)->List (List Tok)->Prop:=Al3 (It R one)
/-- words with commas between -/
def sep:List (List Tok)->List Tok
 | []=>[]
 | [a]=>a
 | a :: r=>a++(tM [44] :: sep r)
theorem sep_cons (a b:List Tok) (r:List (List Tok)):sep (a :: b :: r)=a++(tM [44] :: sep (b :: r)):=rfl
theorem commas_cons (a b:List Nat) (r:List (List Nat)):commas (a :: b :: r)=a++(44 :: (32 :: commas (b :: r))):=by
 unfold commas
 simp [List.intercalate]
theorem commas_one (a:List Nat):commas [a]=a:=by unfold commas;simp [List.intercalate]
theorem commas_nil:commas []=[]:=by unfold commas;simp [List.intercalate]
theorem tx_comma (P:Nat->Bool):Tx P [44] [tM [44]]:=tx_mark P (by decide) (fun d _=>by simp [Lx.two]) (by decide)
theorem tx_dot (P:Nat->Bool):Tx P [46] [tM [46]]:=tx_mark P (by decide) (fun d _=>by simp [Lx.two]) (by decide)
theorem al3_txt {α:Type} {Q:α->List Nat->List Tok->Prop} (hq:∀ a s ts,Q a s ts->s≠[]/\Tx brk s ts) {xs:List α} {ss:List (List Nat)} {tss:List (List Tok)} (h:Al3 Q xs ss tss):ss≠[]->Tx brk (commas ss) (sep tss)/\commas ss≠[]/\sep tss≠[]:=by
 induction h with
 | nil=>exact fun h=>absurd rfl h
 | @cons a s ts xs ss tss h t ih =>
  intro _
  cases t with
  | nil =>
   rw [commas_one]
   obtain ⟨k1,k2⟩:=hq _ _ _ h
   exact ⟨k2,k1,k2.ne k1 rfl⟩
  | @cons a2 s2 ts2 as2 ss2 tss2 h2 t2 =>
   obtain ⟨i1,i2,i3⟩:=ih (by simp)
   rw [commas_cons,sep_cons]
   exact ⟨Tx.app (hq _ _ _ h).2 (Tx.app (a:=[44]) (ts:=[tM [44]]) (tx_comma any) (i1.bl rfl i3) (by simp) rfl) (by simp) (show brk 44=true by decide),by simp,by simp⟩
theorem level_M {v:Env} {i:Nat} {s:List Nat} (h:sh (v.tk i)=sh (tM s)) (hs:(level (tM s)).1=0):(level (v.tk i)).1=0:=by rw [level_is h];exact hs
theorem sign_M {v:Env} {i:Nat} {s:List Nat} (h:sh (v.tk i)=sh (tM s)) (l:List Nat):sign (v.tk i) l=decide (s=l):=by
 rw [sign_is h];unfold sign tM;simp
section
variable {α:Type} {R:α->α->Prop} {one:Env->Nat->PR α}
theorem listF_read {fin:List Nat} (hf:fin≠[44]) (hl:(level (tM fin)).1=0) {xs:List α} {ss:List (List Nat)} {tss:List (List Tok)} (h:Its R one xs ss tss):∀ (v:Env) (i k:Nat) (acc acc0:List α),Sy.All2 R acc acc0->At v i (tss.flatMap (fun t=>tM [44] :: t)++[tM fin])->tss.length<k ->
   ∃ l,listF v fin (one v) k acc i=.ok l (i+(tss.flatMap (fun t=>tM [44] :: t)++[tM fin]).length)/\Sy.All2 R l (acc0++xs):=by
 induction h with
 | nil =>
  intro v i k acc acc0 hacc ha hk
  obtain ⟨k,rfl⟩:∃ m,k=m+1:=⟨k - 1,by omega⟩
  have e0:sh (v.tk i)=sh (tM fin):=ha.head
  refine ⟨acc,?_,by rw [List.append_nil];exact hacc⟩
  rw [listF,sign_M e0,if_neg (by simpa using hf),must_ok e0]
  rfl
 | @cons a s ts xs ss tss h t ih =>
  intro v i k acc acc0 hacc ha hk
  obtain ⟨k,rfl⟩:∃ m,k=m+1:=⟨k - 1,by simp at hk;omega⟩
  rw [List.flatMap_cons,List.append_assoc] at ha
  have e0:sh (v.tk i)=sh (tM [44]):=ha.head
  have a1:At v (i+1) (ts++(tss.flatMap (fun t=>tM [44] :: t)++[tM fin])):=ha.tail
  have a2:=a1.right
  have hlv:(level (v.tk (i+1+ts.length))).1=0:=by
   cases tss with
   | nil=>exact level_M a2.head hl
   | cons x y=>exact level_M (s:=[44]) a2.head (by decide)
  obtain ⟨a',h1,h2⟩:=h.read v (i+1) a1.left hlv
  have hacc2:Sy.All2 R (acc++[a']) (acc0++[a]):=all2_snoc hacc h2
  obtain ⟨l,h3,h4⟩:=ih v (i+1+ts.length) k _ _ hacc2 a2 (by simp at hk;omega)
  refine ⟨l,?_,by simpa using h4⟩
  rw [listF,sign_M e0,if_pos (by decide),h1]
  simp only [PR.bind_ok]
  rw [h3]
  congr 1
  simp only [List.flatMap_cons,List.append_assoc,List.length_append,List.length_cons,List.length_nil,List.cons_append]
  omega
where
 all2_snoc {acc acc0:List α} {a' a:α} (h:Sy.All2 R acc acc0) (h2:R a' a):Sy.All2 R (acc++[a']) (acc0++[a]):=by
  induction h with
  | nil=>exact .cons h2 .nil
  | cons h t ih=>exact .cons h ih
theorem sep_flat:∀ (a:List Tok) (r:List (List Tok)),sep (a :: r)=a++r.flatMap (fun t=>tM [44] :: t)
 | a,[]=>by simp [sep]
 | a,b :: r=>by rw [sep_cons,sep_flat b r,List.flatMap_cons];simp
theorem sep_len (r:List (List Tok)):r.length<=(r.flatMap (fun t=>tM [44] :: t)).length:=by
 induction r with
 | nil=>simp
 | cons a r ih=>simp only [List.flatMap_cons,List.length_append,List.length_cons];omega
/-- a list in brackets -/
theorem list_read {fin:List Nat} (hf:fin≠[44]) (hl:(level (tM fin)).1=0) {xs:List α} {ss:List (List Nat)} {tss:List (List Tok)} (h:Its R one xs ss tss) (h0:∀ ts∈tss,∃ t l,ts=t :: l/\sign t fin=false) (v:Env) (i:Nat) (ha:At v i (sep tss++[tM fin])) :
  ∃ l,list v fin (one v) i=.ok l (i+(sep tss++[tM fin]).length)/\Sy.All2 R l xs:=by
 cases h with
 | nil =>
  have e0:sh (v.tk i)=sh (tM fin):=ha.head
  refine ⟨[],?_,.nil⟩
  unfold list
  rw [sign_M e0,if_pos (by simp)]
  rfl
 | @cons a s ts xs ss tss h t =>
  obtain ⟨t0,l0,hts,hsg⟩:=h0 ts (by simp)
  have hf0:=ha.fit
  rw [sep_flat,List.append_assoc] at ha
  have e0:sh (v.tk i)=sh t0:=by rw [hts] at ha;exact ha.head
  have a2:=ha.right
  have hlv:(level (v.tk (i+ts.length))).1=0:=by
   cases tss with
   | nil=>exact level_M a2.head hl
   | cons x y=>exact level_M (s:=[44]) a2.head (by decide)
  obtain ⟨a',h1,h2⟩:=h.read v i ha.left hlv
  have hk:=sep_len tss
  have hf2:=a2.fit
  rw [List.length_append] at hf2
  obtain ⟨l,h3,h4⟩:=listF_read hf hl t v (i+ts.length) (v.ws.length+1) [a'] [a] (.cons h2 .nil) a2 (by omega)
  refine ⟨l,?_,h4⟩
  unfold list
  rw [sign_is e0,hsg,if_neg (by decide),h1]
  simp only [PR.bind_ok]
  rw [h3,sep_flat,List.append_assoc,@List.length_append _ ts]
  congr 1
  omega
end
theorem seqO_some {α:Type} {o:Option α} {r:List (Option α)} {ss:List α} (h:seqO (o :: r)=some ss):∃ s l,o=some s/\seqO r=some l/\ss=s :: l:=by
 cases o with
 | none=>simp [seqO] at h
 | some s =>
  cases hr:seqO r with
  | none=>simp [seqO,hr] at h
  | some l =>
   simp [seqO,hr] at h
   exact ⟨s,l,rfl,rfl,h.symm⟩
/-- out of the texts of all -/
theorem seqO_all {α:Type} {Q:α->List Nat->List Tok->Prop} {f:α->Option (List Nat)}:∀ (xs:List α) (ss:List (List Nat)),(∀ a∈xs,∀ s,f a=some s->∃ ts,Q a s ts)->seqO (xs.map f)=some ss->∃ tss,Al3 Q xs ss tss
 | [],ss,_,h=>by
  simp [seqO] at h
  subst h
  exact ⟨[],.nil⟩
 | a :: r,ss,hf,h=>by
  obtain ⟨s,l,h1,h2,rfl⟩:=seqO_some h
  obtain ⟨ts,h3⟩:=hf a (by simp) s h1
  obtain ⟨tss,h4⟩:=seqO_all r l (fun a ha=>hf a (by simp [ha])) h2
  exact ⟨ts :: tss,.cons h3 h4⟩
theorem all2_eq {α:Type} {l m:List α} (h:Sy.All2 Eq l m):l=m:=by
 induction h with
 | nil=>rfl
 | cons h t ih=>rw [h,ih]
/-- what opens a list: no close -/
def Opn (fin:List Nat) (ts:List Tok):Prop:=∃ t l,ts=t :: l/\sign t fin=false
theorem first_sign {t:Tok} (h:First t) {s:List Nat} (hs:s≠[45]/\s≠[40]/\Va.name s=false) (hk:t.kind≠2):sign t s=false\/t.kind=2:=by
 left
 rcases h with h | h | h | ⟨n,h,rfl⟩ | rfl | rfl
 ·exact absurd h hk
 ·unfold sign;rw [h];simp
 ·unfold sign;rw [h];simp
 ·unfold sign tN
  by_cases e:n=s
  ·subst e;rw [h] at hs;simp at hs
  ·simp [e]
 ·unfold sign tM;simp [Ne.symm hs.1]
 ·unfold sign tM;simp [Ne.symm hs.2.1]
theorem var_sign {t:Tok} (h:t.kind=2) (s:List Nat):sign t s=false:=by unfold sign;rw [h];simp
theorem fst_sign {t:Tok} (h:First t) {s:List Nat} (hs:s≠[45]/\s≠[40]/\Va.name s=false):sign t s=false:=by
 by_cases hk:t.kind=2
 ·exact var_sign hk s
 ·rcases first_sign h hs hk with h | h
  ·exact h
  ·exact absurd h hk
theorem term_it {t:Term} {s:List Nat} (hb:∀ c∈t.x.s,c<256) (h:Pr.pT t=some s):∃ ts,It Eq Sy.term t s ts/\Opn [41] ts:=by
 obtain ⟨k,v,x⟩:=t
 unfold Pr.pT at h
 simp only at h hb
 by_cases h1:k=1
 ·rw [if_pos h1] at h
  split at h
  ·rename_i hc
   simp only [Option.some.injEq] at h
   obtain ⟨c1,c2⟩:=hc
   subst h1 c2 h
   refine ⟨[tV (str v)],⟨(name_parts (p:=Lx.capital) c1).1,tx_var c1,fun w i ha _=>⟨_,?_,rfl⟩⟩,⟨_,_,rfl,var_sign rfl _⟩⟩
   have e0:=ha.head
   have tx0:(w.tk i).text=str v:=congrArg Sh.text e0
   unfold term
   rw [if_pos (by rw [kind_is e0];rfl),tx0]
   show PR.ok (Term.mk 1 (Lx.ofS (str v)) _) _=_
   rw [Lx.ofS_str]
   rfl
  ·cases h
 ·rw [if_neg h1] at h
  by_cases h2:k=2
  ·rw [if_pos h2] at h
   split at h
   ·rename_i hc
    simp only [Option.some.injEq] at h
    obtain ⟨c1,c2⟩:=hc
    have c6:=ba_zero c1
    subst h2 c6 h
    obtain ⟨t1,t2,t3⟩:=val_txt c2 hb
    obtain ⟨t0,l0,e,hf,-⟩:=val_fst c2
    refine ⟨tx x,⟨t2,t1,fun w i ha _=>⟨_,?_,rfl⟩⟩,⟨t0,l0,e,fst_sign hf (by decide)⟩⟩
    obtain ⟨e0,e1⟩:=val_const c2 ha
    have eh:sh (w.tk i)=sh t0:=by rw [e] at ha;exact ha.head
    unfold term
    rw [if_neg e1,sign_is eh,fst_sign hf (by decide),if_neg (by decide)]
    unfold Sy.value
    rw [e0]
    rfl
   ·cases h
  ·rw [if_neg h2] at h
   split at h
   ·rename_i h3
    split at h
    ·rename_i hc
     simp only [Option.some.injEq] at h
     obtain ⟨c1,c2⟩:=hc
     have c6:=ba_zero c1
     subst h3 c6 c2 h
     refine ⟨[tM [95]],⟨by simp,tx_mark _ (by decide) (fun d _=>by simp [Lx.two]) (by decide),fun w i ha _=>⟨_,?_,rfl⟩⟩,⟨_,_,rfl,by decide⟩⟩
     have e0:sh (w.tk i)=sh (tM [95]):=ha.head
     unfold term
     rw [if_neg (by rw [kind_is e0];simp [tM]),sign_M e0,if_pos (by decide)]
     rfl
    ·cases h
   ·cases h
/-- an atom: its words -/
theorem atom_it {a:Atom} {s:List Nat} (hb:∀ t∈a.terms,∀ c∈t.x.s,c<256) (h:Pr.pA a=some s) :
  ∃ us,s≠[]/\Tx any s (tN (str a.rel) :: tM [40] :: us)/\Va.name (str a.rel)=true/\∀ (v:Env) (i:Nat),At v i (tN (str a.rel) :: tM [40] :: us)->Sy.atom v i=.ok a (i+(tN (str a.rel) :: tM [40] :: us).length):=by
 obtain ⟨rel,terms⟩:=a
 unfold Pr.pA at h
 simp only at h hb
 split at h
 ·rename_i hn
  obtain ⟨ss,h1,h2⟩:=Option.map_eq_some_iff.1 h
  obtain ⟨tss,h34⟩:=seqO_all (Q:=fun t s ts=>It Eq Sy.term t s ts/\Opn [41] ts) terms ss (fun t ht s hs=>term_it (hb t ht) hs) h1
  have h3:Its Eq Sy.term terms ss tss:=h34.mono (fun _ _ _ h=>h.1)
  have h4:=h34.mem (C:=Opn [41]) (fun _ _ _ h=>h.2)
  subst h2
  refine ⟨sep tss++[tM [41]],by simp,?_,hn,fun v i ha=>?_⟩
  ·have hin:Tx any (commas ss++[41]) (sep tss++[tM [41]]):=by
    by_cases h0:ss=[]
    ·subst h0
     have:tss=[]:=by
      have:=h3.len
      exact List.eq_nil_of_length_eq_zero (by simpa [<-this.1] using this.2)
     subst this
     rw [commas_nil]
     exact tx_close any
    ·obtain ⟨i1,i2,i3⟩:=al3_txt (fun _ _ _ h=>⟨h.ne,h.txt⟩) h3 h0
     exact Tx.app i1 (tx_close any) (by simp) (show brk 41=true by decide)
   exact Tx.app (ts:=[tN (str rel)]) (tx_name hn) (Tx.app (a:=[40]) (ts:=[tM [40]]) (tx_open any) hin (by simp) rfl) (by simp) (show brk 40=true by decide)
  ·have e0:sh (v.tk i)=sh (tN (str rel)):=ha.head
   have e1:sh (v.tk (i+1))=sh (tM [40]):=ha.tail.head
   have hpl:plain (v.tk i)=true:=by rw [plain_is e0];exact plain_N hn
   have htx:(v.tk i).text=str rel:=congrArg Sh.text e0
   obtain ⟨l,h5,h6⟩:=list_read (R:=Eq) (one:=Sy.term) (fin:=[41]) (by decide) (by decide) h3 h4 v (i+1+1) ha.tail.tail
   have:=all2_eq h6
   subst this
   unfold Sy.atom Sy.name
   rw [if_pos hpl]
   simp only [PR.bind_ok]
   rw [must_ok e1]
   simp only [PR.bind_ok]
   rw [h5]
   simp only [PR.bind_ok]
   rw [htx]
   show PR.ok (Atom.mk (Lx.ofS (str rel)) l) _=_
   rw [Lx.ofS_str]
   congr 1
   simp only [List.length_cons]
   omega
 ·cases h
open Lx (Tok Sq)
open Sy (sh Sh Env PR sign plain level txt must bodyF bodyOf litF aggOf expr fnOf cmpOf bareL ex0 at0)
open Pr (Ex Li Atom Term Rul Rel Prog seqO commas pL pE)
open Cod (str)
set_option linter.unusedVariables false
set_option linter.unusedSimpArgs false
theorem expr_it {e:Ex} {s:List Nat} (ho:ExO e) (h:pE 17 e=some s):∃ ts,s≠[]/\Tx brk s ts/\Fst ts/\∀ (v:Env) (i:Nat),At v i ts->(level (v.tk (i+ts.length))).1=0->expr v i=.ok e (i+ts.length):=by
 obtain ⟨ts,d,h1,h2⟩:=back 17 e s ho h
 refine ⟨ts,h2.ne,h2.txt,h2.fst,fun v i ha hl=>?_⟩
 obtain ⟨m,hm,he⟩:=h2.p1 v i 0 60 ha (by omega) (by omega) (by omega)
 have:=ha.fit
 unfold expr
 rw [he,chain_stop (by omega) (by omega)]
 rfl
/-- a comparison's word -/
def ct (op:Int):Tok:=if op=1 then tM [61] else if op=2 then tM [33,61] else if op=3 then tM [60] else if op=4 then tM [60,61] else if op=5 then tM [62] else tM [62,61]
def sp (c:Nat):Bool:=c == 32
theorem two_sp (c:Nat) (h:c≠58\/True):∀ d,sp d=true->Lx.two c d=false:=fun d hd=>by
 unfold sp at hd
 simp only [beq_iff_eq] at hd
 subst hd
 unfold Lx.two
 simp
theorem cmp_tok {op:Int} (h1:1<=op) (h6:op<=6):∃ m,Pr.cmp op=32 :: (m++[32])/\m≠[]/\Tx sp m [ct op]/\(level (ct op)).1=0/\cmpOf (ct op)≠0/\((cmpOf (ct op):Nat):Int)=op/\sign (ct op) [40]=false/\(op≠1->sign (ct op) [61]=false):=by
 have:op=1\/op=2\/op=3\/op=4\/op=5\/op=6:=by omega
 rcases this with rfl | rfl | rfl | rfl | rfl | rfl
 ·exact ⟨[61],rfl,by simp,tx_mark _ (by decide) (two_sp _ (.inr trivial)) (by decide),by decide,by decide,by decide,by decide,by decide⟩
 ·exact ⟨[33,61],rfl,by simp,(tx_two (by decide) (by decide)).mono (fun _ _=>rfl),by decide,by decide,by decide,by decide,by decide⟩
 ·exact ⟨[60],rfl,by simp,tx_mark _ (by decide) (two_sp _ (.inr trivial)) (by decide),by decide,by decide,by decide,by decide,by decide⟩
 ·exact ⟨[60,61],rfl,by simp,(tx_two (by decide) (by decide)).mono (fun _ _=>rfl),by decide,by decide,by decide,by decide,by decide⟩
 ·exact ⟨[62],rfl,by simp,tx_mark _ (by decide) (two_sp _ (.inr trivial)) (by decide),by decide,by decide,by decide,by decide,by decide⟩
 ·exact ⟨[62,61],rfl,by simp,(tx_two (by decide) (by decide)).mono (fun _ _=>rfl),by decide,by decide,by decide,by decide,by decide⟩
theorem cmp_is {v:Env} {i:Nat} {t:Tok} (h:sh (v.tk i)=sh t):cmpOf (v.tk i)=cmpOf t:=Sy.cmpOf_sh h
theorem fn_is {v:Env} {i:Nat} {t:Tok} (h:sh (v.tk i)=sh t):fnOf (v.tk i)=fnOf t:=Sy.fnOf_sh h
theorem first_fn {t:Tok} (h:First t):fnOf t=0:=by
 unfold fnOf Sy.place
 simp only [Sy.placeF]
 rw [fst_sign h (s:=[99,111,117,110,116]) (by decide),fst_sign h (s:=[115,117,109]) (by decide),fst_sign h (s:=[109,105,110]) (by decide),fst_sign h (s:=[109,97,120]) (by decide)]
 simp
theorem noExpr_ex0 {e:Ex} (h:Pr.noExpr e=true):e=ex0:=by
 obtain ⟨k,v,x,op,args⟩:=e
 unfold Pr.noExpr at h
 simp only [Bool.and_eq_true,decide_eq_true_eq,Ex.k,Ex.v,Ex.x,Ex.op,Ex.args] at h
 obtain ⟨h1,h2,h3,h4,h5⟩:=h
 have h1:k=0:=of_decide_eq_true h1
 have h3:x=Va.zero:=of_decide_eq_true h3
 have h4:op=0:=of_decide_eq_true h4
 have h6:=ba_zero (of_decide_eq_true h2)
 have h7:=List.eq_nil_of_length_eq_zero (of_decide_eq_true h5)
 rw [h1,h6,h3,h4,h7]
 rfl
theorem noAtom_at0 {a:Atom} (h1:a.rel.size=0) (h2:a.terms.length=0):a=at0:=by
 obtain ⟨r,t⟩:=a
 simp only at h1 h2
 have h6:=ba_zero h1
 have h7:=List.eq_nil_of_length_eq_zero h2
 subst h6 h7
 rfl
/-- what lacks says, kind by kind -/
theorem lacks_is {k:Int} {a:Atom} {op:Int} {l r:Ex} {fn:Int} {av:ByteArray} {of:Ex} {body:List Li} (h:Pr.lacks k a op l r fn av of body.length=true) :
  ((k=1\/k=2)\/a=at0)/\(k=3\/(op=0/\l=ex0/\r=ex0))/\(k=4\/(fn=0/\av=txt []/\of=ex0/\body=[])):=by
 unfold Pr.lacks at h
 simp only [Bool.and_eq_true,Bool.or_eq_true,decide_eq_true_eq] at h
 obtain ⟨h1,h2,h3⟩:=h
 refine ⟨?_,?_,?_⟩
 ·rcases h1 with h | h
  ·exact .inl h
  ·exact .inr (noAtom_at0 h.1 h.2)
 ·rcases h2 with h | h
  ·exact .inl h
  ·exact .inr ⟨h.1,noExpr_ex0 h.2.1,noExpr_ex0 h.2.2⟩
 ·rcases h3 with h | h
  ·exact .inl h
  ·exact .inr ⟨h.1,ba_zero h.2.1,noExpr_ex0 h.2.2.1,List.eq_nil_of_length_eq_zero h.2.2.2⟩
/-- every value is of bytes -/
inductive LiO:Li->Prop
 | mk {k:Int} {a:Atom} {op:Int} {l r:Ex} {fn:Int} {av:ByteArray} {of:Ex} {body:List Li} {ln cl:Int} (ha:∀ t∈a.terms,∀ c∈t.x.s,c<256) (hl:ExO l) (hr:ExO r) (ho:ExO of) (hb:∀ x∈body,LiO x):LiO (.mk k a op l r fn av of body ln cl)
def RB (x y:Li):Prop:=bareL x=bareL y
/-- a literal with b braces left: its text, its words -/
structure PL (b:Nat) (li:Li) (s:List Nat) (ts:List Tok):Prop where
 ne:s≠[]
 txt:Tx brk s ts
 read:∀ (br k:Nat),b+br<=16->18<=k+br->∀ (v:Env) (i:Nat),At v i ts->(level (v.tk (i+ts.length))).1=0->∃ li',litF v k br i=.ok li' (i+ts.length)/\RB li' li
theorem bodyF_read {R:Li->Li->Prop} {one:Env->Nat->PR Li} {xs:List Li} {ss:List (List Nat)} {tss:List (List Tok)} (h:Its R one xs ss tss):∀ (v:Env) (i k:Nat) (acc acc0:List Li),Sy.All2 R acc acc0->At v i (tss.flatMap (fun t=>tM [44] :: t))->tss.length<k ->
   (level (v.tk (i+(tss.flatMap (fun t=>tM [44] :: t)).length))).1=0->sign (v.tk (i+(tss.flatMap (fun t=>tM [44] :: t)).length)) [44]=false ->
   ∃ l,bodyF v (one v) k acc i=.ok l (i+(tss.flatMap (fun t=>tM [44] :: t)).length)/\Sy.All2 R l (acc0++xs):=by
 induction h with
 | nil =>
  intro v i k acc acc0 hacc ha hk hl hs
  obtain ⟨k,rfl⟩:∃ m,k=m+1:=⟨k - 1,by omega⟩
  refine ⟨acc,?_,by rw [List.append_nil];exact hacc⟩
  simp only [List.flatMap_nil,List.length_nil,Nat.add_zero] at hs ⊢
  rw [bodyF,hs,if_neg (by decide)]
 | @cons a s ts xs ss tss h t ih =>
  intro v i k acc acc0 hacc ha hk hl hs
  obtain ⟨k,rfl⟩:∃ m,k=m+1:=⟨k - 1,by simp at hk;omega⟩
  have e:i+((ts :: tss).flatMap (fun t=>tM [44] :: t)).length=i+1+ts.length+(tss.flatMap (fun t=>tM [44] :: t)).length:=by
   simp only [List.flatMap_cons,List.length_append,List.length_cons];omega
  rw [e] at hl hs ⊢
  rw [List.flatMap_cons] at ha
  have e0:sh (v.tk i)=sh (tM [44]):=ha.head
  have a1:At v (i+1) (ts++tss.flatMap (fun t=>tM [44] :: t)):=ha.tail
  have a2:=a1.right
  have hlv:(level (v.tk (i+1+ts.length))).1=0:=by
   cases tss with
   | nil=>simpa using hl
   | cons x y=>exact level_M (s:=[44]) a2.head (by decide)
  obtain ⟨a',h1,h2⟩:=h.read v (i+1) a1.left hlv
  have hacc2:Sy.All2 R (acc++[a']) (acc0++[a]):=listF_read.all2_snoc hacc h2
  obtain ⟨l,h3,h4⟩:=ih v (i+1+ts.length) k _ _ hacc2 a2 (by simp at hk;omega) hl hs
  refine ⟨l,?_,by simpa using h4⟩
  rw [bodyF,sign_M e0,if_pos (by decide),h1]
  simp only [Sy.PR.bind_ok]
  exact h3
theorem bodyOf_read {R:Li->Li->Prop} {one:Env->Nat->PR Li} {xs:List Li} {ss:List (List Nat)} {tss:List (List Tok)} (h:Its R one xs ss tss) (h0:xs≠[]) (v:Env) (i:Nat) (ha:At v i (sep tss)) (hl:(level (v.tk (i+(sep tss).length))).1=0) (hs:sign (v.tk (i+(sep tss).length)) [44]=false) :
  ∃ l,bodyOf v (one v) i=.ok l (i+(sep tss).length)/\Sy.All2 R l xs:=by
 cases h with
 | nil=>exact absurd rfl h0
 | @cons a s ts xs ss tss h t =>
  have e:i+(sep (ts :: tss)).length=i+ts.length+(tss.flatMap (fun t=>tM [44] :: t)).length:=by
   rw [sep_flat,List.length_append];omega
  rw [e] at hl hs ⊢
  rw [sep_flat] at ha
  have a2:=ha.right
  have hlv:(level (v.tk (i+ts.length))).1=0:=by
   cases tss with
   | nil=>simpa using hl
   | cons x y=>exact level_M (s:=[44]) a2.head (by decide)
  obtain ⟨a',h1,h2⟩:=h.read v i ha.left hlv
  have hk:=sep_len tss
  have hf2:=a2.fit
  obtain ⟨l,h3,h4⟩:=bodyF_read t v (i+ts.length) (v.ws.length+1) [a'] [a] (.cons h2 .nil) a2 (by omega) hl hs
  refine ⟨l,?_,h4⟩
  unfold bodyOf
  rw [h1]
  simp only [Sy.PR.bind_ok]
  exact h3
theorem rb_map {l m:List Li} (h:Sy.All2 RB l m):l.map bareL=m.map bareL:=by
 induction h with
 | nil=>rfl
 | cons h t ih=>rw [List.map_cons,List.map_cons,ih,h]
theorem word_small {fn:Int}:Va.wordB Lx.small (Pr.word fn)=true:=by
 unfold Pr.word
 split
 ·decide
 ·split
  ·decide
  ·split <;> decide
theorem word_fn {fn:Int} (h1:1<=fn) (h4:fn<=4):((fnOf (tN (Pr.word fn)):Nat):Int)=fn:=by
 have:fn=1\/fn=2\/fn=3\/fn=4:=by omega
 rcases this with rfl | rfl | rfl | rfl <;> decide
theorem tx_lb (P:Nat->Bool):Tx P [123] [tM [123]]:=tx_mark P (by decide) (fun d _=>by simp [Lx.two]) (by decide)
theorem tx_rb (P:Nat->Bool):Tx P [125] [tM [125]]:=tx_mark P (by decide) (fun d _=>by simp [Lx.two]) (by decide)
theorem tx_eq (P:Nat->Bool):Tx P [61] [tM [61]]:=tx_mark P (by decide) (fun d _=>by simp [Lx.two]) (by decide)
theorem tx_colon:Tx sp [58] [tM [58]]:=tx_mark _ (by decide) (two_sp _ (.inr trivial)) (by decide)
theorem first_not {t:Tok} (h:First t):sign t [110,111,116]=false:=fst_sign h (by decide)
/-- a comparison -/
theorem cmp_it {b:Nat} {op:Int} {l r:Ex} {ln cl:Int} {s t:List Nat} (hl:ExO l) (hr:ExO r) (h1:1<=op) (h6:op<=6) (hs:pE 17 l=some s) (ht:pE 17 r=some t):∃ ts,PL b (.mk 3 at0 op l r 0 (txt []) ex0 [] ln cl) (s++(Pr.cmp op++t)) ts:=by
 obtain ⟨tl,l1,l2,l3,l4⟩:=expr_it hl hs
 obtain ⟨tr,r1,r2,r3,r4⟩:=expr_it hr ht
 obtain ⟨m,c1,c2,c3,c4,c5,c6,c7,c8⟩:=cmp_tok h1 h6
 obtain ⟨t0,u0,e1,e2,e3⟩:=l3
 obtain ⟨t1,u1,f1,f2,-⟩:=r3
 refine ⟨tl++(ct op :: tr),by simp [l1],?_,fun br k hb hk v i ha hlv=>?_⟩
 ·rw [c1,show (32 :: (m++[32]))++t=32 :: (m++(32 :: t)) by simp]
  exact Tx.app l2 (Tx.bl (Tx.app (ts:=[ct op]) c3 (r2.bl rfl (r2.ne r1 rfl)) (by simp) rfl) rfl (by simp)) (by simp) (show brk 32=true by decide)
 ·obtain ⟨k,rfl⟩:∃ q,k=q+1:=⟨k - 1,by omega⟩
  have hlen:(tl++(ct op :: tr)).length=tl.length+1+tr.length:=by simp only [List.length_append,List.length_cons];omega
  have g0:sh (v.tk i)=sh t0:=by rw [e1] at ha;exact ha.head
  have gc:sh (v.tk (i+tl.length))=sh (ct op):=ha.right.head
  have gr:=ha.right.tail
  have g1:sh (v.tk (i+tl.length+1))=sh t1:=by rw [f1] at gr;exact gr.head
  have x1:=l4 v i ha.left (by rw [level_is gc];exact c4)
  have x2:=r4 v (i+tl.length+1) gr (by rw [show i+tl.length+1+tr.length=i+(tl++(ct op :: tr)).length by rw [hlen];omega];exact hlv)
  -- the second word
  have snd:(t0.kind=2\/t0.kind=1)->sign (v.tk (i+1)) [40]=false/\(sign (v.tk (i+1)) [61]=true->fnOf (v.tk (i+2))=0):=by
   intro hk
   rcases e3 hk with rfl | ⟨op',u,ho,rfl⟩
   ·have hl1:tl.length=1:=by rw [e1];rfl
    rw [hl1] at gc g1
    refine ⟨by rw [sign_is gc];exact c7,fun hh=>?_⟩
    rw [fn_is (show sh (v.tk (i+2))=sh t1 from g1)]
    exact first_fn f2
   ·have g2:sh (v.tk (i+1))=sh (ot op'):=by rw [e1] at ha;exact ha.tail.head
    refine ⟨?_,fun hh=>?_⟩
    ·rw [sign_is g2];rcases ho with rfl | rfl | rfl | rfl | rfl <;> decide
    ·rw [sign_is g2] at hh;rcases ho with rfl | rfl | rfl | rfl | rfl <;> exact absurd hh (by decide)
  refine ⟨.mk 3 at0 (cmpOf (v.tk (i+tl.length)):Nat) l r 0 (txt []) ex0 [] (v.tk i).line (v.tk i).col,?_,?_⟩
  ·rw [litF,sign_is g0,first_not e2,if_neg (by decide),if_neg,if_neg,x1]
   ·simp only [Sy.PR.bind_ok]
    rw [cmp_is gc,if_neg c5,x2]
    simp only [Sy.PR.bind_ok]
    rw [hlen]
    congr 1
    omega
   ·rintro ⟨k2,k3,k4⟩
    rw [kind_is g0] at k2
    have:=(snd (.inl k2)).2 k3
    omega
   ·rintro ⟨k2,k3⟩
    rw [plain_is g0] at k2
    have hk1:t0.kind=1:=by
     unfold plain at k2
     simp only [Bool.and_eq_true,decide_eq_true_eq] at k2
     exact k2.1
    rw [(snd (.inr hk1)).1] at k3
    cases k3
  ·show bareL _=bareL _
   rw [cmp_is gc,c6]
   simp only [Sy.bareL_eq]
end Go.Proofs.YtohnmnfhmbmoaaaGreatDoor.Rt
