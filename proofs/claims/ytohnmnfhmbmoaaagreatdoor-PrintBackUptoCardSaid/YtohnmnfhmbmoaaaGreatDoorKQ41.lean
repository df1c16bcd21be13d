/- THE TEXTS MERGED: RtProg RtMay RtVal PwMem PrAwP. -/
import Derived.Test.YtohnmnfhmbmoaaaGreatDoorKQ1
import Derived.Test.YtohnmnfhmbmoaaaGreatDoorKQ40
import Derived.Test.YtohnmnfhmbmoaaaGreatDoorKQ17
import Derived.Test.YtohnmnfhmbmoaaaGreatDoorKQ16
import Derived.Test.YtohnmnfhmbmoaaaGreatDoorKQ37
namespace Go.Proofs.YtohnmnfhmbmoaaaGreatDoor.Rt
open Lx (Tok Sq)
open Sy (sh Sh Env PR sign plain level txt must bodyOf litF aggOf expr fnOf bareL bareU bareR bareP ex0 at0 progF)
open Pr (Ex Li Atom Term Rul Rel Prog seqO commas pL pE pA pR pD pP pB lines)
open Cod (str)
set_option linter.unusedVariables false
set_option linter.unusedSimpArgs false
theorem name_sign {l:List Nat} (h:Va.name l=true) {s:List Nat} (hs:Va.name s=false):sign (tN l) s=false:=by
 unfold sign tN
 by_cases e:l=s
 ·subst e;rw [h] at hs;cases hs
 ·simp [e]
theorem ofS_back {v:Env} {i:Nat} {b:ByteArray} (h:(v.tk i).text=str b):txt (v.tk i).text=b:=by
 rw [h]
 show Lx.ofS (str b)=b
 exact Lx.ofS_str b
theorem plain_V (s:List Nat):plain (tV s)=false:=by unfold plain tV;rfl
/-- an aggregate -/
theorem agg_it {c:Nat} {fn:Int} {av:ByteArray} {of:Ex} {body:List Li} {ln cl:Int} {o:List Nat} {ls:List (List Nat)} {tss:List (List Tok)} (ho:ExO of) (h1:1<=fn) (h4:fn<=4) (h0:body≠[]) (hv:Va.variable_ (str av)=true)
  (hof:(if fn=1 then (if Pr.noExpr of=true then some [] else none) else (pE 17 of).map (fun t=>t++[32,58,32]))=some o) (hbd:Al3 (PL c) body ls tss) :
  ∃ ts,PL (c+1) (.mk 4 at0 0 ex0 ex0 fn av of body ln cl) (str av++([32,61,32]++(Pr.word fn++([32,123,32]++(o++(commas ls++[32,125])))))) ts:=by
 have hlen:=hbd.len
 have hls:ls≠[]:=fun e=>h0 (List.eq_nil_of_length_eq_zero (by rw [<-hlen.1,e];rfl))
 obtain ⟨i1,i2,i3⟩:=al3_txt (fun _ _ _ h=>⟨h.ne,h.txt⟩) hbd hls
 have hX:Tx any (commas ls++(32 :: [125])) (sep tss++[tM [125]]):=Tx.app i1 ((tx_rb any).bl rfl (by simp)) (by simp) (show brk 32=true by decide)
 -- what it is of
 obtain ⟨tf,hY,hYne,hrd⟩:∃ tf,Tx any (o++(commas ls++(32 :: [125]))) (tf++(sep tss++[tM [125]]))/\o++(commas ls++(32 :: [125]))≠[]/\∀ (v:Env) (j:Nat),At v j tf ->
   ((if fn≠1 then (expr v j).bind fun e j=>(must v [58] j).bind fun _ j=>.ok e j else .ok ex0 j):PR Ex)=.ok of (j+tf.length):=by
  by_cases hf:fn=1
  ·rw [if_pos hf] at hof
   split at hof
   ·rename_i hn
    simp only [Option.some.injEq] at hof
    subst hof
    refine ⟨[],by simpa using hX,by simp,fun v j _=>?_⟩
    rw [if_neg (by simpa using hf),noExpr_ex0 hn]
    rfl
   ·cases hof
  ·rw [if_neg hf] at hof
   obtain ⟨t,ht,rfl⟩:=Option.map_eq_some_iff.1 hof
   obtain ⟨te,e1,e2,e3,e4⟩:=expr_it ho ht
   refine ⟨te++[tM [58]],?_,by simp,fun v j ha=>?_⟩
   ·have:Tx any (t++(32 :: ([58]++(32 :: (commas ls++(32 :: [125])))))) (te++([tM [58]]++(sep tss++[tM [125]]))) :=
     Tx.app e2 (Tx.bl (Tx.app (a:=[58]) (ts:=[tM [58]]) tx_colon (hX.bl rfl (by simp)) (by simp) rfl) rfl (by simp)) (by simp) (show brk 32=true by decide)
    simpa using this
   ·have g:=ha.right.head
    rw [if_pos (by simpa using hf),e4 v j ha.left (level_M g (by decide))]
    simp only [Sy.PR.bind_ok]
    rw [must_ok g]
    simp only [Sy.PR.bind_ok,List.length_append,List.length_cons,List.length_nil]
    congr 1
 refine ⟨tV (str av) :: tM [61] :: tN (Pr.word fn) :: tM [123] :: (tf++(sep tss++[tM [125]])),?_,?_,fun br k hb hk v i ha hlv=>?_⟩
 ·have:=(name_parts (p:=Lx.capital) hv).1
  simp [this]
 ·have:Tx any (str av++(32 :: ([61]++(32 :: (Pr.word fn++(32 :: ([123]++(32 :: (o++(commas ls++(32 :: [125])))))))))))
    ([tV (str av)]++([tM [61]]++([tN (Pr.word fn)]++([tM [123]]++(tf++(sep tss++[tM [125]])))))) :=
   Tx.app (tx_var hv) (Tx.bl (Tx.app (tx_eq any) (Tx.bl (Tx.app (tx_small word_small) (Tx.bl (Tx.app (tx_lb any) (hY.bl rfl (by simp)) (by simp) rfl) rfl (by simp)) (by simp) (show brk 32=true by decide)) rfl (by simp)) (by simp) rfl) rfl (by simp)) (by simp) (show brk 32=true by decide)
  have h2:=this.toBrk
  simpa using h2
 ·obtain ⟨k,rfl⟩:∃ q,k=q+1:=⟨k - 1,by omega⟩
  have g0:sh (v.tk i)=sh (tV (str av)):=ha.head
  have g1:sh (v.tk (i+1))=sh (tM [61]):=ha.tail.head
  have g2:sh (v.tk (i+2))=sh (tN (Pr.word fn)):=ha.tail.tail.head
  have g3:sh (v.tk (i+3))=sh (tM [123]):=ha.tail.tail.tail.head
  have a4:At v (i+4) (tf++(sep tss++[tM [125]])):=ha.tail.tail.tail.tail
  have a5:=a4.right
  have g6:=a5.right.head
  have hfn:((fnOf (v.tk (i+2)):Nat):Int)=fn:=by rw [fn_is g2];exact word_fn h1 h4
  have hf1:(fnOf (v.tk (i+2))≠1)=(fn≠1):=propext ⟨fun h e=>h (by omega),fun h e=>h (by omega)⟩
  obtain ⟨l,h5,h6⟩:=bodyOf_read (R:=RB) (one:=fun v i=>litF v k (br+1) i) (hbd.mono (fun a s ts h=>⟨h.ne,h.txt,fun v i ha hl=>h.read (br+1) k (by omega) (by omega) v i ha hl⟩)) h0 v (i+4+tf.length) a5.left (level_M g6 (by decide)) (by rw [sign_M g6];decide)
  have hav:txt (v.tk i).text=av:=ofS_back (congrArg Sh.text g0)
  refine ⟨.mk 4 at0 0 ex0 ex0 fn av of l (v.tk i).line (v.tk i).col,?_,?_⟩
  ·rw [litF,sign_is g0,var_sign rfl,if_neg (by decide),if_neg (by rw [plain_is g0,plain_V];simp),if_pos ⟨by rw [kind_is g0];rfl,by rw [sign_M g1];decide,by omega⟩]
   unfold aggOf
   rw [if_neg (by omega),must_ok g3]
   simp only [Sy.PR.bind_ok]
   simp only [hf1]
   rw [hrd v (i+3+1) a4.left]
   simp only [Sy.PR.bind_ok]
   rw [h5]
   simp only [Sy.PR.bind_ok]
   rw [must_ok g6]
   simp only [Sy.PR.bind_ok]
   rw [hfn,hav]
   congr 1
   simp only [List.length_cons,List.length_append,List.length_nil]
   omega
  ·show bareL _=bareL _
   simp only [Sy.bareL_eq]
   rw [rb_map h6]
theorem lit_step {b:Nat} (hagg:∀ c,b=c+1->∀ (x:Li) (s:List Nat),LiO x->pL c x=some s->∃ ts,PL c x s ts) {li:Li} {s:List Nat} (ho:LiO li) (h:pL b li=some s):∃ ts,PL b li s ts:=by
 cases ho with
 | @mk k a op l r fn av of body ln cl ha hl hr hof hb =>
 rw [pL.eq_def] at h
 simp only at h
 by_cases hL:Pr.lacks k a op l r fn av of body.length=true
 ·rw [if_pos hL] at h
  obtain ⟨q1,q2,q3⟩:=lacks_is hL
  by_cases k1:k=1
  ·rw [if_pos k1] at h
   obtain ⟨c1,c2,c3⟩:=q2.resolve_left (by omega)
   obtain ⟨d1,d2,d3,d4⟩:=q3.resolve_left (by omega)
   subst k1 c1 c2 c3 d1 d2 d3 d4
   obtain ⟨us,n1,n2,n3,n4⟩:=atom_it ha h
   refine ⟨_,n1,n2.toBrk,fun br k hb hk v i hat hlv=>?_⟩
   obtain ⟨k,rfl⟩:∃ q,k=q+1:=⟨k - 1,by omega⟩
   have g0:sh (v.tk i)=sh (tN (str a.rel)):=hat.head
   have g1:sh (v.tk (i+1))=sh (tM [40]):=hat.tail.head
   refine ⟨.mk 1 a 0 ex0 ex0 0 (txt []) ex0 [] (v.tk i).line (v.tk i).col,?_,?_⟩
   ·rw [litF,sign_is g0,name_sign n3 (by decide),if_neg (by decide),if_pos ⟨by rw [plain_is g0];exact plain_N n3,by rw [sign_M g1];decide⟩,n4 v i hat]
    rfl
   ·show bareL _=bareL _
    simp only [Sy.bareL_eq]
  ·rw [if_neg k1] at h
   by_cases k2:k=2
   ·rw [if_pos k2] at h
    obtain ⟨c1,c2,c3⟩:=q2.resolve_left (by omega)
    obtain ⟨d1,d2,d3,d4⟩:=q3.resolve_left (by omega)
    subst k2 c1 c2 c3 d1 d2 d3 d4
    obtain ⟨t,ht,rfl⟩:=Option.map_eq_some_iff.1 h
    obtain ⟨us,n1,n2,n3,n4⟩:=atom_it ha ht
    refine ⟨tN [110,111,116] :: (tN (str a.rel) :: tM [40] :: us),by simp,?_,fun br k hb hk v i hat hlv=>?_⟩
    ·exact Tx.app (a:=[110,111,116]) (ts:=[tN [110,111,116]]) (tx_small (by decide)) ((n2.toBrk).bl (c:=32) rfl (by simp)) (by simp) (show brk 32=true by decide)
    ·obtain ⟨k,rfl⟩:∃ q,k=q+1:=⟨k - 1,by omega⟩
     have g0:sh (v.tk i)=sh (tN [110,111,116]):=hat.head
     refine ⟨.mk 2 a 0 ex0 ex0 0 (txt []) ex0 [] (v.tk i).line (v.tk i).col,?_,?_⟩
     ·rw [litF,sign_is g0,if_pos (by decide),n4 v (i+1) hat.tail]
      simp only [Sy.PR.bind_ok]
      congr 1
      simp only [List.length_cons]
      omega
     ·show bareL _=bareL _
      simp only [Sy.bareL_eq]
   ·rw [if_neg k2] at h
    have hat0:=q1.resolve_left (by omega)
    by_cases k3:k=3
    ·rw [if_pos k3] at h
     obtain ⟨d1,d2,d3,d4⟩:=q3.resolve_left (by omega)
     subst k3 hat0 d1 d2 d3 d4
     by_cases hop:1<=op/\op<=6
     ·rw [if_pos hop] at h
      cases hs:pE 17 l with
      | none=>rw [hs] at h;simp at h
      | some s1 =>
       cases ht:pE 17 r with
       | none=>rw [hs,ht] at h;simp at h
       | some s2 =>
        rw [hs,ht] at h
        simp only [Option.some.injEq] at h
        subst h
        exact cmp_it hl hr hop.1 hop.2 hs ht
     ·rw [if_neg hop] at h;cases h
    ·rw [if_neg k3] at h
     by_cases k4:k=4
     ·rw [if_pos k4] at h
      obtain ⟨c1,c2,c3⟩:=q2.resolve_left (by omega)
      subst k4 hat0 c1 c2 c3
      cases b with
      | zero=>simp at h
      | succ c =>
       simp only at h
       by_cases hc:1<=fn/\fn<=4/\body.length≠0/\Va.variable_ (str av)=true
       ·rw [if_pos hc] at h
        cases ho:(if fn=1 then (if Pr.noExpr of=true then some [] else none) else (pE 17 of).map (fun t=>t++[32,58,32])) with
        | none=>rw [ho] at h;simp at h
        | some o =>
         cases hq:seqO (body.map (pL c)) with
         | none=>rw [ho,hq] at h;simp at h
         | some ls =>
          rw [ho,hq] at h
          simp only [Option.some.injEq] at h
          subst h
          obtain ⟨tss,hbd⟩:=seqO_all (Q:=PL c) body ls (fun x hx s hs=>hagg c rfl x s (hb x hx) hs) hq
          exact agg_it hof hc.1 hc.2.1 (fun e=>hc.2.2.1 (by rw [e];rfl)) hc.2.2.2 ho hbd
       ·rw [if_neg hc] at h;cases h
     ·rw [if_neg k4] at h;cases h
 ·rw [if_neg hL] at h;cases h
theorem lit_it:∀ (b:Nat) (li:Li) (s:List Nat),LiO li->pL b li=some s->∃ ts,PL b li s ts:=by
 intro b
 induction b with
 | zero=>exact fun li s ho h=>lit_step (fun c hc=>by omega) ho h
 | succ c ih =>
  intro li s ho h
  refine lit_step (fun c' hc=>?_) ho h
  have e:c'=c:=by omega
  subst e
  exact ih
/-- behind a rule: no operator, no comma, no arrow -/
def Fin (t:Tok):Prop:=(level t).1=0/\sign t [44]=false/\sign t [58,45]=false
theorem fin_dot {v:Env} {i:Nat} (h:sh (v.tk i)=sh (tM [46])):Fin (v.tk i):=⟨by rw [level_is h];decide,by rw [sign_is h];decide,by rw [sign_is h];decide⟩
/-- a rule -/
def RuO (r:Rul):Prop:=(∀ t∈r.head.terms,∀ c∈t.x.s,c<256)/\∀ x∈r.body,LiO x
structure PU (r:Rul) (s:List Nat) (ts:List Tok):Prop where
 ne:s≠[]
 txt:Tx brk s ts
 fst:∃ n u,ts=tN n :: u/\Va.name n=true
 read:∀ (v:Env) (i:Nat),At v i ts->Fin (v.tk (i+ts.length))->∃ r',Sy.rule v i=.ok r' (i+ts.length)/\bareU r'=bareU r
theorem rule_it {r:Rul} {s:List Nat} (ho:RuO r) (h:pR r=some s):∃ ts,PU r s ts:=by
 obtain ⟨head,body,ln,cl⟩:=r
 obtain ⟨ho1,ho2⟩:=ho
 unfold pR at h
 simp only at h ho1 ho2
 cases hh:pA head with
 | none=>rw [hh] at h;simp at h
 | some t =>
  rw [hh] at h
  simp only at h
  obtain ⟨us,n1,n2,n3,n4⟩:=atom_it ho1 hh
  by_cases hb0:body.length=0
  ·rw [if_pos hb0] at h
   simp only [Option.some.injEq] at h
   subst h
   have:=List.eq_nil_of_length_eq_zero hb0
   subst this
   refine ⟨_,n1,n2.toBrk,⟨_,_,rfl,n3⟩,fun v i ha hn=>?_⟩
   refine ⟨⟨head,[],(v.tk i).line,(v.tk i).col⟩,?_,?_⟩
   ·unfold Sy.rule
    rw [n4 v i ha]
    simp only [Sy.PR.bind_ok]
    rw [hn.2.2,if_neg (by decide)]
    rfl
   ·rfl
  ·rw [if_neg hb0] at h
   obtain ⟨t2,ht2,rfl⟩:=Option.map_eq_some_iff.1 h
   unfold pB at ht2
   obtain ⟨ls,hls,rfl⟩:=Option.map_eq_some_iff.1 ht2
   obtain ⟨tss,hbd⟩:=seqO_all (Q:=PL 16) body ls (fun x hx s hs=>lit_it 16 x s (ho2 x hx) hs) hls
   have hlen:=hbd.len
   have hls0:ls≠[]:=fun e=>hb0 (by rw [<-hlen.1,e];rfl)
   obtain ⟨i1,i2,i3⟩:=al3_txt (fun _ _ _ h=>⟨h.ne,h.txt⟩) hbd hls0
   refine ⟨(tN (str head.rel) :: tM [40] :: us)++(tM [58,45] :: sep tss),by simp [n1],?_,⟨_,_,rfl,n3⟩,fun v i ha hn=>?_⟩
   ·exact Tx.app n2 (Tx.bl (Tx.app (a:=[58,45]) (ts:=[tM [58,45]]) (tx_two (by decide) (by decide)) (i1.bl rfl i3) (by simp) rfl) rfl (by simp)) (by simp) rfl
   ·have g0:=ha.right.head
    have hlen2:((tN (str head.rel) :: tM [40] :: us)++(tM [58,45] :: sep tss)).length=(tN (str head.rel) :: tM [40] :: us).length+1+(sep tss).length:=by rw [List.length_append,List.length_cons (a:=tM [58,45])];omega
    rw [hlen2] at hn ⊢
    rw [<-Nat.add_assoc,<-Nat.add_assoc] at hn ⊢
    obtain ⟨l,h5,h6⟩:=bodyOf_read (R:=RB) (one:=fun v i=>Sy.lit v 0 i) (hbd.mono (fun a s ts h=>⟨h.ne,h.txt,fun v i ha hl=>h.read 0 18 (by omega) (by omega) v i ha hl⟩)) (fun e=>hb0 (by rw [e];rfl)) v (i+(tN (str head.rel) :: tM [40] :: us).length+1) ha.right.tail hn.1 hn.2.1
    refine ⟨⟨head,l,(v.tk i).line,(v.tk i).col⟩,?_,?_⟩
    ·unfold Sy.rule
     rw [n4 v i ha.left]
     simp only [Sy.PR.bind_ok]
     rw [sign_M g0,if_pos (by decide)]
     unfold Sy.body
     rw [h5]
     rfl
    ·unfold bareU
     simp only [rb_map h6]
/-- a relation -/
structure PD (x:Rel) (s:List Nat) (ts:List Tok):Prop where
 ne:s≠[]
 txt:Tx brk s ts
 read:∀ (v:Env) (i:Nat),At v i ts->sign (v.tk i) [114,101,108,97,116,105,111,110]=true/\∃ x',Sy.relation v (i+1)=.ok x' (i+ts.length)/\bareR x'=bareR x
theorem ty_it {t:Int} {s:List Nat} (h:Pr.pTy t=some s):∃ ts,It Eq Sy.ty t s ts/\Opn [41] ts:=by
 unfold Pr.pTy at h
 by_cases h1:t=1
 ·rw [if_pos h1] at h
  simp only [Option.some.injEq] at h
  subst h1 h
  refine ⟨[tN [110,117,109]],⟨by simp,tx_small (by decide),fun v i ha _=>⟨1,?_,rfl⟩⟩,⟨_,_,rfl,by decide⟩⟩
  have g0:sh (v.tk i)=sh (tN [110,117,109]):=ha.head
  have e:Sy.tyOf (v.tk i)=1:=(Sy.tyOf_sh g0).trans (by decide)
  unfold Sy.ty
  rw [e]
  rfl
 ·rw [if_neg h1] at h
  by_cases h2:t=2
  ·rw [if_pos h2] at h
   simp only [Option.some.injEq] at h
   subst h2 h
   refine ⟨[tN [115,121,109]],⟨by simp,tx_small (by decide),fun v i ha _=>⟨2,?_,rfl⟩⟩,⟨_,_,rfl,by decide⟩⟩
   have g0:sh (v.tk i)=sh (tN [115,121,109]):=ha.head
   have e:Sy.tyOf (v.tk i)=2:=(Sy.tyOf_sh g0).trans (by decide)
   unfold Sy.ty
   rw [e]
   rfl
  ·rw [if_neg h2] at h
   cases h
theorem rel_it {x:Rel} {s:List Nat} (h:pD x=some s):∃ ts,PD x s ts:=by
 obtain ⟨nm,types,ln,cl⟩:=x
 unfold pD at h
 simp only at h
 by_cases hn:Va.name (str nm)=true
 ·rw [if_pos hn] at h
  obtain ⟨ss,h1,h2⟩:=Option.map_eq_some_iff.1 h
  obtain ⟨tss,h34⟩:=seqO_all (Q:=fun t s ts=>It Eq Sy.ty t s ts/\Opn [41] ts) types ss (fun t ht s hs=>ty_it hs) h1
  have h3:Its Eq Sy.ty types ss tss:=h34.mono (fun _ _ _ h=>h.1)
  have h4:=h34.mem (C:=Opn [41]) (fun _ _ _ h=>h.2)
  subst h2
  have hin:Tx any (commas ss++[41]) (sep tss++[tM [41]]):=by
   by_cases h0:ss=[]
   ·subst h0
    have:tss=[]:=by
     have:=h3.len
     exact List.eq_nil_of_length_eq_zero (by simpa [<-this.1] using this.2)
    subst this
    rw [commas_nil]
    exact tx_close any
   ·obtain ⟨i1,i2,i3⟩:=al3_txt (fun _ _ _ h=>⟨h.ne,h.txt⟩) h3 h0
    exact Tx.app i1 (tx_close any) (by simp) (show brk 41=true by decide)
  have hnm:Tx any (str nm++(40 :: (commas ss++[41]))) (tN (str nm) :: tM [40] :: (sep tss++[tM [41]])) :=
   Tx.app (ts:=[tN (str nm)]) (tx_name hn) (Tx.app (a:=[40]) (ts:=[tM [40]]) (tx_open any) hin (by simp) rfl) (by simp) (show brk 40=true by decide)
  refine ⟨tN [114,101,108,97,116,105,111,110] :: (tN (str nm) :: tM [40] :: (sep tss++[tM [41]])),by simp,?_,fun v i ha=>?_⟩
  ·exact (Tx.app (a:=[114,101,108,97,116,105,111,110]) (ts:=[tN [114,101,108,97,116,105,111,110]]) (tx_small (by decide)) (hnm.bl (c:=32) rfl (by simp)) (by simp) (show brk 32=true by decide)).toBrk
  ·have g0:sh (v.tk i)=sh (tN [114,101,108,97,116,105,111,110]):=ha.head
   have g1:sh (v.tk (i+1))=sh (tN (str nm)):=ha.tail.head
   have g2:sh (v.tk (i+1+1))=sh (tM [40]):=ha.tail.tail.head
   refine ⟨by rw [sign_is g0];decide,?_⟩
   obtain ⟨l,h5,h6⟩:=list_read (R:=Eq) (one:=Sy.ty) (fin:=[41]) (by decide) (by decide) h3 h4 v (i+1+1+1) ha.tail.tail.tail
   have:=all2_eq h6
   subst this
   refine ⟨⟨txt (v.tk (i+1)).text,l,(v.tk (i+1)).line,(v.tk (i+1)).col⟩,?_,?_⟩
   ·unfold Sy.relation Sy.name
    rw [if_pos (by rw [plain_is g1];exact plain_N hn)]
    simp only [Sy.PR.bind_ok]
    rw [must_ok g2]
    simp only [Sy.PR.bind_ok]
    rw [h5]
    simp only [Sy.PR.bind_ok]
    congr 1
    simp only [List.length_cons]
    omega
   ·unfold bareR
    simp only [Rel.mk.injEq,and_true]
    exact ofS_back (congrArg Sh.text g1)
 ·rw [if_neg hn] at h;cases h
/-- statements, each with its dot and a line's end -/
structure Ln (s:List Nat) (ts:List Tok):Prop where
 out:∃ s',s=s'++[10]/\s'≠[]/\ts≠[]/\Tx any s' ts
theorem Ln.app {a b:List Nat} {ts us:List Tok} (h:Ln a ts) (k:Ln b us):Ln (a++b) (ts++us):=by
 obtain ⟨a',rfl,h1,h2,h3⟩:=h
 obtain ⟨b',rfl,k1,k2,k3⟩:=k
 exact ⟨a'++(10 :: b'),by simp,by simp [h1],by simp [h2],Tx.app h3 (k3.bl rfl k2) (by simp) rfl⟩
theorem Ln.one {l:List Nat} {ts:List Tok} (h0:l≠[]) (h:Tx brk l ts):Ln (l++[46,10]) (ts++[tM [46]]) :=
 ⟨l++[46],by simp,by simp,by simp,Tx.app h (tx_dot any) (by simp) (show brk 46=true by decide)⟩
def DOT (t:List Tok):List Tok:=t++[tM [46]]
theorem lines_ln {α:Type} {Q:α->List Nat->List Tok->Prop} (hq:∀ a s ts,Q a s ts->s≠[]/\Tx brk s ts) {xs:List α} {ss:List (List Nat)} {tss:List (List Tok)} (h:Al3 Q xs ss tss):xs≠[]->Ln (lines ss) (tss.flatMap DOT):=by
 induction h with
 | nil=>exact fun h=>absurd rfl h
 | @cons a s ts xs ss tss h t ih =>
  intro _
  have h1:=Ln.one (hq _ _ _ h).1 (hq _ _ _ h).2
  cases t with
  | nil=>simpa [lines,DOT] using h1
  | @cons a2 s2 ts2 xs2 ss2 tss2 h2 t2 =>
   have:=Ln.app h1 (ih (by simp))
   simpa [lines,DOT] using this
theorem rules_read {xs:List Rul} {ss:List (List Nat)} {tss:List (List Tok)} (h:Al3 PU xs ss tss):∀ (v:Env) (i k:Nat) (R:List Rel) (U:List Rul),At v i (tss.flatMap DOT)->i+(tss.flatMap DOT).length=v.ws.length->tss.length<k ->
  ∃ rs,progF v k ⟨R,U⟩ i=.ok ⟨R,U++rs⟩ v.ws.length/\rs.map bareU=xs.map bareU:=by
 induction h with
 | nil =>
  intro v i k R U ha hl hk
  obtain ⟨k,rfl⟩:∃ m,k=m+1:=⟨k - 1,by omega⟩
  simp only [List.flatMap_nil,List.length_nil,Nat.add_zero] at hl
  refine ⟨[],?_,rfl⟩
  rw [progF,if_neg (by omega),List.append_nil,hl]
 | @cons a s ts xs ss tss h t ih =>
  intro v i k R U ha hl hk
  obtain ⟨k,rfl⟩:∃ m,k=m+1:=⟨k - 1,by simp at hk;omega⟩
  rw [List.flatMap_cons] at ha hl
  unfold DOT at ha hl
  rw [List.append_assoc] at ha hl
  have g46:sh (v.tk (i+ts.length))=sh (tM [46]):=ha.right.head
  obtain ⟨n,u,e,hn⟩:=h.fst
  have g0:sh (v.tk i)=sh (tN n):=by rw [e] at ha;exact ha.head
  obtain ⟨r',h1,h2⟩:=h.read v i ha.left (fin_dot g46)
  have a2:At v (i+ts.length+1) (tss.flatMap DOT):=ha.right.tail
  simp only [List.length_append,List.length_cons,List.length_nil] at hl
  obtain ⟨rs,h3,h4⟩:=ih v (i+ts.length+1) k R (U++[r']) a2 (by unfold DOT;omega) (by simp at hk;omega)
  have hts:0<ts.length:=by rw [e];simp
  refine ⟨r' :: rs,?_,by rw [List.map_cons,List.map_cons,h2,h4]⟩
  rw [progF,if_pos (by omega),sign_is g0,name_sign hn (by decide),if_neg (by decide),h1]
  simp only [Sy.PR.bind_ok]
  rw [must_ok g46]
  simp only [Sy.PR.bind_ok]
  rw [h3]
  simp
theorem rels_read {ys:List Rul} {s2:List (List Nat)} {t2:List (List Tok)} (hU:Al3 PU ys s2 t2) {xs:List Rel} {ss:List (List Nat)} {tss:List (List Tok)} (h:Al3 PD xs ss tss):∀ (v:Env) (i k:Nat) (R:List Rel),At v i (tss.flatMap DOT++t2.flatMap DOT)->i+(tss.flatMap DOT++t2.flatMap DOT).length=v.ws.length->tss.length+t2.length<k ->
  ∃ q rs,progF v k ⟨R,[]⟩ i=.ok ⟨R++q,rs⟩ v.ws.length/\q.map bareR=xs.map bareR/\rs.map bareU=ys.map bareU:=by
 induction h with
 | nil =>
  intro v i k R ha hl hk
  simp only [List.flatMap_nil,List.nil_append] at ha hl
  obtain ⟨rs,h1,h2⟩:=rules_read hU v i k R [] ha hl (by simp at hk;omega)
  exact ⟨[],rs,by rw [h1];simp,rfl,h2⟩
 | @cons a s ts xs ss tss h t ih =>
  intro v i k R ha hl hk
  obtain ⟨k,rfl⟩:∃ m,k=m+1:=⟨k - 1,by simp at hk;omega⟩
  rw [List.flatMap_cons] at ha hl
  have hd:DOT ts=ts++[tM [46]]:=rfl
  rw [hd,List.append_assoc,List.append_assoc] at ha hl
  have g46:sh (v.tk (i+ts.length))=sh (tM [46]):=ha.right.head
  obtain ⟨hs,x',h1,h2⟩:=h.read v i ha.left
  have a2:At v (i+ts.length+1) (tss.flatMap DOT++t2.flatMap DOT):=ha.right.tail
  simp only [List.length_append,List.length_cons,List.length_nil] at hl
  obtain ⟨q,rs,h3,h4,h5⟩:=ih v (i+ts.length+1) k (R++[x']) a2 (by rw [List.length_append];omega) (by simp at hk;omega)
  refine ⟨x' :: q,rs,?_,by rw [List.map_cons,List.map_cons,h2,h4],h5⟩
  rw [progF,if_pos (by omega),if_pos hs,h1]
  simp only [Sy.PR.bind_ok]
  rw [must_ok g46]
  simp only [Sy.PR.bind_ok]
  rw [h3]
  simp
def PgO (p:Prog):Prop:=∀ r∈p.rules,RuO r
theorem at_all {v:Env} {ts:List Tok} (h:v.ws.map sh=ts.map sh):At v 0 ts/\ts.length=v.ws.length:=by
 have hl:v.ws.length=ts.length:=by simpa using congrArg List.length h
 refine ⟨⟨by omega,fun j hj=>?_⟩,hl.symm⟩
 have:=congrArg (fun l=>l[j]?) h
 simp only [List.getElem?_map] at this
 rw [List.getElem?_eq_getElem (by omega:j<v.ws.length),List.getElem?_eq_getElem hj] at this
 simp only [Option.map_some,Option.some.injEq] at this
 unfold Env.tk
 rw [Nat.zero_add,List.getD_eq_getElem?_getD,List.getElem?_eq_getElem (by omega:j<v.ws.length)]
 exact this
theorem bl_ten:Lx.Bl [10]:=rfl
theorem prog_back {p:Prog} {s:List Nat} (hO:PgO p) (h:pP p=some s) (hb:∀ c∈s,c<256) (hl:s.length<=65536):∃ q j,Sy.whole (Sy.envOf s) (Sy.prog (Sy.envOf s))=.ok q j/\bareP q=bareP p:=by
 obtain ⟨rels,rules⟩:=p
 unfold pP at h
 simp only at h
 cases ha:seqO (rels.map pD) with
 | none=>rw [ha] at h;simp at h
 | some sa =>
  cases hr:seqO (rules.map pR) with
  | none=>rw [ha,hr] at h;simp at h
  | some sb =>
   rw [ha,hr] at h
   simp only [Option.some.injEq] at h
   obtain ⟨ta,hta⟩:=seqO_all (Q:=PD) rels sa (fun x _ s hs=>rel_it hs) ha
   obtain ⟨tb,htb⟩:=seqO_all (Q:=PU) rules sb (fun x hx s hs=>rule_it (hO x hx) hs) hr
   -- the words
   have key:(Sy.envOf s).ws.map sh=(ta.flatMap DOT++tb.flatMap DOT).map sh/\(Sy.envOf s).last.1=42:=by
    have done:∀ ts,Ln s ts->(Sy.envOf s).ws.map sh=ts.map sh/\(Sy.envOf s).last.1=42:=by
     intro ts hLn
     obtain ⟨s',hs',-,-,hx⟩:=hLn.out
     obtain ⟨toks,q,h1,h2⟩:=hx [10] (1,1) rfl
     rw [<-hs'] at h1
     obtain ⟨g1,g2⟩:=Lx.given_of_sq h1 hb bl_ten hl
     exact ⟨by show (Lx.given s).1.map sh=_;rw [g1,h2],by unfold Sy.envOf;simp only;rw [if_pos g2]⟩
    have la:=fun h0=>lines_ln (fun _ _ _ (h:PD _ _ _)=>⟨h.ne,h.txt⟩) hta h0
    have lb:=fun h0=>lines_ln (fun _ _ _ (h:PU _ _ _)=>⟨h.ne,h.txt⟩) htb h0
    subst h
    by_cases h1:rels=[]
    ·subst h1
     cases hta
     by_cases h2:rules=[]
     ·subst h2
      cases htb
      exact ⟨rfl,rfl⟩
     ·have:=done _ (lb h2)
      simpa [lines] using this
    ·by_cases h2:rules=[]
     ·subst h2
      cases htb
      have:=done _ (by simpa [lines] using la h1)
      simpa using this
     ·exact done _ (Ln.app (la h1) (lb h2))
   obtain ⟨k1,k2⟩:=at_all key.1
   obtain ⟨q,rs,h3,h4,h5⟩:=rels_read htb hta (Sy.envOf s) 0 ((Sy.envOf s).ws.length+1) [] k1 (by rw [Nat.zero_add,k2]) (by
    have l1:∀ (t:List (List Tok)),t.length<=(t.flatMap DOT).length:=by
     intro t
     induction t with
     | nil=>simp
     | cons a r ih=>simp only [List.flatMap_cons,List.length_append,List.length_cons,DOT] at ih ⊢;simp only [List.length_nil];omega
    have:=l1 ta;have:=l1 tb
    rw [List.length_append] at k2
    omega)
   refine ⟨⟨q,rs⟩,(Sy.envOf s).ws.length,?_,by unfold bareP;simp only [h4,h5]⟩
   unfold Sy.whole Sy.prog
   rw [h3]
   simp only [Sy.PR.bind_ok,List.nil_append]
   rw [if_neg (by rw [key.2];omega)]
/-- words of a text that stands alone -/
theorem alone {s:List Nat} {ts:List Tok} (h:Tx brk s ts) (hb:∀ c∈s,c<256) (hl:s.length<=65536):(Sy.envOf s).ws.map sh=ts.map sh/\(Sy.envOf s).last.1=42:=by
 obtain ⟨toks,q,h1,h2⟩:=h [] (1,1) rfl
 rw [List.append_nil] at h1
 obtain ⟨g1,g2⟩:=Lx.given_of_sq h1 hb rfl hl
 exact ⟨by show (Lx.given s).1.map sh=_;rw [g1,h2],by unfold Sy.envOf;simp only;rw [if_pos g2]⟩
/-- a rule's text alone -/
theorem rule_back {r:Rul} {s:List Nat} (hO:RuO r) (h:pR r=some s) (hb:∀ c∈s,c<256) (hl:s.length<=65536):∃ r' j,Sy.whole (Sy.envOf s) (Sy.rule (Sy.envOf s))=.ok r' j/\bareU r'=bareU r:=by
 obtain ⟨ts,hp⟩:=rule_it hO h
 obtain ⟨k,kl⟩:=alone hp.txt hb hl
 obtain ⟨k1,k2⟩:=at_all k
 have hend:(Sy.envOf s).tk (0+ts.length)=Sy.zT:=by
  unfold Env.tk
  rw [List.getD_eq_getElem?_getD,List.getElem?_eq_none (by omega)]
  rfl
 obtain ⟨r',h1,h2⟩:=hp.read (Sy.envOf s) 0 k1 (by rw [hend];exact ⟨by decide,by decide,by decide⟩)
 refine ⟨r',0+ts.length,?_,h2⟩
 unfold Sy.whole
 rw [h1]
 simp only [Sy.PR.bind_ok]
 rw [if_neg (by rw [kl];omega)]
end Go.Proofs.YtohnmnfhmbmoaaaGreatDoor.Rt
namespace Go.Proofs.YtohnmnfhmbmoaaaGreatDoor.Lx
set_option linter.unusedVariables false
set_option linter.unusedSimpArgs false
end Go.Proofs.YtohnmnfhmbmoaaaGreatDoor.Lx
namespace Go.Proofs.YtohnmnfhmbmoaaaGreatDoor.Rt
open Lx (Tok Sq)
open Sy (sh Sh Env PR sign plain level txt must bodyF bodyOf litF aggOf expr exprF chainF constant operand fnOf cmpOf tyOf bareL ex0 at0 progF)
open Pr (Ex Li Atom Term Rul Rel Prog seqO commas pL pE pO pT pA pR pD pP pB binds strength)
open Cod (str)
set_option linter.unusedVariables false
set_option linter.unusedSimpArgs false
theorem pE_mono:∀ (k:Nat) (e:Ex) (s:List Nat),pE k e=some s->∀ m,k<=m->pE m e=some s:=by
 intro k
 induction k using Nat.strongRecOn with
 | ind k ih =>
 intro e s h m hm
 cases k with
 | zero=>unfold pE at h;cases h
 | succ k =>
 obtain ⟨m,rfl⟩:∃ q,m=q+1:=⟨m - 1,by omega⟩
 by_cases h1:e.k=1
 ·rw [Pr.pE_var _ _ h1] at h ⊢;exact h
 by_cases h2:e.k=2
 ·rw [Pr.pE_val _ _ h2] at h ⊢;exact h
 by_cases h4:e.k=4
 ·rw [Pr.pE_op _ _ h4] at h ⊢
  by_cases hc:e.v.size=0/\e.x=Va.zero/\0<strength e.op
  ·rw [if_pos hc] at h ⊢
   cases k with
   | zero=>unfold pO at h;cases h
   | succ j =>
    obtain ⟨q,rfl⟩:∃ q,m=q+1:=⟨m - 1,by omega⟩
    have br:∀ (c:Prop) [Decidable c] (a:Ex) (f:List Nat->List Nat) (s:List Nat),(if c then (pE j a).map f else pE (j+1) a)=some s->(if c then (pE q a).map f else pE (q+1) a)=some s:=by
     intro c _ a f s hx
     split at hx
     ·rename_i hc
      rw [if_pos hc]
      obtain ⟨t,ht,rfl⟩:=Option.map_eq_some_iff.1 hx
      rw [ih j (by omega) a t ht q (by omega)]
      rfl
     ·rename_i hc
      rw [if_neg hc]
      exact ih (j+1) (by omega) a s hx (q+1) (by omega)
    clear hc h1 h2 h4
    obtain ⟨ek,ev,ex,op,args⟩:=e
    rcases args with _ | ⟨a,_ | ⟨b,_ | ⟨c,r⟩⟩⟩
    ·rw [pO_nil] at h;cases h
    ·rw [pO_one] at h ⊢
     by_cases h6:op=6
     ·rw [if_pos h6] at h ⊢
      obtain ⟨t,ht,rfl⟩:=Option.map_eq_some_iff.1 h
      rw [br _ _ _ _ ht]
      rfl
     ·rw [if_neg h6] at h;cases h
    ·rw [pO_two] at h ⊢
     by_cases h6:op=6
     ·rw [if_pos h6] at h;cases h
     ·rw [if_neg h6] at h ⊢
      generalize hX:(if binds a<strength op then (pE j a).map (fun t=>40 :: (t++[41])) else pE (j+1) a)=X at h
      generalize hY:(if binds b<=strength op then (pE j b).map (fun t=>40 :: (t++[41])) else pE (j+1) b)=Y at h
      cases X with
      | none=>cases h
      | some x =>
       cases Y with
       | none=>cases h
       | some y =>
        rw [br _ _ _ _ hX,br _ _ _ _ hY]
        exact h
    ·rw [pO_more] at h;cases h
  ·rw [if_neg hc] at h;cases h
 ·rw [Pr.pE_other _ _ h1 h2 h4] at h;cases h
/-- it can be written, with that depth -/
def Can (k:Nat) (e:Ex):Prop:=∃ s,pE k e=some s
theorem Can.mono {k m:Nat} {e:Ex} (h:Can k e) (hm:k<=m):Can m e:=h.imp (fun s hs=>pE_mono k e s hs m hm)
structure J (line:Nat) (e:Ex) (d:Nat):Prop where
 can:Can (d+1) e
 brk:binds e<line->Can d e
open Sy (sh Sh Env PR sign plain level txt must bodyF bodyOf litF aggOf expr exprF chainF constant fnOf cmpOf tyOf bareL bareU bareR bareP ex0 at0 progF)
open Pr (Ex Li Atom Term Rul Rel Prog seqO commas pL pE pT pA pR pD pP pB)
/-- a value of bytes, a number of 64 bits -/
structure VO (x:Va.Val):Prop where
 byte:∀ c∈x.s,c<256
 lo:-9223372036854775808<=x.n
 hi:x.n<=9223372036854775807
inductive ExV:Ex->Prop
 | mk {k:Int} {v:ByteArray} {x:Va.Val} {op:Int} {args:List Ex} (hx:VO x) (h:∀ a∈args,ExV a):ExV (.mk k v x op args)
inductive LiV:Li->Prop
 | mk {k:Int} {a:Atom} {op:Int} {l r:Ex} {fn:Int} {av:ByteArray} {of:Ex} {body:List Li} {ln cl:Int} (ha:∀ t∈a.terms,VO t.x) (hl:ExV l) (hr:ExV r) (ho:ExV of) (hb:∀ x∈body,LiV x):LiV (.mk k a op l r fn av of body ln cl)
def RuV (r:Rul):Prop:=(∀ t∈r.head.terms,VO t.x)/\∀ x∈r.body,LiV x
def PgV (p:Prog):Prop:=∀ r∈p.rules,RuV r
theorem ExV.o {e:Ex} (h:ExV e):ExO e:=by
 induction h with
 | mk hx h ih=>exact .mk hx.byte ih
theorem LiV.o {e:Li} (h:LiV e):LiO e:=by
 induction h with
 | mk ha hl hr ho hb ih=>exact .mk (fun t ht=>(ha t ht).byte) hl.o hr.o ho.o ih
theorem PgV.o {p:Prog} (h:PgV p):PgO p:=fun r hr=>⟨fun t ht=>((h r hr).1 t ht).byte,fun x hx=>((h r hr).2 x hx).o⟩
end Go.Proofs.YtohnmnfhmbmoaaaGreatDoor.Rt
namespace Go.Proofs.YtohnmnfhmbmoaaaGreatDoor
open Go.RowKit
set_option linter.unusedVariables false
set_option linter.unusedSimpArgs false
theorem Rt.VO.ok {x:Va.Val} (h:Rt.VO x):x.Ok:=⟨h.byte,h.lo,h.hi⟩
theorem ExAt.cells {w:World} {b o:Nat} {e:Pr.Ex} {u:Value} (h:CellsAt w b o (exV e u)):ExAt w b o e u :=
 ⟨h 0 _ rfl,h 1 _ rfl,h 2 _ rfl,h 3 _ rfl,h 4 _ rfl,h 5 _ rfl,h 6 _ rfl⟩
theorem TmAt.cells {w:World} {b o:Nat} {t:Pr.Term} (h:CellsAt w b o (tmV t)):TmAt w b o t :=
 ⟨h 0 _ rfl,h 1 _ rfl,h 2 _ rfl,h 3 _ rfl,h 4 _ rfl⟩
theorem EB.eok {F:Nat->Prop} {w:World} {e:Pr.Ex} {u:Value} (h:EB F w e u) (hv:Rt.ExV e):EOk w e u:=by
 induction h with
 | nil=>cases hv with | mk hx ha=>exact .nil hx.ok
 | row hF hb h1 h2 ih =>
  cases hv with
  | mk hx ha=>exact .row hx.ok (fun i h=>ExAt.cells (h1 i h)) (fun i h=>ih i h (ha _ (List.getElem_mem h)))
theorem RowB.tok {F:Nat->Prop} {w:World} {ts:List Pr.Term} {u:Value} (h:RowB F w 5 tmV ts u) (hv:∀ t∈ts,Rt.VO t.x):TOk w ts u:=by
 cases h with
 | nil=>exact .nil
 | row hF hb h1 hc=>exact .row (fun i h=>TmAt.cells (h1 i h)) (fun i h=>(hv _ (List.getElem_mem h)).ok)
theorem LB.lok {F:Nat->Prop} {w:World} {e:Pr.Li} {U:LU} (h:LB F w e U) (hv:Rt.LiV e):LOk w e U:=by
 induction h with
 | @mk k a op l r fn av of body ln cl U ub cb us ht hl hr ho hb h1 h2 hc ih =>
  cases hv with
  | mk va vl vr vo vb =>
   rcases body with _ | ⟨x,rest⟩
   ·exact .nil (ht.tok va) (hl.eok vl) (hr.eok vr) (ho.eok vo) hb
   ·obtain ⟨g,off,rfl,-,-,-⟩:=h1 0 (by simp)
    refine .row (ht.tok va) (hl.eok vl) (hr.eok vr) (ho.eok vo) hb (fun i h=>?_) (fun i h=>ih i h (vb _ (List.getElem_mem h)))
    obtain ⟨g',off',e,-,-,hc⟩:=h1 i h
    cases e
    exact hc
theorem BB.bok {F:Nat->Prop} {w:World} {body:List Pr.Li} {u:Value} (h:BB F w body u) (hv:∀ x∈body,Rt.LiV x):BOk w body u:=by
 obtain ⟨ub,cb,us,rfl,h1,h2,-⟩:=h
 rcases body with _ | ⟨x,rest⟩
 ·exact .inl ⟨rfl,_,_,rfl⟩
 ·obtain ⟨g,off,rfl,-,-,-⟩:=h1 0 (by simp)
  refine .inr ⟨g,off,cb,us,rfl,fun i h=>?_,fun i h=>(h2 i h).lok (hv _ (List.getElem_mem h))⟩
  obtain ⟨g',off',e,-,-,hc⟩:=h1 i h
  cases e
  exact hc
theorem RowB.yok {F:Nat->Prop} {w:World} {ts:List Int} {u:Value} (h:RowB F w 1 intC ts u):YOk w ts u:=by
 cases h with
 | nil=>exact .nil
 | row hF hb h1 hc =>
  refine .row (fun i h=>?_)
  have:=h1 i h 0 (.int .i64 ts[i]) rfl
  simpa using this
/-- a program that was read: Program_any's hypotheses -/
theorem PgB.ok {F:Nat->Prop} {w:World} {p:Pr.Prog} {x:Value} (h:PgB F w p x) (hv:Rt.PgV p):∃ du ru,x=.agg #[du,ru]/\DsOk w p.rels du/\RsOk w p.rules ru:=by
 obtain ⟨rels,rus,u1,u2,rfl,rfl,h1,h2,h3,h4⟩:=h
 refine ⟨u1,u2,rfl,?_,?_⟩
 ·show DsOk w (rels.map (·.1)) u1
  cases h1 with
  | nil=>exact .nil
  | @row _ b off c hF hb hc hcap =>
   have:DsOk w (rels.map (·.1)) (.slice (some ⟨b,off,none⟩) (rels.map (·.1)).length c):=by
    refine .row (us:=fun i=>(rels.map (·.2)).getD i (.int .i64 0)) (fun i h=>?_) (fun i h=>?_)
    ·have hi:i<rels.length:=by simpa using h
     have:=hc i hi
     simp only [List.getElem_map,List.getD_eq_getElem?_getD,List.getElem?_map,List.getElem?_eq_getElem hi,Option.map_some,Option.getD_some]
     exact this
    ·have hi:i<rels.length:=by simpa using h
     simp only [List.getElem_map,List.getD_eq_getElem?_getD,List.getElem?_map,List.getElem?_eq_getElem hi,Option.map_some,Option.getD_some]
     exact RowB.yok (h3 _ (List.getElem_mem hi))
   simpa using this
 ·show RsOk w (rus.map (·.1)) u2
  have hv2:∀ q∈rus,Rt.RuV q.1:=fun q hq=>hv q.1 (List.mem_map.2 ⟨q,hq,rfl⟩)
  cases h2 with
  | nil=>exact .nil
  | @row _ b off c hF hb hc hcap =>
   have:RsOk w (rus.map (·.1)) (.slice (some ⟨b,off,none⟩) (rus.map (·.1)).length c):=by
    refine .row (ts:=fun i=>(rus.map (·.2.1)).getD i (.int .i64 0)) (us:=fun i=>(rus.map (·.2.2)).getD i (.int .i64 0)) (fun i h=>?_) (fun i h=>?_) (fun i h=>?_)
    ·have hi:i<rus.length:=by simpa using h
     have:=hc i hi
     simp only [List.getElem_map,List.getD_eq_getElem?_getD,List.getElem?_map,List.getElem?_eq_getElem hi,Option.map_some,Option.getD_some]
     exact this
    ·have hi:i<rus.length:=by simpa using h
     simp only [List.getElem_map,List.getD_eq_getElem?_getD,List.getElem?_map,List.getElem?_eq_getElem hi,Option.map_some,Option.getD_some]
     exact (h4 _ (List.getElem_mem hi)).1.tok (hv2 _ (List.getElem_mem hi)).1
    ·have hi:i<rus.length:=by simpa using h
     simp only [List.getElem_map,List.getD_eq_getElem?_getD,List.getElem?_map,List.getElem?_eq_getElem hi,Option.map_some,Option.getD_some]
     exact (h4 _ (List.getElem_mem hi)).2.bok (hv2 _ (List.getElem_mem hi)).2
   simpa using this
set_option maxRecDepth 100000
def xOne:Pr.Ex:=.mk 2 ⟨#[]⟩ ⟨1,1,[]⟩ 0 []
def xName (s:ByteArray):Pr.Ex:=.mk 1 s Va.zero 0 []
def xNeg:Pr.Ex:=.mk 4 ⟨#[]⟩ Va.zero 6 [xOne]
def xAdd:Pr.Ex:=.mk 4 ⟨#[]⟩ Va.zero 1 [xName { data:=#[89] },xOne]
def xMul:Pr.Ex:=.mk 4 ⟨#[]⟩ Va.zero 3 [xName { data:=#[88] },xAdd]
def xProg:Pr.Prog:=⟨[⟨{ data:=#[112] },[1,2],0,0⟩],[⟨⟨{ data:=#[113] },[]⟩,[],0,0⟩]⟩
def xSum:Pr.Atom:=⟨{ data:=#[115,117,109] },[]⟩
theorem text_one:Va.text ⟨1,1,[]⟩=[49]:=by
 unfold Va.text Va.itoa Lib.itoa
 rw [if_pos rfl,if_neg (by decide)]
 simp [Lib.decDigits]
theorem pE_one (k:Nat):Pr.pE (k+1) xOne=some [49]:=by
 rw [Pr.pE_val _ _ rfl]
 show (if _ then some (Va.text ⟨1,1,[]⟩) else none)=_
 rw [text_one]
 decide
theorem pE_X (k:Nat) (s:ByteArray) (h:Va.variable_ (Cod.str s)=true):Pr.pE (k+1) (xName s)=some (Cod.str s):=by
 rw [Pr.pE_var _ _ rfl]
 exact if_pos ⟨h,rfl,rfl,rfl⟩
theorem pE_neg:Pr.pE 17 xNeg=some [45,40,49,41]:=by
 rw [Pr.pE_op _ _ rfl]
 show (if _ then Pr.pO 16 xNeg else none)=_
 rw [if_pos (by decide)]
 have:Pr.pO 16 xNeg=(if Pr.binds xOne<3\/(xOne.k=2/\xOne.x.k=1/\0<xOne.x.n) then (Pr.pE 15 xOne).map (fun t=>40 :: (t++[41])) else Pr.pE 16 xOne).map
     (fun t=>45 :: ((if xOne.k=2/\xOne.x.k=1/\xOne.x.n=0 then [45] else [])++t)):=by rfl
 rw [this,if_pos (show Pr.binds xOne<3\/(xOne.k=2/\xOne.x.k=1/\0<xOne.x.n) by decide),if_neg (show ¬ (xOne.k=2/\xOne.x.k=1/\xOne.x.n=0) by decide),pE_one]
 rfl
theorem pE_add (k:Nat):Pr.pE (k+2) xAdd=some [89,32,43,32,49]:=by
 rw [Pr.pE_op _ _ rfl,if_pos (by decide)]
 show Pr.pO (k+1) (.mk 4 _ _ 1 [xName { data:=#[89] },xOne])=_
 rw [pO_two _ _ _ _ _ _ _ (by decide),if_neg (by decide),if_neg (by decide),pE_X _ _ (by decide),pE_one]
 rfl
theorem pE_mul:Pr.pE 17 xMul=some [88,32,42,32,40,89,32,43,32,49,41]:=by
 rw [Pr.pE_op _ _ rfl,if_pos (by decide)]
 show Pr.pO (15+1) (.mk 4 _ _ 3 [xName { data:=#[88] },xAdd])=_
 rw [pO_two _ _ _ _ _ _ _ (by decide),if_neg (by decide),if_pos (by decide),pE_X _ _ (by decide),pE_add]
 rfl
theorem pP_prog:Pr.pP xProg=some [114,101,108,97,116,105,111,110,32,112,40,110,117,109,44,32,115,121,109,41,46,10,113,40,41,46,10]:=by
 have h1:Pr.pD ⟨{ data:=#[112] },[1,2],0,0⟩=some [114,101,108,97,116,105,111,110,32,112,40,110,117,109,44,32,115,121,109,41]:=by decide
 have h2:Pr.pA ⟨{ data:=#[113] },[]⟩=some [113,40,41]:=by decide
 have h3:Pr.pR ⟨⟨{ data:=#[113] },[]⟩,[],0,0⟩=some [113,40,41]:=by rw [pR_eq];rw [h2];rfl
 unfold Pr.pP xProg
 simp only [List.map_cons,List.map_nil,h1,h3]
 rfl
theorem pA_sum:Pr.pA xSum=none:=by decide
end Go.Proofs.YtohnmnfhmbmoaaaGreatDoor
