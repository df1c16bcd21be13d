/- THE TEXTS MERGED: PkGood PkLit PkSame. -/
import Derived.Test.YtbfaclljbbfknaaGreatDoorKP31
namespace Go.Proofs.YtbfaclljbbfknaaGreatDoor.Pk
open Lx (Tok)
open Pr (Ex strength binds pE pO)
open Sy (sign sh)
open Rt
open Cod (str)
set_option linter.unusedVariables false
set_option linter.unusedSimpArgs false
theorem goes_flt {l:List Nat} (h:Lx.run Lx.goes l=l.length):flt l:=by
 induction l with
 | nil=>intro c hc;cases hc
 | cons c r ih =>
  rw [Lx.run_cons] at h
  split at h
  ·rename_i hc
   intro x hx
   rcases List.mem_cons.1 hx with rfl | hx
   ·unfold Lx.goes Lx.small Lx.capital Lx.digit at hc
    simp only [Bool.or_eq_true,Bool.and_eq_true,decide_eq_true_eq,beq_iff_eq] at hc
    omega
   ·exact ih (by simpa using h) x hx
  ·simp at h
theorem dig_flt (u:Nat):flt (dig u):=by
 intro c hc
 have:=(dig_num u).2 c hc
 unfold Lx.digit at this
 simp only [Bool.and_eq_true,decide_eq_true_eq] at this
 omega
theorem flt_cons {c:Nat} {r:List Nat} (h:c≠34/\c≠40/\c≠41) (hr:flt r):flt (c :: r):=by
 intro x hx
 rcases List.mem_cons.1 hx with rfl | hx
 ·exact h
 ·exact hr x hx
theorem flt_nil:flt []:=fun c h=>by cases h
/-- within quotes -/
structure Inq (u:List Nat):Prop where
 rn:run 1 u=1
 op:∀ i,opn 1 i u=[]
 cl:∀ (d:Int) (i:Nat) (r:List Nat),clo 1 d i (u++r)=clo 1 d (i+u.length) r
theorem Inq.app {a b:List Nat} (ha:Inq a) (hb:Inq b):Inq (a++b) :=
 ⟨by rw [run_app,ha.rn,hb.rn],fun i=>by rw [opn_app,ha.op,ha.rn,hb.op];rfl,fun d i r=>by
  rw [List.append_assoc,ha.cl,hb.cl];congr 1;simp only [List.length_append];omega⟩
theorem Inq.nil:Inq []:=⟨rfl,fun _=>rfl,fun _ _ _=>rfl⟩
theorem inq_one {c:Nat} (h:c≠34/\c≠92):Inq [c]:=by
 have e:st 1 c=1:=by unfold st;rw [if_neg (by decide),if_pos rfl,if_neg h.2,if_neg h.1]
 refine ⟨e,fun i=>?_,fun d i r=>?_⟩
 ·rw [opn,if_neg (by simp)];rfl
 ·show clo 1 d i (c :: r)=_
  rw [clo,if_neg (by simp),if_neg (by simp),e]
  rfl
theorem inq_two (c:Nat):Inq [92,c]:=by
 have e:st 1 92=2:=by decide
 have e2:st 2 c=1:=by unfold st;rw [if_neg (by decide),if_neg (by decide)]
 refine ⟨e2,fun i=>?_,fun d i r=>?_⟩
 ·rw [opn,if_neg (by simp),e,opn,if_neg (by simp)];rfl
 ·show clo 1 d i (92 :: c :: r)=_
  rw [clo,if_neg (by simp),if_neg (by simp),e,clo,if_neg (by simp),if_neg (by simp),e2]
  rfl
theorem inq_qb {c:Nat} (hc:c<256):Inq (Va.qb c):=by
 unfold Va.qb
 split
 ·exact inq_two c
 ·rename_i h1
  split
  ·exact inq_two 110
  ·split
   ·have hh:∀ n,n<16->Va.hexd n≠34/\Va.hexd n≠92:=fun n hn=>by unfold Va.hexd;split <;> omega
    exact (inq_two 120).app ((inq_one (hh _ (by omega))).app (inq_one (hh _ (by omega))))
   ·exact inq_one (by omega)
theorem inq_qbs:∀ (l:List Nat),(∀ c∈l,c<256)->Inq (l.flatMap Va.qb)
 | [],_=>Inq.nil
 | c :: r,h=>by
  rw [List.flatMap_cons]
  exact (inq_qb (h c (by simp))).app (inq_qbs r (fun x hx=>h x (by simp [hx])))
theorem quoted_good {l:List Nat} (hb:∀ c∈l,c<256) (h64:l.length<=64):Good (Va.quoted l) 0:=by
 have h:=inq_qbs l hb
 have e0:st 0 34=1:=by decide
 have e1:st 1 34=0:=by decide
 refine Good.leaf (by unfold Va.quoted;simp) (tx_quo hb h64).toBrk rfl ?_ ?_ (fun d i r hd=>?_)
 ·show run (st 0 34) (l.flatMap Va.qb++[34])=0
  rw [e0,run_app,h.rn];exact e1
 ·show opn 0 0 (34 :: (l.flatMap Va.qb++[34]))=[]
  rw [opn,if_neg (by simp),e0,opn_app,h.op,h.rn]
  rfl
 ·show clo 0 d i (34 :: ((l.flatMap Va.qb++[34])++r))=_
  rw [clo,if_neg (by simp),if_neg (by simp),e0,List.append_assoc,h.cl]
  show clo 1 d (i+1+(l.flatMap Va.qb).length) (34 :: r)=_
  rw [clo,if_neg (by simp),if_neg (by simp),e1]
  congr 1
  unfold Va.quoted
  simp
  omega
theorem val_good {x:Va.Val} (h:Va.may x=true) (hb:∀ c∈x.s,c<256):Good (Va.text x) 0:=by
 obtain ⟨t1,t2,t3⟩:=val_txt h hb
 have hc:cnt (tx x)=0:=by
  unfold tx
  split
  ·split <;> simp [cnt,sign,tM,tD]
  ·split
   ·rename_i hn
    unfold Va.name at hn
    simp only [Bool.and_eq_true] at hn
    have hp:=(name_parts hn.2).2.2.1
    show List.countP _ [tN x.s]=0
    rw [List.countP_eq_zero]
    intro t ht
    rw [Msq] at ht
    subst ht
    unfold sign tN
    simp only [Bool.and_eq_true,decide_eq_true_eq,not_and]
    intro he
    rw [he] at hp
    simp [Lx.small] at hp
   ·rfl
 unfold Va.text at t1 t2 ⊢
 rcases may_cases h with ⟨h1,h2,h3,h4⟩ | ⟨h1,h2,h3⟩
 ·rw [if_pos h1] at t1 t2 ⊢
  refine Good.neu t2 t1 hc ?_
  rw [itoa_eq]
  split
  ·exact flt_cons (by decide) (dig_flt _)
  ·exact dig_flt _
 ·have hk:¬ x.k=1:=by omega
  rw [if_neg hk] at t1 t2 ⊢
  by_cases hn:Va.name x.s=true
  ·rw [if_pos hn] at t1 t2 ⊢
   unfold Va.name at hn
   simp only [Bool.and_eq_true] at hn
   exact Good.neu t2 t1 hc (goes_flt (name_parts hn.2).2.2.2)
  ·rw [if_neg hn]
   exact quoted_good hb h3
theorem minus_flt:flt [45]:=flt_cons (by decide) flt_nil
theorem Good.neg {b:List Nat} {m:Nat} (hb:Good b m):Good (45 :: b) m :=
 Good.pre (u:=[45]) (tu:=[tM [45]]) hb minus_flt rfl (fun y ty hy ht=>Tx.app (a:=[45]) (ts:=[tM [45]]) (tx_minus any) ht hy rfl)
/-- the text of an expression -/
theorem pE_good:∀ (k:Nat) (e:Ex) (s:List Nat),ExO e->pE k e=some s->Good s (lpE e):=by
 intro k
 induction k using Nat.strongRecOn with
 | ind k ih =>
  intro e s ho hp
  cases k with
  | zero=>simp [pE] at hp
  | succ k =>
   obtain ⟨k0,v0,x0,op0,args0⟩:=e
   cases ho with
   | mk hx hargs =>
   by_cases h1:k0=1
   ·rw [Pr.pE_var k (.mk k0 v0 x0 op0 args0) h1] at hp
    split at hp
    ·rename_i hc
     simp only [Option.some.injEq] at hp
     obtain ⟨c1,c2,c3,c4⟩:=hc
     simp only [Ex.x,Ex.op,Ex.args,Ex.v] at c1 c2 c3 c4 hp
     have c5:=List.eq_nil_of_length_eq_zero c4
     subst c5 hp
     rw [lp_leaf]
     obtain ⟨p1,-,-,p4⟩:=name_parts (p:=Lx.capital) c1
     refine Good.neu p1 (tx_var c1) ?_ (goes_flt p4)
     show List.countP _ [tV (str v0)]=0
     rw [List.countP_eq_zero]
     intro t ht
     rw [Msq] at ht
     subst ht
     simp [sign,tV]
    ·cases hp
   ·by_cases h2:k0=2
    ·rw [Pr.pE_val k (.mk k0 v0 x0 op0 args0) h2] at hp
     split at hp
     ·rename_i hc
      simp only [Option.some.injEq] at hp
      obtain ⟨c1,c2,c3,c4⟩:=hc
      simp only [Ex.x,Ex.op,Ex.args,Ex.v] at c1 c2 c3 c4 hp
      have c5:=List.eq_nil_of_length_eq_zero c3
      subst c5 hp
      rw [lp_leaf]
      exact val_good c4 hx
     ·cases hp
    ·by_cases h4:k0=4
     ·rw [Pr.pE_op k (.mk k0 v0 x0 op0 args0) h4] at hp
      split at hp
      ·rename_i hc
       obtain ⟨c1,c2,c3⟩:=hc
       simp only [Ex.x,Ex.op,Ex.v] at c1 c2 c3
       subst h4
       cases k with
       | zero=>simp [pO] at hp
       | succ j =>
        match args0,hargs,hp with
        | [],_,hp=>rw [Rt.pO_nil] at hp;cases hp
        | [a],hargs,hp =>
         rw [Rt.pO_one] at hp
         by_cases h6:op0=6
         ·subst h6
          rw [if_pos rfl] at hp
          obtain ⟨t,ht,rfl⟩:=Option.map_eq_some_iff.1 hp
          rw [lp_one]
          by_cases hB:binds a<3\/(a.k=2/\a.x.k=1/\0<a.x.n)
          ·rw [if_pos hB] at ht
           have hZ:¬ (a.k=2/\a.x.k=1/\a.x.n=0):=by
            rintro ⟨z1,z2,z3⟩
            rcases hB with hB | ⟨_,_,hB⟩
            ·unfold binds at hB
             rw [if_neg (by omega)] at hB
             omega
            ·omega
           rw [if_neg hZ]
           obtain ⟨t',h1,rfl⟩:=Option.map_eq_some_iff.1 ht
           rw [show o1 (binds a<3\/pos a)=1 from if_pos hB]
           exact (ih j (by omega) a t' (hargs a (by simp)) h1).brk.neg
          ·rw [if_neg hB] at ht
           rw [show o1 (binds a<3\/pos a)=0 from if_neg hB,Nat.add_zero]
           have hA:=ih (j+1) (by omega) a t (hargs a (by simp)) ht
           by_cases hZ:a.k=2/\a.x.k=1/\a.x.n=0
           ·rw [if_pos hZ];exact hA.neg.neg
           ·rw [if_neg hZ];exact hA.neg
         ·rw [if_neg h6] at hp
          cases hp
        | [a,b],hargs,hp =>
         rw [Rt.pO_two] at hp
         by_cases h6:op0=6
         ·rw [if_pos h6] at hp
          cases hp
         ·rw [if_neg h6] at hp
          obtain ⟨hop,hs⟩:=strength_cases c3 h6
          split at hp
          ·rename_i l r hl hr
           simp only [Option.some.injEq] at hp
           subst hp
           have arg:∀ (a:Ex) (q:Prop) [Decidable q] (t:List Nat),ExO a->(if q then (pE j a).map (fun t=>40 :: (t++[41])) else pE (j+1) a)=some t->Good t (lpE a+o1 q):=by
            intro a q _ t ha hm
            by_cases hq:q
            ·rw [if_pos hq] at hm
             obtain ⟨t',h1,rfl⟩:=Option.map_eq_some_iff.1 hm
             rw [show o1 q=1 from if_pos hq]
             exact (ih j (by omega) a t' ha h1).brk
            ·rw [if_neg hq] at hm
             rw [show o1 q=0 from if_neg hq]
             exact ih (j+1) (by omega) a t ha hm
           have hA:=arg a _ l (hargs a (by simp)) hl
           have hB:=arg b _ r (hargs b (by simp)) hr
           rw [lp_two]
           have hu:flt (32 :: (Pr.sign op0++[32])):=by
            rcases hop with rfl | rfl | rfl | rfl | rfl <;> (intro c hc;simp [Pr.sign] at hc;omega)
           have hcu:cnt [ot op0]=0:=by
            rcases hop with rfl | rfl | rfl | rfl | rfl <;> decide
           have:=Good.bin (u:=32 :: (Pr.sign op0++[32])) (tu:=[ot op0]) hA hB hu hcu (fun x y tx ty hx hy h1 h2=>by
            have:=bin_txt h1 h2 (h2.ne hy rfl) hop
            simpa using this)
           simpa using this
          ·cases hp
        | _ :: _ :: _ :: _,_,hp=>rw [Rt.pO_more] at hp;cases hp
      ·cases hp
     ·rw [Pr.pE_other k (.mk k0 v0 x0 op0 args0) h1 h2 h4] at hp
      cases hp
open Pr (Ex Li strength binds pE pO)
open Sy (sign sh Sh Env PR exprF litF ex0 at0 txt expr)
def rt:Li->Ex
 | .mk _ _ _ _ r _ _ _ _ _ _=>r
theorem cL_take (v:Env):∀ i,i<=v.ws.length->cL v i=cnt (v.ws.take i)
 | 0,_=>rfl
 | i+1,h=>by
  have e:v.tk i=v.ws[i]'(by omega):=by
   unfold Env.tk
   rw [List.getD_eq_getElem?_getD,List.getElem?_eq_getElem (by omega)];rfl
  rw [cL,cL_take v i (by omega),List.take_succ_eq_append_getElem (by omega),cnt_app,e]
  congr 1
  unfold o1 cnt
  rw [List.countP_singleton]
theorem cnt_sh {a b:List Tok} (h:a.map sh=b.map sh):cnt a=cnt b:=by
 have key:∀ l:List Tok,cnt l=(l.map sh).countP (fun s=>decide (s.text=[40]) && (decide (s.kind=5) || decide (s.kind=1))):=fun l=>by
  unfold cnt
  rw [List.countP_map]
  rfl
 rw [key,key,h]
theorem cL_all {v:Env} {ts:List Tok} (h:v.ws.map sh=ts.map sh):cL v v.ws.length=cnt ts:=by
 rw [cL_take v _ (Nat.le_refl _),List.take_length]
 exact cnt_sh h
theorem cL_top (v:Env) (i:Nat):cL v i<=cL v v.ws.length:=by
 rcases Nat.lt_or_ge i v.ws.length with h | h
 ·exact cL_mono v (by omega)
 ·induction h with
  | refl=>exact Nat.le_refl _
  | @step m hm ih =>
   have e:v.tk m=Sy.zT:=by
    unfold Env.tk
    rw [List.getD_eq_getElem?_getD,List.getElem?_eq_none hm];rfl
   rw [cL,e,o1_no _ (by decide)]
   exact ih
theorem expr_lp {v:Env} (hq:∀ i,(v.tk i).kind=4->(v.tk i).vk=2) {i j:Nat} {e:Ex} (h:expr v i=.ok e j):lpE e<=cL v v.ws.length:=by
 unfold expr at h
 cases hr:exprF v 60 1 0 i with
 | err f=>rw [hr] at h;cases h
 | ok r m =>
  obtain ⟨er,dr⟩:=r
  rw [hr] at h
  simp only [PR.bind_ok,PR.ok.injEq] at h
  obtain ⟨rfl,rfl⟩:=h
  have R:=ex_lp hq 60 1 0 i er dr m (.inl rfl) hr
  have:=R.lp
  have:=cL_top v m
  omega
/-- a literal's right side -/
theorem lit_rt {v:Env} (hq:∀ i,(v.tk i).kind=4->(v.tk i).vk=2) {n br i j:Nat} {li:Li} (h:litF v n br i=.ok li j):rt li=ex0\/lpE (rt li)<=cL v v.ws.length:=by
 cases n with
 | zero=>simp [litF] at h
 | succ n =>
  rw [litF] at h
  split at h
  ·cases hr:Sy.atom v (i+1) with
   | err f=>rw [hr] at h;cases h
   | ok r m=>rw [hr] at h;simp only [PR.bind_ok,PR.ok.injEq] at h;obtain ⟨rfl,-⟩:=h;exact .inl rfl
  ·split at h
   ·cases hr:Sy.atom v i with
    | err f=>rw [hr] at h;cases h
    | ok r m=>rw [hr] at h;simp only [PR.bind_ok,PR.ok.injEq] at h;obtain ⟨rfl,-⟩:=h;exact .inl rfl
   ·split at h
    ·cases hr:Sy.aggOf v (litF v n (br+1)) br i with
     | err f=>rw [hr] at h;cases h
     | ok r m=>rw [hr] at h;simp only [PR.bind_ok,PR.ok.injEq] at h;obtain ⟨rfl,-⟩:=h;exact .inl rfl
    ·cases hl:expr v i with
     | err f=>rw [hl] at h;cases h
     | ok l m =>
      rw [hl] at h
      simp only [PR.bind_ok] at h
      split at h
      ·cases h
      ·cases hr:expr v (m+1) with
       | err f=>rw [hr] at h;cases h
       | ok r m2 =>
        rw [hr] at h
        simp only [PR.bind_ok,PR.ok.injEq] at h
        obtain ⟨rfl,-⟩:=h
        exact .inr (expr_lp hq hr)
theorem whole_lit {v:Env} {li:Li} {j:Nat} (h:Sy.whole v (Sy.lit v 0)=.ok li j):litF v 18 0 0=.ok li j:=by
 unfold Sy.whole Sy.lit at h
 cases hr:litF v (18 - 0) 0 0 with
 | err f=>rw [hr] at h;cases h
 | ok r m =>
  rw [hr] at h
  simp only [PR.bind_ok] at h
  split at h
  ·cases h
  ·exact h
/-- a comparison's text -/
def ahead (s:List Nat):List Nat:=88 :: 32 :: 61 :: 32 :: s
theorem tx_ahead {s:List Nat} {ts:List Tok} (h0:s≠[]) (h:Tx brk s ts):Tx brk (ahead s) (tV [88] :: tM [61] :: ts):=by
 have hne:=h.ne h0 rfl
 have h1:Tx brk (61 :: 32 :: s) (tM [61] :: ts):=Tx.app (a:=[61]) (c:=32 :: s) (ts:=[tM [61]]) (tx_eq any) (h.bl rfl hne) (by simp) rfl
 exact Tx.app (a:=[88]) (c:=32 :: 61 :: 32 :: s) (ts:=[tV [88]]) (tx_var (l:=[88]) (by decide)) (h1.bl rfl (by simp)) (by simp) (show brk 32=true by decide)
theorem ahead_bytes {s:List Nat} (h:∀ c∈s,c<256):∀ c∈ahead s,c<256:=by
 intro c hc
 unfold ahead at hc
 simp only [List.mem_cons] at hc
 rcases hc with rfl | rfl | rfl | rfl | hc
 ·omega
 ·omega
 ·omega
 ·omega
 ·exact h c hc
/-- what is written is read as it was -/
theorem lit_back {e:Ex} {s:List Nat} (ho:ExO e) (h:pE 17 e=some s) (hb:∀ c∈s,c<256) (hl:s.length+4<=65536) :
  ∃ li j,Sy.whole (Sy.envOf (ahead s)) (Sy.lit (Sy.envOf (ahead s)) 0)=.ok li j/\rt li=e:=by
 have hX:pE 17 (.mk 1 (txt [88]) Va.zero 0 [])=some [88]:=by decide
 obtain ⟨ts,hp⟩:=cmp_it (b:=16) (ln:=0) (cl:=0) (op:=1) (ExO.mk (k:=1) (v:=txt [88]) (x:=Va.zero) (op:=0) (args:=[]) (fun c hc=>by cases hc) (fun a ha=>by cases ha)) ho (by omega) (by omega) hX h
 have e0:[88]++(Pr.cmp 1++s)=ahead s:=rfl
 rw [e0] at hp
 obtain ⟨k,kl⟩:=alone hp.txt (ahead_bytes hb) (by unfold ahead;simp;omega)
 obtain ⟨k1,k2⟩:=at_all k
 have hend:(Sy.envOf (ahead s)).tk (0+ts.length)=Sy.zT:=by
  unfold Env.tk
  rw [List.getD_eq_getElem?_getD,List.getElem?_eq_none (by omega)]
  rfl
 obtain ⟨li,h1,h2⟩:=hp.read 0 18 (by omega) (by omega) (Sy.envOf (ahead s)) 0 k1 (by rw [hend];decide)
 refine ⟨li,0+ts.length,?_,?_⟩
 ·unfold Sy.whole Sy.lit
  rw [show 18 - 0=18 from rfl,h1]
  simp only [PR.bind_ok]
  rw [if_neg (by rw [kl];omega)]
 ·unfold RB at h2
  obtain ⟨k0,a0,o0,l0,r0,f0,av0,of0,b0,ln0,cl0⟩:=li
  simp only [Sy.bareL,Li.mk.injEq] at h2
  exact h2.2.2.2.2.1
/-- without a pair of brackets it is read otherwise, or not at all -/
theorem lit_less {e:Ex} {s:List Nat} (hg:Good s (lpE e)) (hk:e.k≠0) (hb:∀ c∈s,c<256) (hl:s.length+4<=65536) {p:Nat} (hp:p∈opn 0 0 s) :
  ∃ c,p<c/\c<s.length/\clo 0 0 p (s.drop p)=some c/\∀ li j,Sy.whole (Sy.envOf (ahead (wo s p c))) (Sy.lit (Sy.envOf (ahead (wo s p c))) 0)=.ok li j->rt li≠e:=by
 obtain ⟨c,h1,h2,h3,h4,ts,h5,h6⟩:=hg.op p hp
 refine ⟨c,h1,h2,?_,fun li j h he=>?_⟩
 ·have:=h3 0 []
  simpa using this
 ·have hbw:∀ x∈wo s p c,x<256:=by
   intro x hx
   unfold wo at hx
   rcases List.mem_append.1 hx with hx | hx
   ·exact hb x (List.mem_of_mem_take hx)
   ·rcases List.mem_append.1 hx with hx | hx
    ·exact hb x (List.mem_of_mem_take (List.mem_of_mem_drop hx))
    ·exact hb x (List.mem_of_mem_drop hx)
  have hlw:(wo s p c).length<=s.length:=by
   unfold wo
   simp only [List.length_append,List.length_take,List.length_drop]
   omega
  obtain ⟨k,-⟩:=alone (tx_ahead h4 h5) (ahead_bytes hbw) (by unfold ahead;simp;omega)
  have hq:∀ i,((Sy.envOf (ahead (wo s p c))).tk i).kind=4->((Sy.envOf (ahead (wo s p c))).tk i).vk=2:=fun i hi=>(((wm_of _ (ahead_bytes hbw)).m i).quo hi).1
  rcases lit_rt hq (whole_lit h) with h7 | h7
  ·rw [he] at h7
   subst h7
   exact hk rfl
  ·rw [he,cL_all k] at h7
   have:cnt (tV [88] :: tM [61] :: ts)=cnt ts:=by
    rw [show tV [88] :: tM [61] :: ts=[tV [88],tM [61]]++ts from rfl,cnt_app]
    rw [show cnt [tV [88],tM [61]]=0 from rfl,Nat.zero_add]
   omega
end Go.Proofs.YtbfaclljbbfknaaGreatDoor.Pk
namespace Go.Proofs.YtbfaclljbbfknaaGreatDoor
open Go.RowKit
set_option linter.unusedVariables false
set_option linter.unusedSimpArgs false
set_option maxRecDepth 100000
theorem tl_ne {a b:ByteArray} (h:a≠b):(a.toList == b.toList)=false:=by
 rw [ByteArray.toList_eq,ByteArray.toList_eq]
 rw [beq_eq_false_iff_ne]
 intro e
 apply h
 obtain ⟨⟨x⟩⟩:=a
 obtain ⟨⟨y⟩⟩:=b
 simpa using e
theorem int_ne {a b:Int} (h:¬ a=b):(a == b)=false:=by rw [beq_eq_false_iff_ne];exact h
theorem ofS_inj' {a b:List Nat} (ha:∀ c∈a,c<256) (hb:∀ c∈b,c<256) (h:Lx.ofS a=Lx.ofS b):a=b:=by
 rw [<-Lx.str_ofS ha,<-Lx.str_ofS hb,h]
def SEq (k:Nat):Prop:=∀ (e e2:Pr.Ex),exD e2<=k->exM e2<=140737488355328->Rt.ExO e->Rt.ExO e2->∀ (F G:Nat->Prop) (u u':Value) (w:World),EB F w e u->EB G w e2 u' ->
 Calls Tryz.prog 7 #[.agg (exV e u),.agg (exV e2 u')] w fun o w'=>∃ b,o=.returned (.bool b)/\(b=true->e=e2)/\Mod [] w w'
set_option maxHeartbeats 16000000 in
theorem seq_of (d:Nat) (hS:SEq d):SEq (d+1):=by
 intro e e2 he hM ho ho2 F G u u' w h h'
 obtain ⟨R,hR⟩:∃ R,R=fun (o:Ending) (w':World)=>∃ b,o=.returned (.bool b)/\(b=true->e=e2)/\Mod [] w w':=⟨_,rfl⟩
 rw [<-hR]
 have HR:=Lib.hid hR
 clear hR
 obtain ⟨k,v,⟨xk,xn,xs⟩,op,args⟩:=e
 obtain ⟨k2,v2,⟨yk,yn,ys⟩,op2,args2⟩:=e2
 cases ho with
 | mk hx hA =>
 cases ho2 with
 | mk hy hB =>
 obtain ⟨a1,c1,rfl⟩:=h.lit
 obtain ⟨a2,c2,rfl⟩:=h'.lit
 have hd:exDs args2<=d:=by simp only [exD] at he;omega
 have hM1:args2.length<=140737488355328:=by simp only [exM] at hM;omega
 have hM2:exMs args2<=140737488355328:=by simp only [exM] at hM;omega
 have HS:=Lib.hid hS;have H1:=Lib.hid h;have H2:=Lib.hid h';have HA:=Lib.hid hA;have HB:=Lib.hid hB
 have HXY:Hid (Lx.ofS xs=Lx.ofS ys->xs=ys):=Hxq (ofS_inj' hx hy)
 clear h h' hS he hM hA hB hx hy
 simp only [exV,Pr.Ex.k,Pr.Ex.v,Pr.Ex.x,Pr.Ex.op,Pr.Ex.args] at *
 generalize hxB:Lx.ofS xs=xB at *
 generalize hyB:Lx.ofS ys=yB at *
 clear hxB hyB
 obtain ⟨L2,hL2⟩:∃ L2,L2=args2.length:=⟨_,rfl⟩
 rw [<-hL2]
 have HL2:=Lib.hid hL2
 clear hL2
 have mA:=((Mod.refl [] w).alloc (Obj.cells #[.int .i64 k,.string v,.int .i64 xk,.int .i64 xn,.string xB,.int .i64 op,.slice a1 args.length c1] 26)).alloc (Obj.cells #[.int .i64 k2,.string v2,.int .i64 yk,.int .i64 yn,.string yB,.int .i64 op2,.slice a2 L2 c2] 26)
 have fA:=((Mod.refl [] (w.alloc (Obj.cells #[.int .i64 k,.string v,.int .i64 xk,.int .i64 xn,.string xB,.int .i64 op,.slice a1 args.length c1] 26))).alloc (Obj.cells #[.int .i64 k2,.string v2,.int .i64 yk,.int .i64 yn,.string yB,.int .i64 op2,.slice a2 L2 c2] 26)).at (heap_alloc_new w (Obj.cells #[.int .i64 k,.string v,.int .i64 xk,.int .i64 xn,.string xB,.int .i64 op,.slice a1 args.length c1] 26)) (by simp)
 have eB:=heap_alloc_new (w.alloc (Obj.cells #[.int .i64 k,.string v,.int .i64 xk,.int .i64 xn,.string xB,.int .i64 op,.slice a1 args.length c1] 26)) (Obj.cells #[.int .i64 k2,.string v2,.int .i64 yk,.int .i64 yn,.string yB,.int .i64 op2,.slice a2 L2 c2] 26)
 have hs1:(w.alloc (Obj.cells #[.int .i64 k,.string v,.int .i64 xk,.int .i64 xn,.string xB,.int .i64 op,.slice a1 args.length c1] 26)).heap.size=w.heap.size+1:=by simp
 rw [hs1] at eB
 clear hs1
 go_enter Tryz.func7,Tryz.ntmps7
 go_upto_region 1 with fail
 generalize (w.alloc (Obj.cells _ 26)).alloc (Obj.cells _ 26)=w0 at *
 have M0:=Lib.hid mA;have E0:=Lib.hid fA;have E1:=Lib.hid eB
 clear mA fA eB
 have x0:=cell_at E0.out 0;have y0:=cell_at E1.out 0
 have x1:=cell_at E0.out 1;have y1:=cell_at E1.out 1
 have x2:=cell_at E0.out 2;have y2:=cell_at E1.out 2
 have x3:=cell_at E0.out 3;have y3:=cell_at E1.out 3
 have x4:=cell_at E0.out 4;have y4:=cell_at E1.out 4
 have x5:=cell_at E0.out 5;have y5:=cell_at E1.out 5
 have x6:=cell_at E0.out 6;have y6:=cell_at E1.out 6
 simp only [List.getElem?_toArray,List.getElem?_cons_zero,List.getElem?_cons_succ] at x0 x1 x2 x3 x4 x5 x6 y0 y1 y2 y3 y4 y5 y6
 by_cases hk:k=k2
 ·subst hk
  by_cases hv:v=v2
  ·subst hv
   by_cases hxk:xk=yk
   ·subst hxk
    by_cases hxn:xn=yn
    ·subst hxn
     by_cases hxB:xB=yB
     ·subst hxB
      by_cases hop:op=op2
      ·subst hop
       have HXX:=Hxq (HXY.out rfl)
       by_cases hln:args.length=L2
       ·subst hln
        have hLEN:=HL2.out
        clear HL2
        have hM3:args.length<=140737488355328:=by omega
        have HLEN:=Lib.hid hLEN
        clear hLEN
        go_wp2_with fail
        clear x0 x1 x2 x3 x4 x5 x6 y0 y1 y2 y3 y4 y5 y6
        go_loopw [5] (fun iv wr=>∃ j:Nat,j<=args.length/\iv=.int .i64 (j:Nat)/\args.take j=args2.take j/\Mod [] w0 wr) (fun iv _=>args.length - (intOf iv).toNat)
        case atStart=>exact ⟨0,Nat.zero_le _,rfl,by simp,Mod.refl _ _⟩
        case round =>
         obtain ⟨j,hj,rfl,hta,hm⟩:=hrel
         have x6:=cell_at (hm.at E0.out (by simp)) 6;have y6:=cell_at (hm.at E1.out (by simp)) 6
         simp only [List.getElem?_toArray,List.getElem?_cons_zero,List.getElem?_cons_succ] at x6 y6
         have MR:=Hxq (M0.out.trans hm (by simp));have HM:=Lib.hid hm;have HTA:=Lib.hid hta
         clear hm hta
         by_cases hlt:j<args.length
         ·have hjI:(j:Int)<(args.length:Int):=by omega
          have hj0:(0:Int)<=(j:Int):=by omega
          have hlt2:j<args2.length:=by have:=HLEN.out;omega
          obtain ⟨b1,o1,u1,rfl,hc1,hE1⟩:=(H1.out.keep MR.out (by simp)).at j hlt
          obtain ⟨b2,o2,u2,rfl,hc2,hE2⟩:=(H2.out.keep MR.out (by simp)).at j hlt2
          have hdj:=exDs_mem args2 j hlt2
          have hmj:=exMs_mem args2 j hlt2
          have HO1:=Hxq (HA.out _ (List.getElem_mem hlt));have HO2:=Hxq (HB.out _ (List.getElem_mem hlt2))
          have HT1:=Hxq (List.take_succ_eq_append_getElem hlt);have HT2:=Hxq (List.take_succ_eq_append_getElem hlt2)
          simp only [Pr.Ex.args] at hc1 hc2 hE1 hE2
          generalize args[j]=y at *
          generalize args2[j]=z at *
          obtain ⟨a3,c3,rfl⟩:=hE1.lit
          obtain ⟨a4,c4,rfl⟩:=hE2.lit
          have Z1:=Lib.hid x6;have Z2:=Lib.hid y6
          have r0:=hc1 0 (.int .i64 y.k) rfl;have t0:=hc2 0 (.int .i64 z.k) rfl
          have r1:=hc1 1 (.string y.v) rfl;have t1:=hc2 1 (.string z.v) rfl
          have r2:=hc1 2 (.int .i64 y.x.k) rfl;have t2:=hc2 2 (.int .i64 z.x.k) rfl
          have r3:=hc1 3 (.int .i64 y.x.n) rfl;have t3:=hc2 3 (.int .i64 z.x.n) rfl
          have r4:=hc1 4 (.string (Lx.ofS y.x.s)) rfl;have t4:=hc2 4 (.string (Lx.ofS z.x.s)) rfl
          have r5:=hc1 5 (.int .i64 y.op) rfl;have t5:=hc2 5 (.int .i64 z.op) rfl
          have r6:=hc1 6 (.slice a3 y.args.length c3) rfl;have t6:=hc2 6 (.slice a4 z.args.length c4) rfl
          rw [Nat.add_zero] at r0 t0
          have P0:=Lib.hid r0;have Q0:=Lib.hid t0
          have P1:=Lib.hid r1;have Q1:=Lib.hid t1
          have P2:=Lib.hid r2;have Q2:=Lib.hid t2
          have P3:=Lib.hid r3;have Q3:=Lib.hid t3
          have P4:=Lib.hid r4;have Q4:=Lib.hid t4
          have P5:=Lib.hid r5;have Q5:=Lib.hid t5
          have P6:=Lib.hid r6;have Q6:=Lib.hid t6
          clear r0 r1 r2 r3 r4 r5 r6 t0 t1 t2 t3 t4 t5 t6
          have HE1:=Hxq (hE1.keep ((Mod.refl [] wr).drew) (by simp));have HE2:=Hxq (hE2.keep ((Mod.refl [] wr).drew) (by simp))
          clear hc1 hc2 hE1 hE2
          go_wp2_with fail
          refine wp_region_held_drew (S:=(fun w':World=>Mod [] wr w')) (by kernel_rfl) (by (try dsimp only);exact (Mod.refl [] wr).drew) (fun hHeld=>?_)
          refine Tkq 0 (v:=?_) (by assumption) ?_ ?_ ?_
          rotate_left 1
          ·refine .inl ⟨by rfl,?_⟩;intro w hSw;have s1:=hSw.cell Z1.out (by simp);have s2:=hSw.cell Z2.out (by simp);have p0:=hSw.cell P0.out (by simp);have q0:=hSw.cell Q0.out (by simp);have p1:=hSw.cell P1.out (by simp);have q1:=hSw.cell Q1.out (by simp);have p2:=hSw.cell P2.out (by simp);have q2:=hSw.cell Q2.out (by simp);have p3:=hSw.cell P3.out (by simp);have q3:=hSw.cell Q3.out (by simp);have p4:=hSw.cell P4.out (by simp);have q4:=hSw.cell Q4.out (by simp);have p5:=hSw.cell P5.out (by simp);have q5:=hSw.cell Q5.out (by simp);have p6:=hSw.cell P6.out (by simp);have q6:=hSw.cell Q6.out (by simp);clear hSw;go_simp
           all_goals with_reducible rfl
          ·exact fun _ _ _ h=>h
          try simp only [Act.put,Lq1,Lq2,Lq3]
          refine Tkq 1 (v:=?_) (by assumption) ?_ ?_ ?_
          rotate_left 1
          ·refine .inl ⟨by rfl,?_⟩;intro w hSw;have s1:=hSw.cell Z1.out (by simp);have s2:=hSw.cell Z2.out (by simp);have p0:=hSw.cell P0.out (by simp);have q0:=hSw.cell Q0.out (by simp);have p1:=hSw.cell P1.out (by simp);have q1:=hSw.cell Q1.out (by simp);have p2:=hSw.cell P2.out (by simp);have q2:=hSw.cell Q2.out (by simp);have p3:=hSw.cell P3.out (by simp);have q3:=hSw.cell Q3.out (by simp);have p4:=hSw.cell P4.out (by simp);have q4:=hSw.cell Q4.out (by simp);have p5:=hSw.cell P5.out (by simp);have q5:=hSw.cell Q5.out (by simp);have p6:=hSw.cell P6.out (by simp);have q6:=hSw.cell Q6.out (by simp);clear hSw;go_simp
           all_goals with_reducible rfl
          ·exact fun _ _ _ h=>h
          try simp only [Act.put,Lq1,Lq2,Lq3]
          refine Tkq 2 (v:=?_) (by assumption) ?_ ?_ ?_
          rotate_left 1
          ·refine .inl ⟨by rfl,?_⟩;intro w hSw;have s1:=hSw.cell Z1.out (by simp);have s2:=hSw.cell Z2.out (by simp);have p0:=hSw.cell P0.out (by simp);have q0:=hSw.cell Q0.out (by simp);have p1:=hSw.cell P1.out (by simp);have q1:=hSw.cell Q1.out (by simp);have p2:=hSw.cell P2.out (by simp);have q2:=hSw.cell Q2.out (by simp);have p3:=hSw.cell P3.out (by simp);have q3:=hSw.cell Q3.out (by simp);have p4:=hSw.cell P4.out (by simp);have q4:=hSw.cell Q4.out (by simp);have p5:=hSw.cell P5.out (by simp);have q5:=hSw.cell Q5.out (by simp);have p6:=hSw.cell P6.out (by simp);have q6:=hSw.cell Q6.out (by simp);clear hSw;go_simp
           all_goals with_reducible rfl
          ·exact fun _ _ _ h=>h
          try simp only [Act.put,Lq1,Lq2,Lq3]
          refine Tkq 3 (v:=?_) (by assumption) ?_ ?_ ?_
          rotate_left 1
          ·refine .inl ⟨by rfl,?_⟩;intro w hSw;have s1:=hSw.cell Z1.out (by simp);have s2:=hSw.cell Z2.out (by simp);have p0:=hSw.cell P0.out (by simp);have q0:=hSw.cell Q0.out (by simp);have p1:=hSw.cell P1.out (by simp);have q1:=hSw.cell Q1.out (by simp);have p2:=hSw.cell P2.out (by simp);have q2:=hSw.cell Q2.out (by simp);have p3:=hSw.cell P3.out (by simp);have q3:=hSw.cell Q3.out (by simp);have p4:=hSw.cell P4.out (by simp);have q4:=hSw.cell Q4.out (by simp);have p5:=hSw.cell P5.out (by simp);have q5:=hSw.cell Q5.out (by simp);have p6:=hSw.cell P6.out (by simp);have q6:=hSw.cell Q6.out (by simp);clear hSw;go_simp
           all_goals with_reducible rfl
          ·exact fun _ _ _ h=>h
          try simp only [Act.put,Lq1,Lq2,Lq3]
          refine Tkq 4 (v:=?_) (by assumption) ?_ ?_ ?_
          rotate_left 1
          ·refine .inl ⟨by rfl,?_⟩;intro w hSw;have s1:=hSw.cell Z1.out (by simp);have s2:=hSw.cell Z2.out (by simp);have p0:=hSw.cell P0.out (by simp);have q0:=hSw.cell Q0.out (by simp);have p1:=hSw.cell P1.out (by simp);have q1:=hSw.cell Q1.out (by simp);have p2:=hSw.cell P2.out (by simp);have q2:=hSw.cell Q2.out (by simp);have p3:=hSw.cell P3.out (by simp);have q3:=hSw.cell Q3.out (by simp);have p4:=hSw.cell P4.out (by simp);have q4:=hSw.cell Q4.out (by simp);have p5:=hSw.cell P5.out (by simp);have q5:=hSw.cell Q5.out (by simp);have p6:=hSw.cell P6.out (by simp);have q6:=hSw.cell Q6.out (by simp);clear hSw;go_simp
           all_goals with_reducible rfl
          ·exact fun _ _ _ h=>h
          try simp only [Act.put,Lq1,Lq2,Lq3]
          refine Tkq 5 (v:=?_) (by assumption) ?_ ?_ ?_
          rotate_left 1
          ·refine .inl ⟨by rfl,?_⟩;intro w hSw;have s1:=hSw.cell Z1.out (by simp);have s2:=hSw.cell Z2.out (by simp);have p0:=hSw.cell P0.out (by simp);have q0:=hSw.cell Q0.out (by simp);have p1:=hSw.cell P1.out (by simp);have q1:=hSw.cell Q1.out (by simp);have p2:=hSw.cell P2.out (by simp);have q2:=hSw.cell Q2.out (by simp);have p3:=hSw.cell P3.out (by simp);have q3:=hSw.cell Q3.out (by simp);have p4:=hSw.cell P4.out (by simp);have q4:=hSw.cell Q4.out (by simp);have p5:=hSw.cell P5.out (by simp);have q5:=hSw.cell Q5.out (by simp);have p6:=hSw.cell P6.out (by simp);have q6:=hSw.cell Q6.out (by simp);clear hSw;go_simp
           all_goals with_reducible rfl
          ·exact fun _ _ _ h=>h
          try simp only [Act.put,Lq1,Lq2,Lq3]
          refine Tkq 6 (v:=?_) (by assumption) ?_ ?_ ?_
          rotate_left 1
          ·refine .inl ⟨by rfl,?_⟩;intro w hSw;have s1:=hSw.cell Z1.out (by simp);have s2:=hSw.cell Z2.out (by simp);have p0:=hSw.cell P0.out (by simp);have q0:=hSw.cell Q0.out (by simp);have p1:=hSw.cell P1.out (by simp);have q1:=hSw.cell Q1.out (by simp);have p2:=hSw.cell P2.out (by simp);have q2:=hSw.cell Q2.out (by simp);have p3:=hSw.cell P3.out (by simp);have q3:=hSw.cell Q3.out (by simp);have p4:=hSw.cell P4.out (by simp);have q4:=hSw.cell Q4.out (by simp);have p5:=hSw.cell P5.out (by simp);have q5:=hSw.cell Q5.out (by simp);have p6:=hSw.cell P6.out (by simp);have q6:=hSw.cell Q6.out (by simp);clear hSw;go_simp
           all_goals with_reducible rfl
          ·exact fun _ _ _ h=>h
          try simp only [Act.put,Lq1,Lq2,Lq3]
          refine Tkq 7 (v:=?_) (by assumption) ?_ ?_ ?_
          rotate_left 1
          ·refine .inl ⟨by rfl,?_⟩;intro w hSw;have s1:=hSw.cell Z1.out (by simp);have s2:=hSw.cell Z2.out (by simp);have p0:=hSw.cell P0.out (by simp);have q0:=hSw.cell Q0.out (by simp);have p1:=hSw.cell P1.out (by simp);have q1:=hSw.cell Q1.out (by simp);have p2:=hSw.cell P2.out (by simp);have q2:=hSw.cell Q2.out (by simp);have p3:=hSw.cell P3.out (by simp);have q3:=hSw.cell Q3.out (by simp);have p4:=hSw.cell P4.out (by simp);have q4:=hSw.cell Q4.out (by simp);have p5:=hSw.cell P5.out (by simp);have q5:=hSw.cell Q5.out (by simp);have p6:=hSw.cell P6.out (by simp);have q6:=hSw.cell Q6.out (by simp);clear hSw;go_simp
           all_goals with_reducible rfl
          ·exact fun _ _ _ h=>h
          try simp only [Act.put,Lq1,Lq2,Lq3]
          refine Tkq 8 (v:=?_) (by assumption) ?_ ?_ ?_
          rotate_left 1
          ·refine .inl ⟨by rfl,?_⟩;intro w hSw;have s1:=hSw.cell Z1.out (by simp);have s2:=hSw.cell Z2.out (by simp);have p0:=hSw.cell P0.out (by simp);have q0:=hSw.cell Q0.out (by simp);have p1:=hSw.cell P1.out (by simp);have q1:=hSw.cell Q1.out (by simp);have p2:=hSw.cell P2.out (by simp);have q2:=hSw.cell Q2.out (by simp);have p3:=hSw.cell P3.out (by simp);have q3:=hSw.cell Q3.out (by simp);have p4:=hSw.cell P4.out (by simp);have q4:=hSw.cell Q4.out (by simp);have p5:=hSw.cell P5.out (by simp);have q5:=hSw.cell Q5.out (by simp);have p6:=hSw.cell P6.out (by simp);have q6:=hSw.cell Q6.out (by simp);clear hSw;go_simp
           all_goals with_reducible rfl
          ·exact fun _ _ _ h=>h
          try simp only [Act.put,Lq1,Lq2,Lq3]
          refine Tkq 9 (v:=?_) (by assumption) ?_ ?_ ?_
          rotate_left 1
          ·refine .inl ⟨by rfl,?_⟩;intro w hSw;have s1:=hSw.cell Z1.out (by simp);have s2:=hSw.cell Z2.out (by simp);have p0:=hSw.cell P0.out (by simp);have q0:=hSw.cell Q0.out (by simp);have p1:=hSw.cell P1.out (by simp);have q1:=hSw.cell Q1.out (by simp);have p2:=hSw.cell P2.out (by simp);have q2:=hSw.cell Q2.out (by simp);have p3:=hSw.cell P3.out (by simp);have q3:=hSw.cell Q3.out (by simp);have p4:=hSw.cell P4.out (by simp);have q4:=hSw.cell Q4.out (by simp);have p5:=hSw.cell P5.out (by simp);have q5:=hSw.cell Q5.out (by simp);have p6:=hSw.cell P6.out (by simp);have q6:=hSw.cell Q6.out (by simp);clear hSw;go_simp
           all_goals with_reducible rfl
          ·exact fun _ _ _ h=>h
          try simp only [Act.put,Lq1,Lq2,Lq3]
          refine wpAnyH_ready (rs:=[10]) (by kernel_rfl) (by simp) ?_
          refine AllReadyH.cons (o:=?_) ?_ ?_ AllReadyH.nil
          rotate_left 1
          ·(simp only [Gq1,Gq2,Gq3])<;>rfl
          intro K hK
          go_simp
          refine (HS.out _ _ (by omega) (by omega) HO1.out HO2.out _ _ _ _ _ HE1.out HE2.out).mono ?_
          rintro e7 w7 ⟨b,rfl,hbz,m7⟩
          have M7:=Hxq (((Mod.refl [] wr).drew).trans m7 (by simp))
          have HBZ:=Lib.hid hbz
          clear m7 hbz
          refine hK.out _ _ (by (try dsimp only);exact M7.out) (fun hHeld=>?_)
          clear hK K
          try simp only [Act.put,Lq1,Lq2,Lq3]
          refine Tkq 11 (v:=?_) (by assumption) ?_ ?_ ?_
          rotate_left 1
          ·refine .inl ⟨by rfl,?_⟩;intro w hSw;clear hSw;go_simp
           all_goals with_reducible rfl
          ·exact fun _ _ _ h=>h
          try simp only [Act.put,Lq1,Lq2,Lq3]
          refine wpAnyH_done (by kernel_rfl) ?_ _
          cases b with
          | false =>
           go_wp2_with fail
           rw [HR.out]
           exact ⟨false,rfl,by simp,M0.out.trans (HM.out.trans M7.out (by simp)) (by simp)⟩
          | true =>
           go_wp2_with fail
           go_roundw
           case rel=>exact ⟨j+1,by omega,by go_num,by rw [HT1.out,HT2.out,HTA.out,HBZ.out rfl],HM.out.trans M7.out (by simp)⟩
           case measure=>simp [intOf];omega
         ·obtain rfl:j=args.length:=by omega
          have hjI:¬ (args.length:Int)<(args.length:Int):=by omega
          have HFIN:Hid (args=args2):=Hxq (by have h:=HTA.out;rw [List.take_length,HLEN.out,List.take_length] at h;exact h)
          go_wp2_with fail
          rw [HR.out]
          exact ⟨true,rfl,fun _=>by rw [HFIN.out,HXX.out],MR.out⟩
       ·have hlnI:¬ (args.length:Int)=(L2:Int):=by omega
        have hlnB:=int_ne hlnI
        go_wp2_with fail
        rw [HR.out]
        exact ⟨false,rfl,by simp,M0.out⟩
      ·have hoB:=int_ne hop
       go_wp2_with fail
       rw [HR.out]
       exact ⟨false,rfl,by simp,M0.out⟩
     ·have hxC:=tl_ne hxB
      go_wp2_with fail
      rw [HR.out]
      exact ⟨false,rfl,by simp,M0.out⟩
    ·have hxB:=int_ne hxn
     go_wp2_with fail
     rw [HR.out]
     exact ⟨false,rfl,by simp,M0.out⟩
   ·have hxB:=int_ne hxk
    go_wp2_with fail
    rw [HR.out]
    exact ⟨false,rfl,by simp,M0.out⟩
  ·have hvB:=tl_ne hv
   go_wp2_with fail
   rw [HR.out]
   exact ⟨false,rfl,by simp,M0.out⟩
 ·have hkB:=int_ne hk
  go_wp2_with fail
  rw [HR.out]
  exact ⟨false,rfl,by simp,M0.out⟩
theorem seq_all:∀ d,SEq d
 | 0=>fun e e2 he _=>by cases e2;simp [exD] at he
 | d+1=>seq_of d (seq_all d)
theorem sameExpr_all {F G:Nat->Prop} (e e2:Pr.Ex) (hM:exM e2<=140737488355328) (ho:Rt.ExO e) (ho2:Rt.ExO e2) (u u':Value) (w:World) (h:EB F w e u) (h':EB G w e2 u') :
  Calls Tryz.prog 7 #[.agg (exV e u),.agg (exV e2 u')] w fun o w'=>∃ b,o=.returned (.bool b)/\(b=true->e=e2)/\Mod [] w w' :=
 seq_all _ e e2 (Nat.le_refl _) hM ho ho2 F G u u' w h h'
end Go.Proofs.YtbfaclljbbfknaaGreatDoor
