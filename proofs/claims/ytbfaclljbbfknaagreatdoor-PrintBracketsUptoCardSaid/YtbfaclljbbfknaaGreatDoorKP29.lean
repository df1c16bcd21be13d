/- THE TEXTS MERGED: RtExp RtAtom RtLit RtProg. -/
import Derived.Test.YtbfaclljbbfknaaGreatDoorKP28
namespace Go.Proofs.YtbfaclljbbfknaaGreatDoor.Rt
open Lx (Tok Sq)
open Sy (sh Sh Env exprF chainF constant sign plain level txt)
open Pr (Ex pE pO binds strength)
open Cod (str)
set_option linter.unusedVariables false
set_option linter.unusedSimpArgs false
/-- these words stand in v from i on -/
structure At (v:Env) (i:Nat) (ts:List Tok):Prop where
 fit:i+ts.length<=v.ws.length
 tk:∀ j (h:j<ts.length),sh (v.tk (i+j))=sh ts[j]
theorem At.left {v:Env} {i:Nat} {a b:List Tok} (h:At v i (a++b)):At v i a:=by
 have h1:=h.fit
 rw [List.length_append] at h1
 exact ⟨by omega,fun j hj=>by rw [h.tk j (by rw [List.length_append];omega),List.getElem_append_left hj]⟩
theorem At.right {v:Env} {i:Nat} {a b:List Tok} (h:At v i (a++b)):At v (i+a.length) b:=by
 have h1:=h.fit
 rw [List.length_append] at h1
 refine ⟨by omega,fun j hj=>?_⟩
 have:=h.tk (a.length+j) (by rw [List.length_append];omega)
 rw [List.getElem_append_right (by omega)] at this
 rw [Nat.add_assoc,this]
 simp
theorem At.head {v:Env} {i:Nat} {t:Tok} {l:List Tok} (h:At v i (t :: l)):sh (v.tk i)=sh t:=h.tk 0 (by simp)
theorem At.tail {v:Env} {i:Nat} {t:Tok} {l:List Tok} (h:At v i (t :: l)):At v (i+1) l:=At.right (a:=[t]) h
theorem sign_is {v:Env} {i:Nat} {t:Tok} (h:sh (v.tk i)=sh t) (s:List Nat):sign (v.tk i) s=sign t s:=Sy.sign_sh h s
theorem kind_is {v:Env} {i:Nat} {t:Tok} (h:sh (v.tk i)=sh t):(v.tk i).kind=t.kind:=congrArg Sh.kind h
theorem plain_is {v:Env} {i:Nat} {t:Tok} (h:sh (v.tk i)=sh t):plain (v.tk i)=plain t:=Sy.plain_sh h
theorem level_is {v:Env} {i:Nat} {t:Tok} (h:sh (v.tk i)=sh t):level (v.tk i)=level t:=Sy.level_sh h
/-- a value's words -/
def tx (x:Va.Val):List Tok :=
 if x.k=1 then (if x.n<0 then [tM [45],tD (dig x.n.natAbs) x.n.natAbs] else [tD (dig x.n.toNat) x.n.toNat])
 else if Va.name x.s=true then [tN x.s] else [tQ x.s]
theorem may_cases {x:Va.Val} (h:Va.may x=true):(x.k=1/\x.s=[]/\-2147483647<=x.n/\x.n<=2147483647)\/(x.k=2/\x.n=0/\x.s.length<=64):=by
 unfold Va.may at h
 simp only [Bool.or_eq_true,Bool.and_eq_true,beq_iff_eq,decide_eq_true_eq] at h
 rcases h with h | h
 ·exact .inl ⟨h.1,h.2.1,h.2.2.1,h.2.2.2⟩
 ·exact .inr ⟨h.1,h.2.1,h.2.2⟩
theorem itoa_eq (n:Int):Va.itoa n=if n<0 then 45 :: dig n.natAbs else dig n.toNat:=by
 unfold Va.itoa Lib.itoa dig
 split <;> rfl
theorem tx_minus (P:Nat->Bool):Tx P [45] [tM [45]]:=tx_mark P (by decide) (fun d _=>by simp [Lx.two]) (by decide)
theorem val_txt {x:Va.Val} (h:Va.may x=true) (hb:∀ c∈x.s,c<256):Tx brk (Va.text x) (tx x)/\Va.text x≠[]/\tx x≠[]:=by
 unfold Va.text tx
 rcases may_cases h with ⟨h1,h2,h3,h4⟩ | ⟨h1,h2,h3⟩
 ·rw [if_pos h1,if_pos h1,itoa_eq]
  split
  ·exact ⟨Tx.app (P:=any) (a:=[45]) (tx_minus any) (tx_dig (by omega)) (dig_ne _) rfl,by simp,by simp⟩
  ·exact ⟨tx_dig (by omega),dig_ne _,by simp⟩
 ·have hk:¬ x.k=1:=by omega
  simp only [if_neg hk]
  by_cases hn:Va.name x.s=true
  ·simp only [if_pos hn]
   refine ⟨tx_name hn,?_,by simp⟩
   unfold Va.name at hn
   simp only [Bool.and_eq_true] at hn
   exact (name_parts hn.2).1
  ·simp only [if_neg hn]
   exact ⟨(tx_quo hb h3).toBrk,by unfold Va.quoted;simp,by simp⟩
theorem plain_M (s:List Nat):plain (tM s)=false:=by unfold plain tM;rfl
theorem plain_N {s:List Nat} (h:Va.name s=true):plain (tN s)=true:=by
 unfold Va.name at h
 simp only [Bool.and_eq_true] at h
 unfold plain tN
 simp only [Bool.and_eq_true,decide_eq_true_eq,true_and]
 exact h.1
theorem val_const {v:Env} {i:Nat} {x:Va.Val} (h:Va.may x=true) (ha:At v i (tx x)):constant v i=some (x,(tx x).length)/\(v.tk i).kind≠2:=by
 unfold tx at ha ⊢
 obtain ⟨k,n,s⟩:=x
 rcases may_cases h with ⟨h1,h2,h3,h4⟩ | ⟨h1,h2,h3⟩
 ·simp only at h1 h2 h3 h4
  subst h1 h2
  rw [if_pos rfl] at ha ⊢
  by_cases hn:n<0
  ·rw [if_pos hn] at ha ⊢
   have e0:=ha.head
   have e1:=ha.tail.head
   have k0:=kind_is e0
   have k1:=kind_is e1
   have n1:(v.tk (i+1)).num=n.natAbs:=congrArg Sh.num e1
   unfold constant
   rw [k0,if_neg (by simp [tM]),plain_is e0,plain_M,if_neg (by decide),sign_is e0,k1,if_pos ⟨by decide,rfl⟩,n1]
   refine ⟨?_,by simp [tM]⟩
   congr 2
   simp only [Va.Val.mk.injEq,and_true,true_and]
   omega
  ·rw [if_neg hn] at ha ⊢
   have e0:=ha.head
   have k0:=kind_is e0
   have n1:(v.tk i).num=n.toNat:=congrArg Sh.num e0
   have n2:(v.tk i).vk=1:=congrArg Sh.vk e0
   have n3:(v.tk i).sym=[]:=congrArg Sh.sym e0
   unfold constant
   rw [k0,if_pos (.inl rfl),n1,n2,n3]
   refine ⟨?_,by simp [tD]⟩
   congr 2
   simp only [Va.Val.mk.injEq,and_true]
   exact ⟨rfl,by omega⟩
 ·simp only at h1 h2 h3
  subst h1 h2
  rw [if_neg (show ¬ (2:Int)=1 by decide)] at ha ⊢
  by_cases hn:Va.name s=true
  ·rw [if_pos hn] at ha ⊢
   have e0:=ha.head
   have k0:=kind_is e0
   have n1:(v.tk i).text=s:=congrArg Sh.text e0
   unfold constant
   rw [k0,if_neg (by simp [tN]),plain_is e0,plain_N hn,if_pos rfl,n1]
   exact ⟨rfl,by simp [tN]⟩
  ·rw [if_neg hn] at ha ⊢
   have e0:=ha.head
   have k0:=kind_is e0
   have n1:(v.tk i).num=0:=congrArg Sh.num e0
   have n2:(v.tk i).vk=2:=congrArg Sh.vk e0
   have n3:(v.tk i).sym=s:=congrArg Sh.sym e0
   unfold constant
   rw [k0,if_pos (.inr rfl),n1,n2,n3]
   exact ⟨rfl,by simp [tQ]⟩
/-- every value is of bytes -/
inductive ExO:Ex->Prop
 | mk {k:Int} {v:ByteArray} {x:Va.Val} {op:Int} {args:List Ex} (hx:∀ c∈x.s,c<256) (h:∀ a∈args,ExO a):ExO (.mk k v x op args)
/-- an operation's word -/
def ot (op:Int):Tok:=if op=1 then tM [43] else if op=2 then tM [45] else if op=3 then tM [42] else if op=4 then tM [47] else tN [109,111,100]
theorem op_tok {op:Int} (h:op=1\/op=2\/op=3\/op=4\/op=5):Tx brk (Pr.sign op) [ot op]/\level (ot op)=(strength op,op.toNat)/\((op.toNat:Nat):Int)=op/\Pr.sign op≠[]:=by
 rcases h with rfl | rfl | rfl | rfl | rfl
 ·exact ⟨tx_mark _ (by decide) (fun d _=>by simp [Lx.two]) (by decide),by decide,by decide,by decide⟩
 ·exact ⟨tx_minus _,by decide,by decide,by decide⟩
 ·exact ⟨tx_mark _ (by decide) (fun d _=>by simp [Lx.two]) (by decide),by decide,by decide,by decide⟩
 ·exact ⟨tx_mark _ (by decide) (fun d _=>by simp [Lx.two]) (by decide),by decide,by decide,by decide⟩
 ·refine ⟨?_,by decide,by decide,by decide⟩
  refine tx_one (by decide) (by decide) (fun r hr=>?_)
  unfold Lx.word
  rw [head_app (by decide),if_pos (by decide),run_app (by decide) (brk_goes hr)]
  rfl
/-- what an expression begins with -/
def First (t:Tok):Prop:=t.kind=2\/t.kind=3\/t.kind=4\/(∃ s,Va.name s=true/\t=tN s)\/t=tM [45]\/t=tM [40]
def Fst (ts:List Tok):Prop:=∃ t l,ts=t :: l/\First t/\((t.kind=2\/t.kind=1)->l=[]\/∃ op u,(op=1\/op=2\/op=3\/op=4\/op=5)/\l=ot op :: u)
theorem Fst.mark {t:Tok} {l:List Tok} (h:t=tM [45]\/t=tM [40]):Fst (t :: l):=⟨t,l,rfl,.inr (.inr (.inr (.inr h))),fun hk=>by rcases h with rfl | rfl <;> rcases hk with hk | hk <;> simp [tM] at hk⟩
theorem Fst.bin {tl tr:List Tok} {op:Int} (h:Fst tl) (hop:op=1\/op=2\/op=3\/op=4\/op=5):Fst (tl++(ot op :: tr)):=by
 obtain ⟨t,l,rfl,h1,h2⟩:=h
 refine ⟨t,l++(ot op :: tr),rfl,h1,fun hk=>?_⟩
 rcases h2 hk with rfl | ⟨op',u,h3,rfl⟩
 ·exact .inr ⟨op,tr,hop,rfl⟩
 ·exact .inr ⟨op',u++(ot op :: tr),h3,rfl⟩
theorem val_fst {x:Va.Val} (h:Va.may x=true):Fst (tx x):=by
 unfold tx
 split
 ·split
  ·exact Fst.mark (.inl rfl)
  ·exact ⟨_,_,rfl,.inr (.inl rfl),fun hk=>.inl rfl⟩
 ·split
  ·rename_i hn
   exact ⟨_,_,rfl,.inr (.inr (.inr (.inl ⟨_,hn,rfl⟩))),fun _=>.inl rfl⟩
  ·exact ⟨_,_,rfl,.inr (.inr (.inl rfl)),fun _=>.inl rfl⟩
/-- an expression, its text, its words, its depth; how it is read -/
structure PE (e:Ex) (s:List Nat) (ts:List Tok) (d:Nat):Prop where
 ne:s≠[]
 txt:Tx brk s ts
 fst:Fst ts
 hd:3<=binds e->¬ (e.k=2/\e.x.k=1/\0<=e.x.n)->∃ t l,ts=t :: l/\t.kind≠3
 p3:3<=binds e->∀ (v:Env) (i above n:Nat),At v i ts->above+d<=16->3 * (17 - above)<=n+2->exprF v n 3 above i=.ok (e,d) (i+ts.length)
 p2:2<=binds e->∀ (v:Env) (i above n:Nat),At v i ts->above+d<=16->3 * (17 - above)<=n+1->∃ m,v.ws.length+1<=m+ts.length/\exprF v n 2 above i=chainF v 2 (exprF v (n - 1) 3) above m e d (i+ts.length)
 p1:∀ (v:Env) (i above n:Nat),At v i ts->above+d<=16->3 * (17 - above)<=n->(level (v.tk (i+ts.length))).1≠2->∃ m,v.ws.length+1<=m+ts.length/\exprF v n 1 above i=chainF v 1 (exprF v (n - 1) 2) above m e d (i+ts.length)
theorem chain_stop {v:Env} {line:Nat} {sub:Nat->Nat->Sy.PR (Ex × Nat)} {above m:Nat} {e:Ex} {d i:Nat} (hm:1<=m) (h:(level (v.tk i)).1≠line):chainF v line sub above m e d i=.ok (e,d) i:=by
 obtain ⟨m,rfl⟩:∃ k,m=k+1:=⟨m - 1,by omega⟩
 rw [chainF,if_pos h]
theorem up2 {e:Ex} {ts:List Tok} {d:Nat} (h:∀ (v:Env) (i above n:Nat),At v i ts->above+d<=16->3 * (17 - above)<=n+2->exprF v n 3 above i=.ok (e,d) (i+ts.length)) :
  ∀ (v:Env) (i above n:Nat),At v i ts->above+d<=16->3 * (17 - above)<=n+1->∃ m,v.ws.length+1<=m+ts.length/\exprF v n 2 above i=chainF v 2 (exprF v (n - 1) 3) above m e d (i+ts.length):=by
 intro v i above n ha hd hn
 obtain ⟨k,rfl⟩:∃ k,n=k+1:=⟨n - 1,by omega⟩
 refine ⟨v.ws.length+1,by omega,?_⟩
 rw [exprF,if_neg (by decide),h v i above k ha hd (by omega)]
 rfl
theorem up1 {e:Ex} {ts:List Tok} {d:Nat} (h:∀ (v:Env) (i above n:Nat),At v i ts->above+d<=16->3 * (17 - above)<=n+1->∃ m,v.ws.length+1<=m+ts.length/\exprF v n 2 above i=chainF v 2 (exprF v (n - 1) 3) above m e d (i+ts.length)) :
  ∀ (v:Env) (i above n:Nat),At v i ts->above+d<=16->3 * (17 - above)<=n->(level (v.tk (i+ts.length))).1≠2->∃ m,v.ws.length+1<=m+ts.length/\exprF v n 1 above i=chainF v 1 (exprF v (n - 1) 2) above m e d (i+ts.length):=by
 intro v i above n ha hd hn hl
 obtain ⟨k,rfl⟩:∃ k,n=k+1:=⟨n - 1,by omega⟩
 obtain ⟨m,hm,he⟩:=h v i above k ha hd (by omega)
 have hf:=ha.fit
 refine ⟨v.ws.length+1,by omega,?_⟩
 rw [exprF,if_neg (by decide),he,chain_stop (by omega) hl]
 rfl
theorem PE.of3 {e:Ex} {s:List Nat} {ts:List Tok} {d:Nat} (h0:s≠[]) (h1:Tx brk s ts) (hf:Fst ts) (h2:3<=binds e->¬ (e.k=2/\e.x.k=1/\0<=e.x.n)->∃ t l,ts=t :: l/\t.kind≠3) (h3:∀ (v:Env) (i above n:Nat),At v i ts->above+d<=16->3 * (17 - above)<=n+2->exprF v n 3 above i=.ok (e,d) (i+ts.length)):PE e s ts d :=
 ⟨h0,h1,hf,h2,fun _=>h3,fun _=>up2 h3,up1 (up2 h3)⟩
theorem const_none {v:Env} {i:Nat} {s:List Nat} (h:sh (v.tk i)=sh (tM s)) (h2:s=[45]->(v.tk (i+1)).kind≠3):constant v i=none/\(v.tk i).kind≠2:=by
 have k0:=kind_is h
 unfold constant
 rw [k0,if_neg (by simp [tM]),plain_is h,plain_M,if_neg (by decide),if_neg]
 ·exact ⟨rfl,by simp [tM]⟩
 ·intro hh
  rw [sign_is h] at hh
  unfold sign tM at hh
  simp at hh
  exact h2 hh.1 hh.2
theorem must_ok {v:Env} {i:Nat} {s:List Nat} (h:sh (v.tk i)=sh (tM s)):Sy.must v s i=.ok () (i+1):=by
 unfold Sy.must
 rw [if_pos]
 rw [sign_is h]
 unfold sign tM;simp
theorem level_close {v:Env} {i:Nat} (h:sh (v.tk i)=sh (tM [41])):(level (v.tk i)).1=0:=by rw [level_is h];decide
/-- in brackets -/
theorem bracket {e:Ex} {s:List Nat} {ts:List Tok} {d:Nat} (h:PE e s ts d):∀ (v:Env) (i above n:Nat),At v i (tM [40] :: (ts++[tM [41]]))->above+(d+1)<=16->3 * (17 - above)<=n+2->exprF v n 3 above i=.ok (e,d+1) (i+(tM [40] :: (ts++[tM [41]])).length):=by
 intro v i above n ha hd hn
 obtain ⟨k,rfl⟩:∃ k,n=k+1:=⟨n - 1,by omega⟩
 have e0:=ha.head
 have a1:=ha.tail.left
 have e2:=ha.tail.right.head
 have hl:=level_close e2
 obtain ⟨m,hm,he⟩:=h.p1 v (i+1) (above+1) k a1 (by omega) (by omega) (by rw [hl];decide)
 have hf:=a1.fit
 obtain ⟨c1,c2⟩:=const_none e0 (fun h=>absurd h (by decide))
 have s1:sign (v.tk i) [45]=false:=by rw [sign_is e0];decide
 rw [exprF,if_pos rfl,if_neg c2,c1]
 simp only
 rw [if_neg (by rw [s1];decide),if_neg (by omega),must_ok e0]
 simp only [Sy.PR.bind_ok]
 rw [he,chain_stop (by omega) (by rw [hl];decide)]
 simp only [Sy.PR.bind_ok]
 rw [must_ok e2]
 simp only [Sy.PR.bind_ok]
 congr 1
 simp only [List.length_cons,List.length_append,List.length_nil]
 omega
theorem tx_open (P:Nat->Bool):Tx P [40] [tM [40]]:=tx_mark P (by decide) (fun d _=>by simp [Lx.two]) (by decide)
theorem tx_close (P:Nat->Bool):Tx P [41] [tM [41]]:=tx_mark P (by decide) (fun d _=>by simp [Lx.two]) (by decide)
theorem tx_brackets {s:List Nat} {ts:List Tok} (h0:s≠[]) (h:Tx brk s ts):Tx brk (40 :: (s++[41])) (tM [40] :: (ts++[tM [41]])) :=
 Tx.app (a:=[40]) (ts:=[tM [40]]) (tx_open any) (Tx.app h (tx_close brk) (by simp) (by decide)) (by simp) rfl
/-- an argument, in brackets or not -/
structure PArg (e:Ex) (s:List Nat) (ts:List Tok) (d:Nat) (b:Bool):Prop where
 ne:s≠[]
 txt:Tx brk s ts
 fst:Fst ts
 p3:(b=true\/3<=binds e)->∀ (v:Env) (i above n:Nat),At v i ts->above+d<=16->3 * (17 - above)<=n+2->exprF v n 3 above i=.ok (e,d) (i+ts.length)
 p2:(b=true\/2<=binds e)->∀ (v:Env) (i above n:Nat),At v i ts->above+d<=16->3 * (17 - above)<=n+1->∃ m,v.ws.length+1<=m+ts.length/\exprF v n 2 above i=chainF v 2 (exprF v (n - 1) 3) above m e d (i+ts.length)
 p1:∀ (v:Env) (i above n:Nat),At v i ts->above+d<=16->3 * (17 - above)<=n->(level (v.tk (i+ts.length))).1≠2->∃ m,v.ws.length+1<=m+ts.length/\exprF v n 1 above i=chainF v 1 (exprF v (n - 1) 2) above m e d (i+ts.length)
theorem PE.bare {e:Ex} {s:List Nat} {ts:List Tok} {d:Nat} (h:PE e s ts d):PArg e s ts d false :=
 ⟨h.ne,h.txt,h.fst,fun hb=>h.p3 (by rcases hb with hb | hb;cases hb;exact hb),fun hb=>h.p2 (by rcases hb with hb | hb;cases hb;exact hb),h.p1⟩
theorem PE.brackets {e:Ex} {s:List Nat} {ts:List Tok} {d:Nat} (h:PE e s ts d):PArg e (40 :: (s++[41])) (tM [40] :: (ts++[tM [41]])) (d+1) true :=
 ⟨by simp,tx_brackets h.ne h.txt,Fst.mark (.inr rfl),fun _=>bracket h,fun _=>up2 (bracket h),up1 (up2 (bracket h))⟩
theorem neg_of {a:Ex} {t:List Nat} {ts:List Tok} {d:Nat} (h0:t≠[]) (ht:Tx brk t ts) (hk:∃ u l,ts=u :: l/\u.kind≠3)
  (h3:∀ (v:Env) (i above n:Nat),At v i ts->above+d<=16->3 * (17 - above)<=n+2->exprF v n 3 above i=.ok (a,d) (i+ts.length)) :
  PE (.mk 4 (txt []) Va.zero 6 [a]) (45 :: t) (tM [45] :: ts) (d+1):=by
 refine PE.of3 (by simp) (Tx.app (a:=[45]) (ts:=[tM [45]]) (tx_minus any) ht h0 rfl) (Fst.mark (.inl rfl)) (fun _ _=>⟨_,_,rfl,by simp [tM]⟩) (fun v i above n ha hd hn=>?_)
 obtain ⟨k,rfl⟩:∃ k,n=k+1:=⟨n - 1,by omega⟩
 have e0:=ha.head
 have a1:=ha.tail
 obtain ⟨u,l,hts,hu⟩:=hk
 have e1:sh (v.tk (i+1))=sh u:=by rw [hts] at a1;exact a1.head
 obtain ⟨c1,c2⟩:=const_none e0 (fun _=>by rw [kind_is e1];exact hu)
 have s1:sign (v.tk i) [45]=true:=by rw [sign_is e0];decide
 rw [exprF,if_pos rfl,if_neg c2,c1]
 simp only
 rw [if_pos s1,if_neg (by omega),h3 v (i+1) (above+1) k a1 (by omega) (by omega)]
 simp only [Sy.PR.bind_ok]
 congr 1
 simp only [List.length_cons]
 omega
theorem strength_cases {op:Int} (h0:0<strength op) (h6:op≠6):(op=1\/op=2\/op=3\/op=4\/op=5)/\(strength op=1\/strength op=2):=by
 unfold strength at h0 ⊢
 split
 ·rename_i h;exact ⟨by omega,.inl rfl⟩
 ·split
  ·rename_i h;exact ⟨by omega,.inr rfl⟩
  ·rename_i h1 h2
   rw [if_neg h1,if_neg h2,if_neg h6] at h0
   omega
theorem bin_txt {l r:List Nat} {tl tr:List Tok} {op:Int} (hl:Tx brk l tl) (hr:Tx brk r tr) (hr0:tr≠[]) (hop:op=1\/op=2\/op=3\/op=4\/op=5) :
  Tx brk (l++(32 :: (Pr.sign op++(32 :: r)))) (tl++(ot op :: tr)):=by
 obtain ⟨h1,-,-,h4⟩:=op_tok hop
 exact Tx.app hl (Tx.bl (Tx.app (ts:=[ot op]) h1 (hr.bl rfl hr0) (by simp) (show brk 32=true by decide)) rfl (by simp)) (by simp) (show brk 32=true by decide)
theorem Tx.ne {P:Nat->Bool} {a:List Nat} {ts:List Tok} (h:Tx P a ts) (ha:a≠[]) (hp:P 0=true):ts≠[]:=by
 intro e
 subst e
 obtain ⟨toks,q,h1,h2⟩:=h [] (1,1) hp
 cases toks with
 | cons x y=>simp at h2
 | nil =>
  generalize hg:a++[]=g at h1
  cases h1
  simp at hg
  exact ha hg
theorem bin_of {a b:Ex} {l r:List Nat} {tl tr:List Tok} {da db:Nat} {fa fb:Bool} {op:Int} (hop:op=1\/op=2\/op=3\/op=4\/op=5) (hs:strength op=1\/strength op=2)
  (ha:PArg a l tl da fa) (hb:PArg b r tr db fb) (ca:fa=true\/strength op<=binds a) (cb:fb=true\/strength op<binds b) :
  PE (.mk 4 (txt []) Va.zero op [a,b]) (l++(32 :: (Pr.sign op++(32 :: r)))) (tl++(ot op :: tr)) (1+max da db):=by
 obtain ⟨-,o2,o3,-⟩:=op_tok hop
 have hbd:binds (.mk 4 (txt []) Va.zero op [a,b])=strength op:=by
  show (if (4:Int)=4 then strength op else 4)=strength op
  rw [if_pos rfl]
 -- one step of a chain
 have step:∀ (v:Env) (i above m:Nat) (sub:Nat->Nat->Sy.PR (Ex × Nat)),At v i (tl++(ot op :: tr))->above+(1+max da db)<=16->v.ws.length+1<=m+tl.length->sub (above+1) (i+tl.length+1)=.ok (b,db) (i+tl.length+1+tr.length) ->
   ∃ m',v.ws.length+1<=m'+(tl++(ot op :: tr)).length/\chainF v (strength op) sub above m a da (i+tl.length)=chainF v (strength op) sub above m' (.mk 4 (txt []) Va.zero op [a,b]) (1+max da db) (i+(tl++(ot op :: tr)).length):=by
  intro v i above m sub hat hd hm hsub
  have hf:=hat.fit
  rw [List.length_append,List.length_cons] at hf
  obtain ⟨k,rfl⟩:∃ k,m=k+1:=⟨m - 1,by omega⟩
  have e0:=hat.right.head
  refine ⟨k,by rw [List.length_append,List.length_cons];omega,?_⟩
  rw [chainF,level_is e0,o2,if_neg (by simp),if_neg (by omega),hsub]
  simp only [Sy.PR.bind_ok]
  rw [o3,List.length_append,List.length_cons]
  congr 1
  omega
 have P2:strength op=2->∀ (v:Env) (i above n:Nat),At v i (tl++(ot op :: tr))->above+(1+max da db)<=16->3 * (17 - above)<=n+1->∃ m,v.ws.length+1<=m+(tl++(ot op :: tr)).length/\exprF v n 2 above i=chainF v 2 (exprF v (n - 1) 3) above m (.mk 4 (txt []) Va.zero op [a,b]) (1+max da db) (i+(tl++(ot op :: tr)).length):=by
  intro h2 v i above n hat hd hn
  rw [h2] at ca cb step
  obtain ⟨m,hm,he⟩:=ha.p2 ca v i above n hat.left (by omega) hn
  rw [he]
  exact step v i above m _ hat hd hm (hb.p3 (by rcases cb with c | c;exact .inl c;exact .inr (by omega)) v (i+tl.length+1) (above+1) (n - 1) hat.right.tail (by omega) (by omega))
 have P1:∀ (v:Env) (i above n:Nat),At v i (tl++(ot op :: tr))->above+(1+max da db)<=16->3 * (17 - above)<=n->(level (v.tk (i+(tl++(ot op :: tr)).length))).1≠2->∃ m,v.ws.length+1<=m+(tl++(ot op :: tr)).length/\exprF v n 1 above i=chainF v 1 (exprF v (n - 1) 2) above m (.mk 4 (txt []) Va.zero op [a,b]) (1+max da db) (i+(tl++(ot op :: tr)).length):=by
  rcases hs with h1 | h2
  ·intro v i above n hat hd hn hl
   rw [h1] at ca cb step o2
   have e0:=hat.right.head
   obtain ⟨m,hm,he⟩:=ha.p1 v i above n hat.left (by omega) hn (by rw [level_is e0,o2];simp)
   rw [he]
   have a2:=hat.right.tail
   obtain ⟨mb,hmb,heb⟩:=hb.p2 (by rcases cb with c | c;exact .inl c;exact .inr (by omega)) v (i+tl.length+1) (above+1) (n - 1) a2 (by omega) (by omega)
   have hf:=a2.fit
   refine step v i above m _ hat hd hm ?_
   rw [heb]
   refine chain_stop (by omega) ?_
   rw [List.length_append,List.length_cons] at hl
   rw [show i+tl.length+1+tr.length=i+(tl.length+(tr.length+1)) by omega]
   exact hl
  ·exact up1 (P2 h2)
 exact ⟨by simp,bin_txt ha.txt hb.txt (hb.txt.ne hb.ne rfl) hop,ha.fst.bin hop,fun h=>by rw [hbd] at h;omega,fun h=>by rw [hbd] at h;omega,fun h=>P2 (by rw [hbd] at h;omega),P1⟩
theorem pO_one (j:Nat) (k:Int) (v:ByteArray) (x:Va.Val) (op:Int) (a:Ex):pO (j+1) (.mk k v x op [a]) =
  if op=6 then (if binds a<3\/(a.k=2/\a.x.k=1/\0<a.x.n) then (pE j a).map (fun t=>40 :: (t++[41])) else pE (j+1) a).map (fun t=>45 :: ((if a.k=2/\a.x.k=1/\a.x.n=0 then [45] else [])++t)) else none:=rfl
theorem pO_two (j:Nat) (k:Int) (v:ByteArray) (x:Va.Val) (op:Int) (a b:Ex):pO (j+1) (.mk k v x op [a,b]) =
  if op=6 then none else
   match (if binds a<strength op then (pE j a).map (fun t=>40 :: (t++[41])) else pE (j+1) a),(if binds b<=strength op then (pE j b).map (fun t=>40 :: (t++[41])) else pE (j+1) b) with
   | some l,some r=>some (l++(32 :: (Pr.sign op++(32 :: r))))
   | _,_=>none:=rfl
theorem pO_nil (j:Nat) (k:Int) (v:ByteArray) (x:Va.Val) (op:Int):pO (j+1) (.mk k v x op [])=none:=rfl
theorem pO_more (j:Nat) (k:Int) (v:ByteArray) (x:Va.Val) (op:Int) (a b c:Ex) (r:List Ex):pO (j+1) (.mk k v x op (a :: b :: c :: r))=none:=rfl
theorem ba_zero {b:ByteArray} (h:b.size=0):b=txt []:=by
 have:Cod.str b=[]:=List.eq_nil_of_length_eq_zero (by rw [Cod.str_len,h])
 rw [<-Lx.ofS_str b]
 show Lx.ofS (Cod.str b)=_
 rw [this];rfl
theorem back:∀ (k:Nat) (e:Ex) (s:List Nat),ExO e->pE k e=some s->∃ ts d,d+1<=k/\PE e s ts d:=by
 intro k
 induction k using Nat.strongRecOn with
 | ind k ih =>
  intro e s ho hp
  cases k with
  | zero=>simp [pE] at hp
  | succ k =>
   obtain ⟨k0,v0,x0,op0,args0⟩:=e
   cases ho with
   | mk hx hargs =>
   by_cases h1:k0=1
   ·rw [Pr.pE_var k (.mk k0 v0 x0 op0 args0) h1] at hp
    split at hp
    ·rename_i hc
     simp only [Option.some.injEq] at hp
     obtain ⟨c1,c2,c3,c4⟩:=hc
     simp only [Ex.x,Ex.op,Ex.args,Ex.v] at c1 c2 c3 c4 hp
     have c5:=List.eq_nil_of_length_eq_zero c4
     subst c2 c3 c5 h1 hp
     refine ⟨[tV (str v0)],0,by omega,PE.of3 ?_ (tx_var c1) ⟨_,_,rfl,.inl rfl,fun _=>.inl rfl⟩ (fun _ _=>⟨_,_,rfl,by simp [tV]⟩) (fun v i above n ha hd hn=>?_)⟩
     ·exact (name_parts (p:=Lx.capital) c1).1
     ·obtain ⟨m,rfl⟩:∃ m,n=m+1:=⟨n - 1,by omega⟩
      have e0:=ha.head
      have tx0:(v.tk i).text=str v0:=congrArg Sh.text e0
      rw [exprF,if_pos rfl,if_pos (by rw [kind_is e0];rfl),tx0]
      show Sy.PR.ok (Ex.mk 1 (Lx.ofS (str v0)) _ _ _,0) _=_
      rw [Lx.ofS_str]
      rfl
    ·cases hp
   ·by_cases h2:k0=2
    ·rw [Pr.pE_val k (.mk k0 v0 x0 op0 args0) h2] at hp
     split at hp
     ·rename_i hc
      simp only [Option.some.injEq] at hp
      obtain ⟨c1,c2,c3,c4⟩:=hc
      simp only [Ex.x,Ex.op,Ex.args,Ex.v] at c1 c2 c3 c4 hp
      have c5:=List.eq_nil_of_length_eq_zero c3
      have c6:=ba_zero c1
      subst c2 c5 c6 h2 hp
      obtain ⟨t1,t2,t3⟩:=val_txt c4 hx
      refine ⟨tx x0,0,by omega,PE.of3 t2 t1 (val_fst c4) (fun _ hn=>?_) (fun v i above n ha hd hn=>?_)⟩
      ·simp only [Ex.k,Ex.x,true_and] at hn
       unfold tx
       rcases may_cases c4 with ⟨d1,d2,d3,d4⟩ | ⟨d1,d2,d3⟩
       ·rw [if_pos d1,if_pos (by omega)]
        exact ⟨_,_,rfl,by simp [tM]⟩
       ·rw [if_neg (by omega)]
        split
        ·exact ⟨_,_,rfl,by simp [tN]⟩
        ·exact ⟨_,_,rfl,by simp [tQ]⟩
      ·obtain ⟨m,rfl⟩:∃ m,n=m+1:=⟨n - 1,by omega⟩
       obtain ⟨e0,e1⟩:=val_const c4 ha
       rw [exprF,if_pos rfl,if_neg e1,e0]
     ·cases hp
    ·by_cases h4:k0=4
     ·rw [Pr.pE_op k (.mk k0 v0 x0 op0 args0) h4] at hp
      split at hp
      ·rename_i hc
       obtain ⟨c1,c2,c3⟩:=hc
       simp only [Ex.x,Ex.op,Ex.v] at c1 c2 c3
       have c6:=ba_zero c1
       subst c2 c6 h4
       cases k with
       | zero=>simp [pO] at hp
       | succ j =>
        have arg:∀ (a:Ex) (m:Bool) (t:List Nat),a∈args0->(if m=true then (pE j a).map (fun t=>40 :: (t++[41])) else pE (j+1) a)=some t->∃ ts d,d+1<=j+1/\PArg a t ts d m:=by
         intro a m t ha hm
         cases m with
         | true =>
          rw [if_pos rfl] at hm
          obtain ⟨t',h1,h2⟩:=Option.map_eq_some_iff.1 hm
          subst h2
          obtain ⟨ts,d,h3,h4⟩:=ih j (by omega) a t' (hargs a ha) h1
          exact ⟨_,_,by omega,h4.brackets⟩
         | false =>
          rw [if_neg (by decide)] at hm
          obtain ⟨ts,d,h3,h4⟩:=ih (j+1) (by omega) a t (hargs a ha) hm
          exact ⟨_,_,h3,h4.bare⟩
        match args0,hargs,arg,hp with
        | [],_,_,hp=>rw [pO_nil] at hp;cases hp
        | [a],hargs,arg,hp =>
         rw [pO_one] at hp
         by_cases h6:op0=6
         ·subst h6
          rw [if_pos rfl] at hp
          obtain ⟨t,ht,rfl⟩:=Option.map_eq_some_iff.1 hp
          by_cases hB:binds a<3\/(a.k=2/\a.x.k=1/\0<a.x.n)
          ·rw [if_pos hB] at ht
           have hZ:¬ (a.k=2/\a.x.k=1/\a.x.n=0):=by
            rintro ⟨z1,z2,z3⟩
            rcases hB with hB | ⟨_,_,hB⟩
            ·unfold binds at hB
             rw [if_neg (by omega)] at hB
             omega
            ·omega
           rw [if_neg hZ]
           obtain ⟨ts,d,hd,hA⟩:=arg a true t (by simp) (by rw [if_pos rfl];exact ht)
           obtain ⟨t',ht',ht2⟩:=Option.map_eq_some_iff.1 ht
           subst ht2
           obtain ⟨ts',d',h3,h4⟩:=ih j (by omega) a t' (hargs a (by simp)) ht'
           exact ⟨_,_,by omega,neg_of (by simp) (tx_brackets h4.ne h4.txt) ⟨_,_,rfl,by simp [tM]⟩ (bracket h4)⟩
          ·rw [if_neg hB] at ht
           have hb3:3<=binds a:=by omega
           by_cases hZ:a.k=2/\a.x.k=1/\a.x.n=0
           ·rw [if_pos hZ]
            obtain ⟨ka,va,xa,oa,la⟩:=a
            obtain ⟨z1,z2,z3⟩:=hZ
            simp only [Ex.k,Ex.x] at z1 z2 z3
            subst z1
            rw [Pr.pE_val j (.mk 2 va xa oa la) rfl] at ht
            split at ht
            ·rename_i hc
             simp only [Option.some.injEq] at ht
             obtain ⟨c1,c2,c3,c4⟩:=hc
             simp only [Ex.x,Ex.op,Ex.args,Ex.v] at c1 c2 c3 c4 ht
             have c5:=List.eq_nil_of_length_eq_zero c3
             have c6:=ba_zero c1
             subst c2 c5 c6
             have hx0:xa=⟨1,0,[]⟩:=by
              obtain ⟨xk,xn,xs⟩:=xa
              simp only at z2 z3
              subst z2 z3
              rcases may_cases c4 with ⟨-,d2,-,-⟩ | ⟨d1,-,-⟩
              ·simp only at d2;rw [d2]
              ·simp at d1
             subst hx0
             have ht2:t=dig 0:=by rw [<-ht];unfold Va.text;rw [if_pos rfl,itoa_eq];rfl
             subst ht2
             refine ⟨_,_,?_,neg_of (a:=.mk 2 (txt []) ⟨1,0,[]⟩ 0 []) (t:=45 :: dig 0) (ts:=[tM [45],tD (dig 0) 0]) (d:=0) (by simp) (Tx.app (a:=[45]) (ts:=[tM [45]]) (tx_minus any) (tx_dig (by omega)) (dig_ne _) rfl) ⟨_,_,rfl,by simp [tM]⟩ (fun v i above n ha hd hn=>?_)⟩
             ·omega
             ·obtain ⟨m,rfl⟩:∃ m,n=m+1:=⟨n - 1,by omega⟩
              have e0:=ha.head
              have e1:=ha.tail.head
              have k1:=kind_is e1
              have n1:(v.tk (i+1)).num=0:=congrArg Sh.num e1
              have hcst:constant v i=some (⟨1,0,[]⟩,2):=by
               unfold constant
               rw [kind_is e0,if_neg (by simp [tM]),plain_is e0,plain_M,if_neg (by decide),sign_is e0,k1,if_pos ⟨by decide,rfl⟩,n1]
               rfl
              rw [exprF,if_pos rfl,if_neg (by rw [kind_is e0];simp [tM]),hcst]
              rfl
            ·cases ht
           ·rw [if_neg hZ]
            obtain ⟨ts,d,hd,hA⟩:=ih (j+1) (by omega) a t (hargs a (by simp)) ht
            refine ⟨_,_,?_,neg_of hA.ne hA.txt (hA.hd hb3 (by omega)) (hA.p3 hb3)⟩
            omega
         ·rw [if_neg h6] at hp
          cases hp
        | [a,b],hargs,arg,hp =>
         rw [pO_two] at hp
         by_cases h6:op0=6
         ·rw [if_pos h6] at hp
          cases hp
         ·rw [if_neg h6] at hp
          obtain ⟨hop,hs⟩:=strength_cases c3 h6
          split at hp
          ·rename_i l r hl hr
           simp only [Option.some.injEq] at hp
           subst hp
           obtain ⟨tl,da,hda,hA⟩:=arg a (decide (binds a<strength op0)) l (by simp) (by rw [<-hl];by_cases h:binds a<strength op0 <;> simp [h])
           obtain ⟨tr,db,hdb,hB⟩:=arg b (decide (binds b<=strength op0)) r (by simp) (by rw [<-hr];by_cases h:binds b<=strength op0 <;> simp [h])
           refine ⟨_,_,?_,bin_of hop hs hA hB (by by_cases h:binds a<strength op0;exact .inl (decide_eq_true h);exact .inr (by omega)) (by by_cases h:binds b<=strength op0;exact .inl (decide_eq_true h);exact .inr (by omega))⟩
           omega
          ·cases hp
        | _ :: _ :: _ :: _,_,_,hp=>rw [pO_more] at hp;cases hp
      ·cases hp
     ·rw [Pr.pE_other k (.mk k0 v0 x0 op0 args0) h1 h2 h4] at hp
      cases hp
open Sy (sh Sh Env PR constant sign plain level txt term list listF must)
open Pr (Ex Term Atom seqO commas)
section
variable {α:Type} {R:α->α->Prop} {one:Env->Nat->PR α}
end
theorem first_sign {t:Tok} (h:First t) {s:List Nat} (hs:s≠[45]/\s≠[40]/\Va.name s=false) (hk:t.kind≠2):sign t s=false\/t.kind=2:=by
 left
 rcases h with h | h | h | ⟨n,h,rfl⟩ | rfl | rfl
 ·exact absurd h hk
 ·unfold sign;rw [h];simp
 ·unfold sign;rw [h];simp
 ·unfold sign tN
  by_cases e:n=s
  ·subst e;rw [h] at hs;simp at hs
  ·simp [e]
 ·unfold sign tM;simp [Ne.symm hs.1]
 ·unfold sign tM;simp [Ne.symm hs.2.1]
theorem var_sign {t:Tok} (h:t.kind=2) (s:List Nat):sign t s=false:=by unfold sign;rw [h];simp
theorem fst_sign {t:Tok} (h:First t) {s:List Nat} (hs:s≠[45]/\s≠[40]/\Va.name s=false):sign t s=false:=by
 by_cases hk:t.kind=2
 ·exact var_sign hk s
 ·rcases first_sign h hs hk with h | h
  ·exact h
  ·exact absurd h hk
open Lx (Tok Sq)
open Sy (sh Sh Env PR sign plain level txt must bodyF bodyOf litF aggOf expr fnOf cmpOf bareL ex0 at0)
open Pr (Ex Li Atom Term Rul Rel Prog seqO commas pL pE)
open Cod (str)
set_option linter.unusedVariables false
set_option linter.unusedSimpArgs false
theorem expr_it {e:Ex} {s:List Nat} (ho:ExO e) (h:pE 17 e=some s):∃ ts,s≠[]/\Tx brk s ts/\Fst ts/\∀ (v:Env) (i:Nat),At v i ts->(level (v.tk (i+ts.length))).1=0->expr v i=.ok e (i+ts.length):=by
 obtain ⟨ts,d,h1,h2⟩:=back 17 e s ho h
 refine ⟨ts,h2.ne,h2.txt,h2.fst,fun v i ha hl=>?_⟩
 obtain ⟨m,hm,he⟩:=h2.p1 v i 0 60 ha (by omega) (by omega) (by omega)
 have:=ha.fit
 unfold expr
 rw [he,chain_stop (by omega) (by omega)]
 rfl
/-- a comparison's word -/
def ct (op:Int):Tok:=if op=1 then tM [61] else if op=2 then tM [33,61] else if op=3 then tM [60] else if op=4 then tM [60,61] else if op=5 then tM [62] else tM [62,61]
def sp (c:Nat):Bool:=c == 32
theorem two_sp (c:Nat) (h:c≠58\/True):∀ d,sp d=true->Lx.two c d=false:=fun d hd=>by
 unfold sp at hd
 simp only [beq_iff_eq] at hd
 subst hd
 unfold Lx.two
 simp
theorem cmp_tok {op:Int} (h1:1<=op) (h6:op<=6):∃ m,Pr.cmp op=32 :: (m++[32])/\m≠[]/\Tx sp m [ct op]/\(level (ct op)).1=0/\cmpOf (ct op)≠0/\((cmpOf (ct op):Nat):Int)=op/\sign (ct op) [40]=false/\(op≠1->sign (ct op) [61]=false):=by
 have:op=1\/op=2\/op=3\/op=4\/op=5\/op=6:=by omega
 rcases this with rfl | rfl | rfl | rfl | rfl | rfl
 ·exact ⟨[61],rfl,by simp,tx_mark _ (by decide) (two_sp _ (.inr trivial)) (by decide),by decide,by decide,by decide,by decide,by decide⟩
 ·exact ⟨[33,61],rfl,by simp,(tx_two (by decide) (by decide)).mono (fun _ _=>rfl),by decide,by decide,by decide,by decide,by decide⟩
 ·exact ⟨[60],rfl,by simp,tx_mark _ (by decide) (two_sp _ (.inr trivial)) (by decide),by decide,by decide,by decide,by decide,by decide⟩
 ·exact ⟨[60,61],rfl,by simp,(tx_two (by decide) (by decide)).mono (fun _ _=>rfl),by decide,by decide,by decide,by decide,by decide⟩
 ·exact ⟨[62],rfl,by simp,tx_mark _ (by decide) (two_sp _ (.inr trivial)) (by decide),by decide,by decide,by decide,by decide,by decide⟩
 ·exact ⟨[62,61],rfl,by simp,(tx_two (by decide) (by decide)).mono (fun _ _=>rfl),by decide,by decide,by decide,by decide,by decide⟩
theorem cmp_is {v:Env} {i:Nat} {t:Tok} (h:sh (v.tk i)=sh t):cmpOf (v.tk i)=cmpOf t:=Sy.cmpOf_sh h
theorem fn_is {v:Env} {i:Nat} {t:Tok} (h:sh (v.tk i)=sh t):fnOf (v.tk i)=fnOf t:=Sy.fnOf_sh h
theorem first_fn {t:Tok} (h:First t):fnOf t=0:=by
 unfold fnOf Sy.place
 simp only [Sy.placeF]
 rw [fst_sign h (s:=[99,111,117,110,116]) (by decide),fst_sign h (s:=[115,117,109]) (by decide),fst_sign h (s:=[109,105,110]) (by decide),fst_sign h (s:=[109,97,120]) (by decide)]
 simp
/-- every value is of bytes -/
inductive LiO:Li->Prop
 | mk {k:Int} {a:Atom} {op:Int} {l r:Ex} {fn:Int} {av:ByteArray} {of:Ex} {body:List Li} {ln cl:Int} (ha:∀ t∈a.terms,∀ c∈t.x.s,c<256) (hl:ExO l) (hr:ExO r) (ho:ExO of) (hb:∀ x∈body,LiO x):LiO (.mk k a op l r fn av of body ln cl)
def RB (x y:Li):Prop:=bareL x=bareL y
/-- a literal with b braces left: its text, its words -/
structure PL (b:Nat) (li:Li) (s:List Nat) (ts:List Tok):Prop where
 ne:s≠[]
 txt:Tx brk s ts
 read:∀ (br k:Nat),b+br<=16->18<=k+br->∀ (v:Env) (i:Nat),At v i ts->(level (v.tk (i+ts.length))).1=0->∃ li',litF v k br i=.ok li' (i+ts.length)/\RB li' li
theorem tx_eq (P:Nat->Bool):Tx P [61] [tM [61]]:=tx_mark P (by decide) (fun d _=>by simp [Lx.two]) (by decide)
theorem first_not {t:Tok} (h:First t):sign t [110,111,116]=false:=fst_sign h (by decide)
/-- a comparison -/
theorem cmp_it {b:Nat} {op:Int} {l r:Ex} {ln cl:Int} {s t:List Nat} (hl:ExO l) (hr:ExO r) (h1:1<=op) (h6:op<=6) (hs:pE 17 l=some s) (ht:pE 17 r=some t):∃ ts,PL b (.mk 3 at0 op l r 0 (txt []) ex0 [] ln cl) (s++(Pr.cmp op++t)) ts:=by
 obtain ⟨tl,l1,l2,l3,l4⟩:=expr_it hl hs
 obtain ⟨tr,r1,r2,r3,r4⟩:=expr_it hr ht
 obtain ⟨m,c1,c2,c3,c4,c5,c6,c7,c8⟩:=cmp_tok h1 h6
 obtain ⟨t0,u0,e1,e2,e3⟩:=l3
 obtain ⟨t1,u1,f1,f2,-⟩:=r3
 refine ⟨tl++(ct op :: tr),by simp [l1],?_,fun br k hb hk v i ha hlv=>?_⟩
 ·rw [c1,show (32 :: (m++[32]))++t=32 :: (m++(32 :: t)) by simp]
  exact Tx.app l2 (Tx.bl (Tx.app (ts:=[ct op]) c3 (r2.bl rfl (r2.ne r1 rfl)) (by simp) rfl) rfl (by simp)) (by simp) (show brk 32=true by decide)
 ·obtain ⟨k,rfl⟩:∃ q,k=q+1:=⟨k - 1,by omega⟩
  have hlen:(tl++(ct op :: tr)).length=tl.length+1+tr.length:=by simp only [List.length_append,List.length_cons];omega
  have g0:sh (v.tk i)=sh t0:=by rw [e1] at ha;exact ha.head
  have gc:sh (v.tk (i+tl.length))=sh (ct op):=ha.right.head
  have gr:=ha.right.tail
  have g1:sh (v.tk (i+tl.length+1))=sh t1:=by rw [f1] at gr;exact gr.head
  have x1:=l4 v i ha.left (by rw [level_is gc];exact c4)
  have x2:=r4 v (i+tl.length+1) gr (by rw [show i+tl.length+1+tr.length=i+(tl++(ct op :: tr)).length by rw [hlen];omega];exact hlv)
  -- the second word
  have snd:(t0.kind=2\/t0.kind=1)->sign (v.tk (i+1)) [40]=false/\(sign (v.tk (i+1)) [61]=true->fnOf (v.tk (i+2))=0):=by
   intro hk
   rcases e3 hk with rfl | ⟨op',u,ho,rfl⟩
   ·have hl1:tl.length=1:=by rw [e1];rfl
    rw [hl1] at gc g1
    refine ⟨by rw [sign_is gc];exact c7,fun hh=>?_⟩
    rw [fn_is (show sh (v.tk (i+2))=sh t1 from g1)]
    exact first_fn f2
   ·have g2:sh (v.tk (i+1))=sh (ot op'):=by rw [e1] at ha;exact ha.tail.head
    refine ⟨?_,fun hh=>?_⟩
    ·rw [sign_is g2];rcases ho with rfl | rfl | rfl | rfl | rfl <;> decide
    ·rw [sign_is g2] at hh;rcases ho with rfl | rfl | rfl | rfl | rfl <;> exact absurd hh (by decide)
  refine ⟨.mk 3 at0 (cmpOf (v.tk (i+tl.length)):Nat) l r 0 (txt []) ex0 [] (v.tk i).line (v.tk i).col,?_,?_⟩
  ·rw [litF,sign_is g0,first_not e2,if_neg (by decide),if_neg,if_neg,x1]
   ·simp only [Sy.PR.bind_ok]
    rw [cmp_is gc,if_neg c5,x2]
    simp only [Sy.PR.bind_ok]
    rw [hlen]
    congr 1
    omega
   ·rintro ⟨k2,k3,k4⟩
    rw [kind_is g0] at k2
    have:=(snd (.inl k2)).2 k3
    omega
   ·rintro ⟨k2,k3⟩
    rw [plain_is g0] at k2
    have hk1:t0.kind=1:=by
     unfold plain at k2
     simp only [Bool.and_eq_true,decide_eq_true_eq] at k2
     exact k2.1
    rw [(snd (.inr hk1)).1] at k3
    cases k3
  ·show bareL _=bareL _
   rw [cmp_is gc,c6]
   simp only [Sy.bareL_eq]
open Sy (sh Sh Env PR sign plain level txt must bodyOf litF aggOf expr fnOf bareL bareU bareR bareP ex0 at0 progF)
open Pr (Ex Li Atom Term Rul Rel Prog seqO commas pL pE pA pR pD pP pB lines)
/-- behind a rule: no operator, no comma, no arrow -/
def Fin (t:Tok):Prop:=(level t).1=0/\sign t [44]=false/\sign t [58,45]=false
theorem at_all {v:Env} {ts:List Tok} (h:v.ws.map sh=ts.map sh):At v 0 ts/\ts.length=v.ws.length:=by
 have hl:v.ws.length=ts.length:=by simpa using congrArg List.length h
 refine ⟨⟨by omega,fun j hj=>?_⟩,hl.symm⟩
 have:=congrArg (fun l=>l[j]?) h
 simp only [List.getElem?_map] at this
 rw [List.getElem?_eq_getElem (by omega:j<v.ws.length),List.getElem?_eq_getElem hj] at this
 simp only [Option.map_some,Option.some.injEq] at this
 unfold Env.tk
 rw [Nat.zero_add,List.getD_eq_getElem?_getD,List.getElem?_eq_getElem (by omega:j<v.ws.length)]
 exact this
/-- words of a text that stands alone -/
theorem alone {s:List Nat} {ts:List Tok} (h:Tx brk s ts) (hb:∀ c∈s,c<256) (hl:s.length<=65536):(Sy.envOf s).ws.map sh=ts.map sh/\(Sy.envOf s).last.1=42:=by
 obtain ⟨toks,q,h1,h2⟩:=h [] (1,1) rfl
 rw [List.append_nil] at h1
 obtain ⟨g1,g2⟩:=Lx.given_of_sq h1 hb rfl hl
 exact ⟨by show (Lx.given s).1.map sh=_;rw [g1,h2],by unfold Sy.envOf;simp only;rw [if_pos g2]⟩
end Go.Proofs.YtbfaclljbbfknaaGreatDoor.Rt
