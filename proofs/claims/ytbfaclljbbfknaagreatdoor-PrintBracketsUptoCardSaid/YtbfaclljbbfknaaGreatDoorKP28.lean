/- THE TEXTS MERGED: RtLex. -/
import Derived.Test.YtbfaclljbbfknaaGreatDoorKP27
namespace Go.Proofs.YtbfaclljbbfknaaGreatDoor.Rt
open Lx (Tok Sq small capital digit goes run two ones word skipN adv hexv esc quoF quo numv)
open Sy (sh Sh)
set_option linter.unusedVariables false
set_option linter.unusedSimpArgs false
/-- words without places -/
def tM (s:List Nat):Tok:=⟨5,s,0,0,[],0,0⟩
def tN (s:List Nat):Tok:=⟨1,s,0,0,[],0,0⟩
def tV (s:List Nat):Tok:=⟨2,s,0,0,[],0,0⟩
def tD (s:List Nat) (u:Nat):Tok:=⟨3,s,1,u,[],0,0⟩
def tQ (l:List Nat):Tok:=⟨4,Va.quoted l,2,0,l,0,0⟩
/-- text a is the words ts, if what follows begins with a byte that P lets by (0: nothing follows) -/
def Tx (P:Nat->Bool) (a:List Nat) (ts:List Tok):Prop:=∀ r p,P (r.headD 0)=true->∃ toks q,Sq (a++r) p toks r q/\toks.map sh=ts.map sh
def any (_:Nat):Bool:=true
def brk (c:Nat):Bool:=!goes c
theorem Tx.mono {P Q:Nat->Bool} {a:List Nat} {ts:List Tok} (h:Tx P a ts) (hq:∀ c,Q c=true->P c=true):Tx Q a ts:=fun r p hr=>h r p (hq _ hr)
theorem Tx.toBrk {a:List Nat} {ts:List Tok} (h:Tx any a ts):Tx brk a ts:=h.mono (fun _ _=>rfl)
theorem Tx.app {P Q:Nat->Bool} {a c:List Nat} {ts us:List Tok} (h:Tx P a ts) (k:Tx Q c us) (hc:c≠[]) (hp:P (c.headD 0)=true):Tx Q (a++c) (ts++us):=by
 intro r p hr
 have hd:(c++r).headD 0=c.headD 0:=by cases c with
  | nil=>exact absurd rfl hc
  | cons x y=>rfl
 obtain ⟨t1,q1,h1,e1⟩:=h (c++r) p (by rw [hd];exact hp)
 obtain ⟨t2,q2,h2,e2⟩:=k r q1 hr
 exact ⟨t1++t2,q2,by rw [List.append_assoc];exact h1.trans h2,by rw [List.map_append,List.map_append,e1,e2]⟩
theorem skip_one {c:Nat} (hc:Lx.blank c=true) (s:List Nat):skipN false (c :: s)=skipN false s+1:=by
 have h35:c≠35:=by rintro rfl;simp [Lx.blank] at hc
 conv=>lhs;unfold skipN
 simp only
 rw [if_neg h35]
 have:(if c=10 then false else false)=false:=by split <;> rfl
 rw [this]
 simp [hc]
theorem Tx.bl {P:Nat->Bool} {c:Nat} {a:List Nat} {ts:List Tok} (h:Tx P a ts) (hc:Lx.blank c=true) (hne:ts≠[]):Tx P (c :: a) ts:=by
 intro r p hr
 obtain ⟨toks,q,h1,h2⟩:=h r (adv p [c]) hr
 generalize hg:a++r=g at h1
 cases h1 with
 | nil s p =>
  cases ts with
  | nil=>exact absurd rfl hne
  | cons x y=>simp at h2
 | @word s p' u w l r' q' hs h0 hw hrest =>
  subst hg
  have hsk:=skip_one hc (a++r)
  have e1:adv p ((c :: (a++r)).take (skipN false (c :: (a++r))))=adv (adv p [c]) ((a++r).take (skipN false (a++r))):=by
   rw [hsk,List.take_succ_cons,show c :: (a++r).take (skipN false (a++r))=[c]++(a++r).take (skipN false (a++r)) from rfl,Lx.adv_append]
  refine ⟨_,q,.word (s:=c :: a++r) (p:=p) (u:=u) (w:=w) (l:=l) (r:=r) (q:=q) ?_ h0 hw ?_,?_⟩
  ·show (c :: (a++r)).drop _=u
   rw [show c :: a++r=c :: (a++r) from rfl,hsk,List.drop_succ_cons];exact hs
  ·show Sq _ (adv (adv p ((c :: (a++r)).take (skipN false (c :: (a++r))))) _) l r q
   rw [e1];exact hrest
  ·rw [<-h2];rfl
/-- one word -/
theorem tx_one {P:Nat->Bool} {a:List Nat} {k vk num:Nat} {sym:List Nat} (ha:a≠[]) (hs:Lx.blank (a.headD 0)=false/\a.headD 0≠35) (hw:∀ r,P (r.headD 0)=true->word (a++r)=.ok ⟨k,a.length,vk,num,sym⟩):Tx P a [⟨k,a,vk,num,sym,0,0⟩]:=by
 intro r p hr
 have hsk:skipN false (a++r)=0:=by
  cases a with
  | nil=>exact absurd rfl ha
  | cons c t =>
   show skipN false (c :: (t++r))=0
   have h1:Lx.blank c=false:=hs.1
   have h2:c≠35:=hs.2
   unfold skipN
   simp only
   rw [if_neg h2]
   have:(if c=10 then false else false)=false:=by split <;> rfl
   rw [this]
   simp [h1]
 have hu:(a++r).drop (skipN false (a++r))=a++r:=by rw [hsk];rfl
 have hd:(a++r).drop a.length=r:=by simp
 have htk:(a++r).take a.length=a:=by simp
 have:=Sq.word (s:=a++r) (p:=p) (u:=a++r) (w:=⟨k,a.length,vk,num,sym⟩) (l:=[]) (r:=r) (q:=adv (adv p ((a++r).take (skipN false (a++r)))) ((a++r).take a.length)) hu (by simp [ha]) (hw r hr) (by
  show Sq ((a++r).drop a.length) _ [] r _
  rw [hd]
  exact .nil _ _)
 refine ⟨_,_,this,?_⟩
 simp only [List.map_cons,List.map_nil,List.cons.injEq,and_true]
 show (⟨k,(a++r).take a.length,vk,num,sym⟩:Sh)=⟨k,a,vk,num,sym⟩
 rw [htk]
theorem run_app {p:Nat->Bool} {a r:List Nat} (h1:run p a=a.length) (h2:p (r.headD 0)=false\/r=[]):run p (a++r)=a.length:=by
 induction a with
 | nil =>
  cases r with
  | nil=>rfl
  | cons c t =>
   rcases h2 with h | h
   ·show run p (c :: t)=0
    rw [Lx.run_cons,if_neg (by simpa using h)]
   ·cases h
 | cons c t ih =>
  rw [Lx.run_cons] at h1
  split at h1
  ·rename_i hc
   show run p (c :: (t++r))=_
   rw [Lx.run_cons,if_pos hc,ih (by simpa using h1)];rfl
  ·simp at h1
theorem brk_goes {r:List Nat} (h:brk (r.headD 0)=true):goes (r.headD 0)=false\/r=[]:=by
 unfold brk at h
 exact .inl (by simpa using h)
theorem name_parts {p:Nat->Bool} {l:List Nat} (h:Va.wordB p l=true):l≠[]/\l.length<=32/\p (l.headD 0)=true/\run goes l=l.length:=by
 unfold Va.wordB at h
 simp only [Bool.and_eq_true,decide_eq_true_eq] at h
 exact ⟨h.1,h.2.1,h.2.2.1,h.2.2.2⟩
theorem head_app {a r:List Nat} (h:a≠[]):(a++r).headD 0=a.headD 0:=by
 cases a with
 | nil=>exact absurd rfl h
 | cons c t=>rfl
theorem letter_head {c:Nat} (h:(small c || capital c)=true):Lx.blank c=false/\c≠35:=by
 unfold small capital at h
 simp only [Bool.or_eq_true,Bool.and_eq_true,decide_eq_true_eq] at h
 refine ⟨?_,by omega⟩
 unfold Lx.blank
 simp
 omega
theorem small_cap {c:Nat} (h:small c=true):capital c=false:=by
 unfold small at h
 unfold capital
 simp at h ⊢
 omega
theorem tx_small {l:List Nat} (h:Va.wordB small l=true):Tx brk l [tN l]:=by
 obtain ⟨h0,h1,h2,h3⟩:=name_parts h
 refine tx_one h0 (letter_head (by rw [h2];rfl)) (fun r hr=>?_)
 unfold word
 rw [head_app h0,if_pos (by rw [h2];rfl),run_app h3 (brk_goes hr),if_neg (by omega),small_cap h2]
 rfl
theorem tx_name {l:List Nat} (h:Va.name l=true):Tx brk l [tN l]:=by
 unfold Va.name at h
 simp only [Bool.and_eq_true] at h
 exact tx_small h.2
theorem tx_var {l:List Nat} (h:Va.variable_ l=true):Tx brk l [tV l]:=by
 obtain ⟨h0,h1,h2,h3⟩:=name_parts (p:=capital) h
 refine tx_one h0 (letter_head (by rw [h2];simp)) (fun r hr=>?_)
 unfold word
 rw [head_app h0,if_pos (by rw [h2];simp),run_app h3 (brk_goes hr),if_neg (by omega),h2]
 rfl
/-- digits -/
def dig (u:Nat):List Nat:=(Lib.decDigits u).map UInt8.toNat
theorem numv_dec:∀ (l:List UInt8) (acc n:Nat),Lib.decFrom acc l=some n->(l.map UInt8.toNat).foldl (fun a c=>10 * a+(c - 48)) acc=n/\∀ b∈l,digit b.toNat=true
 | [],acc,n,h=>by
  simp [Lib.decFrom] at h
  exact ⟨by simpa using h,by simp⟩
 | b :: r,acc,n,h=>by
  unfold Lib.decFrom at h
  split at h
  ·rename_i d hd
   unfold Lib.digitVal at hd
   split at hd
   ·rename_i hb
    simp at hd
    have:=numv_dec r (acc * 10+d) n h
    refine ⟨?_,fun x hx=>?_⟩
    ·rw [List.map_cons,List.foldl_cons,<-this.1,<-hd]
     congr 1
     omega
    ·rcases List.mem_cons.1 hx with rfl | hx
     ·unfold digit;simp;omega
     ·exact this.2 x hx
   ·cases hd
  ·cases h
theorem dig_num (u:Nat):numv (dig u)=u/\∀ c∈dig u,digit c=true:=by
 have:=numv_dec _ 0 u (Va.decDigits_val u)
 refine ⟨this.1,fun c hc=>?_⟩
 obtain ⟨b,hb,rfl⟩:=List.mem_map.1 hc
 exact this.2 b hb
theorem dec_head:∀ (n u:Nat),u<n->u≠0->∃ c r,Lib.decDigits u=c :: r/\c.toNat≠48
 | 0,u,h,_=>by omega
 | n+1,u,h,h0=>by
  rw [Lib.decDigits]
  split
  ·rename_i hu
   refine ⟨_,[],rfl,?_⟩
   have:(UInt8.ofNat (48+u)).toNat=48+u:=by
    rw [UInt8.toNat_ofNat'];omega
   rw [this];omega
  ·obtain ⟨c,r,h1,h2⟩:=dec_head n (u / 10) (by omega) (by omega)
   rw [h1]
   exact ⟨c,r++[UInt8.ofNat (48+u % 10)],rfl,h2⟩
theorem run_allp {p:Nat->Bool}:∀ (l:List Nat),(∀ c∈l,p c=true)->run p l=l.length
 | [],_=>rfl
 | c :: t,h=>by rw [Lx.run_cons,if_pos (h c (by simp)),run_allp t (fun x hx=>h x (by simp [hx]))];rfl
theorem dig_ne (u:Nat):dig u≠[]:=by
 obtain ⟨c,r,h,-⟩:=Va.decDigits_head u
 unfold dig
 rw [h];simp
theorem digit_props {c:Nat} (h:digit c=true):small c=false/\capital c=false/\Lx.blank c=false/\c≠35/\goes c=true:=by
 unfold digit at h
 simp only [Bool.and_eq_true,decide_eq_true_eq] at h
 refine ⟨by unfold small;simp;omega,by unfold capital;simp;omega,by unfold Lx.blank;simp;omega,by omega,by unfold goes digit;simp [h]⟩
theorem headD_mem {l:List Nat} (h:l≠[]):l.headD 0∈l:=by
 cases l with
 | nil=>exact absurd rfl h
 | cons c t=>simp
theorem tx_dig {u:Nat} (h:u<=2147483647):Tx brk (dig u) [tD (dig u) u]:=by
 have hn:=dig_num u
 have h0:=dig_ne u
 obtain ⟨d1,d2,d3,d4,d5⟩:=digit_props (hn.2 _ (headD_mem h0))
 refine tx_one h0 ⟨d3,d4⟩ (fun r hr=>?_)
 have hg:=brk_goes hr
 have hr1:run digit (dig u++r)=(dig u).length:=run_app (run_allp _ hn.2) (by
  rcases hg with h | h
  ·refine .inl ?_
   generalize r.headD 0=c at *
   unfold goes at h
   simp at h
   exact h.2.2.1
  ·exact .inr h)
 have hr2:run goes (dig u++r)=(dig u).length:=run_app (run_allp _ (fun c hc=>(digit_props (hn.2 c hc)).2.2.2.2)) hg
 unfold word
 rw [head_app h0,if_neg (by rw [d1,d2];decide),if_pos (hn.2 _ (headD_mem h0)),hr1,hr2,List.take_left' rfl,hn.1,if_neg]
 intro hh
 rcases hh with hh | hh | hh
 ·by_cases hu:u=0
  ·subst hu
   have:dig 0=[48]:=by unfold dig;rw [Lib.decDigits_one (by omega)];rfl
   rw [this] at hh;simp at hh
  ·obtain ⟨c,t,h1,h2⟩:=dec_head (u+1) u (by omega) hu
   have:(dig u).headD 0=c.toNat:=by unfold dig;rw [h1];rfl
   rw [this] at hh
   exact h2 hh.2
 ·omega
 ·omega
theorem quoF_q:∀ (l:List Nat) (k:Nat) (acc r:List Nat) (n:Nat),(∀ c∈l,c<256)->(l.flatMap Va.qb).length+r.length<k->(acc++l).length<=64->quoF k (l.flatMap Va.qb++34 :: r) acc n=some (acc++l,n+(l.flatMap Va.qb).length+1)
 | [],0,acc,r,n,_,h,_=>by omega
 | [],k+1,acc,r,n,_,_,h64=>by
  simp at h64
  simp [quoF]
  omega
 | c :: t,0,acc,r,n,_,h,_=>by omega
 | c :: t,k+1,acc,r,n,hb,hk,h64=>by
  have hc:=hb c (by simp)
  have ht:=fun x hx=>hb x (List.mem_cons_of_mem c hx)
  have ih:=fun k' (h':(t.flatMap Va.qb).length+r.length<k') m=>quoF_q t k' (acc++[c]) r m ht h' (by simpa using h64)
  have e:acc++c :: t=acc++[c]++t:=by simp
  rw [e]
  rw [List.flatMap_cons,List.length_append] at hk
  rw [List.flatMap_cons,List.append_assoc,List.length_append]
  by_cases h1:c=34\/c=92
  ·have hq:Va.qb c=[92,c]:=by unfold Va.qb;rw [if_pos h1]
   rw [hq] at hk ⊢
   simp only [List.cons_append,List.nil_append,List.length_cons,List.length_nil] at hk ⊢
   rw [quoF,if_neg (by decide),if_neg (by decide),if_pos rfl]
   have he:esc (c :: (t.flatMap Va.qb++34 :: r))=some (c,1):=by unfold esc;simp only;rw [if_pos h1]
   rw [he]
   simp only
   rw [List.drop_one,List.tail_cons,ih k (by omega)]
   congr 2;omega
  ·by_cases h2:c=10
   ·have hq:Va.qb c=[92,110]:=by unfold Va.qb;rw [if_neg h1,if_pos h2]
    rw [hq] at hk ⊢
    simp only [List.cons_append,List.nil_append,List.length_cons,List.length_nil] at hk ⊢
    rw [quoF,if_neg (by decide),if_neg (by decide),if_pos rfl]
    have he:esc (110 :: (t.flatMap Va.qb++34 :: r))=some (10,1):=rfl
    rw [he]
    simp only
    subst h2
    rw [List.drop_one,List.tail_cons,ih k (by omega)]
    congr 2;omega
   ·by_cases h3:c<32\/126<c
    ·have hq:Va.qb c=[92,120,Va.hexd (c / 16),Va.hexd (c % 16)]:=by unfold Va.qb;rw [if_neg h1,if_neg h2,if_pos h3]
     rw [hq] at hk ⊢
     simp only [List.cons_append,List.nil_append,List.length_cons,List.length_nil] at hk ⊢
     rw [quoF,if_neg (by decide),if_neg (by decide),if_pos rfl]
     have he:esc (120 :: Va.hexd (c / 16) :: Va.hexd (c % 16) :: (t.flatMap Va.qb++34 :: r))=some (c,3):=by
      have:esc (120 :: Va.hexd (c / 16) :: Va.hexd (c % 16) :: (t.flatMap Va.qb++34 :: r))=match hexv (Va.hexd (c / 16)),hexv (Va.hexd (c % 16)) with
       | some x,some y=>some (16 * x+y,3)
       | _,_=>none:=rfl
      rw [this,Va.hexd_hexv (show c / 16<16 by omega),Va.hexd_hexv (show c % 16<16 by omega)]
      simp only
      congr 2;omega
     rw [he]
     simp only
     rw [show (120 :: Va.hexd (c / 16) :: Va.hexd (c % 16) :: (t.flatMap Va.qb++34 :: r)).drop 3=t.flatMap Va.qb++34 :: r from rfl,ih k (by omega)]
     congr 2;omega
    ·have hq:Va.qb c=[c]:=by unfold Va.qb;rw [if_neg h1,if_neg h2,if_neg h3]
     rw [hq] at hk ⊢
     simp only [List.cons_append,List.nil_append,List.length_cons,List.length_nil] at hk ⊢
     have h34:c≠34:=fun h=>h1 (.inl h)
     have h92:c≠92:=fun h=>h1 (.inr h)
     rw [quoF,if_neg h34,if_neg h2,if_neg h92,ih k (by omega)]
     congr 2;omega
theorem tx_quo {l:List Nat} (hb:∀ c∈l,c<256) (h64:l.length<=64):Tx any (Va.quoted l) [tQ l]:=by
 refine tx_one (by unfold Va.quoted;simp) ⟨rfl,by unfold Va.quoted;simp⟩ (fun r _=>?_)
 have hq:quo (Va.quoted l++r)=some (l,(Va.quoted l).length):=by
  unfold quo Va.quoted
  simp only [List.cons_append,List.drop_one,List.tail_cons,List.append_assoc,List.nil_append]
  rw [quoF_q l _ [] r 1 hb (by simp;omega) (by simpa using h64)]
  simp;omega
 unfold word
 rw [show (Va.quoted l++r).headD 0=34 from rfl,if_neg (by decide),if_neg (by decide),if_pos rfl,hq]
/-- marks -/
theorem tx_mark {c:Nat} (P:Nat->Bool) (h1:ones.contains c=true) (hp:∀ d,P d=true->two c d=false) (hc:small c=false/\capital c=false/\digit c=false/\c≠34/\Lx.blank c=false/\c≠35):Tx P [c] [tM [c]]:=by
 refine tx_one (by simp) ⟨hc.2.2.2.2.1,hc.2.2.2.2.2⟩ (fun r hr=>?_)
 have hm:Lx.mark ([c]++r)=1:=by
  cases r with
  | nil=>show Lx.mark [c]=1;unfold Lx.mark;simp only;rw [if_pos h1]
  | cons d t =>
   show Lx.mark (c :: d :: t)=1
   unfold Lx.mark
   simp only
   rw [if_neg (by rw [hp d hr];decide),if_pos h1]
 unfold word
 rw [show ([c]++r).headD 0=c from rfl,if_neg (by rw [hc.1,hc.2.1];decide),if_neg (by rw [hc.2.2.1];decide),if_neg hc.2.2.2.1,hm,if_neg (by decide)]
 rfl
theorem tx_two {a b:Nat} (h:two a b=true) (hc:small a=false/\capital a=false/\digit a=false/\a≠34/\Lx.blank a=false/\a≠35):Tx any [a,b] [tM [a,b]]:=by
 refine tx_one (by simp) ⟨hc.2.2.2.2.1,hc.2.2.2.2.2⟩ (fun r _=>?_)
 have hm:Lx.mark ([a,b]++r)=2:=by
  show Lx.mark (a :: b :: r)=2
  unfold Lx.mark
  simp only
  rw [if_pos h]
 unfold word
 rw [show ([a,b]++r).headD 0=a from rfl,if_neg (by rw [hc.1,hc.2.1];decide),if_neg (by rw [hc.2.2.1];decide),if_neg hc.2.2.2.1,hm,if_neg (by decide)]
 rfl
end Go.Proofs.YtbfaclljbbfknaaGreatDoor.Rt
