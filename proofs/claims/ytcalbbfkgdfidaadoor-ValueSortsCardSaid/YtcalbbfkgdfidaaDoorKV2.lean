/- THE TEXTS MERGED: SoPl2 SoPl3 SoCut SoOwn VaCode2 LxPlain LxRune VaBase VaPlain. -/
import Derived.Test.YtcalbbfkgdfidaaDoorKV1
import Derived.Lib.SliceRun
import Derived.Laws.RangeAny
import Derived.Lib.AtoiAll
import Derived.Lib.Atoi
import Derived.Lib.ItoaNum
namespace Go.Proofs.YtcalbbfkgdfidaaDoor.So
set_option linter.unusedVariables false
set_option linter.unusedSimpArgs false
variable {f:Nat->Nat->Int}
/-- what is kept behind p -/
def cptG (f:Nat->Nat->Int):Nat->List Nat->List Nat
 | _,[]=>[]
 | p,y :: l=>if f y p=0 then cptG f y l else y :: cptG f y l
def cpt (f:Nat->Nat->Int):List Nat->List Nat
 | []=>[]
 | x :: l=>x :: cptG f x l
theorem cptG_snoc (p:Nat) (l:List Nat) (y:Nat):cptG f p (l++[y])=cptG f p l++(if f y ((p :: l).getLast (by simp))=0 then [] else [y]):=by
 induction l generalizing p with
 | nil =>
  by_cases h:f y p=0
  ·simp [cptG,h]
  ·simp [cptG,h]
 | cons z l ih =>
  rw [List.cons_append,cptG,cptG,ih z]
  by_cases h:f z p=0
  ·rw [if_pos h,if_pos h];rfl
  ·rw [if_neg h,if_neg h];rfl
theorem cpt_snoc (l:List Nat) (y:Nat) (p:Nat) (hp:l.getLast?=some p):cpt f (l++[y])=cpt f l++(if f y p=0 then [] else [y]):=by
 cases l with
 | nil=>simp at hp
 | cons x l =>
  rw [List.getLast?_eq_some_getLast (by simp)] at hp
  have hp:=Option.some.inj hp
  rw [List.cons_append,cpt,cpt,cptG_snoc,hp]
  rfl
theorem cptG_len (p:Nat) (l:List Nat):(cptG f p l).length<=l.length:=by
 induction l generalizing p with
 | nil=>simp [cptG]
 | cons z l ih =>
  rw [cptG]
  have:=ih z
  by_cases h:f z p=0
  ·rw [if_pos h];simp;omega
  ·rw [if_neg h];simp;omega
theorem cpt_len (l:List Nat):(cpt f l).length<=l.length:=by
 cases l with
 | nil=>simp [cpt]
 | cons x l=>have:=cptG_len (f:=f) x l;simp [cpt];omega
theorem cptG_mem (p:Nat) (l:List Nat):∀ y∈cptG f p l,y∈l:=by
 induction l generalizing p with
 | nil=>simp [cptG]
 | cons z l ih =>
  rw [cptG]
  intro y hy
  by_cases h:f z p=0
  ·rw [if_pos h] at hy;exact List.mem_cons_of_mem _ (ih z y hy)
  ·rw [if_neg h] at hy
   rcases List.mem_cons.1 hy with rfl | hy
   ·simp
   ·exact List.mem_cons_of_mem _ (ih z y hy)
theorem cpt_mem (l:List Nat):∀ y∈cpt f l,y∈l:=by
 cases l with
 | nil=>simp [cpt]
 | cons x l =>
  intro y hy
  rcases List.mem_cons.1 hy with rfl | hy
  ·simp
  ·exact List.mem_cons_of_mem _ (cptG_mem x l y hy)
theorem cptG_pw (ho:Ord f) (p:Nat) (l:List Nat) (h:(p :: l).Pairwise (Lt f)):(∀ y∈cptG f p l,f p y<0)/\(cptG f p l).Pairwise (fun x y=>f x y<0):=by
 induction l generalizing p with
 | nil=>simp [cptG]
 | cons z l ih =>
  obtain ⟨h1,h2⟩:=List.pairwise_cons.1 h
  have hz:=(h1 z (by simp)).le
  obtain ⟨i1,i2⟩:=ih z h2
  rw [cptG]
  by_cases e:f z p=0
  ·rw [if_pos e]
   exact ⟨fun y hy=>ho.lel hz (i1 y hy),i2⟩
  ·rw [if_neg e]
   have hpz:f p z<0:=by
    rcases Int.lt_or_eq_of_le hz with h | h
    ·exact h
    ·exact absurd (ho.zero h) e
   refine ⟨fun y hy=>?_,List.pairwise_cons.2 ⟨i1,i2⟩⟩
   rcases List.mem_cons.1 hy with rfl | hy
   ·exact hpz
   ·exact ho.lel hz (i1 y hy)
theorem cpt_pw (ho:Ord f) (l:List Nat) (h:l.Pairwise (Lt f)):(cpt f l).Pairwise (fun x y=>f x y<0):=by
 cases l with
 | nil=>simp [cpt]
 | cons x l=>exact List.pairwise_cons.2 (cptG_pw ho x l h)
theorem Ord.refl (ho:Ord f) (x:Nat):f x x=0:=by have:=ho.anti x x;omega
theorem Ord.zz (ho:Ord f) {x y z:Nat} (h1:f x y=0) (h2:f y z=0):f x z=0:=by
 have a:=ho.tran x y z (by omega) (by omega)
 have b:=ho.tran z y x (by have:=ho.zero h2;omega) (by have:=ho.zero h1;omega)
 have c:=ho.anti x z;have d:=ho.anti z x
 omega
theorem cptG_rep (ho:Ord f) (p:Nat) (l:List Nat) (h:(p :: l).Pairwise (Lt f)):∀ j∈l,(f p j=0/\p<j)\/∃ r∈cptG f p l,f r j=0/\r<=j:=by
 induction l generalizing p with
 | nil=>simp
 | cons z l ih =>
  obtain ⟨h1,h2⟩:=List.pairwise_cons.1 h
  have hz:=h1 z (by simp)
  intro j hj
  rw [cptG]
  by_cases e:f z p=0
  ·have e':=ho.zero e
   have hlt:p<z:=by rcases hz with h | ⟨-,h⟩ <;> omega
   rw [if_pos e]
   rcases List.mem_cons.1 hj with rfl | hj
   ·exact .inl ⟨e',hlt⟩
   ·rcases ih z h2 j hj with ⟨a,b⟩ | h
    ·exact .inl ⟨ho.zz e' a,by omega⟩
    ·exact .inr h
  ·rw [if_neg e]
   rcases List.mem_cons.1 hj with rfl | hj
   ·exact .inr ⟨j,by simp,ho.refl j,Nat.le_refl _⟩
   ·rcases ih z h2 j hj with ⟨a,b⟩ | ⟨r,hr,a,b⟩
    ·exact .inr ⟨z,by simp,a,by omega⟩
    ·exact .inr ⟨r,by simp [hr],a,b⟩
theorem cpt_rep (ho:Ord f) (l:List Nat) (h:l.Pairwise (Lt f)):∀ j∈l,∃ r∈cpt f l,f r j=0/\r<=j:=by
 cases l with
 | nil=>simp
 | cons x l =>
  intro j hj
  rw [cpt]
  rcases List.mem_cons.1 hj with rfl | hj
  ·exact ⟨j,by simp,ho.refl j,Nat.le_refl _⟩
  ·rcases cptG_rep ho x l h j hj with ⟨a,b⟩ | ⟨r,hr,a,b⟩
   ·exact ⟨x,by simp,a,by omega⟩
   ·exact ⟨r,by simp [hr],a,b⟩
/-- what a row's kinds are: rising, each thing of the row has one of its kind at or ahead of it -/
structure Kinds (f:Nat->Nat->Int) (n:Nat) (K:List Nat):Prop where
 lt:∀ x∈K,x<n
 pw:K.Pairwise (fun x y=>f x y<0)
 rep:∀ j,j<n->∃ r∈K,f r j=0/\r<=j
theorem Kinds.of (ho:Ord f) {n:Nat} {C:List Nat} (hp:C.Perm (List.range n)) (hs:C.Pairwise (Lt f)):Kinds f n (cpt f C) where
 lt:=fun x hx=>List.mem_range.1 (hp.mem_iff.1 (cpt_mem C x hx))
 pw:=cpt_pw ho C hs
 rep:=fun j hj=>cpt_rep ho C hs j (hp.mem_iff.2 (List.mem_range.2 hj))
theorem pw_inj (ho:Ord f) {K:List Nat} (h:K.Pairwise (fun x y=>f x y<0)) {x y:Nat} (hx:x∈K) (hy:y∈K) (e:f x y=0):x=y:=by
 obtain ⟨i,hi,rfl⟩:=List.mem_iff_getElem.1 hx
 obtain ⟨j,hj,rfl⟩:=List.mem_iff_getElem.1 hy
 rcases Nat.lt_trichotomy i j with h1 | h1 | h1
 ·have:=List.pairwise_iff_getElem.1 h i j hi hj h1;omega
 ·subst h1;rfl
 ·have:=List.pairwise_iff_getElem.1 h j i hj hi h1
  have:=ho.zero e;omega
/-- each is the first of its kind -/
theorem Kinds.first (ho:Ord f) {n:Nat} {K:List Nat} (h:Kinds f n K) {x:Nat} (hx:x∈K):∀ j,f j x=0->x<=j:=by
 intro j e
 rcases Nat.lt_or_ge j n with hj | hj
 ·obtain ⟨r,hr,a,b⟩:=h.rep j hj
  have:=pw_inj ho h.pw hr hx (ho.zz a e)
  omega
 ·have:=h.lt x hx;omega
theorem Kinds.mem (ho:Ord f) {n:Nat} {K:List Nat} (h:Kinds f n K) {i:Nat} (hi:i<n) (hf:∀ k,k<i->f k i≠0):i∈K:=by
 obtain ⟨r,hr,a,b⟩:=h.rep i hi
 rcases Nat.lt_or_ge r i with h1 | h1
 ·exact absurd a (hf r h1)
 ·have:r=i:=by omega
  exact this ▸ hr
theorem Kinds.nodup (ho:Ord f) {n:Nat} {K:List Nat} (h:Kinds f n K):K.Nodup:=by
 refine h.pw.imp (fun {x y} h1 h2=>?_)
 subst h2
 have:=ho.refl x;omega
theorem Kinds.len (ho:Ord f) {n:Nat} {K K':List Nat} (h:Kinds f n K) (h':Kinds f n K'):K.length=K'.length:=by
 refine (List.Perm.length_eq ((List.perm_ext_iff_of_nodup (h.nodup ho) (h'.nodup ho)).2 (fun a=>⟨fun ha=>?_,fun ha=>?_⟩)))
 ·exact h'.mem ho (h.lt a ha) (fun k hk e=>by have:=h.first ho ha k e;omega)
 ·exact h.mem ho (h'.lt a ha) (fun k hk e=>by have:=h'.first ho ha k e;omega)
/-- those that are first of their kind -/
def fstB (f:Nat->Nat->Int) (i:Nat):Bool:=(List.range i).all fun k=>f k i≠0
theorem fstB_iff {i:Nat}:fstB f i=true ↔ ∀ k,k<i->f k i≠0:=by simp [fstB]
theorem Kinds.count (ho:Ord f) {n:Nat} {K:List Nat} (h:Kinds f n K):((List.range n).filter (fstB f)).length=K.length:=by
 refine (List.Perm.length_eq ((List.perm_ext_iff_of_nodup (List.nodup_range.filter _) (h.nodup ho)).2 (fun a=>?_)))
 rw [List.mem_filter,List.mem_range,fstB_iff]
 exact ⟨fun ⟨h1,h2⟩=>h.mem ho h1 h2,fun ha=>⟨h.lt a ha,fun k hk e=>by have:=h.first ho ha k e;omega⟩⟩
variable {f:Nat->Nat->Int}
theorem take_snoc (C:List Nat) (k:Nat) (h:k<C.length):C.take (k+1)=C.take k++[C[k]]:=List.take_succ_eq_append_getElem h
theorem take_last (C:List Nat) (k:Nat) (h:k<C.length):(C.take (k+1)).getLast?=some C[k]:=by rw [take_snoc C k h];simp only [List.getLast?_append,List.getLast?_singleton,Option.some_or]
/-- looked at: all up to place q; kept: the first kk of lc -/
structure Cm (f:Nat->Nat->Int) (C:List Nat) (q kk:Nat) (lc:List Nat):Prop where
 ex:∃ M,lc=cpt f (C.take (q+1))++(M++C.drop q)/\kk+M.length=q
 len:(cpt f (C.take (q+1))).length=kk
 lt:q<C.length
theorem cpt_next (C:List Nat) (q:Nat) (h:q+1<C.length):cpt f (C.take (q+1+1))=cpt f (C.take (q+1))++(if f C[q+1] C[q]=0 then [] else [C[q+1]]):=by
 rw [take_snoc C (q+1) h,cpt_snoc _ _ C[q] (take_last C q (by omega))]
theorem Cm.start {C:List Nat} {k:Nat} (h:k+1<C.length) (hc:cpt f (C.take (k+1))=C.take (k+1)) (e:f C[k+1] C[k]=0):Cm f C (k+1) (k+1) C where
 ex:=⟨[],by rw [cpt_next C k h,if_pos e,hc,List.append_nil,List.nil_append,List.take_append_drop],by simp⟩
 len:=by rw [cpt_next C k h,if_pos e,hc,List.append_nil,List.length_take];omega
 lt:=h
theorem first_next {C:List Nat} {k:Nat} (h:k+1<C.length) (hc:cpt f (C.take (k+1))=C.take (k+1)) (e:f C[k+1] C[k]≠0):cpt f (C.take (k+1+1))=C.take (k+1+1):=by
 rw [cpt_next C k h,if_neg e,hc,take_snoc C (k+1) h]
theorem Cm.length {C lc:List Nat} {q kk:Nat} (h:Cm f C q kk lc):lc.length=C.length:=by
 obtain ⟨M,e,hM⟩:=h.ex
 have:=h.len;have:=h.lt
 rw [e,List.length_append,List.length_append,List.length_drop];omega
theorem Cm.le {C lc:List Nat} {q kk:Nat} (h:Cm f C q kk lc):kk<=q:=by
 obtain ⟨M,e,hM⟩:=h.ex
 omega
theorem Cm.get {C lc:List Nat} {q kk:Nat} (h:Cm f C q kk lc) (j:Nat) (hj:q<=j) (hl:j<C.length):lc.getD j 0=C[j]:=by
 obtain ⟨M,e,hM⟩:=h.ex
 have h1:=h.len
 rw [e,List.getD_eq_getElem?_getD,<-List.append_assoc,List.getElem?_append_right (by rw [List.length_append];omega),List.length_append,h1,List.getElem?_drop,show q+(j - (kk+M.length))=j by omega,List.getElem?_eq_getElem hl]
 rfl
theorem Cm.skip {C lc:List Nat} {q kk:Nat} (h:Cm f C q kk lc) (hl:q+1<C.length) (e:f C[q+1] C[q]=0):Cm f C (q+1) kk lc:=by
 obtain ⟨M,e1,hM⟩:=h.ex
 have h1:=h.len
 have e2:=cpt_next (f:=f) C q hl
 rw [if_pos e,List.append_nil] at e2
 refine ⟨⟨M++[C[q]],?_,by simp;omega⟩,by rw [e2];exact h1,hl⟩
 rw [e1,e2,List.drop_eq_getElem_cons (by omega:q<C.length)]
 simp
theorem Cm.keep {C lc:List Nat} {q kk:Nat} (h:Cm f C q kk lc) (hl:q+1<C.length) (e:f C[q+1] C[q]≠0):Cm f C (q+1) (kk+1) (lc.set kk C[q+1]):=by
 obtain ⟨M,e1,hM⟩:=h.ex
 have h1:=h.len
 have e2:=cpt_next (f:=f) C q hl
 rw [if_neg e] at e2
 have hd:C.drop q=C[q] :: C.drop (q+1):=List.drop_eq_getElem_cons (by omega)
 refine ⟨?_,by rw [e2,List.length_append,h1];rfl,hl⟩
 cases M with
 | nil =>
  refine ⟨[],?_,by simp at hM ⊢;omega⟩
  rw [e1,e2,hd,List.set_append_right _ _ (by omega),h1,Nat.sub_self]
  simp only [List.nil_append,List.set_cons_zero,List.append_assoc,List.cons_append]
 | cons m M =>
  refine ⟨M++[C[q]],?_,by simp at hM ⊢;omega⟩
  rw [e1,e2,hd,List.set_append_right _ _ (by omega),h1,Nat.sub_self]
  simp
theorem Cm.fin {C lc:List Nat} {q kk:Nat} (h:Cm f C q kk lc) (hl:q+1=C.length):∃ R,lc=cpt f C++R/\(cpt f C).length=kk:=by
 obtain ⟨M,e1,hM⟩:=h.ex
 have h1:=h.len
 rw [List.take_of_length_le (by omega)] at e1 h1
 exact ⟨_,e1,h1⟩
theorem first_end {C:List Nat} {k:Nat} (h:k=C.length) (hc:cpt f (C.take k)=C.take k):cpt f C=C:=by
 rw [List.take_of_length_le (by omega)] at hc;exact hc
theorem first_one (C:List Nat):cpt f (C.take 1)=C.take 1:=by
 cases C with
 | nil=>rfl
 | cons x l=>simp [cpt,cptG]
end Go.Proofs.YtcalbbfkgdfidaaDoor.So
namespace Go.Proofs.YtcalbbfkgdfidaaDoor
open Go.RowKit Go.Sort Go.Lib
set_option linter.unusedVariables false
set_option linter.unusedSimpArgs false
theorem Row.pre {enc:Nat->List Value} {k:Nat} {W:World} {g:Nat} {P R:List Nat} (h:Row enc k W g (P++R)):Row enc k W g P:=by
 intro j hj
 rw [size_flatK,List.size_toArray] at hj
 have h2:j<(P++R).toArray.size * k:=by
  rw [List.size_toArray,List.length_append,Nat.add_mul];omega
 have h1:=h j (by rw [size_flatK];exact h2)
 have hjk:j / k<P.length:=Nat.div_lt_of_lt_mul (by rw [Nat.mul_comm];exact hj)
 have e:(P++R).toArray[j / k]! =P.toArray[j / k]!:=by
  simp [List.getElem?_append_left hjk]
 rw [get_flatK _ _ _ j h2,e] at h1
 rw [get_flatK _ _ _ j (by rw [List.size_toArray];exact hj)]
 exact h1
theorem Row.cut {enc:Nat->List Value} {k:Nat} {W:World} {g:Nat} {P:List Nat} (h:Row enc k W g P) (vs:List Value) (o:Nat) (ho:o=P.length * k):Row enc k (W.setCells g o vs) g P:=by
 intro j hj
 have h1:=h j hj
 rw [size_flatK,List.size_toArray] at hj
 refine ⟨?_,?_⟩
 ·rw [World.cell?_setCells_out g vs o W _ (fun _ _=>.inl (by simp;omega))];exact h1.1
 ·rw [World.frozen?_setCells];exact h1.2
theorem Row.there {enc:Nat->List Value} {k:Nat} {W:World} {g:Nat} {l:List Nat} (h:Row enc k W g l) (j:Nat) (hj:j<l.length * k):(W.cell? ⟨g,j,none⟩).isSome=true/\W.frozen? ⟨g,j,none⟩=false:=by
 have h1:=h j (by rw [size_flatK,List.size_toArray];exact hj)
 rw [Nat.zero_add] at h1
 exact ⟨by rw [h1.1];rfl,h1.2⟩
theorem run_clear_k {P:Program} (w:World) (t e ty:TypeId) (z:Value) (k:Nat) (ht:P.underlying t=some (.slice e)) (hv:∀ w,(zeroValue e).run P w=.ok z w) (hz:z.cells.size=k) (h1:∀ v∈z.cells.toList,v.oneCell'=true) (b o n c:Nat) (hn:0<n)
  (hc:∀ j,j<n * k->(w.cell? ⟨b,o+j,none⟩).isSome=true/\w.frozen? ⟨b,o+j,none⟩=false) :
  ∃ vs:List Value,(Builtin.clear_ #[t] ty #[.slice (some ⟨b,o,none⟩) n c]).run P w=.ok (.tuple #[]) (w.setCells b o vs):=by
 refine ⟨(Builtin.zeroCells z.cells n).toList,?_⟩
 have hl:(Builtin.zeroCells z.cells n).toList.length=n * k:=by simp [Builtin.zeroCells,hz]
 have ho:∀ v∈(Builtin.zeroCells z.cells n).toList,v.oneCell'=true:=by
  intro v hv'
  simp only [Builtin.zeroCells,Array.toList_map,List.mem_map,Array.mem_toList_iff,Array.mem_range] at hv'
  obtain ⟨i,hi,rfl⟩:=hv'
  have hk:0<z.cells.size:=by
   rcases Nat.eq_zero_or_pos z.cells.size with h | h
   ·rw [h] at hi;omega
   ·exact h
  have hm:=Nat.mod_lt i hk
  rw [getElem!_pos z.cells _ hm]
  exact h1 _ (by simp)
 have hst:=run_storeCells_cells (P:=P) b o (Builtin.zeroCells z.cells n).toList 0 w (fun j hj=>by rw [Nat.add_zero];exact (hc j (by omega)).1) (fun j hj=>by rw [Nat.add_zero];exact (hc j (by omega)).2) ho
 simp only [Nat.add_zero] at hst
 obtain ⟨m,rfl⟩:∃ m,n=m+1:=⟨n - 1,by omega⟩
 simp [Builtin.clear_,run_underlying ht,hv,hst]
/-- the cells of a list of things -/
def flL (enc:Nat->List Value) (k:Nat) (l:List Nat):List Value:=(flatK enc k l.toArray).toList
theorem flL_len (enc:Nat->List Value) (k:Nat) (l:List Nat):(flL enc k l).length=l.length * k:=by simp [flL]
theorem flL_get (enc:Nat->List Value) (k:Nat) (l:List Nat) (j:Nat) (hj:j<l.length * k):(flL enc k l)[j]?=some ((flatK enc k l.toArray)[j]!):=by
 unfold flL
 rw [Array.getElem?_toList,Array.getElem?_eq_getElem (by rw [size_flatK,List.size_toArray];exact hj),getElem!_pos _ _ (by rw [size_flatK,List.size_toArray];exact hj)]
theorem flL_one {enc:Nat->List Value} {k:Nat} (E:Enc enc k) (l:List Nat):∀ v∈flL enc k l,v.oneCell'=true:=by
 intro v hv
 obtain ⟨j,hj,rfl⟩:=List.mem_iff_getElem.1 hv
 have hl:=flL_len enc k l
 have h1:=flL_get enc k l j (by omega)
 rw [List.getElem?_eq_getElem hj] at h1
 rw [Option.some.inj h1,get_flatK _ _ _ j (by rw [List.size_toArray];omega)]
 have hk:0<k:=by
  rcases Nat.eq_zero_or_pos k with h | h
  ·subst h;omega
  ·exact h
 rw [getElem!_pos _ _ (by rw [E.len];exact Nat.mod_lt _ hk)]
 exact E.one _ _ (List.getElem_mem _)
theorem flL_app {enc:Nat->List Value} {k:Nat} (E:Enc enc k) (l:List Nat) (x:Nat):flL enc k (l++[x])=flL enc k l++enc x:=by
 apply List.ext_getElem?
 intro j
 by_cases hj:j<(l++[x]).length * k
 ·rw [flL_get _ _ _ _ hj,get_flatK _ _ _ j (by rw [List.size_toArray];exact hj)]
  have hk:0<k:=by
   rcases Nat.eq_zero_or_pos k with h | h
   ·subst h;simp at hj
   ·exact h
  by_cases h2:j<l.length * k
  ·have hjk:j / k<l.length:=Nat.div_lt_of_lt_mul (by rw [Nat.mul_comm];exact h2)
   rw [List.getElem?_append_left (by rw [flL_len];exact h2),flL_get _ _ _ _ h2,get_flatK _ _ _ j (by rw [List.size_toArray];exact h2)]
   simp [List.getElem?_append_left hjk]
  ·rw [List.length_append,List.length_singleton,Nat.add_mul,Nat.one_mul] at hj
   have e1:j / k=l.length:=Nat.div_eq_of_lt_le (by omega) (by rw [Nat.add_mul];omega)
   have e2:j % k=j - l.length * k:=by
    have:=Nat.div_add_mod j k
    rw [e1,Nat.mul_comm] at this;omega
   rw [List.getElem?_append_right (by rw [flL_len];omega),flL_len,e1,e2]
   simp only [List.getElem!_toArray,List.getElem!_eq_getElem?_getD]
   rw [List.getElem?_append_right (Nat.le_refl _),Nat.sub_self]
   simp only [List.getElem?_cons_zero,Option.getD_some]
   rw [List.getElem?_eq_getElem (by rw [E.len];omega)]
   rfl
 ·rw [List.getElem?_eq_none (by rw [flL_len];omega),List.getElem?_eq_none (by rw [List.length_append,flL_len,E.len];rw [List.length_append,List.length_singleton,Nat.add_mul,Nat.one_mul] at hj;omega)]
theorem Row.src {enc:Nat->List Value} {k:Nat} {W:World} {g:Nat} {l:List Nat} (h:Row enc k W g l) (E:Enc enc k) (TS e:TypeId) (hu:Tryd.prog.underlying TS=some (.slice e)) (c:Nat):Src Tryd.prog k TS (.slice (some ⟨g,0,none⟩) l.length c) l.length (flL enc k l) W:=by
 refine Src.ofSlice W hu _ _ c _ (flL_len enc k l) (fun j v hv=>?_) (flL_one E l)
 have hj:j<l.length * k:=by have:=(List.getElem?_eq_some_iff.1 hv).1;rwa [flL_len] at this
 have h1:=h j (by rw [size_flatK,List.size_toArray];exact hj)
 rw [flL_get _ _ _ _ hj] at hv
 rw [addr_add,<-Option.some.inj hv]
 exact h1.1
theorem Row.own {enc:Nat->List Value} {k:Nat} {W:World} {l:List Nat} {T:TypeId} {v:Value} {n:Nat} (h:W.ownsRow 0 T k v n (flL enc k l)) (hn:l.length=n) (hv:v≠.slice none 0 0) :
  ∃ g cap,v=.slice (some ⟨g,0,none⟩) n cap/\n<=cap/\cap<=maxLen/\Row enc k W g l/\g<W.heap.size:=by
 obtain ⟨hl,h⟩:=h
 rcases h with ⟨h,-⟩ | ⟨g,cap,cur,rfl,-,hb,hc,hm,hs,ht⟩
 ·exact absurd h hv
 ·refine ⟨g,cap,rfl,hc,hm,fun j hj=>?_,(Array.getElem?_eq_some_iff.1 hb).1⟩
  rw [size_flatK,List.size_toArray,hn] at hj
  have hj2:j<cur.size:=by rw [hs];exact Nat.lt_of_lt_of_le hj (Nat.mul_le_mul_right _ hc)
  have h1:cur.toList[j]?=some ((flatK enc k l.toArray)[j]!):=by
   rw [<-flL_get enc k l j (by rw [hn];exact hj),<-ht,List.getElem?_take,if_pos hj]
  rw [Array.getElem?_toList] at h1
  rw [Nat.zero_add]
  refine ⟨?_,?_⟩
  ·simp [World.cell?,hb,h1]
  ·simp [World.frozen?,hb]
open Go.RowKit
set_option maxRecDepth 100000
theorem New_any (w:World) :
  Calls Tryd.prog 36 #[] w fun e w'=>e=.returned (.pointer (some ⟨w.heap.size,0,none⟩))/\BoxIs w' w.heap.size (.slice none 0 0) []/\Mod [] w w':=by
 go_enter Tryd.func36,Tryd.ntmps36
 go_wp2
 go_ret
 exact ⟨rfl,⟨heap_alloc_new w _,World.ownsRow_nil _ _ _ _,by simp [fp],by simp⟩,(Mod.refl _ _).alloc _⟩
theorem WByte_any (b:Nat) (v:Value) (c:Nat) (l:List Nat) (w:World) (h:BoxIs w b v l) (hc:c<256) (hlen:l.length+1<=140737488355328) :
  Calls Tryd.prog 38 #[.pointer (some ⟨b,0,none⟩),.int .u8 c] w (Laid b v (l++[c]) w):=by
 have hone:=reads_one w c hc
 go_enter Tryd.func38,Tryd.ntmps38
 go_wp2_with fail
 refine (put_any b v _ l [c] _ (h.alloc _) hone hlen).mono ?_
 rintro e w2 hlaid
 obtain ⟨rfl,-⟩:=id hlaid
 go_wp2_with fail
 go_end0
 exact hlaid.after ((Mod.refl _ _).alloc _) (fun t ht=>.inl ht)
theorem WUint_any (b:Nat) (v:Value) (n:Nat) (l:List Nat) (w:World) (h:BoxIs w b v l) (hn:n<Cod.U64) (hlen:l.length+11<=140737488355328) :
  Calls Tryd.prog 37 #[.pointer (some ⟨b,0,none⟩),.int .u64 n] w (Laid b v (l++Cod.uv n) w):=by
 go_enter Tryd.func37,Tryd.ntmps37
 go_wp2_with fail
 refine (uint_any b v n l w h hn hlen).mono ?_
 rintro e w2 hlaid
 obtain ⟨rfl,-⟩:=id hlaid
 go_wp2_with fail
 go_end0
 exact hlaid
theorem zz_bits (n:Int) (h1:-9223372036854775808<=n) (h2:n<=9223372036854775807) :
  Go.bits .xor .u64 (IntKind.u64.wrap (IntKind.u64.wrap n * 2)) (IntKind.u64.wrap (n / 9223372036854775808))=(Cod.zz n:Int):=by
 have wr:∀ x:Int,IntKind.u64.wrap x=x % 18446744073709551616:=fun x=>by simp [IntKind.wrap,IntKind.bits,IntKind.signed]
 rw [wr,wr,wr]
 unfold Cod.zz
 by_cases h:0<=n
 ·rw [if_pos h]
  have e1:(n % 18446744073709551616 * 2 % 18446744073709551616)=(((2 * n).toNat:Nat):Int):=by omega
  have e2:(n / 9223372036854775808 % 18446744073709551616)=((0:Nat):Int):=by omega
  rw [e1,e2,u64_xor_nat _ _ (by omega) (by omega)]
  simp
 ·rw [if_neg h]
  have e1:(n % 18446744073709551616 * 2 % 18446744073709551616)=(((2 * n+18446744073709551616).toNat:Nat):Int):=by omega
  have e2:(n / 9223372036854775808 % 18446744073709551616)=((18446744073709551615:Nat):Int):=by omega
  rw [e1,e2,u64_xor_nat _ _ (by omega) (by omega)]
  have hb:(2 * n+18446744073709551616).toNat<18446744073709551616:=by omega
  have hx:(2 * n+18446744073709551616).toNat ^^^ 18446744073709551615=18446744073709551615 - (2 * n+18446744073709551616).toNat:=by
   generalize (2 * n+18446744073709551616).toNat=s at *
   have e:(BitVec.ofNat 64 s ^^^ BitVec.allOnes 64)= ~~~ (BitVec.ofNat 64 s):=BitVec.xor_allOnes
   have e2:=congrArg BitVec.toNat e
   rw [BitVec.toNat_xor,BitVec.toNat_not,BitVec.toNat_allOnes,BitVec.toNat_ofNat,Nat.mod_eq_of_lt (by omega)] at e2
   exact e2
  rw [hx]
  congr 1
  omega
theorem WInt_any (b:Nat) (v:Value) (n:Int) (l:List Nat) (w:World) (h:BoxIs w b v l) (h1:-9223372036854775808<=n) (h2:n<=9223372036854775807) (hlen:l.length+11<=140737488355328) :
  Calls Tryd.prog 39 #[.pointer (some ⟨b,0,none⟩),.int .i64 n] w (Laid b v (l++Cod.uv (Cod.zz n)) w):=by
 go_enter Tryd.func39,Tryd.ntmps39
 have hz:=Cod.zz_lt n h1 h2
 have hzb:=Hxq (zz_bits n h1 h2)
 clear h1 h2
 go_wp2_with fail
 rw [hzb.out]
 refine (uint_any b v _ l w h hz hlen).mono ?_
 rintro e w2 hlaid
 obtain ⟨rfl,-⟩:=id hlaid
 go_wp2_with fail
 go_end0
 exact hlaid
theorem byteCells_str (s:ByteArray):byteCells s=toCells (Cod.str s):=by
 simp [byteCells,toCells,Cod.str,List.map_map,Function.comp_def]
theorem WText_any (b:Nat) (v:Value) (s:ByteArray) (l:List Nat) (w:World) (h:BoxIs w b v l) (hlen:l.length+11+s.size<=140737488355328) :
  Calls Tryd.prog 40 #[.pointer (some ⟨b,0,none⟩),.string s] w (Laid b v (l++(Cod.uv s.size++Cod.str s)) w):=by
 obtain ⟨i0,hi,hz0,hz1,hz2⟩:=info_parts Tryd.infoU8
 have hsz:s.size<Cod.U64:=by unfold Cod.U64;omega
 go_enter Tryd.func40,Tryd.ntmps40
 go_wp2_with fail
 refine (uint_any b v s.size l w h hsz (by omega)).mono ?_
 rintro e w2 ⟨rfl,v2,hb2,hm2,hf2⟩
 have hcell:=cell_of_one hb2.at_
 have hfree:=free_of_one hb2.at_
 have hlen2:(l++Cod.uv s.size).length+s.size<=140737488355328:=by
  have:=Cod.uvF_len 10 s.size
  rw [List.length_append];unfold Cod.uv;omega
 have hsrc:=Src.ofString (P:=Tryd.prog) w2 Tryd.underlying9 s
 go_wp2_with (at_builtin;refine wpList_append_src _ rfl _ _ 51 9 rfl 5 i0 (.int .u8 0) 1 1 Tryd.underlying51 hi hz0 hz1 hz2 rfl v2 _ _ rfl hb2.row _ _ _ rfl hsrc (by unfold maxLen;omega) (by omega) ?_)
 intro v' w1 hown hmod hfresh hnil
 have hat1:=hmod.at hb2.at_ hb2.out
 have hc1:=cell_of_one hat1
 have hf1:=free_of_one hat1
 have HH:Laid b v (l++(Cod.uv s.size++Cod.str s)) w (.returned (.tuple #[])) (w1.setCell ⟨b,0,none⟩ v'):=by
  rw [<-List.append_assoc]
  rw [byteCells_str] at hown
  exact (laid_of hb2 (by rw [Cod.str_len,List.length_append];exact hown) hmod hfresh (Cod.str_lt s)).after hm2 hf2
 obtain ⟨a',c',rfl⟩:=owns_slice hown
 clear hnil hfresh hown hmod
 go_wp2
 go_end0
 exact HH
/-- bytes of the call's own, read as l -/
def OutIs (l:List Nat) (w:World) (e:Ending) (w':World):Prop :=
 ∃ v,e=.returned v/\w'.ownsRow 0 5 1 v l.length (toCells l)/\Mod [] w w'/\(∀ k∈fp v,w.heap.size<=k)/\(v=.slice none 0 0 ↔ l=[])
theorem out_any (b:Nat) (v:Value) (l:List Nat) (w:World) (h:BoxIs w b v l) (hlen:l.length<=140737488355328) :
  Calls Tryd.prog 56 #[.pointer (some ⟨b,0,none⟩)] w (OutIs l w):=by
 obtain ⟨i0,hi,hz0,hz1,hz2⟩:=info_parts Tryd.infoU8
 have hcell:=cell_of_one h.at_
 have hsrc:=src_reads (reads_own h.row h.byte hlen)
 obtain ⟨a',c',rfl⟩:=owns_slice h.row
 go_enter Tryd.func56,Tryd.ntmps56
 go_wp2_with (at_builtin;refine wpList_append_src _ rfl _ _ 51 51 rfl 5 i0 (.int .u8 0) 1 1 Tryd.underlying51 hi hz0 hz1 hz2 rfl (.slice none 0 0) 0 [] rfl (World.ownsRow_nil _ _ _ _) _ l.length (toCells l) rfl hsrc (by unfold maxLen;omega) (by omega) ?_)
 intro v' w1 hown hmod hfresh hnil
 have HH:OutIs l w (.returned v') w1:=⟨v',rfl,by simpa using hown,hmod,fun k hk=>by simpa [fp] using hfresh k hk,hnil.trans (by simp)⟩
 clear hnil hfresh hown hmod
 go_wp2
 go_ret
 exact HH
theorem Out_any (b:Nat) (v:Value) (l:List Nat) (w:World) (h:BoxIs w b v l) (hlen:l.length<=140737488355328) :
  Calls Tryd.prog 41 #[.pointer (some ⟨b,0,none⟩)] w (OutIs l w):=by
 go_enter Tryd.func41,Tryd.ntmps41
 go_wp2_with fail
 refine (out_any b v l w h hlen).mono ?_
 rintro e w2 hout
 obtain ⟨v',rfl,-⟩:=id hout
 go_wp2_with fail
 go_ret
 exact hout
end Go.Proofs.YtcalbbfkgdfidaaDoor
namespace Go.Proofs.YtcalbbfkgdfidaaDoor.Lx
open Cod (str)
set_option linter.unusedSimpArgs false
def small (c:Nat):Bool:=decide (97<=c) && decide (c<=122)
def capital (c:Nat):Bool:=decide (65<=c) && decide (c<=90)
def digit (c:Nat):Bool:=decide (48<=c) && decide (c<=57)
def goes (c:Nat):Bool:=small c || (capital c || (digit c || c == 95))
def blank (c:Nat):Bool:=c == 32 || (c == 9 || (c == 10 || c == 13))
def line (c:Nat):Bool:=!(c == 10)
/-- a string of bytes -/
def ofS (l:List Nat):ByteArray:=⟨(l.map UInt8.ofNat).toArray⟩
theorem str_ofS {l:List Nat} (h:∀ c∈l,c<256):str (ofS l)=l:=by
 unfold str ofS
 rw [List.map_map]
 conv=>rhs;rw [<-List.map_id l]
 exact List.map_congr_left (fun c hc=>by simp [Nat.mod_eq_of_lt (h c hc)])
theorem ofS_str (s:ByteArray):ofS (str s)=s:=by
 unfold ofS str
 rw [List.map_map]
 have:s.data.toList.map (UInt8.ofNat ∘ UInt8.toNat)=s.data.toList:=by
  conv=>rhs;rw [<-List.map_id s.data.toList]
  exact List.map_congr_left (fun c _=>by simp)
 rw [this]
theorem str_extract (s:ByteArray) (a b:Nat):str (s.extract a b)=((str s).drop a).take (b - a):=by
 unfold str
 rw [<-List.map_drop,<-List.map_take]
 congr 1
 rw [ByteArray.data_extract,Array.toList_extract,List.extract_eq_take_drop]
/-- how far a text goes on with bytes of a kind -/
def run (p:Nat->Bool) (s:List Nat):Nat:=(s.takeWhile p).length
theorem run_le (p:Nat->Bool) (s:List Nat):run p s<=s.length:=by
 unfold run
 induction s with
 | nil=>simp
 | cons c r ih=>rw [List.takeWhile_cons];split <;> simp <;> omega
theorem run_cons (p:Nat->Bool) (c:Nat) (r:List Nat):run p (c :: r)=if p c then run p r+1 else 0:=by
 unfold run;rw [List.takeWhile_cons];split <;> simp
def numv (l:List Nat):Nat:=l.foldl (fun a c=>10 * a+(c - 48)) 0
def hexv (c:Nat):Option Nat :=
 if 48<=c/\c<=57 then some (c - 48) else if 97<=c/\c<=102 then some (c - 87) else if 65<=c/\c<=70 then some (c - 55) else none
/-- behind a backslash: the byte, how many bytes say it -/
def esc (s:List Nat):Option (Nat × Nat) :=
 match s with
 | []=>none
 | c :: r =>
  if c=34\/c=92 then some (c,1)
  else if c=110 then some (10,1)
  else if c=120 then
   match r with
   | a :: b :: _ =>
    match hexv a,hexv b with
    | some x,some y=>some (16 * x+y,3)
    | _,_=>none
   | _=>none
  else none
/-- the parts of a quoted word from a place on, what they stood for so far, how many bytes are read -/
def quoF:Nat->List Nat->List Nat->Nat->Option (List Nat × Nat)
 | 0,_,_,_=>none
 | _+1,[],_,_=>none
 | k+1,c :: r,acc,n =>
  if c=34 then (if 64<acc.length then none else some (acc,n+1))
  else if c=10 then none
  else if c=92 then
   match esc r with
   | none=>none
   | some (b,m)=>quoF k (r.drop m) (acc++[b]) (n+1+m)
  else quoF k r (acc++[c]) (n+1)
def quo (s:List Nat):Option (List Nat × Nat):=quoF s.length (s.drop 1) [] 1
def two (a b:Nat):Bool:=(a == 58 && b == 45) || ((a == 33 && b == 61) || ((a == 60 && b == 61) || (a == 62 && b == 61)))
def ones:List Nat:=[40,41,123,125,44,46,58,61,60,62,43,45,42,47,95]
def mark (s:List Nat):Nat :=
 match s with
 | []=>0
 | [a]=>if ones.contains a then 1 else 0
 | a :: b :: _=>if two a b then 2 else if ones.contains a then 1 else 0
/-- a word: its kind, how many bytes, its value's kind, number, symbol -/
structure Wd where
 kind:Nat
 n:Nat
 vk:Nat
 num:Nat
 sym:List Nat
deriving DecidableEq
inductive Rw where
 | bad (e:Nat)
 | ok (w:Wd)
deriving DecidableEq
def word (s:List Nat):Rw :=
 if small (s.headD 0) || capital (s.headD 0) then
  if 32<run goes s then .bad 33 else .ok ⟨if capital (s.headD 0) then 2 else 1,run goes s,0,0,[]⟩
 else if digit (s.headD 0) then
  if (1<run digit s/\s.headD 0=48)\/2147483647<numv (s.take (run digit s))\/run digit s<run goes s then .bad 31
  else .ok ⟨3,run digit s,1,numv (s.take (run digit s)),[]⟩
 else if s.headD 0=34 then
  match quo s with
  | none=>.bad 32
  | some (sym,n)=>.ok ⟨4,n,2,0,sym⟩
 else if mark s=0 then .bad 30
 else .ok ⟨5,mark s,0,0,[]⟩
/-- the place behind bytes -/
def adv:Nat × Nat->List Nat->Nat × Nat
 | p,[]=>p
 | p,b :: r=>adv (if b=10 then (p.1+1,1) else (p.1,p.2+1)) r
/-- how many bytes of blanks and remarks: is a remark open? -/
def skipN:Bool->List Nat->Nat
 | _,[]=>0
 | r,c :: t =>
  let r':=if c=35 then true else if c=10 then false else r
  if !r' && !blank c then 0 else skipN r' t+1
structure Tok where
 kind:Nat
 text:List Nat
 vk:Nat
 num:Nat
 sym:List Nat
 line:Nat
 col:Nat
deriving DecidableEq
/-- a scanner: what is left, its place, the place behind the last word, the fault and its place, is the text too long? -/
structure St where
 s:List Nat
 pos:Nat × Nat
 fin:Nat × Nat
 code:Nat
 fp:Nat × Nat
 long:Bool
def start (s:List Nat):St:=⟨s,(1,1),(1,1),0,(0,0),decide (65536<s.length)⟩
def St.skip (x:St):St:={ x with s:=x.s.drop (skipN false x.s),pos:=adv x.pos (x.s.take (skipN false x.s)) }
def next (x:St):St × Option Tok :=
 if x.code≠0 then (x,none)
 else if x.long then ({ x with code:=2 },none)
 else if x.skip.s=[] then (x.skip,none)
 else match word x.skip.s with
  | .bad e=>({ x.skip with code:=e,fp:=x.skip.pos },none)
  | .ok w=>({ x.skip with s:=x.skip.s.drop w.n,pos:=adv x.skip.pos (x.skip.s.take w.n),fin:=adv x.skip.pos (x.skip.s.take w.n) },
    some ⟨w.kind,x.skip.s.take w.n,w.vk,w.num,w.sym,x.skip.pos.1,x.skip.pos.2⟩)
theorem hexv_lt {c x:Nat} (h:hexv c=some x):x<16:=by
 unfold hexv at h
 split at h
 ·simp at h;omega
 ·split at h
  ·simp at h;omega
  ·split at h
   ·simp at h;omega
   ·simp at h
theorem get_str (s:ByteArray) (i:Nat) (h:i<s.size):(str s).getD i 0=(s[i]'h).toNat:=by
 unfold str
 have h':i<s.data.toList.length:=by rw [Array.length_toList];exact h
 rw [List.getD_eq_getElem?_getD,List.getElem?_map,List.getElem?_eq_getElem h']
 simp
 rfl
theorem get_bang (s:ByteArray) (i:Nat) (h:i<s.size):(s.get! i).toNat=(str s).getD i 0:=by
 rw [get_str s i h]
 have:=get_at s i h
 simp only [Nat.add_zero] at this
 rw [this]
/-- a rune's bytes behind the first are no letters -/
theorem decode_cont (s:ByteArray) (pos:Nat) (h:pos<s.size) (ha:128<=(str s).getD pos 0) (i:Nat) (hi:i<(Utf8.decode s pos).2):pos+i<s.size/\128<=(str s).getD (pos+i) 0:=by
 have hn:¬ (s.get! (pos+0)).toNat<128:=by
  rw [Nat.add_zero,get_bang s pos h];omega
 have key:∀ k,(decide (pos+k<s.size) && (s.get! (pos+k)).toNat / 64 == 2)=true->pos+k<s.size/\128<=(str s).getD (pos+k) 0:=by
  intro k hk
  simp at hk
  rw [<-get_bang s (pos+k) hk.1]
  exact ⟨hk.1,by omega⟩
 have h0:pos+0<s.size/\128<=(str s).getD (pos+0) 0:=⟨h,ha⟩
 have one:∀ {a:Nat},i<(a,1).2->pos+i<s.size/\128<=(str s).getD (pos+i) 0:=by
  intro a hi
  have:i=0:=by simp at hi;exact hi
  subst this
  exact h0
 simp only [Utf8.decode,hn,if_false] at hi
 split at hi
 ·rename_i h1
  rw [Bool.and_eq_true] at h1
  have k1:=key 1 h1.2
  split at hi
  ·have:i=0\/i=1:=by simp at hi;omega
   rcases this with rfl | rfl
   ·exact h0
   ·exact k1
  ·exact one hi
 ·split at hi
  ·rename_i h1
   rw [Bool.and_eq_true,Bool.and_eq_true] at h1
   have k1:=key 1 h1.1.2
   have k2:=key 2 h1.2
   split at hi
   ·have:i=0\/i=1\/i=2:=by simp at hi;omega
    rcases this with rfl | rfl | rfl
    ·exact h0
    ·exact k1
    ·exact k2
   ·exact one hi
  ·split at hi
   ·rename_i h1
    rw [Bool.and_eq_true,Bool.and_eq_true,Bool.and_eq_true] at h1
    have k1:=key 1 h1.1.1.2
    have k2:=key 2 h1.1.2
    have k3:=key 3 h1.2
    split at hi
    ·have:i=0\/i=1\/i=2\/i=3:=by simp at hi;omega
     rcases this with rfl | rfl | rfl | rfl
     ·exact h0
     ·exact k1
     ·exact k2
     ·exact k3
    ·exact one hi
   ·exact one hi
theorem run_ge_succ (q:Nat->Bool):∀ (l:List Nat) (n:Nat),n<=run q l->n<l.length->q (l.getD n 0)=true->n+1<=run q l
 | [],n,_,h,_=>by simp at h
 | c :: r,0,_,_,h=>by rw [run_cons];simp at h;simp [h]
 | c :: r,n+1,hn,hl,h=>by
  rw [run_cons] at hn ⊢
  by_cases hc:q c=true
  ·rw [if_pos hc] at hn ⊢
   have:=run_ge_succ q r n (by omega) (by simpa using hl) (by simpa using h)
   omega
  ·rw [if_neg hc] at hn;omega
theorem run_stop (q:Nat->Bool):∀ (l:List Nat) (n:Nat),n<=run q l->n<l.length->q (l.getD n 0)=false->run q l=n
 | [],n,_,h,_=>by simp at h
 | c :: r,0,_,_,h=>by rw [run_cons];simp at h;simp [h]
 | c :: r,n+1,hn,hl,h=>by
  rw [run_cons] at hn ⊢
  by_cases hc:q c=true
  ·rw [if_pos hc] at hn ⊢
   have:=run_stop q r n (by omega) (by simpa using hl) (by simpa using h)
   omega
  ·rw [if_neg hc] at hn;omega
theorem run_many (q:Nat->Bool) (l:List Nat) (n:Nat) (hn:n<=run q l):∀ k,(∀ i,i<k->n+i<l.length/\q (l.getD (n+i) 0)=true)->n+k<=run q l
 | 0,_=>by simpa using hn
 | k+1,h=>by
  have:=run_many q l n hn k (fun i hi=>h i (by omega))
  have h2:=h k (by omega)
  exact run_ge_succ q l (n+k) this h2.1 h2.2
/-- a kind of runes and a kind of bytes are the same, and beyond the letters all is one -/
structure Alike (p:Int->Bool) (q:Nat->Bool) (d:Bool):Prop where
 low:∀ c:Nat,c<128->p (c:Int)=q c
 high:∀ c:Nat,128<=c->p (c:Int)=d
 byte:∀ c:Nat,128<=c->q c=d
theorem Alike.step {p:Int->Bool} {q:Nat->Bool} {d:Bool} (h:Alike p q d) (s:ByteArray) (pos:Nat) (hp:pos<s.size) (hr:pos<=run q (str s)) (hd:p ((Utf8.decode s pos).1:Int)=true) :
  pos+(Utf8.decode s pos).2<=run q (str s)/\1<=(Utf8.decode s pos).2:=by
 have hg:=get_str s pos hp
 rcases Nat.lt_or_ge ((str s).getD pos 0) 128 with ha | ha
 ·have e:=decode_ascii s pos hp (by omega)
  rw [e] at hd ⊢
  simp only at hd ⊢
  rw [<-hg,h.low _ ha] at hd
  exact ⟨run_ge_succ q _ pos hr (by rw [Cod.str_len];exact hp) hd,Nat.le_refl _⟩
 ·have e:=decode_high s pos hp (by omega)
  rw [h.high _ e.1] at hd
  subst hd
  refine ⟨run_many q _ pos hr _ (fun i hi=>?_),e.2⟩
  have:=decode_cont s pos hp ha i hi
  exact ⟨by rw [Cod.str_len];exact this.1,h.byte _ this.2⟩
theorem Alike.stop {p:Int->Bool} {q:Nat->Bool} {d:Bool} (h:Alike p q d) (s:ByteArray) (pos:Nat) (hp:pos<s.size) (hr:pos<=run q (str s)) (hd:p ((Utf8.decode s pos).1:Int)=false) :
  run q (str s)=pos:=by
 have hg:=get_str s pos hp
 refine run_stop q _ pos hr (by rw [Cod.str_len];exact hp) ?_
 rcases Nat.lt_or_ge ((str s).getD pos 0) 128 with ha | ha
 ·have e:=decode_ascii s pos hp (by omega)
  rw [e] at hd
  simp only at hd
  rw [<-hg,h.low _ ha] at hd
  exact hd
 ·have e:=decode_high s pos hp (by omega)
  rw [h.high _ e.1] at hd
  rw [h.byte _ ha];exact hd
end Go.Proofs.YtcalbbfkgdfidaaDoor.Lx
namespace Go.Proofs.YtcalbbfkgdfidaaDoor
open Go.RowKit
set_option linter.unusedVariables false
set_option linter.unusedSimpArgs false
set_option maxRecDepth 100000
def smallI (c:Int):Bool:=decide (97<=c) && decide (c<=122)
def capitalI (c:Int):Bool:=decide (65<=c) && decide (c<=90)
def digitI (c:Int):Bool:=decide (48<=c) && decide (c<=57)
def restI (c:Int):Bool:=smallI c || (capitalI c || (digitI c || decide (c=95)))
theorem ret_bool {a b:Bool} (h:a=b):Ending.returned (.bool a)=.returned (.bool b):=by rw [h]
theorem alike_rest:Lx.Alike restI Lx.goes false:=by
 refine ⟨fun c hc=>?_,fun c hc=>?_,fun c hc=>?_⟩
 ·rw [Bool.eq_iff_iff];simp [restI,smallI,capitalI,digitI,Lx.goes,Lx.small,Lx.capital,Lx.digit];omega
 ·rw [<-Bool.not_eq_true,];simp [restI,smallI,capitalI,digitI];omega
 ·rw [<-Bool.not_eq_true];simp [Lx.goes,Lx.small,Lx.capital,Lx.digit];omega
theorem mod_iter (w:World) (s:ByteArray) (pos:Nat):Mod [] w (w.iter s pos):=(Mod.refl [] w).alloc _
theorem enter_of {f : FuncId} {fn : Func} {c : Code} (hf : Tryd.prog.funcs[f]? = some fn) (h1 : (fn.name == "runtime.NumGoroutine") = false) (hb : fn.body = some c) (args : Array Value) (w : World) :
  (callFunc f args).run Tryd.prog w=.ok (.enter f args) w:=by
 have h2 : fn.name ≠ "runtime.NumGoroutine" := by simpa using h1
 simp [callFunc,hf,h2,hb]
theorem setCell_at {w:World} {b:Nat} {cs:Array Value} {T:TypeId} {fr:Nat × Nat} (h:w.heap[b]?=some (.cells cs T fr)) (i:Nat) (v:Value) :
  (w.setCell ⟨b,i,none⟩ v).heap[b]?=some (.cells (cs.setIfInBounds i v) T fr):=by
 simp [World.setCell,Array.getElem?_modify,h]
theorem toList_isEmpty (s:ByteArray):s.toList.isEmpty=decide (s.size=0):=by
 rw [ByteArray.toList_eq]
 obtain ⟨⟨l⟩⟩:=s
 cases l <;> simp [ByteArray.size]
theorem alloc_at {w0:World} {n:Nat} (o:Obj) (h:w0.heap.size=n):(w0.alloc o).heap[n]?=some o:=by subst h;exact heap_alloc_new w0 o
theorem ofS_size (l:List Nat):(Lx.ofS l).size=l.length:=by simp [Lx.ofS,ByteArray.size]
theorem drew_at {X:World} {b:Nat} {o:Option Obj} (h:X.heap[b]?=o):X.drew.heap[b]?=o:=h
theorem two_at (w:World) (o1 o2:Obj):((w.alloc o1).alloc o2).heap[w.heap.size]?=some o1:=((Mod.refl [] _).alloc o2).at (heap_alloc_new w o1) (by simp)
theorem conv_reads {w:World} {v:Value} {l:List Nat} (h:Reads w v l):(convert 51 9 v).run Tryd.prog w=.ok (.string (Lx.ofS l)) w:=by
 obtain ⟨hb,hl,⟨x,c,rfl,rfl⟩ | ⟨b,off,cap,rfl,hc⟩⟩:=h
 ·cases x with
  | none=>exact run_convert_bytes_nil w _ _ Tryd.underlying51 Tryd.underlying5 0 c _ Tryd.underlying9
  | some a =>
   rw [run_convert_bytes_string w _ _ _ _ _ _ Tryd.underlying51 Tryd.underlying5 Tryd.underlying9,run_bytesToString w a 0 c [] (run_loadCells_list w a [] (by simp))]
   rfl
 ·have:=run_convert_bytes_arg (P:=Tryd.prog) w _ _ Tryd.underlying51 Tryd.underlying5 b off l.length cap (l.map fun (n:Nat)=>(n:Int)) (by simp) (fun i hi=>by
   rw [hc i hi]
   congr 2
   simp [List.getD_eq_getElem?_getD,List.getElem?_eq_getElem hi]) _ Tryd.underlying9
  rw [this]
  congr 2
  simp [strOfNums,Lx.ofS,List.map_map,Function.comp_def]
theorem fp_lt {w:World} {base:Nat} {e:TypeId} {size:Nat} {v:Value} {n:Nat} {xs:List Value} (h:w.ownsRow base e size v n xs):∀ k∈fp v,k<w.heap.size:=by
 intro k hk
 rcases h.2 with ⟨rfl,_⟩ | ⟨g,cap,cur,rfl,hb,hg,_⟩
 ·simp [fp] at hk
 ·simp [fp] at hk
  subst hk
  exact lt_of_block hg
theorem Reads.past {S:List Nat} {w w':World} {v:Value} {l:List Nat} (h:Reads w v l) (hm:Mod S w w') (hS:∀ t∈S,w.heap.size<=t):Reads w' v l:=by
 obtain ⟨h1,h2,h3 | ⟨b,off,cap,rfl,hc⟩⟩:=h
 ·exact ⟨h1,h2,.inl h3⟩
 ·refine ⟨h1,h2,.inr ⟨b,off,cap,rfl,fun i hi=>hm.cell (hc i hi) (fun hb=>?_)⟩⟩
  have:=hS _ hb
  have:=World.block_lt_of_cell? w _ (hc i hi)
  simp at *
  omega
theorem str_beq (a b:ByteArray):(a.toList == b.toList)=decide (a=b):=by
 rw [ByteArray.toList_eq,ByteArray.toList_eq,Bool.eq_iff_iff]
 obtain ⟨⟨x⟩⟩:=a
 obtain ⟨⟨y⟩⟩:=b
 simp
end Go.Proofs.YtcalbbfkgdfidaaDoor
namespace Go.Proofs.YtcalbbfkgdfidaaDoor.Va
open Cod (str)
set_option linter.unusedSimpArgs false
set_option linter.unusedVariables false
structure Val where
 k:Int
 n:Int
 s:List Nat
deriving DecidableEq
def zero:Val:=⟨0,0,[]⟩
def may (v:Val):Bool:=(v.k == 1 && (v.s == [] && (decide (-2147483647<=v.n) && decide (v.n<=2147483647)))) || (v.k == 2 && (v.n == 0 && decide (v.s.length<=64)))
def resW:List (List Nat):=[[114,101,108,97,116,105,111,110],[110,111,116],[110,117,109],[115,121,109],[109,111,100],[99,111,117,110,116],[115,117,109],[109,105,110],[109,97,120]]
def wordB (p:Nat->Bool) (l:List Nat):Bool:=decide (l≠[]) && (decide (l.length<=32) && (p (l.headD 0) && decide (Lx.run Lx.goes l=l.length)))
def name (l:List Nat):Bool:=!resW.contains l && wordB Lx.small l
def hexd (n:Nat):Nat:=if n<10 then 48+n else 55+n
def qb (c:Nat):List Nat:=if c=34\/c=92 then [92,c] else if c=10 then [92,110] else if c<32\/126<c then [92,120,hexd (c / 16),hexd (c % 16)] else [c]
def quoted (l:List Nat):List Nat:=34 :: (l.flatMap qb++[34])
def itoa (n:Int):List Nat:=(Lib.itoa n).map UInt8.toNat
def text (v:Val):List Nat:=if v.k=1 then itoa v.n else if name v.s then v.s else quoted v.s
/-- what stands between the quotes, read loosely -/
def uqF:Nat->List Nat->Option (List Nat)
 | 0,_=>none
 | _+1,[]=>some []
 | k+1,c :: r =>
  if c≠92 then (uqF k r).map (c :: ·)
  else match r with
   | []=>none
   | x :: t =>
    if x=120/\2<=t.length then
     match Lx.hexv (t.headD 0),Lx.hexv ((t.drop 1).headD 0) with
     | some a,some b=>(uqF k (t.drop 2)).map ((16 * a+b) :: ·)
     | _,_=>none
    else if x=110 then (uqF k t).map (10 :: ·)
    else (uqF k t).map (x :: ·)
def uq (l:List Nat):Option (List Nat):=uqF (l.length+1) l
def atoiV (l:List Nat):Option Int:=match Lib.atoiAll (l.map UInt8.ofNat) with | .ok v=>some v | _=>none
/-- what a text is read as, before it is looked at -/
def guess (l:List Nat):Option Val :=
 match atoiV l with
 | some n=>some ⟨1,n,[]⟩
 | none=>if 1<l.length/\l.headD 0=34 then (uq ((l.take (l.length - 1)).drop 1)).map fun t=>⟨2,0,t⟩ else some ⟨2,0,l⟩
def parse (l:List Nat):Option Val :=
 match guess l with
 | none=>none
 | some v=>if may v/\text v=l then some v else none
theorem hexd_hexv {n:Nat} (h:n<16):Lx.hexv (hexd n)=some n:=by
 have:∀ m:Fin 16,Lx.hexv (hexd m.val)=some m.val:=by decide
 exact this ⟨n,h⟩
theorem uqF_esc (k x:Nat) (t:List Nat):uqF (k+1) (92 :: x :: t)=if x=120/\2<=t.length then (match Lx.hexv (t.headD 0),Lx.hexv ((t.drop 1).headD 0) with | some a,some b=>(uqF k (t.drop 2)).map ((16 * a+b) :: ·) | _,_=>none) else if x=110 then (uqF k t).map (10 :: ·) else (uqF k t).map (x :: ·):=by
 conv=>lhs;unfold uqF
 simp only [ne_eq,not_true_eq_false,if_false]
theorem uqF_one (k c:Nat) (r:List Nat) (h:c≠92):uqF (k+1) (c :: r)=(uqF k r).map (c :: ·):=by
 conv=>lhs;unfold uqF
 rw [if_pos h]
theorem uqF_q:∀ (l:List Nat) (k:Nat),(∀ c∈l,c<256)->(l.flatMap qb).length<k->uqF k (l.flatMap qb)=some l
 | [],k,_,h=>by
  obtain ⟨j,rfl⟩:∃ j,k=j+1:=⟨k - 1,by omega⟩
  rfl
 | c :: r,k,hb,h=>by
  obtain ⟨j,rfl⟩:∃ j,k=j+1:=⟨k - 1,by omega⟩
  have hc:=hb c (by simp)
  have ih:=fun j hj=>uqF_q r j (fun x hx=>hb x (by simp [hx])) hj
  rw [List.flatMap_cons] at h ⊢
  generalize List.flatMap qb r=u at *
  by_cases h1:c=34\/c=92
  ·have hq:qb c=[92,c]:=by unfold qb;rw [if_pos h1]
   rw [hq] at h ⊢
   simp only [List.cons_append,List.nil_append,List.length_cons] at h ⊢
   rw [uqF_esc,if_neg (by omega),if_neg (by omega),ih j (by omega)];rfl
  ·by_cases h2:c=10
   ·have hq:qb c=[92,110]:=by unfold qb;rw [if_neg h1,if_pos h2]
    rw [hq] at h ⊢
    simp only [List.cons_append,List.nil_append,List.length_cons] at h ⊢
    rw [uqF_esc,if_neg (by omega),if_pos rfl,ih j (by omega),h2];rfl
   ·by_cases h3:c<32\/126<c
    ·have hq:qb c=[92,120,hexd (c / 16),hexd (c % 16)]:=by unfold qb;rw [if_neg h1,if_neg h2,if_pos h3]
     rw [hq] at h ⊢
     simp only [List.cons_append,List.nil_append,List.length_cons] at h ⊢
     rw [uqF_esc,if_pos ⟨rfl,by simp⟩]
     simp only [List.headD_cons,List.drop_succ_cons,List.drop_zero]
     rw [hexd_hexv (by omega),hexd_hexv (by omega)]
     simp only
     rw [ih j (by omega),show 16 * (c / 16)+c % 16=c by omega];rfl
    ·have hq:qb c=[c]:=by unfold qb;rw [if_neg h1,if_neg h2,if_neg h3]
     rw [hq] at h ⊢
     simp only [List.cons_append,List.nil_append,List.length_cons] at h ⊢
     rw [uqF_one _ _ _ (by omega),ih j (by omega)];rfl
theorem uq_q (l:List Nat) (hb:∀ c∈l,c<256):uq (l.flatMap qb)=some l:=uqF_q l _ hb (by omega)
theorem decFrom_snoc:∀ (l:List UInt8) (acc n:Nat) (b:UInt8) (d:Nat),Lib.decFrom acc l=some n->Lib.digitVal b=some d->Lib.decFrom acc (l++[b])=some (n * 10+d)
 | [],acc,n,b,d,h,hd=>by
  simp only [Lib.decFrom,Option.some.injEq] at h
  subst h
  simp [Lib.decFrom,hd]
 | c :: r,acc,n,b,d,h,hd=>by
  simp only [List.cons_append,Lib.decFrom] at h ⊢
  cases hc:Lib.digitVal c with
  | none=>rw [hc] at h;simp at h
  | some e =>
   rw [hc] at h
   simp only at h ⊢
   exact decFrom_snoc r _ n b d h hd
theorem digitVal_of {d:Nat} (h:d<10):Lib.digitVal (UInt8.ofNat (48+d))=some d:=by
 unfold Lib.digitVal
 have:(UInt8.ofNat (48+d)).toNat=48+d:=by simp;omega
 rw [this,if_pos (by omega)]
 simp
theorem decDigits_val (u:Nat):Lib.decFrom 0 (Lib.decDigits u)=some u:=by
 induction u using Nat.strongRecOn with
 | _ u ih =>
  rw [Lib.decDigits]
  by_cases h:u<10
  ·rw [dif_pos h]
   simp only [Lib.decFrom,digitVal_of h]
   congr 1;omega
  ·rw [dif_neg h]
   have:=decFrom_snoc _ 0 (u / 10) (UInt8.ofNat (48+u % 10)) (u % 10) (ih (u / 10) (by omega)) (digitVal_of (by omega))
   rw [this]
   congr 1;omega
theorem decFrom_ge:∀ (l:List UInt8) (acc n:Nat),Lib.decFrom acc l=some n->acc<=n
 | [],acc,n,h=>by simp only [Lib.decFrom,Option.some.injEq] at h;omega
 | c :: r,acc,n,h=>by
  simp only [Lib.decFrom] at h
  cases hc:Lib.digitVal c with
  | none=>rw [hc] at h;simp at h
  | some e =>
   rw [hc] at h
   have:=decFrom_ge r _ n h
   omega
theorem parse_dec:∀ (l:List UInt8) (acc n:Nat),Lib.decFrom acc l=some n->n<9223372036854775808->Lib.parseUint10 acc l=.ok n
 | [],acc,n,h,_=>by simp only [Lib.decFrom,Option.some.injEq] at h;subst h;rfl
 | c :: r,acc,n,h,hn=>by
  simp only [Lib.decFrom] at h
  unfold Lib.digitVal at h
  by_cases hc:48<=c.toNat/\c.toNat<=57
  ·rw [if_pos hc] at h
   simp only at h
   have:=decFrom_ge r _ n h
   unfold Lib.parseUint10
   rw [if_pos hc,if_neg (by omega),if_neg (by omega)]
   exact parse_dec r _ n h hn
  ·rw [if_neg hc] at h;simp at h
theorem decDigits_head (u:Nat):∃ c r,Lib.decDigits u=c :: r/\48<=c.toNat/\c.toNat<=57:=by
 have h1:=decDigits_val u
 cases hl:Lib.decDigits u with
 | nil =>
  have:=Lib.decDigits_length u
  rw [hl] at this
  have:=Lib.nDigits_pos u
  simp at *
  omega
 | cons c r =>
  refine ⟨c,r,rfl,?_⟩
  rw [hl] at h1
  simp only [Lib.decFrom] at h1
  unfold Lib.digitVal at h1
  by_cases hc:48<=c.toNat/\c.toNat<=57
  ·exact hc
  ·rw [if_neg hc] at h1;simp at h1
theorem mag_dec {u:Nat} (h:u<9223372036854775808):Lib.parseMag (Lib.decDigits u)=.ok u:=by
 obtain ⟨c,r,hl,-⟩:=decDigits_head u
 unfold Lib.parseMag
 rw [if_neg (by rw [hl];simp)]
 exact parse_dec _ _ _ (decDigits_val u) h
theorem atoi_itoa {n:Int} (h1:-2147483648<=n) (h2:n<=2147483648):Lib.atoiAll (Lib.itoa n)=.ok n:=by
 unfold Lib.itoa
 by_cases hn:n<0
 ·rw [if_pos hn]
  unfold Lib.atoiAll
  simp only
  rw [if_pos (by decide),mag_dec (by omega)]
  simp only
  rw [if_neg (by simp),if_neg (by omega),if_pos (by decide)]
  congr 1;omega
 ·rw [if_neg hn]
  obtain ⟨c,r,hl,hc1,hc2⟩:=decDigits_head n.toNat
  have hm:=mag_dec (u:=n.toNat) (by omega)
  rw [hl] at hm ⊢
  unfold Lib.atoiAll
  simp only
  rw [if_neg (by omega),hm]
  simp only
  rw [if_neg (by omega),if_neg (by omega),if_neg (by omega)]
  congr 1;omega
theorem itoa_lt (n:Int):∀ c∈itoa n,c<256:=by
 intro c hc
 unfold itoa at hc
 obtain ⟨b,_,rfl⟩:=List.mem_map.1 hc
 exact b.toNat_lt
theorem map_back (l:List UInt8):(l.map UInt8.toNat).map UInt8.ofNat=l:=by
 rw [List.map_map]
 conv=>rhs;rw [<-List.map_id l]
 exact List.map_congr_left (fun c _=>by simp)
theorem atoiV_itoa {n:Int} (h1:-2147483648<=n) (h2:n<=2147483648):atoiV (itoa n)=some n:=by
 unfold atoiV itoa
 rw [map_back,atoi_itoa h1 h2]
theorem atoiV_other {c:Nat} {r:List Nat} (hc:c<256) (h:¬ (48<=c/\c<=57)) (h3:c≠43) (h5:c≠45):atoiV (c :: r)=none:=by
 have hcc:(UInt8.ofNat c).toNat=c:=by simp;omega
 unfold atoiV
 rw [List.map_cons]
 unfold Lib.atoiAll
 simp only [hcc]
 rw [if_neg (by omega)]
 unfold Lib.parseMag
 rw [if_neg (by simp)]
 unfold Lib.parseUint10
 rw [hcc,if_neg h]
/-- THE LAW: what is written is read as it was -/
theorem parse_text {v:Val} (hb:∀ c∈v.s,c<256) (h:may v=true):parse (text v)=some v:=by
 obtain ⟨k,n,s⟩:=v
 simp only at hb
 have hm:=h
 unfold may at h
 simp only [Bool.or_eq_true,Bool.and_eq_true,beq_iff_eq,decide_eq_true_eq] at h
 have key:guess (text ⟨k,n,s⟩)=some ⟨k,n,s⟩:=by
  rcases h with ⟨rfl,rfl,h1,h2⟩ | ⟨rfl,rfl,h1⟩
  ·unfold text guess
   rw [if_pos rfl,atoiV_itoa (by simp only;omega) (by simp only;omega)]
  ·unfold text
   rw [if_neg (show ¬ (2:Int)=1 by decide)]
   simp only
   by_cases hn:name s=true
   ·rw [if_pos hn]
    unfold name wordB at hn
    simp only [Bool.and_eq_true,decide_eq_true_eq] at hn
    obtain ⟨-,h3,h4,h5,h6⟩:=hn
    cases s with
    | nil=>simp at h3
    | cons c r =>
     unfold Lx.small at h5
     simp only [List.headD_cons,Bool.and_eq_true] at h5
     have h51:97<=c:=of_decide_eq_true h5.1
     have h52:c<=122:=of_decide_eq_true h5.2
     unfold guess
     rw [atoiV_other (by omega) (by omega) (by omega) (by omega)]
     have hne:¬ (1<(c :: r).length/\(c :: r).headD 0=34):=by simp only [List.headD_cons];omega
     simp only [if_neg hne]
   ·rw [if_neg hn]
    unfold quoted guess
    rw [atoiV_other (by omega) (by omega) (by omega) (by omega)]
    simp only
    rw [if_pos ⟨by simp,rfl⟩]
    have:(List.drop 1 (List.take ((34 :: (List.flatMap qb s++[34])).length - 1) (34 :: (List.flatMap qb s++[34]))))=List.flatMap qb s:=by
     simp
    rw [this,uq_q s hb]
    rfl
 unfold parse
 rw [key]
 exact if_pos ⟨hm,rfl⟩
end Go.Proofs.YtcalbbfkgdfidaaDoor.Va
