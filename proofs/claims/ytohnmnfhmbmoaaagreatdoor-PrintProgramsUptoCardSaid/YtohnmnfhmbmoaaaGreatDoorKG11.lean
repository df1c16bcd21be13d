/- THE TEXTS MERGED: TyZd TyStrip TyPut. -/
import Derived.Test.YtohnmnfhmbmoaaaGreatDoorKG10
namespace Go.Proofs.YtohnmnfhmbmoaaaGreatDoor
open Go.RowKit
set_option linter.unusedVariables false
set_option linter.unusedSimpArgs false
set_option maxRecDepth 100000
/-- places of literals in blocks from n on may have become zero; nothing else -/
structure Zd (n:Nat) (w w':World):Prop where
 os:w'.os=w.os
 tape:w'.tape=w.tape
 output:w'.output=w.output
 size:w'.heap.size=w.heap.size
 other:∀ (k:Nat),(k<n\/¬ TyAt w k 49)->w'.heap[k]?=w.heap[k]?
 lit:∀ (k:Nat) (C:Array Value),w.heap[k]?=some (Obj.cells C 49 (0,0))->∃ C':Array Value,w'.heap[k]?=some (Obj.cells C' 49 (0,0))/\∀ j:Nat,C'[j]?=C[j]?\/((j % 30=28\/j % 30=29)/\C'[j]?=some (.int .i64 0))
section
variable {n:Nat} {w w' w2:World} {F:Nat->Prop}
theorem Zd.refl (n:Nat) (w:World):Zd n w w:=⟨rfl,rfl,rfl,rfl,fun _ _=>rfl,fun k C h=>⟨C,h,fun _=>.inl rfl⟩⟩
theorem Zd.litAt (h:Zd n w w') {k:Nat} (ht:TyAt w k 49):TyAt w' k 49:=by
 obtain ⟨C,hC⟩:=ht
 obtain ⟨C',h1,-⟩:=h.lit k C hC
 exact ⟨C',h1⟩
theorem Zd.trans (h:Zd n w w') (h2:Zd n w' w2):Zd n w w2:=by
 refine ⟨h2.os.trans h.os,h2.tape.trans h.tape,h2.output.trans h.output,h2.size.trans h.size,fun k hk=>?_,fun k C hC=>?_⟩
 ·have e1:=h.other k hk
  rw [h2.other k ?_,e1]
  rcases hk with hk | hk
  ·exact .inl hk
  ·refine .inr (fun ⟨C,hC⟩=>hk ⟨C,?_⟩)
   rw [<-e1];exact hC
 ·obtain ⟨C1,e1,f1⟩:=h.lit k C hC
  obtain ⟨C2,e2,f2⟩:=h2.lit k C1 e1
  refine ⟨C2,e2,fun j=>?_⟩
  rcases f2 j with g2 | g2
  ·rw [g2];exact f1 j
  ·exact .inr g2
theorem Zd.set {g i:Nat} (hn:n<=g) (ht:TyAt w g 49) (hi:i % 30=28\/i % 30=29):Zd n w (w.setCell ⟨g,i,none⟩ (.int .i64 0)):=by
 obtain ⟨C0,h0⟩:=ht
 refine ⟨rfl,rfl,rfl,by simp [World.setCell],fun k hk=>?_,fun k C hC=>?_⟩
 ·have hkg:k≠g:=fun e=>by
   subst e
   rcases hk with hk | hk
   ·omega
   ·exact hk ⟨C0,h0⟩
  exact Below.heap_setCell _ _ _ _ hkg
 ·by_cases e:k=g
  ·subst e
   refine ⟨_,setCell_at hC i _,fun j=>?_⟩
   rw [Array.getElem?_setIfInBounds]
   by_cases hj:i=j
   ·subst hj
    by_cases hs:i<C.size
    ·rw [if_pos rfl,if_pos hs];exact .inr ⟨hi,rfl⟩
    ·rw [if_pos rfl,if_neg hs,Array.getElem?_eq_none (by omega)];exact .inl rfl
   ·rw [if_neg hj];exact .inl rfl
  ·exact ⟨C,by rw [Below.heap_setCell _ _ _ _ e];exact hC,fun _=>.inl rfl⟩
theorem Zd.at (h:Zd n w w') {k:Nat} {o:Obj} (hk:k<n) (ho:w.heap[k]?=some o):w'.heap[k]?=some o:=(h.other k (.inl hk)).trans ho
theorem Zd.ne (h:Zd n w w') {k:Nat} {C:Array Value} {T:TypeId} {fr:Nat × Nat} (hT:T≠49) (ho:w.heap[k]?=some (.cells C T fr)):w'.heap[k]?=some (.cells C T fr) :=
 (h.other k (.inr (fun ⟨C',h'⟩=>by rw [ho] at h';simp only [Option.some.injEq,Obj.cells.injEq] at h';exact hT h'.2.1))).trans ho
theorem Zd.ty (h:Zd n w w') {k:Nat} {T:TypeId} (hT:T≠49) (ht:TyAt w k T):TyAt w' k T:=by
 obtain ⟨C,hC⟩:=ht
 exact ⟨C,h.ne hT hC⟩
theorem CellsAt.zne {b o:Nat} {xs:Array Value} {T:TypeId} (hc:CellsAt w b o xs) (ht:TyAt w b T) (hT:T≠49) (h:Zd n w w'):CellsAt w' b o xs:=by
 obtain ⟨C,hC⟩:=ht
 intro i x hx
 have:=hc i x hx
 rw [cell_at hC] at this
 rw [cell_at (h.ne hT hC)]
 exact this
theorem Zd.owns (h:Zd n w w') {base:Nat} {e:TypeId} {size:Nat} {v:Value} {m:Nat} {xs:List Value} (he:e≠49) (ho:w.ownsRow base e size v m xs):w'.ownsRow base e size v m xs:=by
 obtain ⟨h1,h2⟩:=ho
 refine ⟨h1,?_⟩
 rcases h2 with h2 | ⟨g,cap,cur,rfl,hg,hh,r⟩
 ·exact .inl h2
 ·exact .inr ⟨g,cap,cur,rfl,hg,h.ne he hh,r⟩
theorem ET.zd {e:Pr.Ex} {u:Value} (h:ET F w e u) (hz:Zd n w w'):ET F w' e u:=by
 induction h with
 | nil=>exact .nil
 | row hF hT h1 h2 ih=>exact .row hF (hz.ty (by decide) hT) (fun i h=>(h1 i h).zne hT (by decide) hz) ih
theorem RowT.zd {α:Type} {T:TypeId} {m:Nat} {cs:α->Array Value} {l:List α} {u:Value} (hT:T≠49) (h:RowT F w T m cs l u) (hz:Zd n w w'):RowT F w' T m cs l u:=by
 cases h with
 | nil=>exact .nil
 | row hF ht h1 hc=>exact .row hF (hz.ty hT ht) (fun i h=>(h1 i h).zne ht hT hz) hc
end
/-- the same but for places, each as it was or zero -/
inductive Pl:Pr.Li->Pr.Li->Prop
 | mk {k:Int} {a:Pr.Atom} {op:Int} {l r:Pr.Ex} {fn:Int} {av:ByteArray} {of:Pr.Ex} {body body':List Pr.Li} {ln cl ln' cl':Int} (h1:ln'=ln\/ln'=0) (h2:cl'=cl\/cl'=0) (hl:body'.length=body.length)
   (hb:∀ i (h:i<body.length) (h':i<body'.length),Pl body[i] body'[i]):Pl (.mk k a op l r fn av of body ln cl) (.mk k a op l r fn av of body' ln' cl')
theorem map_ext {α β:Type} {f:α->β} {l l':List α} (hl:l'.length=l.length) (h:∀ i (h:i<l.length) (h':i<l'.length),f l'[i]=f l[i]):l'.map f=l.map f:=by
 apply List.ext_getElem (by simpa using hl)
 intro i h1 h2
 simp only [List.getElem_map]
 exact h i (by simpa using h2) (by simpa using h1)
theorem Pl.bare {x y:Pr.Li} (h:Pl x y):Sy.bareL y=Sy.bareL x:=by
 induction h with
 | mk h1 h2 hl hb ih =>
  rw [Sy.bareL_eq,Sy.bareL_eq,map_ext hl ih]
theorem Pl.refl (x:Pr.Li):Pl x x:=by
 have key:∀ d,∀ x,liD x<=d->Pl x x:=by
  intro d
  induction d with
  | zero=>intro x h;cases x;simp [liD] at h
  | succ d ih =>
   intro x h
   obtain ⟨k,a,op,l,r,fn,av,of,body,ln,cl⟩:=x
   simp only [liD] at h
   exact .mk (.inl rfl) (.inl rfl) rfl (fun i hi _=>ih _ (by have:=liDs_mem body i hi;omega))
 exact key _ x (Nat.le_refl _)
theorem liDs_le {l l':List Pr.Li} (hl:l'.length=l.length) (h:∀ i (h:i<l.length) (h':i<l'.length),liD l'[i]<=liD l[i]):liDs l'<=liDs l:=by
 induction l generalizing l' with
 | nil=>rw [List.eq_nil_of_length_eq_zero hl];exact Nat.le_refl _
 | cons a r ih =>
  cases l' with
  | nil=>simp at hl
  | cons b s =>
   have h0:=h 0 (by simp) (by simp)
   have ih':=ih (l':=s) (by simpa using hl) (fun i h1 h2=>by
    have:=h (i+1) (by simpa using h1) (by simpa using h2)
    simpa using this)
   simp only [List.getElem_cons_zero] at h0
   simp only [liDs]
   omega
theorem Pl.depth {x y:Pr.Li} (h:Pl x y):liD y<=liD x:=by
 induction h with
 | mk h1 h2 hl hb ih =>
  simp only [liD]
  have:=liDs_le hl ih
  omega
theorem Pl.fix {x y:Pr.Li} (h:Pl x y):Sy.bareL x=x->y=x:=by
 induction h with
 | @mk k a op l r fn av of body body' ln cl ln' cl' h1 h2 hl hb ih =>
  intro hx
  rw [Sy.bareL_eq] at hx
  simp only [Pr.Li.mk.injEq,true_and] at hx
  obtain ⟨e1,e2,e3⟩:=hx
  have e4:body'=body:=List.ext_getElem hl (fun i g1 g2=>ih i g2 g1 (by
   have e:=congrArg (fun l=>l[i]?) e1
   simp only [List.getElem?_map,List.getElem?_eq_getElem g2,Option.map_some,Option.some.injEq] at e
   exact e))
  subst e4;subst e2;subst e3
  have e5:ln'=0:=by rcases h1 with h1 | h1 <;> exact h1
  have e6:cl'=0:=by rcases h2 with h2 | h2 <;> exact h2
  subst e5;subst e6;rfl
def setP:Pr.Li->Int->Int->Pr.Li
 | .mk k a op l r fn av of body _ _,ln,cl=>.mk k a op l r fn av of body ln cl
def lnOf:Pr.Li->Int
 | .mk _ _ _ _ _ _ _ _ _ ln _=>ln
def clOf:Pr.Li->Int
 | .mk _ _ _ _ _ _ _ _ _ _ cl=>cl
section
variable {n:Nat} {w w':World} {F:Nat->Prop}
theorem LT.setP {x:Pr.Li} {U:LU} (h:LT F w x U) (a b:Int):LT F w (setP x a b) U:=by
 cases h with
 | mk ht hl hr ho hb h1 h2 hcap=>exact .mk ht hl hr ho hb h1 h2 hcap
/-- a literal's cells -/
theorem CellsAt.zlit {g i:Nat} {x:Pr.Li} {U:LU} (hc:CellsAt w g (i * 30) (liV x U)) (ht:TyAt w g 49) (h:Zd n w w') :
  ∃ ln cl:Int,(ln=lnOf x\/ln=0)/\(cl=clOf x\/cl=0)/\CellsAt w' g (i * 30) (liV (setP x ln cl) U):=by
 obtain ⟨C,hC⟩:=ht
 obtain ⟨C',hC',hj⟩:=h.lit g C hC
 obtain ⟨k,a,op,l,r,fn,av,of,body,ln,cl⟩:=x
 have hcell:∀ j y,(liV (.mk k a op l r fn av of body ln cl) U)[j]?=some y->C[i * 30+j]?=some y:=fun j y hy=>by
  have:=hc j y hy
  rwa [cell_at hC] at this
 have h28:=hcell 28 (.int .i64 ln) rfl
 have h29:=hcell 29 (.int .i64 cl) rfl
 obtain ⟨ln',e1,f1⟩:∃ ln':Int,(ln'=ln\/ln'=0)/\C'[i * 30+28]?=some (.int .i64 ln'):=by
  rcases hj (i * 30+28) with q | q
  ·exact ⟨ln,.inl rfl,by rw [q];exact h28⟩
  ·exact ⟨0,.inr rfl,q.2⟩
 obtain ⟨cl',e2,f2⟩:∃ cl':Int,(cl'=cl\/cl'=0)/\C'[i * 30+29]?=some (.int .i64 cl'):=by
  rcases hj (i * 30+29) with q | q
  ·exact ⟨cl,.inl rfl,by rw [q];exact h29⟩
  ·exact ⟨0,.inr rfl,q.2⟩
 refine ⟨ln',cl',e1,e2,fun j y hy=>?_⟩
 rw [cell_at hC']
 have hjl:j<30:=(Array.getElem?_eq_some_iff.1 hy).1
 by_cases h1:j=28
 ·subst h1
  have:y=.int .i64 ln':=by simpa [setP,liV] using hy.symm
  rw [this];exact f1
 ·by_cases h2:j=29
  ·subst h2
   have:y=.int .i64 cl':=by simpa [setP,liV] using hy.symm
   rw [this];exact f2
  ·have hy2:(liV (.mk k a op l r fn av of body ln cl) U)[j]?=some y:=by
    rw [<-hy]
    have hm:(liV (.mk k a op l r fn av of body ln cl) U)=((liV (.mk k a op l r fn av of body ln' cl') U).setIfInBounds 28 (.int .i64 ln)).setIfInBounds 29 (.int .i64 cl):=rfl
    rw [hm,Array.getElem?_setIfInBounds_ne (by omega),Array.getElem?_setIfInBounds_ne (by omega)]
    rfl
   rcases hj (i * 30+j) with q | q
   ·rw [q];exact hcell j y hy2
   ·omega
theorem exists_listZ {α:Type} (P:Nat->α->Prop):∀ (n:Nat),(∀ i,i<n->∃ x,P i x)->∃ xs:List α,xs.length=n/\∀ i (hi:i<xs.length),P i xs[i]
 | 0,_=>⟨[],rfl,fun i hi=>by simp at hi⟩
 | n+1,h=>by
  obtain ⟨xs,hl,hp⟩:=exists_listZ P n (fun i hi=>h i (by omega))
  obtain ⟨x,hx⟩:=h n (by omega)
  refine ⟨xs++[x],by simp [hl],fun i hi=>?_⟩
  by_cases e:i<xs.length
  ·rw [List.getElem_append_left e];exact hp i e
  ·have:i=n:=by simp at hi;omega
   subst this
   have e2:(xs++[x])[i]=x:=by
    rw [List.getElem_append_right (by omega)];simp [hl]
   rw [e2];exact hx
theorem Pl.setP {x y:Pr.Li} (h:Pl x y) {a b:Int} (ha:a=lnOf x\/a=0) (hb:b=clOf x\/b=0):Pl x (setP y a b):=by
 cases h with
 | mk h1 h2 hl hbb=>exact .mk ha hb hl hbb
theorem liV_body (x y:Pr.Li) (hx:Pl x y) (a b:Int) (U:LU):liV (setP y a b) U=liV (setP x a b) U:=by
 cases hx with
 | mk h1 h2 hl hb=>rfl
theorem LT.zd {x:Pr.Li} {U:LU} (h:LT F w x U) (hz:Zd n w w'):∃ y,Pl x y/\LT F w' y U:=by
 induction h with
 | @mk k a op l r fn av of body ln cl U ub cb us ht hl hr ho hb h1 h2 hcap ih =>
  obtain ⟨body',hlen,hP⟩:=exists_listZ (fun i y=>∀ h:i<body.length,Pl body[i] y/\LT F w' y (us i)/\∃ g,ub=some ⟨g,0,none⟩/\F g/\TyAt w' g 49/\CellsAt w' g (i * 30) (liV y (us i))) body.length (fun i hi=>by
   obtain ⟨y,hy,hT⟩:=ih i hi
   obtain ⟨g,hu,hF,hty,hc⟩:=h1 i hi
   obtain ⟨ln',cl',e1,e2,hc'⟩:=hc.zlit hty hz
   refine ⟨Go.Proofs.YtohnmnfhmbmoaaaGreatDoor.setP y ln' cl',fun _=>⟨hy.setP e1 e2,hT.setP ln' cl',g,hu,hF,hz.litAt hty,?_⟩⟩
   rw [liV_body _ _ hy]
   exact hc')
  refine ⟨.mk k a op l r fn av of body' ln cl,.mk (.inl rfl) (.inl rfl) hlen (fun i h h'=>(hP i h' h).1),.mk (us:=us) (RowT.zd (by decide) ht hz) (hl.zd hz) (hr.zd hz) (ho.zd hz) (ub:=ub) (cb:=cb) (by rw [hlen];exact hb) (fun i h=>(hP i h (by omega)).2.2) (fun i h=>(hP i h (by omega)).2.1) (by omega)⟩
theorem BT.zd {l:List Pr.Li} {u:Value} (h:BT F w l u) (hz:Zd n w w'):∃ l',l'.length=l.length/\(∀ i (h:i<l.length) (h':i<l'.length),Pl l[i] l'[i])/\BT F w' l' u:=by
 obtain ⟨ub,cb,us,hu,h1,h2,hcap⟩:=h
 obtain ⟨body',hlen,hP⟩:=exists_listZ (fun i y=>∀ h:i<l.length,Pl l[i] y/\LT F w' y (us i)/\∃ g,ub=some ⟨g,0,none⟩/\F g/\TyAt w' g 49/\CellsAt w' g (i * 30) (liV y (us i))) l.length (fun i hi=>by
  obtain ⟨y,hy,hT⟩:=(h2 i hi).zd hz
  obtain ⟨g,hu,hF,hty,hc⟩:=h1 i hi
  obtain ⟨ln',cl',e1,e2,hc'⟩:=hc.zlit hty hz
  refine ⟨Go.Proofs.YtohnmnfhmbmoaaaGreatDoor.setP y ln' cl',fun _=>⟨hy.setP e1 e2,hT.setP ln' cl',g,hu,hF,hz.litAt hty,?_⟩⟩
  rw [liV_body _ _ hy]
  exact hc')
 exact ⟨body',hlen,fun i h h'=>(hP i h' h).1,ub,cb,us,by rw [hlen];exact hu,fun i h=>(hP i h (by omega)).2.2,fun i h=>(hP i h (by omega)).2.1,by omega⟩
/-- memory tells the places -/
theorem cells_uniq {g i:Nat} {x y:Pr.Li} {U V:LU} (h1:CellsAt w g (i * 30) (liV x U)) (h2:CellsAt w g (i * 30) (liV y V)):lnOf x=lnOf y/\clOf x=clOf y/\U.b=V.b:=by
 obtain ⟨k,a,op,l,r,fn,av,of,body,ln,cl⟩:=x
 obtain ⟨k2,a2,op2,l2,r2,fn2,av2,of2,body2,ln2,cl2⟩:=y
 have a1:=h1 28 (.int .i64 ln) rfl
 have b1:=h2 28 (.int .i64 ln2) rfl
 have a2:=h1 29 (.int .i64 cl) rfl
 have b2:=h2 29 (.int .i64 cl2) rfl
 have a3:=h1 27 U.b rfl
 have b3:=h2 27 V.b rfl
 rw [a1] at b1;rw [a2] at b2;rw [a3] at b3
 simp only [Option.some.injEq,Value.int.injEq,true_and] at b1 b2 b3
 exact ⟨b1,b2,b3⟩
theorem LT.uniq {F':Nat->Prop} {x:Pr.Li} {U:LU} (h:LT F w x U):∀ {y:Pr.Li} {V:LU},LT F' w y V->U.b=V.b->Sy.bareL x=Sy.bareL y->Go.Proofs.YtohnmnfhmbmoaaaGreatDoor.setP x 0 0=Go.Proofs.YtohnmnfhmbmoaaaGreatDoor.setP y 0 0:=by
 induction h with
 | @mk k a op l r fn av of body ln cl U ub cb us ht hl hr ho hb h1 h2 hcap ih =>
  intro y V hy hUV hbare
  cases hy with
  | @mk k' a' op' l' r' fn' av' of' body' ln' cl' _ ub' cb' us' ht' hl' hr' ho' hb' h1' h2' hcap' =>
   rw [Sy.bareL_eq,Sy.bareL_eq] at hbare
   simp only [Pr.Li.mk.injEq,and_true] at hbare
   obtain ⟨rfl,rfl,rfl,rfl,rfl,rfl,rfl,rfl,hm⟩:=hbare
   rw [hb,hb'] at hUV
   simp only [Value.slice.injEq] at hUV
   obtain ⟨hub,hlen,-⟩:=hUV
   simp only [Go.Proofs.YtohnmnfhmbmoaaaGreatDoor.setP,Pr.Li.mk.injEq,true_and,and_true]
   refine List.ext_getElem hlen (fun i g1 g2=>?_)
   obtain ⟨g,e1,-,-,c1⟩:=h1 i g1
   obtain ⟨g',e2,-,-,c2⟩:=h1' i g2
   rw [hub,e2] at e1
   simp only [Option.some.injEq,Addr.mk.injEq,and_true] at e1
   subst e1
   obtain ⟨q1,q2,q3⟩:=cells_uniq c1 c2
   have e:Sy.bareL body[i]=Sy.bareL body'[i]:=by
    have e:=congrArg (fun l=>l[i]?) hm
    simpa only [List.getElem?_map,List.getElem?_eq_getElem g1,List.getElem?_eq_getElem g2,Option.map_some,Option.some.injEq] using e
   have hs:=ih i g1 (h2' i g2) q3 e
   generalize body[i]=X at *
   generalize body'[i]=Y at *
   obtain ⟨k,a,op,l,r,fn,av,of,body,ln,cl⟩:=X
   obtain ⟨k2,a2,op2,l2,r2,fn2,av2,of2,body2,ln2,cl2⟩:=Y
   simp only [Go.Proofs.YtohnmnfhmbmoaaaGreatDoor.setP,Pr.Li.mk.injEq,and_true] at hs
   obtain ⟨rfl,rfl,rfl,rfl,rfl,rfl,rfl,rfl,rfl⟩:=hs
   simp only [lnOf,clOf] at q1 q2
   subst q1;subst q2;rfl
end
open Go.RowKit
set_option linter.unusedVariables false
set_option linter.unusedSimpArgs false
set_option maxRecDepth 100000
theorem liMs_le {l l':List Pr.Li} (hl:l'.length=l.length) (h:∀ i (h:i<l.length) (h':i<l'.length),liM l'[i]<=liM l[i]):liMs l'<=liMs l:=by
 induction l generalizing l' with
 | nil=>rw [List.eq_nil_of_length_eq_zero hl];exact Nat.le_refl _
 | cons a r ih =>
  cases l' with
  | nil=>simp at hl
  | cons b s =>
   have h0:=h 0 (by simp) (by simp)
   have ih':=ih (l':=s) (by simpa using hl) (fun i h1 h2=>by
    have:=h (i+1) (by simpa using h1) (by simpa using h2)
    simpa using this)
   simp only [List.getElem_cons_zero] at h0
   simp only [liMs]
   omega
theorem Pl.lim {x y:Pr.Li} (h:Pl x y):liM y<=liM x:=by
 induction h with
 | mk h1 h2 hl hb ih =>
  simp only [liM]
  have:=liMs_le hl ih
  omega
theorem bareL_idem (x:Pr.Li):Sy.bareL (Sy.bareL x)=Sy.bareL x:=by
 have key:∀ d,∀ x,liD x<=d->Sy.bareL (Sy.bareL x)=Sy.bareL x:=by
  intro d
  induction d with
  | zero=>intro x h;cases x;simp [liD] at h
  | succ d ih =>
   intro x h
   obtain ⟨k,a,op,l,r,fn,av,of,body,ln,cl⟩:=x
   simp only [liD] at h
   rw [Sy.bareL_eq,Sy.bareL_eq,List.map_map]
   congr 1
   apply List.map_congr_left
   intro y hy
   obtain ⟨i,hi,rfl⟩:=List.mem_iff_getElem.1 hy
   exact ih _ (by have:=liDs_mem body i hi;omega)
 exact key _ x (Nat.le_refl _)
/-- the list of the loop: as it was but for places; the first i without places -/
structure SI (F:Nat->Prop) (n:Nat) (w0 w:World) (l:List Pr.Li) (u:Value) (i:Nat) (m:List Pr.Li):Prop where
 len:m.length=l.length
 bare:m.map Sy.bareL=l.map Sy.bareL
 dep:liDs m<=liDs l
 lim:liMs m<=liMs l
 fix:∀ j (h:j<m.length),j<i->Sy.bareL m[j]=m[j]
 bt:BT F w m u
 zd:Zd n w0 w
theorem SI.step {F:Nat->Prop} {n:Nat} {w0 w w':World} {l:List Pr.Li} {u:Value} {i:Nat} {m:List Pr.Li} (h:SI F n w0 w l u i m) (hz:Zd n w w') :
  ∃ m',SI F n w0 w' l u i m'/\∀ j (h:j<m.length) (h':j<m'.length),Pl m[j] m'[j]:=by
 obtain ⟨m',hl,hP,hB⟩:=h.bt.zd hz
 refine ⟨m',⟨hl.trans h.len,?_,Nat.le_trans (liDs_le hl (fun i a b=>(hP i a b).depth)) h.dep,Nat.le_trans (liMs_le hl (fun i a b=>(hP i a b).lim)) h.lim,fun j hj hji=>?_,hB,h.zd.trans hz⟩,hP⟩
 ·rw [<-h.bare]
  exact map_ext hl (fun i a b=>(hP i a b).bare)
 ·have hj':j<m.length:=by omega
  have e:=(hP j hj' hj).fix (h.fix j hj' hji)
  rw [e]
  exact h.fix j hj' hji
theorem SI.at {F:Nat->Prop} {n:Nat} {w0 w:World} {l:List Pr.Li} {a:Option Addr} {c:Nat} {i:Nat} {m:List Pr.Li} (h:SI F n w0 w l (.slice a l.length c) i m) (j:Nat) (hj:j<m.length) :
  ∃ g U,a=some ⟨g,0,none⟩/\F g/\TyAt w g 49/\CellsAt w g (j * 30) (liV m[j] U)/\LT F w m[j] U:=by
 obtain ⟨ub,cb,us,hu,h1,h2,hcap⟩:=h.bt
 obtain ⟨g,e,hF,hT,hc⟩:=h1 j hj
 simp only [Value.slice.injEq] at hu
 exact ⟨g,us j,hu.1.trans e,hF,hT,hc,h2 j hj⟩
def SrC (d:Nat):Prop:=∀ (l:List Pr.Li),liDs l<d->l.length<=134217728->liMs l<=134217728->∀ (n:Nat) (F:Nat->Prop) (u:Value) (w:World),(∀ k,F k->n<=k)->BT F w l u ->
 Calls Tryz.prog 39 #[u] w (fun e w'=>e=.returned (.tuple #[])/\Zd n w w'/\BT F w' (l.map Sy.bareL) u)
set_option maxHeartbeats 4000000 in
theorem src_of (d:Nat) (hS:SrC d):SrC (d+1):=by
 intro l hd hl hM n F u w hF h
 obtain ⟨a1,c1,rfl⟩:=h.lit
 have HS:=Lib.hid hS;have HF:=Lib.hid hF
 have I0:Hid (SI F n w w l (.slice a1 l.length c1) 0 l):=Lib.hid ⟨rfl,rfl,Nat.le_refl _,Nat.le_refl _,fun j _ h=>absurd h (by omega),h,Zd.refl n w⟩
 clear h hS hF
 go_enter Tryz.func39,Tryz.ntmps39
 go_wp2_with fail
 go_loopw [2] (fun iv wr=>∃ (i:Nat) (m:List Pr.Li),iv=.int .i64 (i:Nat)/\i<=l.length/\SI F n w wr l (.slice a1 l.length c1) i m) (fun iv _=>l.length - (intOf iv).toNat)
 case atStart=>exact ⟨0,l,rfl,Nat.zero_le _,I0.out⟩
 case round =>
  obtain ⟨i,m,rfl,hi,hI⟩:=hrel
  by_cases hlt:i<l.length
  ·have hjI:(i:Int)<(l.length:Int):=by omega
   have hj0:(0:Int)<=(i:Int):=by omega
   have him:i<m.length:=by have:=hI.len;omega
   obtain ⟨g,U,rfl,hFg,hT,hc,hL⟩:=hI.at i him
   have hng:=HF.out g hFg
   generalize hz:m[i]=z at hc hL
   obtain ⟨k,a,op,le,re,fn,av,of,body,ln,cl⟩:=z
   have c28:=hc 28 (.int .i64 ln) rfl
   have c29:=hc 29 (.int .i64 cl) rfl
   have fG:∀ j,wr.frozen? ⟨g,j,none⟩=false:=fun j=>by obtain ⟨C,hC⟩:=hT;exact free_at hC j
   have Z1:Hid (Zd n wr ((wr.setCell ⟨g,i * 30+28,none⟩ (.int .i64 0)).setCell ⟨g,i * 30+28+1,none⟩ (.int .i64 0))):=Hxq ((Zd.set hng hT (by omega)).trans (Zd.set hng ((Zd.set hng hT (i:=i * 30+28) (by omega)).litAt hT) (by omega)))
   have hq28:((wr.setCell ⟨g,i * 30+28,none⟩ (.int .i64 0)).setCell ⟨g,i * 30+28+1,none⟩ (.int .i64 0)).cell? ⟨g,i * 30+28,none⟩=some (.int .i64 0)/\((wr.setCell ⟨g,i * 30+28,none⟩ (.int .i64 0)).setCell ⟨g,i * 30+28+1,none⟩ (.int .i64 0)).cell? ⟨g,i * 30+29,none⟩=some (.int .i64 0):=by
    obtain ⟨C,hC⟩:=hT
    have e28:=c28;have e29:=c29
    rw [cell_at hC] at e28 e29
    have s28:=(Array.getElem?_eq_some_iff.1 e28).1
    have s29:=(Array.getElem?_eq_some_iff.1 e29).1
    have h2:=setCell_at (setCell_at hC (i * 30+28) (.int .i64 0)) (i * 30+28+1) (.int .i64 0)
    rw [cell_at h2,cell_at h2]
    refine ⟨?_,?_⟩
    ·rw [Array.getElem?_setIfInBounds_ne (by omega),Array.getElem?_setIfInBounds_self_of_lt s28]
    ·rw [show i * 30+29=i * 30+28+1 from rfl,Array.getElem?_setIfInBounds_self_of_lt (by simpa using s29)]
   have HQ:=Lib.hid hq28
   have HI:=Lib.hid hI
   clear hI hq28 hz hL hc
   go_upto_region 4 with fail
   generalize (wr.setCell ⟨g,i * 30+28,none⟩ (.int .i64 0)).setCell ⟨g,i * 30+28+1,none⟩ (.int .i64 0)=w1 at *
   obtain ⟨m1,hI1,hP1⟩:=HI.out.step Z1.out
   have him1:i<m1.length:=by have:=hI1.len;omega
   obtain ⟨g',U1,e1,hFg1,hT1,hc1,hL1⟩:=hI1.at i him1
   simp only [Option.some.injEq,Addr.mk.injEq,and_true] at e1
   subst e1
   have hdz:=liDs_mem m1 i him1
   have hmz:=liMs_mem m1 i him1
   have hdd:=hI1.dep
   have hmm:=hI1.lim
   have HI1:=Lib.hid hI1
   clear hI1 hP1 c28 c29 fG
   generalize hz:m1[i]=z at *
   obtain ⟨k,a,op,le,re,fn,av,of,body,ln,cl⟩:=z
   obtain ⟨q28,q29⟩:=HQ.out
   have c28:=hc1 28 (.int .i64 ln) rfl
   have c29:=hc1 29 (.int .i64 cl) rfl
   have hln:ln=0:=by rw [q28] at c28;simp only [Option.some.injEq,Value.int.injEq,true_and] at c28;exact c28.symm
   have hcl:cl=0:=by rw [q29] at c29;simp only [Option.some.injEq,Value.int.injEq,true_and] at c29;exact c29.symm
   subst hln;subst hcl
   obtain ⟨pt,pl,pr,po,pb⟩:=hL1.parts
   obtain ⟨t1,l1,r1,q1,b1⟩:=U1
   dsimp only at pt pl pr po pb
   obtain ⟨ba1,bc1,rfl⟩:=pb.lit
   have c27:=hc1 27 (.slice ba1 body.length bc1) rfl
   simp only [liD] at hdz
   simp only [liM] at hmz
   have HZ:=Lib.hid hz;have HC1:=Lib.hid hc1;have HPB:=Lib.hid pb
   clear hz q28 q29 c28 c29 HQ pt pl pr po pb hL1 hc1
   go_wp2_with fail
   refine (HS.out body (by omega) (by omega) (by omega) n F _ w1 HF.out HPB.out).mono ?_
   rintro e2 w2 ⟨rfl,hz2,hb2⟩
   obtain ⟨m2,hI2,hP2⟩:=HI1.out.step hz2
   have him2:i<m2.length:=by have:=hI2.len;omega
   obtain ⟨g',U2,e2,hFg2,hT2,hc2,hL2⟩:=hI2.at i him2
   simp only [Option.some.injEq,Addr.mk.injEq,and_true] at e2
   subst e2
   have hPi:=hP2 i him1 him2
   have hzz:=HZ.out
   have hfx:Sy.bareL m2[i]=m2[i]:=by
    obtain ⟨ln2,cl2,e3,e4,hc3⟩:=HC1.out.zlit hT1 hz2
    have hub:=(cells_uniq hc3 hc2).2.2
    rw [hzz] at hPi
    generalize m2[i]=y at *
    cases hPi with
    | @mk _ _ _ _ _ _ _ _ _ body' _ _ ln' cl' h1 h2 hlb hbb =>
     obtain ⟨pt,pl,pr,po,pb⟩:=hL2.parts
     have hnew:LT F w2 (.mk k a op le re fn av of (body.map Sy.bareL) 0 0) ⟨U2.t,U2.l,U2.r,U2.o,.slice ba1 body.length bc1⟩:=LT.of pt pl pr po hb2
     have hu:=hL2.uniq hnew (by simpa using hub.symm) (by
      rw [Sy.bareL_eq,Sy.bareL_eq,map_ext hlb (fun i a b=>(hbb i a b).bare),List.map_map]
      congr 1
      apply List.map_congr_left
      intro x _
      exact (bareL_idem x).symm)
     simp only [setP,Pr.Li.mk.injEq,true_and,and_true] at hu
     subst hu
     have e5:ln'=0:=by rcases h1 with h1 | h1 <;> exact h1
     have e6:cl'=0:=by rcases h2 with h2 | h2 <;> exact h2
     subst e5;subst e6
     rw [Sy.bareL_eq,List.map_map]
     congr 1
     apply List.map_congr_left
     intro x _
     exact bareL_idem x
   have HI3:Hid (SI F n w w2 l (.slice (some ⟨g,0,none⟩) l.length c1) (i+1) m2):=Lib.hid ⟨hI2.len,hI2.bare,hI2.dep,hI2.lim,fun j hj hji=>by
    rcases Nat.lt_succ_iff_lt_or_eq.1 hji with h | rfl
    ·exact hI2.fix j hj h
    ·exact hfx,hI2.bt,hI2.zd⟩
   clear hz2 hb2 hI2 hP2 hc2 hL2 hPi hzz hfx c27 HC1 HPB HZ HI1 Z1 HI
   go_wp2_with fail
   go_roundw
   case rel=>exact ⟨i+1,m2,by go_num,by omega,HI3.out⟩
   case measure=>simp [intOf];omega
  ·obtain rfl:i=l.length:=by omega
   have hjI:¬ (l.length:Int)<(l.length:Int):=by omega
   have e:m=l.map Sy.bareL:=by
    rw [<-hI.bare]
    apply List.ext_getElem (by simp)
    intro j h1 h2
    rw [List.getElem_map]
    exact (hI.fix j h1 (by have:=hI.len;omega)).symm
   have HI:=Lib.hid hI;have HE:=Lib.hid e
   clear hI e
   go_wp2_with fail
   go_end0
   exact ⟨rfl,HI.out.zd,HE.out ▸ HI.out.bt⟩
theorem src_all:∀ d,SrC d
 | 0=>fun l hd=>absurd hd (by omega)
 | d+1=>src_of d (src_all d)
section
variable {w0 W W':World} {rels:List RelU} {rus:List RulU} {va ua:Option Addr} {vc uc g:Nat}
theorem POT.keep (h:POT w0 W rels rus va vc ua uc) (hm:Mod [] W W'):POT w0 W' rels rus va vc ua uc :=
 ⟨hm.owns h.rowR (by simp),hm.owns h.rowU (by simp),h.newR,h.newU,h.dis,fun p hp=>(h.subR p hp).keep hm (by simp),fun p hp=>(h.subU p hp).keep hm (by simp),h.mod.trans hm (by simp)⟩
/-- stores elsewhere -/
theorem POT.past {S:List Nat} (h:POT w0 W rels rus va vc ua uc) (hm:Mod S W W') (hS:∀ s∈S,w0.heap.size<=s/\s∉fp (.slice va rels.length vc)/\s∉fp (.slice ua rus.length uc)/\∀ k,QF w0 (.slice va rels.length vc) (.slice ua rus.length uc) k->k<W.heap.size->k≠s):POT w0 W' rels rus va vc ua uc:=by
 refine ⟨hm.owns h.rowR (fun k hk hs=>(hS k hs).2.1 hk),hm.owns h.rowU (fun k hk hs=>(hS k hs).2.2.1 hk),h.newR,h.newU,h.dis,fun p hp=>?_,fun p hp=>?_,h.mod.trans hm (fun t ht=>.inr (hS t ht).1)⟩
 ·exact (((h.subR p hp).mono (F':=fun k=>QF w0 (.slice va rels.length vc) (.slice ua rus.length uc) k/\k<W.heap.size) (fun k hk hk2=>⟨hk,hk2⟩)).keep hm (fun s hs hh=>(hS s hs).2.2.2 s hh.1 hh.2 rfl)).mono (fun k hk _=>hk.1)
 ·exact (((h.subU p hp).mono (F':=fun k=>QF w0 (.slice va rels.length vc) (.slice ua rus.length uc) k/\k<W.heap.size) (fun k hk hk2=>⟨hk,hk2⟩)).keep hm (fun s hs hh=>(hS s hs).2.2.2 s hh.1 hh.2 rfl)).mono (fun k hk _=>hk.1)
theorem POT.putR (h:POT w0 W rels rus (some ⟨g,0,none⟩) vc ua uc) (i:Nat) (hi:i<rels.length) (p':RelU) (o:Nat) (ho:o<4) (u:Value)
  (hc:(csR p').toList=(csR rels[i]).toList.set o u) (hp:RelT (QF w0 (.slice (some ⟨g,0,none⟩) rels.length vc) (.slice ua rus.length uc)) W p') :
  POT w0 (W.setCell ⟨g,i * 4+o,none⟩ u) (rels.set i p') rus (some ⟨g,0,none⟩) vc ua uc:=by
 have e1:(rels.set i p').length=rels.length:=by simp
 have hm:Mod [g] W (W.setCell ⟨g,i * 4+o,none⟩ u):=(Mod.refl [g] W).setCell (p:=⟨g,i * 4+o,none⟩) (.inl (by simp)) u
 have hg:g∈fp (.slice (some ⟨g,0,none⟩) rels.length vc):=by simp [fp]
 have hS:∀ s∈[g],¬ QF w0 (.slice (some ⟨g,0,none⟩) rels.length vc) (.slice ua rus.length uc) s:=fun s hs hh=>by rw [Msq] at hs;subst hs;exact hh.2.1 hg
 refine ⟨?_,hm.owns h.rowU (fun k hk hs=>?_),by rw [e1];exact h.newR,h.newU,by rw [e1];exact h.dis,fun q hq=>?_,fun q hq=>?_,h.mod.trans hm (fun k hk=>by rw [Msq] at hk;subst hk;exact .inr (h.newR _ hg))⟩
 ·rw [e1,rowCells_set1 csR_size p' o u ho rels i hi hc]
  exact (h.rowR.stored (i * 4+o) u).1
 ·rw [Msq] at hs;subst hs;exact h.dis _ hg hk
 ·rw [e1]
  rcases List.mem_or_eq_of_mem_set hq with hq | rfl
  ·exact (h.subR q hq).keep hm hS
  ·exact hp.keep hm hS
 ·rw [e1];exact (h.subU q hq).keep hm hS
theorem POT.putU (h:POT w0 W rels rus va vc (some ⟨g,0,none⟩) uc) (i:Nat) (hi:i<rus.length) (p':RulU) (o:Nat) (ho:o<5) (u:Value)
  (hc:(csU p').toList=(csU rus[i]).toList.set o u) (hp:RulT (QF w0 (.slice va rels.length vc) (.slice (some ⟨g,0,none⟩) rus.length uc)) W p') :
  POT w0 (W.setCell ⟨g,i * 5+o,none⟩ u) rels (rus.set i p') va vc (some ⟨g,0,none⟩) uc:=by
 have e1:(rus.set i p').length=rus.length:=by simp
 have hm:Mod [g] W (W.setCell ⟨g,i * 5+o,none⟩ u):=(Mod.refl [g] W).setCell (p:=⟨g,i * 5+o,none⟩) (.inl (by simp)) u
 have hg:g∈fp (.slice (some ⟨g,0,none⟩) rus.length uc):=by simp [fp]
 have hS:∀ s∈[g],¬ QF w0 (.slice va rels.length vc) (.slice (some ⟨g,0,none⟩) rus.length uc) s:=fun s hs hh=>by rw [Msq] at hs;subst hs;exact hh.2.2 hg
 refine ⟨hm.owns h.rowR (fun k hk hs=>?_),?_,h.newR,by rw [e1];exact h.newU,by rw [e1];exact h.dis,fun q hq=>?_,fun q hq=>?_,h.mod.trans hm (fun k hk=>by rw [Msq] at hk;subst hk;exact .inr (h.newU _ hg))⟩
 ·rw [Msq] at hs;subst hs;exact h.dis _ hk hg
 ·rw [e1,rowCells_set1 csU_size p' o u ho rus i hi hc]
  exact (h.rowU.stored (i * 5+o) u).1
 ·rw [e1];exact (h.subR q hq).keep hm hS
 ·rw [e1]
  rcases List.mem_or_eq_of_mem_set hq with hq | rfl
  ·exact (h.subU q hq).keep hm hS
  ·exact hp.keep hm hS
theorem POT.prog (h:POT w0 W rels rus va vc ua uc):PgB (fun k=>w0.heap.size<=k) W ⟨rels.map (·.1),rus.map (·.1)⟩ (.agg #[.slice va rels.length vc,.slice ua rus.length uc]) :=
 ⟨rels,rus,_,_,rfl,rfl,RowB.of_owns csR_size h.rowR h.newR,RowB.of_owns csU_size h.rowU h.newU,fun p hp=>((h.subR p hp).mono (fun k hk _=>hk.1)).rb,fun p hp=>((h.subU p hp).mono (fun k hk _=>hk.1)).rb⟩
theorem Mod.zd {S:List Nat} {n:Nat} {a b c:World} (h:Mod S a b) (hz:Zd n b c) (hn:a.heap.size<=n):Mod S a c :=
 ⟨hz.os.trans h.os,hz.tape.trans h.tape,hz.output.trans h.output,by rw [hz.size];exact h.size,fun k hk hS=>(hz.other k (.inl (by omega))).trans (h.block k hk hS)⟩
/-- a rule but for places of its body -/
def Pu (x y:RulU):Prop:=y.2=x.2/\y.1.head=x.1.head/\y.1.line=x.1.line/\y.1.col=x.1.col/\y.1.body.length=x.1.body.length/\∀ i (h:i<x.1.body.length) (h':i<y.1.body.length),Pl x.1.body[i] y.1.body[i]
theorem Pu.cells {x y:RulU} (h:Pu x y):csU y=csU x:=by
 obtain ⟨⟨h1,b1,l1,c1⟩,u1,v1⟩:=x
 obtain ⟨⟨h2,b2,l2,c2⟩,u2,v2⟩:=y
 obtain ⟨e1,e2,e3,e4,-,-⟩:=h
 simp only [Prod.mk.injEq] at e1 e2 e3 e4
 obtain ⟨rfl,rfl⟩:=e1
 subst e2;subst e3;subst e4;rfl
theorem Pu.bare {x y:RulU} (h:Pu x y):Sy.bareU y.1=Sy.bareU x.1:=by
 obtain ⟨-,e2,-,-,e5,e6⟩:=h
 simp only [Sy.bareU,e2]
 rw [map_ext e5 (fun i a b=>(e6 i a b).bare)]
theorem rowCells_ext {α:Type} {cs:α->Array Value}:∀ {l l':List α},l'.length=l.length->(∀ i (h:i<l.length) (h':i<l'.length),cs l'[i]=cs l[i])->rowCells cs l'=rowCells cs l:=by
 intro l l' hl h
 have e:l'.map (fun x=>(cs x).toList)=l.map (fun x=>(cs x).toList):=map_ext hl (fun i a b=>by rw [h i a b])
 simp only [rowCells,List.flatMap_def]
 rw [e]
theorem POT.zd {n:Nat} (h:POT w0 W rels rus va vc ua uc) (hz:Zd n W W') (hn:w0.heap.size<=n) :
  ∃ rus',rus'.length=rus.length/\(∀ i (h:i<rus.length) (h':i<rus'.length),Pu rus[i] rus'[i])/\POT w0 W' rels rus' va vc ua uc:=by
 obtain ⟨rus',hl,hP⟩:=exists_listZ (fun i (y:RulU)=>∀ h:i<rus.length,Pu rus[i] y/\RulT (QF w0 (.slice va rels.length vc) (.slice ua rus.length uc)) W' y) rus.length (fun i hi=>by
  have hs:=h.subU _ (List.getElem_mem hi)
  generalize hx:rus[i]=x at hs
  obtain ⟨⟨h1,b1,l1,c1⟩,u1,v1⟩:=x
  obtain ⟨ht,hb⟩:=hs
  obtain ⟨b2,hl2,hP2,hB2⟩:=BT.zd hb hz
  exact ⟨(⟨h1,b2,l1,c1⟩,u1,v1),fun _=>by
   rw [hx]
   exact ⟨⟨rfl,rfl,rfl,rfl,hl2,hP2⟩,RowT.zd (by decide) ht hz,hB2⟩⟩)
 have hcs:rowCells csU rus'=rowCells csU rus:=rowCells_ext hl (fun i a b=>((hP i b a).1).cells)
 refine ⟨rus',hl,fun i a b=>(hP i b a).1,hz.owns (by decide) h.rowR,by rw [hl,hcs];exact hz.owns (by decide) h.rowU,h.newR,by rw [hl];exact h.newU,by rw [hl];exact h.dis,fun p hp=>by rw [hl];exact RowT.zd (by decide) (h.subR p hp) hz,fun p hp=>?_,h.mod.zd hz hn⟩
 obtain ⟨i,hi,rfl⟩:=List.mem_iff_getElem.1 hp
 rw [hl]
 exact (hP i hi (by omega)).2
end
theorem BT.uniq {F F':Nat->Prop} {w:World} {l m:List Pr.Li} {u:Value} (h:BT F w l u) (h':BT F' w m u) (e:l.map Sy.bareL=m.map Sy.bareL):l=m:=by
 have key:∀ (G:Nat->Prop) (x:List Pr.Li),BT G w x u->LT G w (.mk 0 ⟨.empty,[]⟩ 0 (.mk 0 .empty Va.zero 0 []) (.mk 0 .empty Va.zero 0 []) 0 .empty (.mk 0 .empty Va.zero 0 []) x 0 0) ⟨.slice none 0 0,.slice none 0 0,.slice none 0 0,.slice none 0 0,u⟩ :=
  fun G x hx=>LT.of .nil .nil .nil .nil hx
 have:=(key _ _ h).uniq (key _ _ h') rfl (by rw [Sy.bareL_eq,Sy.bareL_eq,e])
 simp only [setP,Pr.Li.mk.injEq,true_and,and_true] at this
 exact this
end Go.Proofs.YtohnmnfhmbmoaaaGreatDoor
