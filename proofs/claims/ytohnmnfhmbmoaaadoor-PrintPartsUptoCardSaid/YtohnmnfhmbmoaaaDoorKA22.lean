/- THE TEXTS MERGED: SySim RtLex RtExp RtLit RtProg RtMay RtVal PwMem SySame. -/
import Derived.Test.YtohnmnfhmbmoaaaDoorKA21
namespace Go.Proofs.YtohnmnfhmbmoaaaDoor.Sy
open Lx (Tok)
open Pr (Term Atom Ex Li Rul Rel Prog)
set_option linter.unusedVariables false
set_option linter.unusedSimpArgs false
/-- without places -/
def bareL:Li->Li
 | .mk k a op l r fn av of body ln cl=>.mk k a op l r fn av of (bareLs body) 0 0
where bareLs:List Li->List Li
 | []=>[]
 | x :: r=>bareL x :: bareLs r
def bareU (x:Rul):Rul:=⟨x.head,x.body.map bareL,0,0⟩
def bareR (x:Rel):Rel:=⟨x.name,x.types,0,0⟩
def bareP (p:Prog):Prog:=⟨p.rels.map bareR,p.rules.map bareU⟩
section
variable {α β:Type} {v v':Env}
def RA (g g':Ag):Prop:=g'.fn=g.fn/\g'.av=g.av/\g'.of=g.of/\g.body.map bareL=g'.body.map bareL
end
end Go.Proofs.YtohnmnfhmbmoaaaDoor.Sy
namespace Go.Proofs.YtohnmnfhmbmoaaaDoor.Rt
open Lx (Tok Sq small capital digit goes run two ones word skipN adv hexv esc quoF quo numv)
open Sy (sh Sh)
set_option linter.unusedVariables false
set_option linter.unusedSimpArgs false
/-- words without places -/
def tM (s:List Nat):Tok:=⟨5,s,0,0,[],0,0⟩
def tN (s:List Nat):Tok:=⟨1,s,0,0,[],0,0⟩
def tD (s:List Nat) (u:Nat):Tok:=⟨3,s,1,u,[],0,0⟩
def tQ (l:List Nat):Tok:=⟨4,Va.quoted l,2,0,l,0,0⟩
def any (_:Nat):Bool:=true
def brk (c:Nat):Bool:=!goes c
/-- digits -/
def dig (u:Nat):List Nat:=(Lib.decDigits u).map UInt8.toNat
open Lx (Tok Sq)
open Sy (sh Sh Env exprF chainF constant sign plain level txt)
open Pr (Ex pE pO binds strength)
open Cod (str)
/-- a value's words -/
def tx (x:Va.Val):List Tok :=
 if x.k=1 then (if x.n<0 then [tM [45],tD (dig x.n.natAbs) x.n.natAbs] else [tD (dig x.n.toNat) x.n.toNat])
 else if Va.name x.s=true then [tN x.s] else [tQ x.s]
/-- every value is of bytes -/
inductive ExO:Ex->Prop
 | mk {k:Int} {v:ByteArray} {x:Va.Val} {op:Int} {args:List Ex} (hx:∀ c∈x.s,c<256) (h:∀ a∈args,ExO a):ExO (.mk k v x op args)
theorem pO_one (j:Nat) (k:Int) (v:ByteArray) (x:Va.Val) (op:Int) (a:Ex):pO (j+1) (.mk k v x op [a]) =
  if op=6 then (if binds a<3\/(a.k=2/\a.x.k=1/\0<a.x.n) then (pE j a).map (fun t=>40 :: (t++[41])) else pE (j+1) a).map (fun t=>45 :: ((if a.k=2/\a.x.k=1/\a.x.n=0 then [45] else [])++t)) else none:=rfl
theorem pO_two (j:Nat) (k:Int) (v:ByteArray) (x:Va.Val) (op:Int) (a b:Ex):pO (j+1) (.mk k v x op [a,b]) =
  if op=6 then none else
   match (if binds a<strength op then (pE j a).map (fun t=>40 :: (t++[41])) else pE (j+1) a),(if binds b<=strength op then (pE j b).map (fun t=>40 :: (t++[41])) else pE (j+1) b) with
   | some l,some r=>some (l++(32 :: (Pr.sign op++(32 :: r))))
   | _,_=>none:=rfl
theorem pO_nil (j:Nat) (k:Int) (v:ByteArray) (x:Va.Val) (op:Int):pO (j+1) (.mk k v x op [])=none:=rfl
theorem pO_more (j:Nat) (k:Int) (v:ByteArray) (x:Va.Val) (op:Int) (a b c:Ex) (r:List Ex):pO (j+1) (.mk k v x op (a :: b :: c :: r))=none:=rfl
open Sy (sh Sh Env PR sign plain level txt must bodyF bodyOf litF aggOf expr fnOf cmpOf bareL ex0 at0)
open Pr (Ex Li Atom Term Rul Rel Prog seqO commas pL pE)
/-- every value is of bytes -/
inductive LiO:Li->Prop
 | mk {k:Int} {a:Atom} {op:Int} {l r:Ex} {fn:Int} {av:ByteArray} {of:Ex} {body:List Li} {ln cl:Int} (ha:∀ t∈a.terms,∀ c∈t.x.s,c<256) (hl:ExO l) (hr:ExO r) (ho:ExO of) (hb:∀ x∈body,LiO x):LiO (.mk k a op l r fn av of body ln cl)
def RB (x y:Li):Prop:=bareL x=bareL y
open Sy (sh Sh Env PR sign plain level txt must bodyOf litF aggOf expr fnOf bareL bareU bareR bareP ex0 at0 progF)
open Pr (Ex Li Atom Term Rul Rel Prog seqO commas pL pE pA pR pD pP pB lines)
/-- behind a rule: no operator, no comma, no arrow -/
def Fin (t:Tok):Prop:=(level t).1=0/\sign t [44]=false/\sign t [58,45]=false
end Go.Proofs.YtohnmnfhmbmoaaaDoor.Rt
namespace Go.Proofs.YtohnmnfhmbmoaaaDoor.Lx
set_option linter.unusedVariables false
set_option linter.unusedSimpArgs false
end Go.Proofs.YtohnmnfhmbmoaaaDoor.Lx
namespace Go.Proofs.YtohnmnfhmbmoaaaDoor.Rt
open Lx (Tok Sq)
open Sy (sh Sh Env PR sign plain level txt must bodyF bodyOf litF aggOf expr exprF chainF constant operand fnOf cmpOf tyOf bareL ex0 at0 progF)
open Pr (Ex Li Atom Term Rul Rel Prog seqO commas pL pE pO pT pA pR pD pP pB binds strength)
open Cod (str)
set_option linter.unusedVariables false
set_option linter.unusedSimpArgs false
theorem pE_mono:∀ (k:Nat) (e:Ex) (s:List Nat),pE k e=some s->∀ m,k<=m->pE m e=some s:=by
 intro k
 induction k using Nat.strongRecOn with
 | ind k ih =>
 intro e s h m hm
 cases k with
 | zero=>unfold pE at h;cases h
 | succ k =>
 obtain ⟨m,rfl⟩:∃ q,m=q+1:=⟨m - 1,by omega⟩
 by_cases h1:e.k=1
 ·rw [Pr.pE_var _ _ h1] at h ⊢;exact h
 by_cases h2:e.k=2
 ·rw [Pr.pE_val _ _ h2] at h ⊢;exact h
 by_cases h4:e.k=4
 ·rw [Pr.pE_op _ _ h4] at h ⊢
  by_cases hc:e.v.size=0/\e.x=Va.zero/\0<strength e.op
  ·rw [if_pos hc] at h ⊢
   cases k with
   | zero=>unfold pO at h;cases h
   | succ j =>
    obtain ⟨q,rfl⟩:∃ q,m=q+1:=⟨m - 1,by omega⟩
    have br:∀ (c:Prop) [Decidable c] (a:Ex) (f:List Nat->List Nat) (s:List Nat),(if c then (pE j a).map f else pE (j+1) a)=some s->(if c then (pE q a).map f else pE (q+1) a)=some s:=by
     intro c _ a f s hx
     split at hx
     ·rename_i hc
      rw [if_pos hc]
      obtain ⟨t,ht,rfl⟩:=Option.map_eq_some_iff.1 hx
      rw [ih j (by omega) a t ht q (by omega)]
      rfl
     ·rename_i hc
      rw [if_neg hc]
      exact ih (j+1) (by omega) a s hx (q+1) (by omega)
    clear hc h1 h2 h4
    obtain ⟨ek,ev,ex,op,args⟩:=e
    rcases args with _ | ⟨a,_ | ⟨b,_ | ⟨c,r⟩⟩⟩
    ·rw [pO_nil] at h;cases h
    ·rw [pO_one] at h ⊢
     by_cases h6:op=6
     ·rw [if_pos h6] at h ⊢
      obtain ⟨t,ht,rfl⟩:=Option.map_eq_some_iff.1 h
      rw [br _ _ _ _ ht]
      rfl
     ·rw [if_neg h6] at h;cases h
    ·rw [pO_two] at h ⊢
     by_cases h6:op=6
     ·rw [if_pos h6] at h;cases h
     ·rw [if_neg h6] at h ⊢
      generalize hX:(if binds a<strength op then (pE j a).map (fun t=>40 :: (t++[41])) else pE (j+1) a)=X at h
      generalize hY:(if binds b<=strength op then (pE j b).map (fun t=>40 :: (t++[41])) else pE (j+1) b)=Y at h
      cases X with
      | none=>cases h
      | some x =>
       cases Y with
       | none=>cases h
       | some y =>
        rw [br _ _ _ _ hX,br _ _ _ _ hY]
        exact h
    ·rw [pO_more] at h;cases h
  ·rw [if_neg hc] at h;cases h
 ·rw [Pr.pE_other _ _ h1 h2 h4] at h;cases h
/-- it can be written, with that depth -/
def Can (k:Nat) (e:Ex):Prop:=∃ s,pE k e=some s
theorem Can.mono {k m:Nat} {e:Ex} (h:Can k e) (hm:k<=m):Can m e:=h.imp (fun s hs=>pE_mono k e s hs m hm)
structure J (line:Nat) (e:Ex) (d:Nat):Prop where
 can:Can (d+1) e
 brk:binds e<line->Can d e
open Sy (sh Sh Env PR sign plain level txt must bodyF bodyOf litF aggOf expr exprF chainF constant fnOf cmpOf tyOf bareL bareU bareR bareP ex0 at0 progF)
open Pr (Ex Li Atom Term Rul Rel Prog seqO commas pL pE pT pA pR pD pP pB)
/-- a value of bytes, a number of 64 bits -/
structure VO (x:Va.Val):Prop where
 byte:∀ c∈x.s,c<256
 lo:-9223372036854775808<=x.n
 hi:x.n<=9223372036854775807
inductive ExV:Ex->Prop
 | mk {k:Int} {v:ByteArray} {x:Va.Val} {op:Int} {args:List Ex} (hx:VO x) (h:∀ a∈args,ExV a):ExV (.mk k v x op args)
inductive LiV:Li->Prop
 | mk {k:Int} {a:Atom} {op:Int} {l r:Ex} {fn:Int} {av:ByteArray} {of:Ex} {body:List Li} {ln cl:Int} (ha:∀ t∈a.terms,VO t.x) (hl:ExV l) (hr:ExV r) (ho:ExV of) (hb:∀ x∈body,LiV x):LiV (.mk k a op l r fn av of body ln cl)
def RuV (r:Rul):Prop:=(∀ t∈r.head.terms,VO t.x)/\∀ x∈r.body,LiV x
theorem ExV.o {e:Ex} (h:ExV e):ExO e:=by
 induction h with
 | mk hx h ih=>exact .mk hx.byte ih
theorem LiV.o {e:Li} (h:LiV e):LiO e:=by
 induction h with
 | mk ha hl hr ho hb ih=>exact .mk (fun t ht=>(ha t ht).byte) hl.o hr.o ho.o ih
end Go.Proofs.YtohnmnfhmbmoaaaDoor.Rt
namespace Go.Proofs.YtohnmnfhmbmoaaaDoor
open Go.RowKit
set_option linter.unusedVariables false
set_option linter.unusedSimpArgs false
theorem Rt.VO.ok {x:Va.Val} (h:Rt.VO x):x.Ok:=⟨h.byte,h.lo,h.hi⟩
theorem ExAt.cells {w:World} {b o:Nat} {e:Pr.Ex} {u:Value} (h:CellsAt w b o (exV e u)):ExAt w b o e u :=
 ⟨h 0 _ rfl,h 1 _ rfl,h 2 _ rfl,h 3 _ rfl,h 4 _ rfl,h 5 _ rfl,h 6 _ rfl⟩
theorem TmAt.cells {w:World} {b o:Nat} {t:Pr.Term} (h:CellsAt w b o (tmV t)):TmAt w b o t :=
 ⟨h 0 _ rfl,h 1 _ rfl,h 2 _ rfl,h 3 _ rfl,h 4 _ rfl⟩
theorem EB.eok {F:Nat->Prop} {w:World} {e:Pr.Ex} {u:Value} (h:EB F w e u) (hv:Rt.ExV e):EOk w e u:=by
 induction h with
 | nil=>cases hv with | mk hx ha=>exact .nil hx.ok
 | row hF hb h1 h2 ih =>
  cases hv with
  | mk hx ha=>exact .row hx.ok (fun i h=>ExAt.cells (h1 i h)) (fun i h=>ih i h (ha _ (List.getElem_mem h)))
theorem RowB.tok {F:Nat->Prop} {w:World} {ts:List Pr.Term} {u:Value} (h:RowB F w 5 tmV ts u) (hv:∀ t∈ts,Rt.VO t.x):TOk w ts u:=by
 cases h with
 | nil=>exact .nil
 | row hF hb h1 hc=>exact .row (fun i h=>TmAt.cells (h1 i h)) (fun i h=>(hv _ (List.getElem_mem h)).ok)
theorem LB.lok {F:Nat->Prop} {w:World} {e:Pr.Li} {U:LU} (h:LB F w e U) (hv:Rt.LiV e):LOk w e U:=by
 induction h with
 | @mk k a op l r fn av of body ln cl U ub cb us ht hl hr ho hb h1 h2 hc ih =>
  cases hv with
  | mk va vl vr vo vb =>
   rcases body with _ | ⟨x,rest⟩
   ·exact .nil (ht.tok va) (hl.eok vl) (hr.eok vr) (ho.eok vo) hb
   ·obtain ⟨g,off,rfl,-,-,-⟩:=h1 0 (by simp)
    refine .row (ht.tok va) (hl.eok vl) (hr.eok vr) (ho.eok vo) hb (fun i h=>?_) (fun i h=>ih i h (vb _ (List.getElem_mem h)))
    obtain ⟨g',off',e,-,-,hc⟩:=h1 i h
    cases e
    exact hc
theorem BB.bok {F:Nat->Prop} {w:World} {body:List Pr.Li} {u:Value} (h:BB F w body u) (hv:∀ x∈body,Rt.LiV x):BOk w body u:=by
 obtain ⟨ub,cb,us,rfl,h1,h2,-⟩:=h
 rcases body with _ | ⟨x,rest⟩
 ·exact .inl ⟨rfl,_,_,rfl⟩
 ·obtain ⟨g,off,rfl,-,-,-⟩:=h1 0 (by simp)
  refine .inr ⟨g,off,cb,us,rfl,fun i h=>?_,fun i h=>(h2 i h).lok (hv _ (List.getElem_mem h))⟩
  obtain ⟨g',off',e,-,-,hc⟩:=h1 i h
  cases e
  exact hc
set_option maxRecDepth 100000
mutual
def exD:Pr.Ex->Nat
 | .mk _ _ _ _ args=>exDs args+1
def exDs:List Pr.Ex->Nat
 | []=>0
 | e :: r=>max (exD e) (exDs r)
end
theorem exDs_mem:∀ (l:List Pr.Ex) (i:Nat) (h:i<l.length),exD l[i]<=exDs l
 | e :: r,0,h=>by simp only [List.getElem_cons_zero,exDs];omega
 | e :: r,i+1,h=>by
  simp only [List.getElem_cons_succ,exDs]
  have:=exDs_mem r i (by simpa using h)
  omega
mutual
/-- no list of arguments is longer -/
def exM:Pr.Ex->Nat
 | .mk _ _ _ _ args=>max args.length (exMs args)
def exMs:List Pr.Ex->Nat
 | []=>0
 | e :: r=>max (exM e) (exMs r)
end
theorem exMs_mem:∀ (l:List Pr.Ex) (i:Nat) (h:i<l.length),exM l[i]<=exMs l
 | e :: r,0,h=>by simp only [List.getElem_cons_zero,exMs];omega
 | e :: r,i+1,h=>by
  simp only [List.getElem_cons_succ,exMs]
  have:=exMs_mem r i (by simpa using h)
  omega
/-- what is told: the same, nothing turned -/
def Tru (w:World) (e:Ending) (w':World):Prop:=e=.returned (.bool true)/\Mod [] w w'
set_option maxHeartbeats 4000000 in
theorem sameAtom_any {F G:Nat->Prop} (a:Pr.Atom) (hl:a.terms.length<=140737488355328) (u u':Value) (w:World) (h:RowB F w 5 tmV a.terms u) (h':RowB G w 5 tmV a.terms u') :
  Calls Tryd.prog 12 #[.agg #[.string a.rel,u],.agg #[.string a.rel,u']] w (Tru w):=by
 obtain ⟨rel,ts⟩:=a
 dsimp only at *
 obtain ⟨a1,c1,rfl⟩:=h.lit
 obtain ⟨a2,c2,rfl⟩:=h'.lit
 have H1:=Lib.hid h;have H2:=Lib.hid h'
 clear h h'
 have mA:=((Mod.refl [] w).alloc (Obj.cells #[.string rel,.slice a1 ts.length c1] 24)).alloc (Obj.cells #[.string rel,.slice a2 ts.length c2] 24)
 have eA:=heap_alloc_new w (Obj.cells #[.string rel,.slice a1 ts.length c1] 24)
 have fA:=((Mod.refl [] (w.alloc (Obj.cells #[.string rel,.slice a1 ts.length c1] 24))).alloc (Obj.cells #[.string rel,.slice a2 ts.length c2] 24)).at eA (by simp)
 have eB:=heap_alloc_new (w.alloc (Obj.cells #[.string rel,.slice a1 ts.length c1] 24)) (Obj.cells #[.string rel,.slice a2 ts.length c2] 24)
 have hs1:(w.alloc (Obj.cells #[.string rel,.slice a1 ts.length c1] 24)).heap.size=w.heap.size+1:=by simp
 rw [hs1] at eB
 clear eA hs1
 go_enter Tryd.func12,Tryd.ntmps12
 go_upto_region 1 with fail
 generalize (w.alloc (Obj.cells _ 24)).alloc (Obj.cells _ 24)=w0 at *
 have M0:=Lib.hid mA;have E0:=Lib.hid fA;have E1:=Lib.hid eB
 clear mA fA eB
 have x0:=cell_at E0.out 0;have x1:=cell_at E0.out 1;have y0:=cell_at E1.out 0;have y1:=cell_at E1.out 1
 simp only [List.getElem?_toArray,List.getElem?_cons_zero,List.getElem?_cons_succ] at x0 x1 y0 y1
 go_wp2_with fail
 clear x0 x1 y0 y1
 go_loopw [5] (fun iv wr=>∃ k:Nat,k<=ts.length/\iv=.int .i64 (k:Nat)/\Mod [] w0 wr) (fun iv _=>ts.length - (intOf iv).toNat)
 case atStart=>exact ⟨0,Nat.zero_le _,rfl,Mod.refl _ _⟩
 case round =>
  obtain ⟨k,hk,rfl,hm⟩:=hrel
  have x1:=cell_at (hm.at E0.out (by simp)) 1;have y1:=cell_at (hm.at E1.out (by simp)) 1
  simp only [List.getElem?_toArray,List.getElem?_cons_zero,List.getElem?_cons_succ] at x1 y1
  have MR:=Hxq (M0.out.trans hm (by simp));have HM:=Lib.hid hm
  clear hm
  by_cases hlt:k<ts.length
  ·have hkI:(k:Int)<(ts.length:Int):=by omega
   have hk0:(0:Int)<=(k:Int):=by omega
   obtain ⟨b1,o1,rfl,hc1⟩:=(H1.out.keep MR.out (by simp)).at k hlt
   obtain ⟨b2,o2,rfl,hc2⟩:=(H2.out.keep MR.out (by simp)).at k hlt
   generalize ts[k]=t at *
   obtain ⟨tk,tv,⟨xk,xn,xs⟩⟩:=t
   have p0:=hc1 0 (.int .i64 tk) rfl;have p1:=hc1 1 (.string tv) rfl;have p2:=hc1 2 (.int .i64 xk) rfl;have p3:=hc1 3 (.int .i64 xn) rfl;have p4:=hc1 4 (.string (Lx.ofS xs)) rfl
   have q0:=hc2 0 (.int .i64 tk) rfl;have q1:=hc2 1 (.string tv) rfl;have q2:=hc2 2 (.int .i64 xk) rfl;have q3:=hc2 3 (.int .i64 xn) rfl;have q4:=hc2 4 (.string (Lx.ofS xs)) rfl
   rw [Nat.add_zero] at p0 q0
   try dsimp only at p0 p1 p2 p3 p4 q0 q1 q2 q3 q4
   clear hc1 hc2
   go_wp2_with fail
   go_quiet (fail)
   go_wp2_with fail
   go_roundw
   case rel=>exact ⟨k+1,by omega,by go_num,by first | exact HM.out.drewN _ | exact HM.out.drew | exact HM.out⟩
   case measure=>simp [intOf];omega
  ·obtain rfl:k=ts.length:=by omega
   have hkI:¬ (ts.length:Int)<(ts.length:Int):=by omega
   go_wp2_with fail
   go_ret
   exact ⟨rfl,MR.out⟩
def SEx (k:Nat):Prop:=∀ (e:Pr.Ex),exD e<=k->exM e<=140737488355328->∀ (F G:Nat->Prop) (u u':Value) (w:World),EB F w e u->EB G w e u' ->
 Calls Tryd.prog 14 #[.agg (exV e u),.agg (exV e u')] w (Tru w)
set_option maxHeartbeats 8000000 in
theorem sex_of (d:Nat) (hS:SEx d):SEx (d+1):=by
 intro e he hM F G u u' w h h'
 obtain ⟨k,v,⟨xk,xn,xs⟩,op,args⟩:=e
 obtain ⟨a1,c1,rfl⟩:=h.lit
 obtain ⟨a2,c2,rfl⟩:=h'.lit
 have hd:exDs args<=d:=by simp only [exD] at he;omega
 have hM1:args.length<=140737488355328:=by simp only [exM] at hM;omega
 have hM2:exMs args<=140737488355328:=by simp only [exM] at hM;omega
 have HS:=Lib.hid hS;have H1:=Lib.hid h;have H2:=Lib.hid h'
 clear h h' hS he hM
 simp only [exV,Pr.Ex.k,Pr.Ex.v,Pr.Ex.x,Pr.Ex.op,Pr.Ex.args] at *
 have mA:=((Mod.refl [] w).alloc (Obj.cells #[.int .i64 k,.string v,.int .i64 xk,.int .i64 xn,.string (Lx.ofS xs),.int .i64 op,.slice a1 args.length c1] 34)).alloc (Obj.cells #[.int .i64 k,.string v,.int .i64 xk,.int .i64 xn,.string (Lx.ofS xs),.int .i64 op,.slice a2 args.length c2] 34)
 have eA:=heap_alloc_new w (Obj.cells #[.int .i64 k,.string v,.int .i64 xk,.int .i64 xn,.string (Lx.ofS xs),.int .i64 op,.slice a1 args.length c1] 34)
 have fA:=((Mod.refl [] (w.alloc (Obj.cells #[.int .i64 k,.string v,.int .i64 xk,.int .i64 xn,.string (Lx.ofS xs),.int .i64 op,.slice a1 args.length c1] 34))).alloc (Obj.cells #[.int .i64 k,.string v,.int .i64 xk,.int .i64 xn,.string (Lx.ofS xs),.int .i64 op,.slice a2 args.length c2] 34)).at eA (by simp)
 have eB:=heap_alloc_new (w.alloc (Obj.cells #[.int .i64 k,.string v,.int .i64 xk,.int .i64 xn,.string (Lx.ofS xs),.int .i64 op,.slice a1 args.length c1] 34)) (Obj.cells #[.int .i64 k,.string v,.int .i64 xk,.int .i64 xn,.string (Lx.ofS xs),.int .i64 op,.slice a2 args.length c2] 34)
 have hs1:(w.alloc (Obj.cells #[.int .i64 k,.string v,.int .i64 xk,.int .i64 xn,.string (Lx.ofS xs),.int .i64 op,.slice a1 args.length c1] 34)).heap.size=w.heap.size+1:=by simp
 rw [hs1] at eB
 clear eA hs1
 generalize hxB:Lx.ofS xs=xB at *
 go_enter Tryd.func14,Tryd.ntmps14
 go_upto_region 1 with fail
 generalize (w.alloc (Obj.cells _ 34)).alloc (Obj.cells _ 34)=w0 at *
 have M0:=Lib.hid mA;have E0:=Lib.hid fA;have E1:=Lib.hid eB
 clear mA fA eB
 have x0:=cell_at E0.out 0;have y0:=cell_at E1.out 0
 have x1:=cell_at E0.out 1;have y1:=cell_at E1.out 1
 have x2:=cell_at E0.out 2;have y2:=cell_at E1.out 2
 have x3:=cell_at E0.out 3;have y3:=cell_at E1.out 3
 have x4:=cell_at E0.out 4;have y4:=cell_at E1.out 4
 have x5:=cell_at E0.out 5;have y5:=cell_at E1.out 5
 have x6:=cell_at E0.out 6;have y6:=cell_at E1.out 6
 simp only [List.getElem?_toArray,List.getElem?_cons_zero,List.getElem?_cons_succ] at x0 x1 x2 x3 x4 x5 x6 y0 y1 y2 y3 y4 y5 y6
 go_wp2_with fail
 clear x0 x1 x2 x3 x4 x5 x6 y0 y1 y2 y3 y4 y5 y6
 go_loopw [5] (fun iv wr=>∃ j:Nat,j<=args.length/\iv=.int .i64 (j:Nat)/\Mod [] w0 wr) (fun iv _=>args.length - (intOf iv).toNat)
 case atStart=>exact ⟨0,Nat.zero_le _,rfl,Mod.refl _ _⟩
 case round =>
  obtain ⟨j,hj,rfl,hm⟩:=hrel
  have x6:=cell_at (hm.at E0.out (by simp)) 6;have y6:=cell_at (hm.at E1.out (by simp)) 6
  simp only [List.getElem?_toArray,List.getElem?_cons_zero,List.getElem?_cons_succ] at x6 y6
  have MR:=Hxq (M0.out.trans hm (by simp));have HM:=Lib.hid hm
  clear hm
  by_cases hlt:j<args.length
  ·have hjI:(j:Int)<(args.length:Int):=by omega
   have hj0:(0:Int)<=(j:Int):=by omega
   obtain ⟨b1,o1,u1,rfl,hc1,hE1⟩:=(H1.out.keep MR.out (by simp)).at j hlt
   obtain ⟨b2,o2,u2,rfl,hc2,hE2⟩:=(H2.out.keep MR.out (by simp)).at j hlt
   have hdj:=exDs_mem args j hlt
   have hmj:=exMs_mem args j hlt
   simp only [Pr.Ex.args] at hc1 hc2 hE1 hE2
   generalize args[j]=y at *
   obtain ⟨a3,c3,rfl⟩:=hE1.lit
   obtain ⟨a4,c4,rfl⟩:=hE2.lit
   have Z1:=Lib.hid x6;have Z2:=Lib.hid y6
   have r0:=hc1 0 (.int .i64 y.k) rfl;have t0:=hc2 0 (.int .i64 y.k) rfl
   have r1:=hc1 1 (.string y.v) rfl;have t1:=hc2 1 (.string y.v) rfl
   have r2:=hc1 2 (.int .i64 y.x.k) rfl;have t2:=hc2 2 (.int .i64 y.x.k) rfl
   have r3:=hc1 3 (.int .i64 y.x.n) rfl;have t3:=hc2 3 (.int .i64 y.x.n) rfl
   have r4:=hc1 4 (.string (Lx.ofS y.x.s)) rfl;have t4:=hc2 4 (.string (Lx.ofS y.x.s)) rfl
   have r5:=hc1 5 (.int .i64 y.op) rfl;have t5:=hc2 5 (.int .i64 y.op) rfl
   have r6:=hc1 6 (.slice a3 y.args.length c3) rfl;have t6:=hc2 6 (.slice a4 y.args.length c4) rfl
   rw [Nat.add_zero] at r0 t0
   have P0:=Lib.hid r0;have Q0:=Lib.hid t0
   have P1:=Lib.hid r1;have Q1:=Lib.hid t1
   have P2:=Lib.hid r2;have Q2:=Lib.hid t2
   have P3:=Lib.hid r3;have Q3:=Lib.hid t3
   have P4:=Lib.hid r4;have Q4:=Lib.hid t4
   have P5:=Lib.hid r5;have Q5:=Lib.hid t5
   have P6:=Lib.hid r6;have Q6:=Lib.hid t6
   clear r0 r1 r2 r3 r4 r5 r6 t0 t1 t2 t3 t4 t5 t6
   have HE1:=Hxq (hE1.keep ((Mod.refl [] wr).drew) (by simp));have HE2:=Hxq (hE2.keep ((Mod.refl [] wr).drew) (by simp))
   clear hc1 hc2 hE1 hE2
   go_wp2_with fail
   refine wp_region_held_drew (S:=(fun w':World=>Mod [] wr w')) (by kernel_rfl) (by (try dsimp only);exact (Mod.refl [] wr).drew) (fun hHeld=>?_)
   refine Tkq 0 (v:=?_) (by assumption) ?_ ?_ ?_
   rotate_left 1
   ·refine .inl ⟨by rfl,?_⟩;intro w hSw;have s1:=hSw.cell Z1.out (by simp);have s2:=hSw.cell Z2.out (by simp);have p0:=hSw.cell P0.out (by simp);have q0:=hSw.cell Q0.out (by simp);have p1:=hSw.cell P1.out (by simp);have q1:=hSw.cell Q1.out (by simp);have p2:=hSw.cell P2.out (by simp);have q2:=hSw.cell Q2.out (by simp);have p3:=hSw.cell P3.out (by simp);have q3:=hSw.cell Q3.out (by simp);have p4:=hSw.cell P4.out (by simp);have q4:=hSw.cell Q4.out (by simp);have p5:=hSw.cell P5.out (by simp);have q5:=hSw.cell Q5.out (by simp);have p6:=hSw.cell P6.out (by simp);have q6:=hSw.cell Q6.out (by simp);clear hSw;go_simp
    all_goals with_reducible rfl
   ·exact fun _ _ _ h=>h
   try simp only [Act.put,Lq1,Lq2,Lq3]
   refine Tkq 1 (v:=?_) (by assumption) ?_ ?_ ?_
   rotate_left 1
   ·refine .inl ⟨by rfl,?_⟩;intro w hSw;have s1:=hSw.cell Z1.out (by simp);have s2:=hSw.cell Z2.out (by simp);have p0:=hSw.cell P0.out (by simp);have q0:=hSw.cell Q0.out (by simp);have p1:=hSw.cell P1.out (by simp);have q1:=hSw.cell Q1.out (by simp);have p2:=hSw.cell P2.out (by simp);have q2:=hSw.cell Q2.out (by simp);have p3:=hSw.cell P3.out (by simp);have q3:=hSw.cell Q3.out (by simp);have p4:=hSw.cell P4.out (by simp);have q4:=hSw.cell Q4.out (by simp);have p5:=hSw.cell P5.out (by simp);have q5:=hSw.cell Q5.out (by simp);have p6:=hSw.cell P6.out (by simp);have q6:=hSw.cell Q6.out (by simp);clear hSw;go_simp
    all_goals with_reducible rfl
   ·exact fun _ _ _ h=>h
   try simp only [Act.put,Lq1,Lq2,Lq3]
   refine Tkq 2 (v:=?_) (by assumption) ?_ ?_ ?_
   rotate_left 1
   ·refine .inl ⟨by rfl,?_⟩;intro w hSw;have s1:=hSw.cell Z1.out (by simp);have s2:=hSw.cell Z2.out (by simp);have p0:=hSw.cell P0.out (by simp);have q0:=hSw.cell Q0.out (by simp);have p1:=hSw.cell P1.out (by simp);have q1:=hSw.cell Q1.out (by simp);have p2:=hSw.cell P2.out (by simp);have q2:=hSw.cell Q2.out (by simp);have p3:=hSw.cell P3.out (by simp);have q3:=hSw.cell Q3.out (by simp);have p4:=hSw.cell P4.out (by simp);have q4:=hSw.cell Q4.out (by simp);have p5:=hSw.cell P5.out (by simp);have q5:=hSw.cell Q5.out (by simp);have p6:=hSw.cell P6.out (by simp);have q6:=hSw.cell Q6.out (by simp);clear hSw;go_simp
    all_goals with_reducible rfl
   ·exact fun _ _ _ h=>h
   try simp only [Act.put,Lq1,Lq2,Lq3]
   refine Tkq 3 (v:=?_) (by assumption) ?_ ?_ ?_
   rotate_left 1
   ·refine .inl ⟨by rfl,?_⟩;intro w hSw;have s1:=hSw.cell Z1.out (by simp);have s2:=hSw.cell Z2.out (by simp);have p0:=hSw.cell P0.out (by simp);have q0:=hSw.cell Q0.out (by simp);have p1:=hSw.cell P1.out (by simp);have q1:=hSw.cell Q1.out (by simp);have p2:=hSw.cell P2.out (by simp);have q2:=hSw.cell Q2.out (by simp);have p3:=hSw.cell P3.out (by simp);have q3:=hSw.cell Q3.out (by simp);have p4:=hSw.cell P4.out (by simp);have q4:=hSw.cell Q4.out (by simp);have p5:=hSw.cell P5.out (by simp);have q5:=hSw.cell Q5.out (by simp);have p6:=hSw.cell P6.out (by simp);have q6:=hSw.cell Q6.out (by simp);clear hSw;go_simp
    all_goals with_reducible rfl
   ·exact fun _ _ _ h=>h
   try simp only [Act.put,Lq1,Lq2,Lq3]
   refine Tkq 4 (v:=?_) (by assumption) ?_ ?_ ?_
   rotate_left 1
   ·refine .inl ⟨by rfl,?_⟩;intro w hSw;have s1:=hSw.cell Z1.out (by simp);have s2:=hSw.cell Z2.out (by simp);have p0:=hSw.cell P0.out (by simp);have q0:=hSw.cell Q0.out (by simp);have p1:=hSw.cell P1.out (by simp);have q1:=hSw.cell Q1.out (by simp);have p2:=hSw.cell P2.out (by simp);have q2:=hSw.cell Q2.out (by simp);have p3:=hSw.cell P3.out (by simp);have q3:=hSw.cell Q3.out (by simp);have p4:=hSw.cell P4.out (by simp);have q4:=hSw.cell Q4.out (by simp);have p5:=hSw.cell P5.out (by simp);have q5:=hSw.cell Q5.out (by simp);have p6:=hSw.cell P6.out (by simp);have q6:=hSw.cell Q6.out (by simp);clear hSw;go_simp
    all_goals with_reducible rfl
   ·exact fun _ _ _ h=>h
   try simp only [Act.put,Lq1,Lq2,Lq3]
   refine Tkq 5 (v:=?_) (by assumption) ?_ ?_ ?_
   rotate_left 1
   ·refine .inl ⟨by rfl,?_⟩;intro w hSw;have s1:=hSw.cell Z1.out (by simp);have s2:=hSw.cell Z2.out (by simp);have p0:=hSw.cell P0.out (by simp);have q0:=hSw.cell Q0.out (by simp);have p1:=hSw.cell P1.out (by simp);have q1:=hSw.cell Q1.out (by simp);have p2:=hSw.cell P2.out (by simp);have q2:=hSw.cell Q2.out (by simp);have p3:=hSw.cell P3.out (by simp);have q3:=hSw.cell Q3.out (by simp);have p4:=hSw.cell P4.out (by simp);have q4:=hSw.cell Q4.out (by simp);have p5:=hSw.cell P5.out (by simp);have q5:=hSw.cell Q5.out (by simp);have p6:=hSw.cell P6.out (by simp);have q6:=hSw.cell Q6.out (by simp);clear hSw;go_simp
    all_goals with_reducible rfl
   ·exact fun _ _ _ h=>h
   try simp only [Act.put,Lq1,Lq2,Lq3]
   refine Tkq 6 (v:=?_) (by assumption) ?_ ?_ ?_
   rotate_left 1
   ·refine .inl ⟨by rfl,?_⟩;intro w hSw;have s1:=hSw.cell Z1.out (by simp);have s2:=hSw.cell Z2.out (by simp);have p0:=hSw.cell P0.out (by simp);have q0:=hSw.cell Q0.out (by simp);have p1:=hSw.cell P1.out (by simp);have q1:=hSw.cell Q1.out (by simp);have p2:=hSw.cell P2.out (by simp);have q2:=hSw.cell Q2.out (by simp);have p3:=hSw.cell P3.out (by simp);have q3:=hSw.cell Q3.out (by simp);have p4:=hSw.cell P4.out (by simp);have q4:=hSw.cell Q4.out (by simp);have p5:=hSw.cell P5.out (by simp);have q5:=hSw.cell Q5.out (by simp);have p6:=hSw.cell P6.out (by simp);have q6:=hSw.cell Q6.out (by simp);clear hSw;go_simp
    all_goals with_reducible rfl
   ·exact fun _ _ _ h=>h
   try simp only [Act.put,Lq1,Lq2,Lq3]
   refine Tkq 7 (v:=?_) (by assumption) ?_ ?_ ?_
   rotate_left 1
   ·refine .inl ⟨by rfl,?_⟩;intro w hSw;have s1:=hSw.cell Z1.out (by simp);have s2:=hSw.cell Z2.out (by simp);have p0:=hSw.cell P0.out (by simp);have q0:=hSw.cell Q0.out (by simp);have p1:=hSw.cell P1.out (by simp);have q1:=hSw.cell Q1.out (by simp);have p2:=hSw.cell P2.out (by simp);have q2:=hSw.cell Q2.out (by simp);have p3:=hSw.cell P3.out (by simp);have q3:=hSw.cell Q3.out (by simp);have p4:=hSw.cell P4.out (by simp);have q4:=hSw.cell Q4.out (by simp);have p5:=hSw.cell P5.out (by simp);have q5:=hSw.cell Q5.out (by simp);have p6:=hSw.cell P6.out (by simp);have q6:=hSw.cell Q6.out (by simp);clear hSw;go_simp
    all_goals with_reducible rfl
   ·exact fun _ _ _ h=>h
   try simp only [Act.put,Lq1,Lq2,Lq3]
   refine Tkq 8 (v:=?_) (by assumption) ?_ ?_ ?_
   rotate_left 1
   ·refine .inl ⟨by rfl,?_⟩;intro w hSw;have s1:=hSw.cell Z1.out (by simp);have s2:=hSw.cell Z2.out (by simp);have p0:=hSw.cell P0.out (by simp);have q0:=hSw.cell Q0.out (by simp);have p1:=hSw.cell P1.out (by simp);have q1:=hSw.cell Q1.out (by simp);have p2:=hSw.cell P2.out (by simp);have q2:=hSw.cell Q2.out (by simp);have p3:=hSw.cell P3.out (by simp);have q3:=hSw.cell Q3.out (by simp);have p4:=hSw.cell P4.out (by simp);have q4:=hSw.cell Q4.out (by simp);have p5:=hSw.cell P5.out (by simp);have q5:=hSw.cell Q5.out (by simp);have p6:=hSw.cell P6.out (by simp);have q6:=hSw.cell Q6.out (by simp);clear hSw;go_simp
    all_goals with_reducible rfl
   ·exact fun _ _ _ h=>h
   try simp only [Act.put,Lq1,Lq2,Lq3]
   refine Tkq 9 (v:=?_) (by assumption) ?_ ?_ ?_
   rotate_left 1
   ·refine .inl ⟨by rfl,?_⟩;intro w hSw;have s1:=hSw.cell Z1.out (by simp);have s2:=hSw.cell Z2.out (by simp);have p0:=hSw.cell P0.out (by simp);have q0:=hSw.cell Q0.out (by simp);have p1:=hSw.cell P1.out (by simp);have q1:=hSw.cell Q1.out (by simp);have p2:=hSw.cell P2.out (by simp);have q2:=hSw.cell Q2.out (by simp);have p3:=hSw.cell P3.out (by simp);have q3:=hSw.cell Q3.out (by simp);have p4:=hSw.cell P4.out (by simp);have q4:=hSw.cell Q4.out (by simp);have p5:=hSw.cell P5.out (by simp);have q5:=hSw.cell Q5.out (by simp);have p6:=hSw.cell P6.out (by simp);have q6:=hSw.cell Q6.out (by simp);clear hSw;go_simp
    all_goals with_reducible rfl
   ·exact fun _ _ _ h=>h
   try simp only [Act.put,Lq1,Lq2,Lq3]
   refine wpAnyH_ready (rs:=[10]) (by kernel_rfl) (by simp) ?_
   refine AllReadyH.cons (o:=?_) ?_ ?_ AllReadyH.nil
   rotate_left 1
   ·(simp only [Gq1,Gq2,Gq3])<;>rfl
   intro K hK
   go_simp
   refine (HS.out _ (by omega) (by omega) _ _ _ _ _ HE1.out HE2.out).mono ?_
   rintro e7 w7 ⟨rfl,m7⟩
   have M7:=Hxq (((Mod.refl [] wr).drew).trans m7 (by simp))
   clear m7
   refine hK.out _ _ (by (try dsimp only);exact M7.out) (fun hHeld=>?_)
   clear hK K
   try simp only [Act.put,Lq1,Lq2,Lq3]
   refine Tkq 11 (v:=?_) (by assumption) ?_ ?_ ?_
   rotate_left 1
   ·refine .inl ⟨by rfl,?_⟩;intro w hSw;clear hSw;go_simp
    all_goals with_reducible rfl
   ·exact fun _ _ _ h=>h
   try simp only [Act.put,Lq1,Lq2,Lq3]
   refine wpAnyH_done (by kernel_rfl) ?_ _
   go_wp2_with fail
   go_roundw
   case rel=>exact ⟨j+1,by omega,by go_num,HM.out.trans M7.out (by simp)⟩
   case measure=>simp [intOf];omega
  ·obtain rfl:j=args.length:=by omega
   have hjI:¬ (args.length:Int)<(args.length:Int):=by omega
   go_wp2_with fail
   go_ret
   exact ⟨rfl,MR.out⟩
theorem sex_all:∀ d,SEx d
 | 0=>fun e he _=>by cases e;simp [exD] at he
 | d+1=>sex_of d (sex_all d)
theorem sameExpr_any {F G:Nat->Prop} (e:Pr.Ex) (hM:exM e<=140737488355328) (u u':Value) (w:World) (h:EB F w e u) (h':EB G w e u') :
  Calls Tryd.prog 14 #[.agg (exV e u),.agg (exV e u')] w (Tru w):=sex_all _ e (Nat.le_refl _) hM F G u u' w h h'
end Go.Proofs.YtohnmnfhmbmoaaaDoor
