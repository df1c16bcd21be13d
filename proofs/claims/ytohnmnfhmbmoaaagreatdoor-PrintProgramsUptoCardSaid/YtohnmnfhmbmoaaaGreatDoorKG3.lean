/- THE TEXTS MERGED: SyMem SyAdv SyAtom SyMem2 SyBody SyRow. -/
import Derived.Test.YtohnmnfhmbmoaaaGreatDoorKG2
import Derived.Deep.RegionLaw
import Derived.Laws.Tables
import Derived.Deep.WholeRow
namespace Go.Proofs.YtohnmnfhmbmoaaaGreatDoor
open Go.RowKit
set_option linter.unusedVariables false
set_option linter.unusedSimpArgs false
set_option maxRecDepth 100000
def CellsAt (w:World) (b o:Nat) (xs:Array Value):Prop:=∀ (i:Nat) (x:Value),xs[i]?=some x->w.cell? ⟨b,o+i,none⟩=some x
theorem CellsAt.keep {S:List Nat} {w w':World} {b o:Nat} {xs:Array Value} (h:CellsAt w b o xs) (hm:Mod S w w') (hb:b∉S):CellsAt w' b o xs:=fun i x hx=>hm.cell (h i x hx) hb
theorem CellsAt.of {w:World} {b:Nat} {xs:Array Value} {T:TypeId} {fr:Nat × Nat} (h:w.heap[b]?=some (.cells xs T fr)):CellsAt w b 0 xs:=by
 intro i x hx
 simp only [World.cell?,h,Nat.zero_add]
 exact hx
theorem CellsAt.sub {w:World} {b o:Nat} {xs ys:Array Value} (h:CellsAt w b o xs) (k:Nat) (hk:∀ i x,ys[i]?=some x->xs[k+i]?=some x):CellsAt w b (o+k) ys:=fun i x hx=>by
 have:=h (k+i) x (hk i x hx)
 rwa [<-Nat.add_assoc] at this
def valV (x:Va.Val):Array Value:=#[.int .i64 x.k,.int .i64 x.n,.string (Lx.ofS x.s)]
def exV (e:Pr.Ex) (u:Value):Array Value:=#[.int .i64 e.k,.string e.v,.int .i64 e.x.k,.int .i64 e.x.n,.string (Lx.ofS e.x.s),.int .i64 e.op,u]
def tmV (t:Pr.Term):Array Value:=#[.int .i64 t.k,.string t.v,.int .i64 t.x.k,.int .i64 t.x.n,.string (Lx.ofS t.x.s)]
/-- an expression's arguments, in blocks of F -/
inductive EB (F:Nat->Prop) (w:World):Pr.Ex->Value->Prop
 | nil {k:Int} {v:ByteArray} {x:Va.Val} {op:Int} {a:Option Addr} {c:Nat}:EB F w (.mk k v x op []) (.slice a 0 c)
 | row {k:Int} {v:ByteArray} {x:Va.Val} {op:Int} {args:List Pr.Ex} {b off c:Nat} {us:Nat->Value} (hF:F b) (hb:b<w.heap.size)
   (h1:∀ i (h:i<args.length),CellsAt w b (off+i * 7) (exV args[i] (us i))) (h2:∀ i (h:i<args.length),EB F w args[i] (us i)) :
   EB F w (.mk k v x op args) (.slice (some ⟨b,off,none⟩) args.length c)
theorem EB.keep {F:Nat->Prop} {S:List Nat} {w w':World} {e:Pr.Ex} {u:Value} (h:EB F w e u) (hm:Mod S w w') (hS:∀ s∈S,¬ F s):EB F w' e u:=by
 induction h with
 | nil=>exact .nil
 | row hF hb h1 h2 ih=>exact .row hF (Nat.lt_of_lt_of_le hb hm.size) (fun i h=>(h1 i h).keep hm (fun hs=>hS _ hs hF)) ih
theorem EB.mono {F F':Nat->Prop} {w:World} {e:Pr.Ex} {u:Value} (h:EB F w e u) (hF:∀ k,F k->k<w.heap.size->F' k):EB F' w e u:=by
 induction h with
 | nil=>exact .nil
 | row hf hb h1 h2 ih=>exact .row (hF _ hf hb) hb h1 ih
theorem EB.lit {F:Nat->Prop} {w:World} {e:Pr.Ex} {u:Value} (h:EB F w e u):∃ a c,u=.slice a e.args.length c:=by
 cases h with
 | nil=>exact ⟨_,_,rfl⟩
 | row hF hb h1 h2=>exact ⟨_,_,rfl⟩
theorem EB.at {F:Nat->Prop} {w:World} {e:Pr.Ex} {a:Option Addr} {c:Nat} (h:EB F w e (.slice a e.args.length c)) (i:Nat) (hi:i<e.args.length) :
  ∃ b off u,a=some ⟨b,off,none⟩/\CellsAt w b (off+i * 7) (exV e.args[i] u)/\EB F w e.args[i] u:=by
 generalize hu:Value.slice a e.args.length c=u at h
 cases h with
 | nil=>simp [Pr.Ex.args] at hi
 | row hF hb h1 h2 =>
  simp only [Value.slice.injEq] at hu
  exact ⟨_,_,_,hu.1,h1 i hi,h2 i hi⟩
/-- one argument -/
theorem EB.one {F:Nat->Prop} {w:World} {k:Int} {v:ByteArray} {x:Va.Val} {op:Int} {a:Pr.Ex} {u:Value} {g:Nat} {T:TypeId} (hg:w.heap[g]?=some (.cells (exV a u) T (0,0))) (hF:F g) (ha:EB F w a u) (c:Nat) :
  EB F w (.mk k v x op [a]) (.slice (some ⟨g,0,none⟩) 1 c):=by
 refine .row (us:=fun _=>u) hF (lt_of_block hg) (fun i hi=>?_) (fun i hi=>?_)
 ·obtain rfl:i=0:=by simpa using hi
  exact CellsAt.of hg
 ·obtain rfl:i=0:=by simpa using hi
  exact ha
/-- two arguments -/
theorem EB.two {F:Nat->Prop} {w:World} {k:Int} {v:ByteArray} {x:Va.Val} {op:Int} {a b:Pr.Ex} {u u':Value} {g:Nat} {T:TypeId} (hg:w.heap[g]?=some (.cells (exV a u++exV b u') T (0,0))) (hF:F g) (ha:EB F w a u) (hb:EB F w b u') (c:Nat) :
  EB F w (.mk k v x op [a,b]) (.slice (some ⟨g,0,none⟩) 2 c):=by
 have hc:=CellsAt.of hg
 refine .row (us:=fun i=>if i=0 then u else u') hF (lt_of_block hg) (fun i hi=>?_) (fun i hi=>?_)
 ·have:i=0\/i=1:=by simp at hi;omega
  rcases this with rfl | rfl
  ·exact hc.sub 0 (fun i x hx=>by
    rw [Nat.zero_add]
    exact (Array.getElem?_append_left (by
     have:=(Array.getElem?_eq_some_iff.1 hx).1
     simpa using this)).trans hx)
  ·exact hc.sub 7 (fun i x hx=>by
    have h7:(exV a u).size=7:=rfl
    rw [Array.getElem?_append_right (by omega),h7,Nat.add_sub_cancel_left]
    exact hx)
 ·have:i=0\/i=1:=by simp at hi;omega
  rcases this with rfl | rfl
  ·exact ha
  ·exact hb
/-- a list of things of n cells, in blocks of F -/
inductive RowB {α:Type} (F:Nat->Prop) (w:World) (n:Nat) (cs:α->Array Value):List α->Value->Prop
 | nil {a:Option Addr} {c:Nat}:RowB F w n cs [] (.slice a 0 c)
 | row {l:List α} {b off c:Nat} (hF:F b) (hb:b<w.heap.size) (h1:∀ i (h:i<l.length),CellsAt w b (off+i * n) (cs l[i])) (hcap:l.length<=c:=by first | assumption | omega | simp):RowB F w n cs l (.slice (some ⟨b,off,none⟩) l.length c)
section
variable {α:Type} {F F':Nat->Prop} {S:List Nat} {w w':World} {n:Nat} {cs:α->Array Value} {l:List α} {u:Value}
theorem RowB.keep (h:RowB F w n cs l u) (hm:Mod S w w') (hS:∀ s∈S,¬ F s):RowB F w' n cs l u:=by
 cases h with
 | nil=>exact .nil
 | row hF hb h1=>exact .row hF (Nat.lt_of_lt_of_le hb hm.size) (fun i h=>(h1 i h).keep hm (fun hs=>hS _ hs hF))
theorem RowB.mono (h:RowB F w n cs l u) (hF:∀ k,F k->k<w.heap.size->F' k):RowB F' w n cs l u:=by
 cases h with
 | nil=>exact .nil
 | row hf hb h1=>exact .row (hF _ hf hb) hb h1
theorem RowB.lit (h:RowB F w n cs l u):∃ a c,u=.slice a l.length c:=by
 cases h with
 | nil=>exact ⟨_,_,rfl⟩
 | row hF hb h1=>exact ⟨_,_,rfl⟩
theorem RowB.at {a:Option Addr} {c:Nat} (h:RowB F w n cs l (.slice a l.length c)) (i:Nat) (hi:i<l.length):∃ b off,a=some ⟨b,off,none⟩/\CellsAt w b (off+i * n) (cs l[i]):=by
 generalize hu:Value.slice a l.length c=u at h
 cases h with
 | nil=>simp at hi
 | row hF hb h1 =>
  simp only [Value.slice.injEq] at hu
  exact ⟨_,_,hu.1,h1 i hi⟩
theorem RowB.cap {a:Option Addr} {c:Nat} (h:RowB F w n cs l (.slice a l.length c)):l.length<=c:=by
 generalize hu:Value.slice a l.length c=u at h
 cases h with
 | nil=>simp
 | row hF hb h1 hcap =>
  simp only [Value.slice.injEq] at hu
  omega
/-- cells of a list -/
def rowCells (cs:α->Array Value) (l:List α):List Value:=l.flatMap fun x=>(cs x).toList
theorem rowCells_len (hn:∀ x,(cs x).size=n) (l:List α):(rowCells cs l).length=l.length * n:=by
 induction l with
 | nil=>simp [rowCells]
 | cons t r ih =>
  simp only [rowCells,List.flatMap_cons,List.length_append,List.length_cons] at ih ⊢
  rw [ih,Array.length_toList,hn,Nat.add_mul];omega
theorem rowCells_snoc (l:List α) (x:α):rowCells cs (l++[x])=rowCells cs l++(cs x).toList:=by simp [rowCells]
theorem rowCells_get (hn:∀ x,(cs x).size=n):∀ (l:List α) (i:Nat) (hi:i<l.length) (j:Nat) (x:Value),(cs l[i])[j]?=some x->(rowCells cs l)[i * n+j]?=some x
 | t :: r,0,hi,j,x,h=>by
  have hj:j<(cs t).size:=(Array.getElem?_eq_some_iff.1 h).1
  rw [rowCells,List.flatMap_cons,Nat.zero_mul,Nat.zero_add,List.getElem?_append_left (by simpa using hj)]
  simpa using h
 | t :: r,i+1,hi,j,x,h=>by
  rw [rowCells,List.flatMap_cons,List.getElem?_append_right (by rw [Array.length_toList,hn,Nat.add_mul];omega)]
  have:=rowCells_get hn r i (by simpa using hi) j x (by simpa using h)
  rw [rowCells] at this
  rw [<-this]
  congr 1
  rw [Array.length_toList,hn,Nat.add_mul];omega
/-- a row that the call owns is such a list -/
theorem RowB.of_owns {T:TypeId} {base:Nat} (hn:∀ x,(cs x).size=n) (h:w.ownsRow base T n u l.length (rowCells cs l)) (hF:∀ k∈fp u,F k):RowB F w n cs l u:=by
 rcases h.2 with ⟨rfl,h0⟩ | ⟨g,cap,cur,rfl,hb,hg,hc,hm,hs,ht⟩
 ·have hl:l=[]:=List.eq_nil_of_length_eq_zero h0
  subst hl
  exact .nil
 ·refine .row (hF g (by simp [fp])) (lt_of_block hg) (fun i hi j x hx=>?_)
  have hk:=rowCells_get hn l i hi j x hx
  have hlt:i * n+j<(rowCells cs l).length:=(List.getElem?_eq_some_iff.1 hk).1
  rw [Nat.zero_add]
  simp only [World.cell?,hg]
  rw [<-ht,List.getElem?_take] at hk
  rw [rowCells_len hn] at hlt
  rw [if_pos (by first | exact hlt | (rw [ht] at *;simpa using hlt))] at hk
  simpa using hk
end
end Go.Proofs.YtohnmnfhmbmoaaaGreatDoor
namespace Go.Proofs.YtohnmnfhmbmoaaaGreatDoor.Sy
open Lx (Tok)
open Pr (Term Atom Ex Li Rul Rel Prog)
set_option linter.unusedVariables false
set_option linter.unusedSimpArgs false
theorem bind_ok {α β:Type} {p:PR α} {f:α->Nat->PR β} {b:β} {k:Nat} (h:p.bind f=.ok b k):∃ a j,p=.ok a j/\f a j=.ok b k:=by
 cases p with
 | ok a j=>exact ⟨a,j,rfl,h⟩
 | err e=>cases h
end Go.Proofs.YtohnmnfhmbmoaaaGreatDoor.Sy
namespace Go.Proofs.YtohnmnfhmbmoaaaGreatDoor
open Go.RowKit
set_option linter.unusedVariables false
set_option linter.unusedSimpArgs false
set_option maxRecDepth 100000
section
variable {P:Program} (w:World)
theorem step_append_src {ops:Array Oper} {o:Oper} {a:Act} {K:Act->World->Prop} {Q:Exit->Act->World->Prop} {E:Prop} (hgd:o.guard=none) (s x:Operand) (t tx:TypeId)
  (ho:o.op=.call { callee:=.builtin .append,args:=#[s,x],argTypes:=#[t,tx] })
  (e:TypeId) (i:TypeInfo) (z:Value) (size bytes:Nat) (ht:P.underlying t=some (.slice e)) (hi:P.info? e=some i) (hz:i.zero=some z)
  (hsize:i.size=size) (hby:i.bytes=bytes) (hzs:z.cells.size=size)
  (v:Value) (n:Nat) (xs:List Value) (hs:a.eval s=v) (hown:w.ownsRow 0 e size v n xs)
  (vx:Value) (m:Nat) (news:List Value) (hx:a.eval x=vx) (hsrc:Src P size tx vx m news w)
  (h63:n+m<=maxLen) (hbytes:(n+m) * bytes<=140737488355328)
  (h:∀ v' w',w'.ownsRow 0 e size v' (n+m) (xs++news)->Mod (fp v) w w'->(∀ k∈fp v',k∈fp v\/w.heap.size<=k)->K (a.put o.dst v') w') :
  if Region.wanted o (yielded ops a.tmps)=true then Oper.wp P o a w K Q else E:=by
 have hw:Region.wanted o (yielded ops a.tmps)=true:=by simp [Region.wanted,hgd]
 rw [if_pos hw]
 obtain ⟨v',w',hr,h2,h3,h4,h5⟩:=run_append_own_src (P:=P) w t tx o.type e i z size bytes ht hi hz hsize hby hzs v n xs hown vx m news hsrc h63 hbytes
 unfold Oper.wp execOp
 simp only [ho,resolve,invoke,builtin,Sem.run_bind,Sem.run_pure,Result.andThen_ok,List.map_toArray,List.map_cons,List.map_nil,hs,hx,hr]
 exact h v' w' h2 h3 h4
end
/-- one thing, as what is appended -/
theorem src_one {w:World} {g n:Nat} {cs:Array Value} {T TS e:TypeId} {fr:Nat × Nat} (hu:Tryz.prog.underlying TS=some (.slice e)) (h:w.heap[g]?=some (.cells cs T fr)) (hn:cs.size=n) (h1:∀ u∈cs.toList,u.oneCell'=true) :
  Src Tryz.prog n TS (.slice (some ⟨g,0,none⟩) 1 1) 1 cs.toList w:=by
 refine Src.ofSlice w hu ⟨g,0,none⟩ 1 1 _ (by simp [hn]) (fun j u hu=>?_) h1
 rw [addr_add,Nat.zero_add]
 simp [World.cell?,h]
 rw [<-Array.getElem?_toList];exact hu
section
variable {α:Type} {T:TypeId} {n:Nat} {cs:α->Array Value} {T0 rT:TypeId} {x:Value} {ys:List Value} {w0:World} {b ab rb:Nat} {acc:List α} {W W' W'':World} {va:Option Addr} {vc:Nat}
end
theorem tmV_size (t:Pr.Term):(tmV t).size=5:=rfl
theorem tmV_one (t:Pr.Term):∀ u∈(tmV t).toList,u.oneCell'=true:=by
 intro u hu
 simp [tmV] at hu
 rcases hu with rfl | rfl | rfl | rfl | rfl <;> rfl
theorem Tryz.infoTerm:(Tryz.prog.info? 88).map (fun i=>(i.zero,i.size,i.bytes))=some (some (.agg #[Value.int IntKind.i64 0,Value.string ⟨#[]⟩,Value.int IntKind.i64 0,Value.int IntKind.i64 0,Value.string ⟨#[]⟩]),5,56):=by kernel_rfl
open Go.RowKit
set_option linter.unusedVariables false
set_option linter.unusedSimpArgs false
set_option maxRecDepth 100000
/-- a literal's slices -/
structure LU where
 t:Value
 l:Value
 r:Value
 o:Value
 b:Value
def liV:Pr.Li->LU->Array Value
 | .mk k a op l r fn av of body ln cl,U=>#[.int .i64 k,.string a.rel,U.t,.int .i64 op,.int .i64 l.k,.string l.v,.int .i64 l.x.k,.int .i64 l.x.n,.string (Lx.ofS l.x.s),.int .i64 l.op,U.l,.int .i64 r.k,.string r.v,.int .i64 r.x.k,.int .i64 r.x.n,.string (Lx.ofS r.x.s),.int .i64 r.op,U.r,.int .i64 fn,.string av,.int .i64 of.k,.string of.v,.int .i64 of.x.k,.int .i64 of.x.n,.string (Lx.ofS of.x.s),.int .i64 of.op,U.o,U.b,.int .i64 ln,.int .i64 cl]
inductive LB (F:Nat->Prop) (w:World):Pr.Li->LU->Prop
 | mk {k:Int} {a:Pr.Atom} {op:Int} {l r:Pr.Ex} {fn:Int} {av:ByteArray} {of:Pr.Ex} {body:List Pr.Li} {ln cl:Int} {U:LU} {ub:Option Addr} {cb:Nat} {us:Nat->LU}
   (ht:RowB F w 5 tmV a.terms U.t) (hl:EB F w l U.l) (hr:EB F w r U.r) (ho:EB F w of U.o) (hb:U.b=.slice ub body.length cb)
   (h1:∀ i (h:i<body.length),∃ g off,ub=some ⟨g,off,none⟩/\F g/\g<w.heap.size/\CellsAt w g (off+i * 30) (liV body[i] (us i)))
   (h2:∀ i (h:i<body.length),LB F w body[i] (us i)) (hcap:body.length<=cb:=by first | assumption | omega | simp):LB F w (.mk k a op l r fn av of body ln cl) U
/-- a body -/
def BB (F:Nat->Prop) (w:World) (body:List Pr.Li) (u:Value):Prop:=∃ (ub:Option Addr) (cb:Nat) (us:Nat->LU),u=.slice ub body.length cb /\
 (∀ i (h:i<body.length),∃ g off,ub=some ⟨g,off,none⟩/\F g/\g<w.heap.size/\CellsAt w g (off+i * 30) (liV body[i] (us i)))/\(∀ i (h:i<body.length),LB F w body[i] (us i))/\body.length<=cb
theorem LB.parts {F:Nat->Prop} {w:World} {k:Int} {a:Pr.Atom} {op:Int} {l r:Pr.Ex} {fn:Int} {av:ByteArray} {of:Pr.Ex} {body:List Pr.Li} {ln cl:Int} {U:LU} (h:LB F w (.mk k a op l r fn av of body ln cl) U) :
  RowB F w 5 tmV a.terms U.t/\EB F w l U.l/\EB F w r U.r/\EB F w of U.o/\BB F w body U.b:=by
 cases h with
 | mk ht hl hr ho hb h1 h2 hcap=>exact ⟨ht,hl,hr,ho,_,_,_,hb,h1,h2,hcap⟩
theorem LB.of {F:Nat->Prop} {w:World} {k:Int} {a:Pr.Atom} {op:Int} {l r:Pr.Ex} {fn:Int} {av:ByteArray} {of:Pr.Ex} {body:List Pr.Li} {ln cl:Int} {U:LU} (ht:RowB F w 5 tmV a.terms U.t) (hl:EB F w l U.l) (hr:EB F w r U.r) (ho:EB F w of U.o) (hb:BB F w body U.b) :
  LB F w (.mk k a op l r fn av of body ln cl) U:=by
 obtain ⟨ub,cb,us,hu,h1,h2,hcap⟩:=hb
 exact .mk ht hl hr ho hu h1 h2 hcap
theorem LB.keep {F:Nat->Prop} {S:List Nat} {w w':World} {e:Pr.Li} {U:LU} (h:LB F w e U) (hm:Mod S w w') (hS:∀ s∈S,¬ F s):LB F w' e U:=by
 induction h with
 | mk ht hl hr ho hb h1 h2 hcap ih =>
  refine .mk (ht.keep hm hS) (hl.keep hm hS) (hr.keep hm hS) (ho.keep hm hS) hb (fun i h=>?_) ih hcap
  obtain ⟨g,off,hu,hF,hg,hc⟩:=h1 i h
  exact ⟨g,off,hu,hF,Nat.lt_of_lt_of_le hg hm.size,hc.keep hm (fun hs=>hS _ hs hF)⟩
theorem LB.mono {F F':Nat->Prop} {w:World} {e:Pr.Li} {U:LU} (h:LB F w e U) (hF:∀ k,F k->k<w.heap.size->F' k):LB F' w e U:=by
 induction h with
 | mk ht hl hr ho hb h1 h2 hcap ih =>
  refine .mk (ht.mono hF) (hl.mono hF) (hr.mono hF) (ho.mono hF) hb (fun i h=>?_) ih hcap
  obtain ⟨g,off,hu,hf,hg,hc⟩:=h1 i h
  exact ⟨g,off,hu,hF _ hf hg,hg,hc⟩
theorem BB.keep {F:Nat->Prop} {S:List Nat} {w w':World} {l:List Pr.Li} {u:Value} (h:BB F w l u) (hm:Mod S w w') (hS:∀ s∈S,¬ F s):BB F w' l u:=by
 obtain ⟨ub,cb,us,hu,h1,h2,hcap⟩:=h
 refine ⟨ub,cb,us,hu,fun i h=>?_,fun i h=>(h2 i h).keep hm hS,hcap⟩
 obtain ⟨g,off,hu,hF,hg,hc⟩:=h1 i h
 exact ⟨g,off,hu,hF,Nat.lt_of_lt_of_le hg hm.size,hc.keep hm (fun hs=>hS _ hs hF)⟩
theorem BB.mono {F F':Nat->Prop} {w:World} {l:List Pr.Li} {u:Value} (h:BB F w l u) (hF:∀ k,F k->k<w.heap.size->F' k):BB F' w l u:=by
 obtain ⟨ub,cb,us,hu,h1,h2,hcap⟩:=h
 refine ⟨ub,cb,us,hu,fun i h=>?_,fun i h=>(h2 i h).mono hF,hcap⟩
 obtain ⟨g,off,hu,hf,hg,hc⟩:=h1 i h
 exact ⟨g,off,hu,hF _ hf hg,hg,hc⟩
theorem BB.lit {F:Nat->Prop} {w:World} {l:List Pr.Li} {u:Value} (h:BB F w l u):∃ a c,u=.slice a l.length c:=by
 obtain ⟨ub,cb,us,hu,-⟩:=h
 exact ⟨_,_,hu⟩
theorem BB.at {F:Nat->Prop} {w:World} {l:List Pr.Li} {a:Option Addr} {c:Nat} (h:BB F w l (.slice a l.length c)) (i:Nat) (hi:i<l.length):∃ g off U,a=some ⟨g,off,none⟩/\CellsAt w g (off+i * 30) (liV l[i] U)/\LB F w l[i] U:=by
 obtain ⟨ub,cb,us,hu,h1,h2,-⟩:=h
 obtain ⟨g,off,hu2,hF,hg,hc⟩:=h1 i hi
 simp only [Value.slice.injEq] at hu
 exact ⟨g,off,us i,hu.1.trans hu2,hc,h2 i hi⟩
theorem BB.nil {F:Nat->Prop} {w:World} {a:Option Addr} {c:Nat}:BB F w [] (.slice a 0 c):=⟨a,c,fun _=>⟨.slice none 0 0,.slice none 0 0,.slice none 0 0,.slice none 0 0,.slice none 0 0⟩,rfl,fun i h=>absurd h (by simp),fun i h=>absurd h (by simp),Nat.zero_le _⟩
theorem BB.cap {F:Nat->Prop} {w:World} {l:List Pr.Li} {a:Option Addr} {c:Nat} (h:BB F w l (.slice a l.length c)):l.length<=c:=by
 obtain ⟨ub,cb,us,hu,-,-,hcap⟩:=h
 simp only [Value.slice.injEq] at hu
 omega
/-- out of a row of literals with their slices -/
theorem BB.of_row {F:Nat->Prop} {w:World} {u:Value} (l:List (Pr.Li × LU)) (h:RowB F w 30 (fun p:Pr.Li × LU=>liV p.1 p.2) l u) (hs:∀ p∈l,LB F w p.1 p.2):BB F w (l.map (·.1)) u:=by
 cases h with
 | nil=>exact BB.nil
 | row hF hb h1 hcap =>
  rename_i g off c
  refine ⟨some ⟨g,off,none⟩,c,fun i=>if h:i<l.length then l[i].2 else ⟨.slice none 0 0,.slice none 0 0,.slice none 0 0,.slice none 0 0,.slice none 0 0⟩,by simp,fun i hi=>?_,fun i hi=>?_,by simpa using hcap⟩
  ·rw [List.length_map] at hi
   refine ⟨_,_,rfl,hF,hb,?_⟩
   simp only [dif_pos hi,List.getElem_map]
   exact h1 i hi
  ·rw [List.length_map] at hi
   simp only [dif_pos hi,List.getElem_map]
   exact hs _ (List.getElem_mem hi)
theorem liV_size (p:Pr.Li × LU):(liV p.1 p.2).size=30:=by
 obtain ⟨⟨k,a,op,l,r,fn,av,of,body,ln,cl⟩,U⟩:=p
 rfl
theorem liV_one (p:Pr.Li × LU) {F:Nat->Prop} {w:World} (h:LB F w p.1 p.2):∀ u∈(liV p.1 p.2).toList,u.oneCell'=true:=by
 obtain ⟨e,U⟩:=p
 cases h with
 | mk ht hl hr ho hb h1 h2 =>
  rename_i U'
  obtain ⟨t,l,r,o,b⟩:=U
  obtain ⟨a1,c1,rfl⟩:=ht.lit
  obtain ⟨a2,c2,rfl⟩:=hl.lit
  obtain ⟨a3,c3,rfl⟩:=hr.lit
  obtain ⟨a4,c4,rfl⟩:=ho.lit
  subst hb
  intro u hu
  simp only [liV,List.mem_cons,List.not_mem_nil,or_false] at hu
  rcases hu with rfl | rfl | rfl | rfl | rfl | rfl | rfl | rfl | rfl | rfl | rfl | rfl | rfl | rfl | rfl | rfl | rfl | rfl | rfl | rfl | rfl | rfl | rfl | rfl | rfl | rfl | rfl | rfl | rfl | rfl <;> rfl
theorem Tryz.infoLit:(Tryz.prog.info? 49).map (fun i=>(i.zero,i.size,i.bytes))=some (some (.agg #[Value.int IntKind.i64 0,Value.string ⟨#[]⟩,Value.slice none 0 0,Value.int IntKind.i64 0,Value.int IntKind.i64 0,Value.string ⟨#[]⟩,Value.int IntKind.i64 0,Value.int IntKind.i64 0,Value.string ⟨#[]⟩,Value.int IntKind.i64 0,Value.slice none 0 0,Value.int IntKind.i64 0,Value.string ⟨#[]⟩,Value.int IntKind.i64 0,Value.int IntKind.i64 0,Value.string ⟨#[]⟩,Value.int IntKind.i64 0,Value.slice none 0 0,Value.int IntKind.i64 0,Value.string ⟨#[]⟩,Value.int IntKind.i64 0,Value.string ⟨#[]⟩,Value.int IntKind.i64 0,Value.int IntKind.i64 0,Value.string ⟨#[]⟩,Value.int IntKind.i64 0,Value.slice none 0 0,Value.slice none 0 0,Value.int IntKind.i64 0,Value.int IntKind.i64 0]),30,384):=by kernel_rfl
section
variable {P:Program} {ops:Array Oper} {rest:List Oper} {o:Oper} {a:Act} {w:World} {Q:Exit->Act->World->Prop}
theorem wpList_load_row (hgd:o.guard=none) (ty:TypeId) (x:Operand) (ho:o.op=.load ty x) (g:Nat) (cs:Array Value) (t:TypeId) (fr:Nat × Nat) (hx:a.eval x=.pointer (some ⟨g,0,none⟩)) (hg:w.heap[g]?=some (.cells cs t fr))
  (d:TypeDesc) (hu:P.underlying ty=some d) (hd:(match d with | .struct _ | .array _ _=>true | _=>false)=true) (hi:(P.info? ty).map (·.size)=some cs.size) (h:wpList P ops Q rest (a.put o.dst (.agg cs)) w):wpList P ops Q (o :: rest) a w :=
 wpList_plain hgd fun K hK=>by
  unfold Oper.wp execOp
  simp only [ho,hx,Instr.loadAt,Instr.sureAddr,Sem.run_bind,Sem.run_pure,Result.andThen_ok,run_loadVar_row w g t ty cs fr d hg hu hd hi]
  exact hK _ _ h
theorem wpList_store_new (hgd:o.guard=none) (ty:TypeId) (x y:Operand) (ho:o.op=.store ty x y) (w0:World) (g:Nat) (cells old:Array Value) (t:TypeId) (hx:a.eval x=.pointer (some ⟨g,0,none⟩)) (hy:a.eval y=.agg cells)
  (hw:w=w0.alloc (.cells old t)) (hgg:g=w0.heap.size) (hi:(P.info? ty).map (·.size)=some cells.size) (hold:old.size=cells.size) (h1:cells.toList.all (·.oneCell')=true)
  (h:wpList P ops Q rest (a.put o.dst undef) (w0.alloc (.cells cells t))):wpList P ops Q (o :: rest) a w:=by
 subst hw;subst hgg
 refine wpList_store_row hgd ty x y ho _ cells hx hy t old (heap_alloc_last w0 _) hi hold (by rw [<-Array.all_toList];exact h1) ?_
 rw [World.setRow_alloc_new]
 exact h
end
theorem Mod.setRow (w:World) (g:Nat) (cs:Array Value):Mod [g] w (w.setRow g cs) :=
 ⟨rfl,rfl,rfl,by simp,fun k hk hn=>setRow_other w g k cs (by simpa using hn)⟩
theorem Tryz.sizeLit:(Tryz.prog.info? 49).map (·.size)=some 30:=by kernel_rfl
end Go.Proofs.YtohnmnfhmbmoaaaGreatDoor
