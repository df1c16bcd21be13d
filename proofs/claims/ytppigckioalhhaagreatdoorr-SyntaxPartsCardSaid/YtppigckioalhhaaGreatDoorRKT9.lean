/- THE TEXTS MERGED: SyOpd SyMem SyCon SyVal. -/
import Derived.Test.YtppigckioalhhaaGreatDoorRKT1
import Derived.Test.YtppigckioalhhaaGreatDoorRKT8
import Derived.Test.YtppigckioalhhaaGreatDoorRKT5
import Derived.Test.YtppigckioalhhaaGreatDoorRKT7
namespace Go.Proofs.YtppigckioalhhaaGreatDoorR
open Go.RowKit
set_option linter.unusedVariables false
set_option linter.unusedSimpArgs false
set_option maxRecDepth 100000
set_option maxHeartbeats 1000000 in
theorem operand_any (t:Lx.Tok) (w:World) (ht:∀ c∈t.text,c<256) :
  Calls Tryz.prog 130 #[.agg (tokC t)] w fun e w'=>e=.returned (.bool (Sy.operand t))/\Mod [] w w':=by
 have eA:=heap_alloc_new w (Obj.cells (tokC t) 74)
 have mA:=(Mod.refl [] w).alloc (Obj.cells (tokC t) 74)
 have EA:=Lib.hid eA;have MA:=Lib.hid mA
 obtain ⟨x0,x1,x2,x3,x4,x5,x6⟩:=tok_cells eA
 have HO:Hid (Sy.operand t=(decide (t.kind=2) || (decide (t.kind=3) || (decide (t.kind=4) || (Sy.plain t || (Sy.sign t [45] || Sy.sign t [40])))))):=Lib.hid rfl
 have HP:=Hxq (fun w=>plain_any t w ht)
 have S1:=Hxq (fun w=>sign_any t [45] { data:=#[45] } w rfl ht (by decide))
 have S2:=Hxq (fun w=>sign_any t [40] { data:=#[40] } w rfl ht (by decide))
 generalize Sy.plain t=rp at *
 generalize Sy.sign t [45]=r1 at *
 generalize Sy.sign t [40]=r2 at *
 generalize Sy.operand t=q at *
 clear eA mA ht
 unfold tokC at *
 by_cases h2:t.kind=2
 ·have k2:((t.kind:Int) == 2)=true:=by rw [h2];rfl
  have HQ:Hid (q=true):=Hxq (by rw [HO.out,decide_eq_true h2];simp)
  clear h2 HO
  go_enter Tryz.func130,Tryz.ntmps130
  go_wp2_with fail
  go_ret
  exact ⟨by rw [HQ.out];rfl,MA.out⟩
 have k2:((t.kind:Int) == 2)=false:=by rw [beq_eq_false_iff_ne];omega
 by_cases h3:t.kind=3
 ·have k3:((t.kind:Int) == 3)=true:=by rw [h3];rfl
  have HQ:Hid (q=true):=Hxq (by rw [HO.out,decide_eq_true h3];simp)
  clear h2 h3 HO
  go_enter Tryz.func130,Tryz.ntmps130
  go_wp2_with fail
  go_ret
  exact ⟨by rw [HQ.out];rfl,MA.out⟩
 have k3:((t.kind:Int) == 3)=false:=by rw [beq_eq_false_iff_ne];omega
 by_cases h4:t.kind=4
 ·have k4:((t.kind:Int) == 4)=true:=by rw [h4];rfl
  have HQ:Hid (q=true):=Hxq (by rw [HO.out,decide_eq_true h4];simp)
  clear h2 h3 h4 HO
  go_enter Tryz.func130,Tryz.ntmps130
  go_wp2_with fail
  go_ret
  exact ⟨by rw [HQ.out];rfl,MA.out⟩
 have k4:((t.kind:Int) == 4)=false:=by rw [beq_eq_false_iff_ne];omega
 have HO2:Hid (q=(rp || (r1 || r2))):=Hxq (by rw [HO.out,decide_eq_false h2,decide_eq_false h3,decide_eq_false h4];rfl)
 clear h2 h3 h4 HO
 go_enter Tryz.func130,Tryz.ntmps130
 go_wp2_with fail
 refine (HP.out _).mono ?_
 rintro e1 w1 ⟨rfl,m1⟩
 have E1:=Hxq (m1.at EA.out (by simp));have M1:=Hxq (MA.out.trans m1 (by simp))
 clear m1 x0 x1 x2 x3 x4 x5 x6
 obtain ⟨x0,x1,x2,x3,x4,x5,x6⟩:=tok_cells (t:=t) E1.out
 cases rp
 ·go_wp2_with fail
  refine (S1.out _).mono ?_
  rintro e2 w2 ⟨rfl,m2⟩
  have E2:=Hxq (m2.at E1.out (by simp));have M2:=Hxq (M1.out.trans m2 (by simp))
  clear m2 x0 x1 x2 x3 x4 x5 x6
  obtain ⟨x0,x1,x2,x3,x4,x5,x6⟩:=tok_cells (t:=t) E2.out
  cases r1
  ·go_wp2_with fail
   refine (S2.out _).mono ?_
   rintro e3 w3 ⟨rfl,m3⟩
   have M3:=Hxq (M2.out.trans m3 (by simp))
   clear m3 x0 x1 x2 x3 x4 x5 x6
   have HQ:Hid (q=r2):=Lib.hid HO2.out
   clear HO2
   go_wp2_with fail
   go_ret
   exact ⟨by rw [HQ.out];rfl,M3.out⟩
  ·have HQ:Hid (q=true):=Lib.hid HO2.out
   clear HO2
   go_wp2_with fail
   go_ret
   exact ⟨by rw [HQ.out];rfl,M2.out⟩
 ·have HQ:Hid (q=true):=Lib.hid HO2.out
  clear HO2
  go_wp2_with fail
  go_ret
  exact ⟨by rw [HQ.out];rfl,M1.out⟩
def CellsAt (w:World) (b o:Nat) (xs:Array Value):Prop:=∀ (i:Nat) (x:Value),xs[i]?=some x->w.cell? ⟨b,o+i,none⟩=some x
theorem CellsAt.keep {S:List Nat} {w w':World} {b o:Nat} {xs:Array Value} (h:CellsAt w b o xs) (hm:Mod S w w') (hb:b∉S):CellsAt w' b o xs:=fun i x hx=>hm.cell (h i x hx) hb
theorem CellsAt.of {w:World} {b:Nat} {xs:Array Value} {T:TypeId} {fr:Nat × Nat} (h:w.heap[b]?=some (.cells xs T fr)):CellsAt w b 0 xs:=by
 intro i x hx
 simp only [World.cell?,h,Nat.zero_add]
 exact hx
theorem CellsAt.sub {w:World} {b o:Nat} {xs ys:Array Value} (h:CellsAt w b o xs) (k:Nat) (hk:∀ i x,ys[i]?=some x->xs[k+i]?=some x):CellsAt w b (o+k) ys:=fun i x hx=>by
 have:=h (k+i) x (hk i x hx)
 rwa [<-Nat.add_assoc] at this
def valV (x:Va.Val):Array Value:=#[.int .i64 x.k,.int .i64 x.n,.string (Lx.ofS x.s)]
def exV (e:Pr.Ex) (u:Value):Array Value:=#[.int .i64 e.k,.string e.v,.int .i64 e.x.k,.int .i64 e.x.n,.string (Lx.ofS e.x.s),.int .i64 e.op,u]
def tmV (t:Pr.Term):Array Value:=#[.int .i64 t.k,.string t.v,.int .i64 t.x.k,.int .i64 t.x.n,.string (Lx.ofS t.x.s)]
/-- an expression's arguments, in blocks of F -/
inductive EB (F:Nat->Prop) (w:World):Pr.Ex->Value->Prop
 | nil {k:Int} {v:ByteArray} {x:Va.Val} {op:Int} {a:Option Addr} {c:Nat}:EB F w (.mk k v x op []) (.slice a 0 c)
 | row {k:Int} {v:ByteArray} {x:Va.Val} {op:Int} {args:List Pr.Ex} {b off c:Nat} {us:Nat->Value} (hF:F b) (hb:b<w.heap.size)
   (h1:∀ i (h:i<args.length),CellsAt w b (off+i * 7) (exV args[i] (us i))) (h2:∀ i (h:i<args.length),EB F w args[i] (us i)) :
   EB F w (.mk k v x op args) (.slice (some ⟨b,off,none⟩) args.length c)
theorem EB.keep {F:Nat->Prop} {S:List Nat} {w w':World} {e:Pr.Ex} {u:Value} (h:EB F w e u) (hm:Mod S w w') (hS:∀ s∈S,¬ F s):EB F w' e u:=by
 induction h with
 | nil=>exact .nil
 | row hF hb h1 h2 ih=>exact .row hF (Nat.lt_of_lt_of_le hb hm.size) (fun i h=>(h1 i h).keep hm (fun hs=>hS _ hs hF)) ih
theorem EB.mono {F F':Nat->Prop} {w:World} {e:Pr.Ex} {u:Value} (h:EB F w e u) (hF:∀ k,F k->k<w.heap.size->F' k):EB F' w e u:=by
 induction h with
 | nil=>exact .nil
 | row hf hb h1 h2 ih=>exact .row (hF _ hf hb) hb h1 ih
theorem EB.lit {F:Nat->Prop} {w:World} {e:Pr.Ex} {u:Value} (h:EB F w e u):∃ a c,u=.slice a e.args.length c:=by
 cases h with
 | nil=>exact ⟨_,_,rfl⟩
 | row hF hb h1 h2=>exact ⟨_,_,rfl⟩
theorem EB.at {F:Nat->Prop} {w:World} {e:Pr.Ex} {a:Option Addr} {c:Nat} (h:EB F w e (.slice a e.args.length c)) (i:Nat) (hi:i<e.args.length) :
  ∃ b off u,a=some ⟨b,off,none⟩/\CellsAt w b (off+i * 7) (exV e.args[i] u)/\EB F w e.args[i] u:=by
 generalize hu:Value.slice a e.args.length c=u at h
 cases h with
 | nil=>simp [Pr.Ex.args] at hi
 | row hF hb h1 h2 =>
  simp only [Value.slice.injEq] at hu
  exact ⟨_,_,_,hu.1,h1 i hi,h2 i hi⟩
/-- one argument -/
theorem EB.one {F:Nat->Prop} {w:World} {k:Int} {v:ByteArray} {x:Va.Val} {op:Int} {a:Pr.Ex} {u:Value} {g:Nat} {T:TypeId} (hg:w.heap[g]?=some (.cells (exV a u) T (0,0))) (hF:F g) (ha:EB F w a u) (c:Nat) :
  EB F w (.mk k v x op [a]) (.slice (some ⟨g,0,none⟩) 1 c):=by
 refine .row (us:=fun _=>u) hF (lt_of_block hg) (fun i hi=>?_) (fun i hi=>?_)
 ·obtain rfl:i=0:=by simpa using hi
  exact CellsAt.of hg
 ·obtain rfl:i=0:=by simpa using hi
  exact ha
/-- two arguments -/
theorem EB.two {F:Nat->Prop} {w:World} {k:Int} {v:ByteArray} {x:Va.Val} {op:Int} {a b:Pr.Ex} {u u':Value} {g:Nat} {T:TypeId} (hg:w.heap[g]?=some (.cells (exV a u++exV b u') T (0,0))) (hF:F g) (ha:EB F w a u) (hb:EB F w b u') (c:Nat) :
  EB F w (.mk k v x op [a,b]) (.slice (some ⟨g,0,none⟩) 2 c):=by
 have hc:=CellsAt.of hg
 refine .row (us:=fun i=>if i=0 then u else u') hF (lt_of_block hg) (fun i hi=>?_) (fun i hi=>?_)
 ·have:i=0\/i=1:=by simp at hi;omega
  rcases this with rfl | rfl
  ·exact hc.sub 0 (fun i x hx=>by
    rw [Nat.zero_add]
    exact (Array.getElem?_append_left (by
     have:=(Array.getElem?_eq_some_iff.1 hx).1
     simpa using this)).trans hx)
  ·exact hc.sub 7 (fun i x hx=>by
    have h7:(exV a u).size=7:=rfl
    rw [Array.getElem?_append_right (by omega),h7,Nat.add_sub_cancel_left]
    exact hx)
 ·have:i=0\/i=1:=by simp at hi;omega
  rcases this with rfl | rfl
  ·exact ha
  ·exact hb
/-- a list of things of n cells, in blocks of F -/
inductive RowB {α:Type} (F:Nat->Prop) (w:World) (n:Nat) (cs:α->Array Value):List α->Value->Prop
 | nil {a:Option Addr} {c:Nat}:RowB F w n cs [] (.slice a 0 c)
 | row {l:List α} {b off c:Nat} (hF:F b) (hb:b<w.heap.size) (h1:∀ i (h:i<l.length),CellsAt w b (off+i * n) (cs l[i])):RowB F w n cs l (.slice (some ⟨b,off,none⟩) l.length c)
section
variable {α:Type} {F F':Nat->Prop} {S:List Nat} {w w':World} {n:Nat} {cs:α->Array Value} {l:List α} {u:Value}
theorem RowB.keep (h:RowB F w n cs l u) (hm:Mod S w w') (hS:∀ s∈S,¬ F s):RowB F w' n cs l u:=by
 cases h with
 | nil=>exact .nil
 | row hF hb h1=>exact .row hF (Nat.lt_of_lt_of_le hb hm.size) (fun i h=>(h1 i h).keep hm (fun hs=>hS _ hs hF))
theorem RowB.mono (h:RowB F w n cs l u) (hF:∀ k,F k->k<w.heap.size->F' k):RowB F' w n cs l u:=by
 cases h with
 | nil=>exact .nil
 | row hf hb h1=>exact .row (hF _ hf hb) hb h1
theorem RowB.lit (h:RowB F w n cs l u):∃ a c,u=.slice a l.length c:=by
 cases h with
 | nil=>exact ⟨_,_,rfl⟩
 | row hF hb h1=>exact ⟨_,_,rfl⟩
theorem RowB.at {a:Option Addr} {c:Nat} (h:RowB F w n cs l (.slice a l.length c)) (i:Nat) (hi:i<l.length):∃ b off,a=some ⟨b,off,none⟩/\CellsAt w b (off+i * n) (cs l[i]):=by
 generalize hu:Value.slice a l.length c=u at h
 cases h with
 | nil=>simp at hi
 | row hF hb h1 =>
  simp only [Value.slice.injEq] at hu
  exact ⟨_,_,hu.1,h1 i hi⟩
/-- cells of a list -/
def rowCells (cs:α->Array Value) (l:List α):List Value:=l.flatMap fun x=>(cs x).toList
theorem rowCells_len (hn:∀ x,(cs x).size=n) (l:List α):(rowCells cs l).length=l.length * n:=by
 induction l with
 | nil=>simp [rowCells]
 | cons t r ih =>
  simp only [rowCells,List.flatMap_cons,List.length_append,List.length_cons] at ih ⊢
  rw [ih,Array.length_toList,hn,Nat.add_mul];omega
theorem rowCells_snoc (l:List α) (x:α):rowCells cs (l++[x])=rowCells cs l++(cs x).toList:=by simp [rowCells]
theorem rowCells_get (hn:∀ x,(cs x).size=n):∀ (l:List α) (i:Nat) (hi:i<l.length) (j:Nat) (x:Value),(cs l[i])[j]?=some x->(rowCells cs l)[i * n+j]?=some x
 | t :: r,0,hi,j,x,h=>by
  have hj:j<(cs t).size:=(Array.getElem?_eq_some_iff.1 h).1
  rw [rowCells,List.flatMap_cons,Nat.zero_mul,Nat.zero_add,List.getElem?_append_left (by simpa using hj)]
  simpa using h
 | t :: r,i+1,hi,j,x,h=>by
  rw [rowCells,List.flatMap_cons,List.getElem?_append_right (by rw [Array.length_toList,hn,Nat.add_mul];omega)]
  have:=rowCells_get hn r i (by simpa using hi) j x (by simpa using h)
  rw [rowCells] at this
  rw [<-this]
  congr 1
  rw [Array.length_toList,hn,Nat.add_mul];omega
/-- a row that the call owns is such a list -/
theorem RowB.of_owns {T:TypeId} {base:Nat} (hn:∀ x,(cs x).size=n) (h:w.ownsRow base T n u l.length (rowCells cs l)) (hF:∀ k∈fp u,F k):RowB F w n cs l u:=by
 rcases h.2 with ⟨rfl,h0⟩ | ⟨g,cap,cur,rfl,hb,hg,hc,hm,hs,ht⟩
 ·have hl:l=[]:=List.eq_nil_of_length_eq_zero h0
  subst hl
  exact .nil
 ·refine .row (hF g (by simp [fp])) (lt_of_block hg) (fun i hi j x hx=>?_)
  have hk:=rowCells_get hn l i hi j x hx
  have hlt:i * n+j<(rowCells cs l).length:=(List.getElem?_eq_some_iff.1 hk).1
  rw [Nat.zero_add]
  simp only [World.cell?,hg]
  rw [<-ht,List.getElem?_take] at hk
  rw [rowCells_len hn] at hlt
  rw [if_pos (by first | exact hlt | (rw [ht] at *;simpa using hlt))] at hk
  simpa using hk
end
open Go.RowKit
set_option linter.unusedVariables false
set_option linter.unusedSimpArgs false
set_option maxRecDepth 100000
def ConV (o:Option (Va.Val × Nat)):Value:=.tuple #[.agg (valV ((o.map (·.1)).getD Va.zero)),.bool o.isSome]
/-- what constant leaves -/
def ConR (b:Nat) (ra:Option Addr) (rc:Nat) (f:Value) (v:Sy.Env) (o:Option (Va.Val × Nat)) (i:Nat) (w:World) (e:Ending) (w':World):Prop :=
 e=.returned (ConV o)/\RdP w' b ra rc f v (i+((o.map (·.2)).getD 0))/\Mod [b] w w'
theorem cells3 {w:World} {b:Nat} {a0 a1 a2:Value} {T:TypeId} {fr:Nat × Nat} (h:w.heap[b]?=some (.cells #[a0,a1,a2] T fr)) :
  w.cell? ⟨b,0,none⟩=some a0/\w.cell? ⟨b,1,none⟩=some a1/\w.cell? ⟨b,2,none⟩=some a2:=⟨cell_at h 0,cell_at h 1,cell_at h 2⟩
theorem Tryz.sizeVal:(Tryz.prog.info? 42).map (·.size)=some 3:=by kernel_rfl
theorem res_val {fn:Func} {p u:Tmp} (h:fn.results=#[.cell p 42,.tmp u]) (tmps:Array Value) (w:World) (b:Nat) (cs:Array Value) (T:TypeId) (fr:Nat × Nat) (x:Value)
  (hp:tmps.getD p undef=.pointer (some ⟨b,0,none⟩)) (hx:tmps.getD u undef=x) (hg:w.heap[b]?=some (.cells cs T fr)) (hc:cs.size=3) :
  (results fn tmps).run Tryz.prog w=.ok (.tuple #[.agg cs,x]) w:=by
 have hl:=run_loadVar_row (P:=Tryz.prog) w b T 42 cs fr _ hg Tryz.underlying42 rfl (by rw [Tryz.sizeVal,hc])
 rw [results_cell_tmp h,hp,hx]
 simp [asAddr,hl]
set_option maxHeartbeats 2000000 in
theorem constant_any (b:Nat) (ra:Option Addr) (rc:Nat) (f:Value) (v:Sy.Env) (i:Nat) (w:World) (h:RdP w b ra rc f v i) (hv:EnvOk v) (hi:i<=70000) :
  Calls Tryz.prog 112 #[.pointer (some ⟨b,0,none⟩)] w (ConR b ra rc f v (Sy.constant v i) i w):=by
 have mA:=(Mod.refl [] w).alloc (Obj.cells #[Value.int IntKind.i64 0,Value.int IntKind.i64 0,Value.string ⟨#[]⟩] 42)
 have hA:=h.past mA (by simp)
 have eA:=heap_alloc_new w (Obj.cells #[Value.int IntKind.i64 0,Value.int IntKind.i64 0,Value.string ⟨#[]⟩] 42)
 have hsA:(w.alloc (Obj.cells #[Value.int IntKind.i64 0,Value.int IntKind.i64 0,Value.string ⟨#[]⟩] 42)).heap.size=w.heap.size+1:=by simp
 have HR:Hid (Sy.constant v i=if (v.tk i).kind=3\/(v.tk i).kind=4 then some (⟨(v.tk i).vk,(v.tk i).num,(v.tk i).sym⟩,1)
  else if Sy.plain (v.tk i)=true then some (⟨2,0,(v.tk i).text⟩,1)
  else if Sy.sign (v.tk i) [45]=true/\(v.tk (i+1)).kind=3 then some (⟨1,-((v.tk (i+1)).num:Int),[]⟩,2)
  else none):=Lib.hid rfl
 have HPl:=Hxq (fun w=>plain_any (v.tk i) w (hv.tbyte i))
 have HSg:=Hxq (fun w=>sign_any (v.tk i) [45] { data:=#[45] } w rfl (hv.tbyte i) (by decide))
 have HP0:=Hxq (fun w h=>peek0 b ra rc f v i w h hv hi)
 have HP1:=Hxq (fun w h=>peek1 b ra rc f v i w h hv hi)
 have hnum:=hv.tnum (i+1)
 have HLo:=Lib.hid h.low
 have hbl:=h.lt
 have HH:=Lib.hid hA;have EA:=Lib.hid eA;have MA:=Lib.hid mA
 clear h hA eA mA
 generalize v.tk i=t at *
 generalize v.tk (i+1)=u at *
 generalize Sy.plain t=rp at *
 generalize Sy.sign t [45]=rs at *
 generalize Sy.constant v i=q at *
 go_enter Tryz.func112,Tryz.ntmps112
 go_upto_region 1 with fail
 generalize w.alloc (Obj.cells #[Value.int IntKind.i64 0,Value.int IntKind.i64 0,Value.string ⟨#[]⟩] 42)=wA at *
 go_wp2_with fail
 refine (HP0.out wA HH.out).mono ?_
 rintro e1 w1 ⟨rfl,m1⟩
 have h1:=HH.out.past m1 (by simp)
 have z1:=m1.size
 have M1:=Hxq (MA.out.trans m1 (by simp));have E1:=Hxq (m1.at EA.out (by simp))
 clear m1
 go_wp2_with fail
 refine (HP1.out w1 h1).mono ?_
 rintro e2 w2 ⟨rfl,m2⟩
 have z2:=m2.size
 have mB:=((Mod.refl [] w2).alloc (Obj.cells (tokC t) 74)).alloc (Obj.cells (tokC u) 74)
 have hB:=(h1.past m2 (by simp)).past mB (by simp)
 have aB:=mB.at (m2.at E1.out (by simp)) (by simp)
 have tB:=((Mod.refl [] (w2.alloc (Obj.cells (tokC t) 74))).alloc (Obj.cells (tokC u) 74)).at (heap_alloc_new w2 (Obj.cells (tokC t) 74)) (by simp)
 have uB:=alloc_at (w0:=w2.alloc (Obj.cells (tokC t) 74)) (n:=w2.heap.size+1) (Obj.cells (tokC u) 74) (by simp)
 have M2:=Hxq ((M1.out.trans m2 (by simp)).trans mB (by simp))
 have zB:((w2.alloc (Obj.cells (tokC t) 74)).alloc (Obj.cells (tokC u) 74)).heap.size=w2.heap.size+2:=by simp
 clear m2 mB h1
 unfold tokC at *
 go_upto_region 2 with fail
 generalize (w2.alloc (Obj.cells _ 74)).alloc (Obj.cells _ 74)=wB at *
 have AB:=Lib.hid aB;have TB:=Lib.hid tB;have UB:=Lib.hid uB;have HB:=Lib.hid hB
 obtain ⟨x0,x1,x2,x3,x4,x5,x6⟩:=tok_cells tB
 clear aB uB tB hB
 by_cases k34:t.kind=3\/t.kind=4
 ·have HQ:Hid (q=some (⟨t.vk,t.num,t.sym⟩,1)):=Hxq (by rw [HR.out,if_pos k34])
  have hq:=HQ.out
  subst hq
  clear HR HQ
  by_cases k3:t.kind=3
  ·have b3:((t.kind:Int) == 3)=true:=by rw [k3];rfl
   clear k34 k3
   obtain ⟨c0,c1,c2,c3,c4,c5,fz⟩:=HB.out.cells
   have hT:=HB.out.to (i+1)
   have aC:(wB.setCell ⟨b,1,none⟩ (.int .i64 ((i:Int)+1))).heap[w.heap.size]?=_:=hT.2.at AB.out (by simp;omega)
   have tC:(wB.setCell ⟨b,1,none⟩ (.int .i64 ((i:Int)+1))).heap[w2.heap.size]?=_:=hT.2.at TB.out (by simp;omega)
   have uC:(wB.setCell ⟨b,1,none⟩ (.int .i64 ((i:Int)+1))).heap[w2.heap.size+1]?=_:=hT.2.at UB.out (by simp;omega)
   have HC:Hid (RdP (wB.setCell ⟨b,1,none⟩ (.int .i64 ((i:Int)+1))) b ra rc f v (i+1)):=Lib.hid hT.1
   have MC:Hid (Mod [b] w (wB.setCell ⟨b,1,none⟩ (.int .i64 ((i:Int)+1)))):=Hxq ((M2.out.mono (T:=[b]) (by simp)).trans hT.2 (by simp))
   clear hT
   go_upto_region 4 with fail
   generalize wB.setCell ⟨b,1,none⟩ (.int .i64 ((i:Int)+1))=wC at *
   obtain ⟨x0,x1,x2,x3,x4,x5,x6⟩:=tok_cells (t:=t) tC
   obtain ⟨u0,u1,u2,u3,u4,u5,u6⟩:=tok_cells (t:=u) uC
   obtain ⟨y0,y1,y2⟩:=cells3 aC
   have fA:∀ j,wC.frozen? ⟨w.heap.size,j,none⟩=false:=fun j=>free_at aC j
   have AC:=Lib.hid aC
   clear aC tC uC c0 c1 c2 c3 c4 c5 fz
   go_wp2_with fail
   have mR:=setCs_mod w.heap.size [.int .i64 (t.vk:Nat),.int .i64 (t.num:Nat),.string (Lx.ofS t.sym)] 0 wC
   refine bodyPost_ret (res_val rfl _ _ _ _ _ _ _ rfl rfl (setCs_row (vs:=[.int .i64 (t.vk:Nat),.int .i64 (t.num:Nat),.string (Lx.ofS t.sym)]) AC.out rfl) rfl) rfl ⟨rfl,HC.out.new HLo.out mR (by simp),MC.out.trans mR (by simp)⟩
  ·have b3:((t.kind:Int) == 3)=false:=by rw [beq_eq_false_iff_ne];omega
   have b4:((t.kind:Int) == 4)=true:=by rw [beq_iff_eq];omega
   clear k34 k3
   obtain ⟨c0,c1,c2,c3,c4,c5,fz⟩:=HB.out.cells
   have hT:=HB.out.to (i+1)
   have aC:(wB.setCell ⟨b,1,none⟩ (.int .i64 ((i:Int)+1))).heap[w.heap.size]?=_:=hT.2.at AB.out (by simp;omega)
   have tC:(wB.setCell ⟨b,1,none⟩ (.int .i64 ((i:Int)+1))).heap[w2.heap.size]?=_:=hT.2.at TB.out (by simp;omega)
   have uC:(wB.setCell ⟨b,1,none⟩ (.int .i64 ((i:Int)+1))).heap[w2.heap.size+1]?=_:=hT.2.at UB.out (by simp;omega)
   have HC:Hid (RdP (wB.setCell ⟨b,1,none⟩ (.int .i64 ((i:Int)+1))) b ra rc f v (i+1)):=Lib.hid hT.1
   have MC:Hid (Mod [b] w (wB.setCell ⟨b,1,none⟩ (.int .i64 ((i:Int)+1)))):=Hxq ((M2.out.mono (T:=[b]) (by simp)).trans hT.2 (by simp))
   clear hT
   go_upto_region 4 with fail
   generalize wB.setCell ⟨b,1,none⟩ (.int .i64 ((i:Int)+1))=wC at *
   obtain ⟨x0,x1,x2,x3,x4,x5,x6⟩:=tok_cells (t:=t) tC
   obtain ⟨u0,u1,u2,u3,u4,u5,u6⟩:=tok_cells (t:=u) uC
   obtain ⟨y0,y1,y2⟩:=cells3 aC
   have fA:∀ j,wC.frozen? ⟨w.heap.size,j,none⟩=false:=fun j=>free_at aC j
   have AC:=Lib.hid aC
   clear aC tC uC c0 c1 c2 c3 c4 c5 fz
   go_wp2_with fail
   have mR:=setCs_mod w.heap.size [.int .i64 (t.vk:Nat),.int .i64 (t.num:Nat),.string (Lx.ofS t.sym)] 0 wC
   refine bodyPost_ret (res_val rfl _ _ _ _ _ _ _ rfl rfl (setCs_row (vs:=[.int .i64 (t.vk:Nat),.int .i64 (t.num:Nat),.string (Lx.ofS t.sym)]) AC.out rfl) rfl) rfl ⟨rfl,HC.out.new HLo.out mR (by simp),MC.out.trans mR (by simp)⟩
 ·have b3:((t.kind:Int) == 3)=false:=by rw [beq_eq_false_iff_ne];omega
  have b4:((t.kind:Int) == 4)=false:=by rw [beq_eq_false_iff_ne];omega
  have HR2:Hid (q=if rp=true then some (⟨2,0,t.text⟩,1) else if rs=true/\u.kind=3 then some (⟨1,-(u.num:Int),[]⟩,2) else none):=Hxq (by rw [HR.out,if_neg k34])
  clear HR k34
  go_wp2_with fail
  refine (HPl.out wB).mono ?_
  rintro e3 w3 ⟨rfl,m3⟩
  have A3:=Hxq (m3.at AB.out (by simp));have T3:=Hxq (m3.at TB.out (by simp));have U3:=Hxq (m3.at UB.out (by simp));have H3:=Hxq (HB.out.past m3 (by simp));have M3:=Hxq (M2.out.trans m3 (by simp))
  have z3:=m3.size
  clear m3 x0 x1 x2 x3 x4 x5 x6
  obtain ⟨x0,x1,x2,x3,x4,x5,x6⟩:=tok_cells (t:=t) T3.out
  cases rp
  ·have HR3:Hid (q=if rs=true/\u.kind=3 then some (⟨1,-(u.num:Int),[]⟩,2) else none):=Lib.hid HR2.out
   clear HR2
   go_wp2_with fail
   refine (HSg.out w3).mono ?_
   rintro e4 w4 ⟨rfl,m4⟩
   have A4:=Hxq (m4.at A3.out (by simp));have T4:=Hxq (m4.at T3.out (by simp));have U4:=Hxq (m4.at U3.out (by simp));have H4:=Hxq (H3.out.past m4 (by simp));have M4:=Hxq (M3.out.trans m4 (by simp))
   have z4:=m4.size
   clear m4 x0 x1 x2 x3 x4 x5 x6
   obtain ⟨x0,x1,x2,x3,x4,x5,x6⟩:=tok_cells (t:=t) T4.out
   obtain ⟨u0,u1,u2,u3,u4,u5,u6⟩:=tok_cells (t:=u) U4.out
   obtain ⟨y0,y1,y2⟩:=cells3 A4.out
   have fA:∀ j,w4.frozen? ⟨w.heap.size,j,none⟩=false:=fun j=>free_at A4.out j
   cases rs
   ·have HQ:Hid (q=none):=Lib.hid HR3.out
    have hq:=HQ.out
    subst hq
    clear HR3 HQ
    go_wp2_with fail
    have mR:=setCs_mod w.heap.size [.int .i64 0,.int .i64 0,.string ⟨#[]⟩] 0 w4
    refine bodyPost_ret (res_val rfl _ _ _ _ _ _ _ rfl rfl (setCs_row (vs:=[.int .i64 0,.int .i64 0,.string ⟨#[]⟩]) A4.out rfl) rfl) rfl ⟨rfl,H4.out.new HLo.out mR (by simp),(M4.out.trans mR (by simp)).mono (by simp)⟩
   ·by_cases ku:u.kind=3
    ·have bu:((u.kind:Int) == 3)=true:=by rw [ku];rfl
     have HQ:Hid (q=some (⟨1,-(u.num:Int),[]⟩,2)):=Hxq (by rw [HR3.out,if_pos ⟨rfl,ku⟩])
     have hq:=HQ.out
     subst hq
     have hng:wrap64 (-(u.num:Int))=-(u.num:Int):=by unfold wrap64;omega
     have hng2:IntKind.i64.wrap (-(u.num:Int))=-(u.num:Int):=IntWalk.i64_in _ (by omega)
     clear HR3 HQ ku x0 x1 x2 x3 x4 x5 x6 u1 u2 u3 u4 u5 u6 y0 y1 y2 fA
     obtain ⟨c0,c1,c2,c3,c4,c5,fz⟩:=H4.out.cells
     have hT:=H4.out.to (i+2)
     have aC:(w4.setCell ⟨b,1,none⟩ (.int .i64 ((i:Int)+2))).heap[w.heap.size]?=_:=hT.2.at A4.out (by simp;omega)
     have tC:(w4.setCell ⟨b,1,none⟩ (.int .i64 ((i:Int)+2))).heap[w2.heap.size]?=_:=hT.2.at T4.out (by simp;omega)
     have uC:(w4.setCell ⟨b,1,none⟩ (.int .i64 ((i:Int)+2))).heap[w2.heap.size+1]?=_:=hT.2.at U4.out (by simp;omega)
     have HC:Hid (RdP (w4.setCell ⟨b,1,none⟩ (.int .i64 ((i:Int)+2))) b ra rc f v (i+2)):=Lib.hid hT.1
     have MC:Hid (Mod [b] w (w4.setCell ⟨b,1,none⟩ (.int .i64 ((i:Int)+2)))):=Hxq ((M4.out.mono (T:=[b]) (by simp)).trans hT.2 (by simp))
     clear hT
     go_upto_region 10 with fail
     generalize w4.setCell ⟨b,1,none⟩ (.int .i64 ((i:Int)+2))=wC at *
     obtain ⟨x0,x1,x2,x3,x4,x5,x6⟩:=tok_cells (t:=t) tC
     obtain ⟨u0,u1,u2,u3,u4,u5,u6⟩:=tok_cells (t:=u) uC
     obtain ⟨y0,y1,y2⟩:=cells3 aC
     have fA:∀ j,wC.frozen? ⟨w.heap.size,j,none⟩=false:=fun j=>free_at aC j
     have AC:=Lib.hid aC
     clear aC tC uC c0 c1 c2 c3 c4 c5 fz
     go_wp2_with fail
     have mR:=setCs_mod w.heap.size [.int .i64 1,.int .i64 (-(u.num:Int)),.string ⟨#[]⟩] 0 wC
     refine bodyPost_ret (res_val rfl _ _ _ _ _ _ _ rfl rfl (setCs_row (vs:=[.int .i64 1,.int .i64 (-(u.num:Int)),.string ⟨#[]⟩]) AC.out rfl) rfl) rfl ⟨rfl,HC.out.new HLo.out mR (by simp),MC.out.trans mR (by simp)⟩
    ·have bu:((u.kind:Int) == 3)=false:=by rw [beq_eq_false_iff_ne];omega
     have HQ:Hid (q=none):=Hxq (by rw [HR3.out,if_neg (fun h=>ku h.2)])
     have hq:=HQ.out
     subst hq
     clear HR3 HQ ku
     go_wp2_with fail
     have mR:=setCs_mod w.heap.size [.int .i64 0,.int .i64 0,.string ⟨#[]⟩] 0 w4
     refine bodyPost_ret (res_val rfl _ _ _ _ _ _ _ rfl rfl (setCs_row (vs:=[.int .i64 0,.int .i64 0,.string ⟨#[]⟩]) A4.out rfl) rfl) rfl ⟨rfl,H4.out.new HLo.out mR (by simp),(M4.out.trans mR (by simp)).mono (by simp)⟩
  ·have HQ:Hid (q=some (⟨2,0,t.text⟩,1)):=Lib.hid HR2.out
   have hq:=HQ.out
   subst hq
   clear HR2 HQ x0 x1 x2 x3 x4 x5 x6
   obtain ⟨c0,c1,c2,c3,c4,c5,fz⟩:=H3.out.cells
   have hT:=H3.out.to (i+1)
   have aC:(w3.setCell ⟨b,1,none⟩ (.int .i64 ((i:Int)+1))).heap[w.heap.size]?=_:=hT.2.at A3.out (by simp;omega)
   have tC:(w3.setCell ⟨b,1,none⟩ (.int .i64 ((i:Int)+1))).heap[w2.heap.size]?=_:=hT.2.at T3.out (by simp;omega)
   have uC:(w3.setCell ⟨b,1,none⟩ (.int .i64 ((i:Int)+1))).heap[w2.heap.size+1]?=_:=hT.2.at U3.out (by simp;omega)
   have HC:Hid (RdP (w3.setCell ⟨b,1,none⟩ (.int .i64 ((i:Int)+1))) b ra rc f v (i+1)):=Lib.hid hT.1
   have MC:Hid (Mod [b] w (w3.setCell ⟨b,1,none⟩ (.int .i64 ((i:Int)+1)))):=Hxq ((M3.out.mono (T:=[b]) (by simp)).trans hT.2 (by simp))
   clear hT
   go_upto_region 7 with fail
   generalize w3.setCell ⟨b,1,none⟩ (.int .i64 ((i:Int)+1))=wC at *
   obtain ⟨x0,x1,x2,x3,x4,x5,x6⟩:=tok_cells (t:=t) tC
   obtain ⟨u0,u1,u2,u3,u4,u5,u6⟩:=tok_cells (t:=u) uC
   obtain ⟨y0,y1,y2⟩:=cells3 aC
   have fA:∀ j,wC.frozen? ⟨w.heap.size,j,none⟩=false:=fun j=>free_at aC j
   have AC:=Lib.hid aC
   clear aC tC uC c0 c1 c2 c3 c4 c5 fz
   go_wp2_with fail
   have mR:=setCs_mod w.heap.size [.int .i64 2,.int .i64 0,.string (Lx.ofS t.text)] 0 wC
   refine bodyPost_ret (res_val rfl _ _ _ _ _ _ _ rfl rfl (setCs_row (vs:=[.int .i64 2,.int .i64 0,.string (Lx.ofS t.text)]) AC.out rfl) rfl) rfl ⟨rfl,HC.out.new HLo.out mR (by simp),MC.out.trans mR (by simp)⟩
def valC:Va.Val->World->Value->Prop:=fun c _ x=>x=.agg (valV c)
set_option maxHeartbeats 1000000 in
theorem value_any (b:Nat) (ra:Option Addr) (rc:Nat) (f:Value) (v:Sy.Env) (i:Nat) (w:World) (h:RdP w b ra rc f v i) (hv:EnvOk v) (hi:i<=69000) :
  Calls Tryz.prog 93 #[.pointer (some ⟨b,0,none⟩)] w (PRes b ra rc f v (Sy.value v i) valC w):=by
 have mA:=(Mod.refl [] w).alloc (Obj.cells #[Value.int IntKind.i64 0,Value.int IntKind.i64 0,Value.string ⟨#[]⟩] 42)
 have hA:=h.past mA (by simp)
 have eA:=heap_alloc_new w (Obj.cells #[Value.int IntKind.i64 0,Value.int IntKind.i64 0,Value.string ⟨#[]⟩] 42)
 have HC:=Hxq (constant_any b ra rc f v i _ hA hv (by omega))
 have HR:Hid (Sy.value v i=match Sy.constant v i with | some (c,n)=>.ok c (i+n) | none=>.err (v.give 40 (if Sy.sign (v.tk i) [45]=true then i+1 else i))):=Lib.hid rfl
 have HMy:=Hxq (fun w h=>may_any b ra rc f v i [45] { data:=#[45] } w h hv (by omega) rfl (by decide))
 have HLo:=Lib.hid h.low
 have hbl:=h.lt
 have EA:=Lib.hid eA;have MA:=Lib.hid mA
 clear h hA eA mA
 generalize Sy.constant v i=o at *
 generalize Sy.sign (v.tk i) [45]=rs at *
 generalize Sy.value v i=q at *
 go_enter Tryz.func93,Tryz.ntmps93
 go_upto_region 1 with fail
 generalize w.alloc (Obj.cells #[Value.int IntKind.i64 0,Value.int IntKind.i64 0,Value.string ⟨#[]⟩] 42)=wA at *
 cases o with
 | none =>
  cases rs
  ·have hq:q=.err (v.give 40 i):=HR.out
   subst hq
   clear HR
   go_wp2_with fail
   refine HC.out.mono ?_
   rintro e1 w1 ⟨rfl,h1,m1⟩
   have H1:=Hxq (show RdP w1 b ra rc f v i from h1);have M1:=Hxq ((MA.out.mono (T:=[b]) (by simp)).trans m1 (by simp))
   clear h1 m1 HC
   unfold ConV
   simp only [Option.map_none,Option.getD_none,Option.isSome_none,valV,Va.zero]
   have mB:=(Mod.refl [] w1).alloc (Obj.cells #[Value.int .i64 0,Value.int .i64 0,Value.string (Lx.ofS [])] 42)
   have H2:=Hxq (H1.out.past mB (by simp));have M2:=Hxq (M1.out.trans mB (by simp))
   clear mB
   go_wp2_with fail
   refine (HMy.out _ H2.out).mono ?_
   rintro e3 w3 ⟨rfl,h3,m3⟩
   have H3:=Hxq (show RdP w3 b ra rc f v i from h3);have M3:=Hxq (M2.out.trans m3 (by simp))
   clear h3 m3
   go_wp2_with fail
   refine (give_any b ra rc f v i 40 w3 H3.out hv (by omega)).mono ?_
   rintro e4 w4 ⟨rfl,m4⟩
   have M4:=Hxq (M3.out.trans m4 (by simp))
   clear m4
   unfold stopE
   go_wp2_with fail
   exact ⟨rfl,rfl,M4.out⟩
  ·have hq:q=.err (v.give 40 (i+1)):=HR.out
   subst hq
   clear HR
   go_wp2_with fail
   refine HC.out.mono ?_
   rintro e1 w1 ⟨rfl,h1,m1⟩
   have H1:=Hxq (show RdP w1 b ra rc f v i from h1);have M1:=Hxq ((MA.out.mono (T:=[b]) (by simp)).trans m1 (by simp))
   clear h1 m1 HC
   unfold ConV
   simp only [Option.map_none,Option.getD_none,Option.isSome_none,valV,Va.zero]
   have mB:=(Mod.refl [] w1).alloc (Obj.cells #[Value.int .i64 0,Value.int .i64 0,Value.string (Lx.ofS [])] 42)
   have H2:=Hxq (H1.out.past mB (by simp));have M2:=Hxq (M1.out.trans mB (by simp))
   clear mB
   go_wp2_with fail
   refine (HMy.out _ H2.out).mono ?_
   rintro e3 w3 ⟨rfl,h3,m3⟩
   have H3:=Hxq (show RdP w3 b ra rc f v (i+1) from h3);have M3:=Hxq (M2.out.trans m3 (by simp))
   clear h3 m3
   go_wp2_with fail
   refine (give_any b ra rc f v (i+1) 40 w3 H3.out hv (by omega)).mono ?_
   rintro e4 w4 ⟨rfl,m4⟩
   have M4:=Hxq (M3.out.trans m4 (by simp))
   clear m4
   unfold stopE
   go_wp2_with fail
   exact ⟨rfl,rfl,M4.out⟩
 | some p =>
  obtain ⟨c,n⟩:=p
  have hq:q=.ok c (i+n):=HR.out
  subst hq
  clear HR
  go_wp2_with fail
  refine HC.out.mono ?_
  rintro e1 w1 ⟨rfl,h1,m1⟩
  have H1:=Hxq (show RdP w1 b ra rc f v (i+n) from h1);have M1:=Hxq ((MA.out.mono (T:=[b]) (by simp)).trans m1 (by simp))
  have hnb:w.heap.size∉[b]:=by simp;omega
  have E1:=Hxq (m1.at EA.out hnb)
  have z1:=lt_of_block E1.out
  clear h1 m1 HC
  unfold ConV
  simp only [Option.map_some,Option.getD_some,Option.isSome_some,valV]
  have mB:=(Mod.refl [] w1).alloc (Obj.cells #[Value.int .i64 c.k,Value.int .i64 c.n,Value.string (Lx.ofS c.s)] 42)
  have bB:=heap_alloc_new w1 (Obj.cells #[Value.int .i64 c.k,Value.int .i64 c.n,Value.string (Lx.ofS c.s)] 42)
  have aB:=mB.at E1.out (by simp)
  have H2:=Hxq (H1.out.past mB (by simp));have M2:=Hxq (M1.out.trans mB (by simp))
  obtain ⟨x0,x1,x2⟩:=cells3 bB
  obtain ⟨y0,y1,y2⟩:=cells3 aB
  have fA:∀ j,(w1.alloc (Obj.cells #[Value.int .i64 c.k,Value.int .i64 c.n,Value.string (Lx.ofS c.s)] 42)).frozen? ⟨w.heap.size,j,none⟩=false:=fun j=>free_at aB j
  have AB:=Lib.hid aB
  clear mB aB bB
  go_upto_region 5 with fail
  generalize w1.alloc (Obj.cells #[Value.int .i64 c.k,Value.int .i64 c.n,Value.string (Lx.ofS c.s)] 42)=wB at *
  go_wp2_with fail
  have mR:=setCs_mod w.heap.size [.int .i64 c.k,.int .i64 c.n,.string (Lx.ofS c.s)] 0 wB
  refine bodyPost_ret (results_cell_row rfl _ _ _ _ _ _ _ rfl (setCs_row (vs:=[.int .i64 c.k,.int .i64 c.n,.string (Lx.ofS c.s)]) AB.out rfl) Tryz.underlying42 rfl (by kernel_rfl)) rfl ⟨_,rfl,rfl,H2.out.new HLo.out mR (by simp),M2.out.trans mR (by simp)⟩
def valM:Pr.Term->World->Value->Prop:=fun c _ x=>x=.agg (tmV c)
theorem cells5 {w:World} {b:Nat} {a0 a1 a2 a3 a4:Value} {T:TypeId} {fr:Nat × Nat} (h:w.heap[b]?=some (.cells #[a0,a1,a2,a3,a4] T fr)) :
  w.cell? ⟨b,0,none⟩=some a0/\w.cell? ⟨b,1,none⟩=some a1/\w.cell? ⟨b,2,none⟩=some a2/\w.cell? ⟨b,3,none⟩=some a3/\w.cell? ⟨b,4,none⟩=some a4:=⟨cell_at h 0,cell_at h 1,cell_at h 2,cell_at h 3,cell_at h 4⟩
set_option maxHeartbeats 1000000 in
theorem term_any (b:Nat) (ra:Option Addr) (rc:Nat) (f:Value) (v:Sy.Env) (i:Nat) (w:World) (h:RdP w b ra rc f v i) (hv:EnvOk v) (hi:i<=69000) :
  Calls Tryz.prog 89 #[.pointer (some ⟨b,0,none⟩)] w (PRes b ra rc f v (Sy.term v i) valM w):=by
 have mA:=(Mod.refl [] w).alloc (Obj.cells #[Value.int IntKind.i64 0,Value.string ⟨#[]⟩,Value.int IntKind.i64 0,Value.int IntKind.i64 0,Value.string ⟨#[]⟩] 113)
 have hA:=h.past mA (by simp)
 have eA:=heap_alloc_new w (Obj.cells #[Value.int IntKind.i64 0,Value.string ⟨#[]⟩,Value.int IntKind.i64 0,Value.int IntKind.i64 0,Value.string ⟨#[]⟩] 113)
 have HP:=Hxq (peek0 b ra rc f v i _ hA hv (by omega))
 have HR:Hid (Sy.term v i=if (v.tk i).kind=2 then .ok ⟨1,Sy.txt (v.tk i).text,Va.zero⟩ (i+1)
  else if Sy.sign (v.tk i) [95]=true then .ok ⟨3,Sy.txt [],Va.zero⟩ (i+1)
  else (Sy.value v i).bind fun c j=>.ok ⟨2,Sy.txt [],c⟩ j):=Lib.hid rfl
 have HMy:=Hxq (fun w h=>may_any b ra rc f v i [95] { data:=#[95] } w h hv (by omega) rfl (by decide))
 have HV:=Hxq (fun w h=>value_any b ra rc f v i w h hv hi)
 have HLo:=Lib.hid h.low
 have hbl:=h.lt
 have HH:=Lib.hid hA;have EA:=Lib.hid eA;have MA:=Lib.hid mA
 clear h hA eA mA
 generalize Sy.sign (v.tk i) [95]=rs at *
 generalize Sy.value v i=o at *
 generalize Sy.term v i=q at *
 generalize v.tk i=t at *
 go_enter Tryz.func89,Tryz.ntmps89
 go_upto_region 1 with fail
 generalize w.alloc (Obj.cells #[Value.int IntKind.i64 0,Value.string ⟨#[]⟩,Value.int IntKind.i64 0,Value.int IntKind.i64 0,Value.string ⟨#[]⟩] 113)=wA at *
 go_wp2_with fail
 refine HP.out.mono ?_
 rintro e1 w1 ⟨rfl,m1⟩
 have E1:=Hxq (m1.at EA.out (by simp))
 have z1:=lt_of_block E1.out
 have mB:=(Mod.refl [] w1).alloc (Obj.cells (tokC t) 74)
 have bB:=heap_alloc_new w1 (Obj.cells (tokC t) 74)
 have HB:=Hxq ((HH.out.past m1 (by simp)).past mB (by simp));have AB:=Hxq (mB.at E1.out (by simp));have BB:=Lib.hid bB;have MB:=Hxq ((MA.out.trans m1 (by simp)).trans mB (by simp))
 have zB:(w1.alloc (Obj.cells (tokC t) 74)).heap.size=w1.heap.size+1:=by simp
 clear m1 mB bB HP
 unfold tokC at *
 go_upto_region 2 with fail
 generalize w1.alloc (Obj.cells _ 74)=wB at *
 obtain ⟨x0,x1,x2,x3,x4,x5,x6⟩:=tok_cells (t:=t) BB.out
 obtain ⟨c0,c1,c2,c3,c4,c5,fz⟩:=HB.out.cells
 have hnb:w.heap.size∉[b]:=by simp;omega
 by_cases k2:t.kind=2
 ·have hq:q=.ok ⟨1,Sy.txt t.text,Va.zero⟩ (i+1):=by rw [HR.out,if_pos k2]
  subst hq
  have b2:((t.kind:Int) == 2)=true:=by rw [k2];rfl
  have hT:=HB.out.to (i+1)
  have hnb1:w1.heap.size∉[b]:=by simp;omega
  have aC:(wB.setCell ⟨b,1,none⟩ (.int .i64 ((i:Int)+1))).heap[w.heap.size]?=_:=hT.2.at AB.out hnb
  have tC:(wB.setCell ⟨b,1,none⟩ (.int .i64 ((i:Int)+1))).heap[w1.heap.size]?=_:=hT.2.at BB.out hnb1
  have HC:Hid (RdP (wB.setCell ⟨b,1,none⟩ (.int .i64 ((i:Int)+1))) b ra rc f v (i+1)):=Lib.hid hT.1
  have MC:Hid (Mod [b] w (wB.setCell ⟨b,1,none⟩ (.int .i64 ((i:Int)+1)))):=Hxq ((MB.out.mono (T:=[b]) (by simp)).trans hT.2 (by simp))
  clear hT HR k2
  go_upto_region 4 with fail
  generalize wB.setCell ⟨b,1,none⟩ (.int .i64 ((i:Int)+1))=wC at *
  clear x0 x1 x2 x3 x4 x5 x6 c0 c1 c2 c3 c4 c5 fz
  obtain ⟨x0,x1,x2,x3,x4,x5,x6⟩:=tok_cells (t:=t) tC
  obtain ⟨y0,y1,y2,y3,y4⟩:=cells5 aC
  have fA:∀ j,wC.frozen? ⟨w.heap.size,j,none⟩=false:=fun j=>free_at aC j
  have AC:=Lib.hid aC
  clear aC tC
  go_wp2_with fail
  have mR:=setCs_mod w.heap.size [.int .i64 1,.string (Lx.ofS t.text),.int .i64 0,.int .i64 0,.string ⟨#[]⟩] 0 wC
  refine bodyPost_ret (results_cell_row rfl _ _ _ _ _ _ _ rfl (setCs_row (vs:=[.int .i64 1,.string (Lx.ofS t.text),.int .i64 0,.int .i64 0,.string ⟨#[]⟩]) AC.out rfl) Tryz.underlying113 rfl (by kernel_rfl)) rfl ⟨_,rfl,rfl,HC.out.new HLo.out mR (by simp),MC.out.trans mR (by simp)⟩
 ·have b2:((t.kind:Int) == 2)=false:=by rw [beq_eq_false_iff_ne];omega
  have HR2:Hid (q=if rs=true then .ok ⟨3,Sy.txt [],Va.zero⟩ (i+1) else o.bind fun c j=>.ok ⟨2,Sy.txt [],c⟩ j):=Hxq (by rw [HR.out,if_neg k2])
  clear HR k2 c0 c1 c2 c3 c4 c5 fz
  go_wp2_with fail
  refine (HMy.out wB HB.out).mono ?_
  rintro e2 w2 ⟨rfl,h2,m2⟩
  have M2:=Hxq ((MB.out.mono (T:=[b]) (by simp)).trans m2 (by simp));have A2:=Hxq (m2.at AB.out hnb)
  clear x0 x1 x2 x3 x4 x5 x6 m2
  cases rs
  ·have hq:q=o.bind fun c j=>.ok ⟨2,Sy.txt [],c⟩ j:=HR2.out
   have H2:=Hxq (show RdP w2 b ra rc f v i from h2)
   clear h2 HR2
   cases o with
   | err g =>
    have hq2:q=.err g:=hq
    subst hq2
    clear hq
    go_wp2_with fail
    refine (HV.out w2 H2.out).mono ?_
    rintro e3 w3 ⟨rfl,m3⟩
    have M3:=Hxq (M2.out.trans m3 (by simp))
    clear m3
    unfold stopE
    go_wp2_with fail
    exact ⟨rfl,rfl,M3.out⟩
   | ok c j =>
    have hq2:q=.ok ⟨2,Sy.txt [],c⟩ j:=hq
    subst hq2
    clear hq
    go_wp2_with fail
    refine (HV.out w2 H2.out).mono ?_
    rintro e3 w3 ⟨x,rfl,hx,h3,m3⟩
    unfold valC at hx
    subst hx
    have H3:=Lib.hid h3;have M3:=Hxq (M2.out.trans m3 (by simp));have a3:=m3.at A2.out hnb
    obtain ⟨y0,y1,y2,y3,y4⟩:=cells5 a3
    have fA:∀ j,w3.frozen? ⟨w.heap.size,j,none⟩=false:=fun j=>free_at a3 j
    have A3:=Lib.hid a3
    clear h3 m3 a3
    unfold valV
    go_wp2_with fail
    have mR:=setCs_mod w.heap.size [.int .i64 2,.string ⟨#[]⟩,.int .i64 c.k,.int .i64 c.n,.string (Lx.ofS c.s)] 0 w3
    refine bodyPost_ret (results_cell_row rfl _ _ _ _ _ _ _ rfl (setCs_row (vs:=[.int .i64 2,.string ⟨#[]⟩,.int .i64 c.k,.int .i64 c.n,.string (Lx.ofS c.s)]) A3.out rfl) Tryz.underlying113 rfl (by kernel_rfl)) rfl ⟨_,rfl,rfl,H3.out.new HLo.out mR (by simp),M3.out.trans mR (by simp)⟩
  ·have hq:q=.ok ⟨3,Sy.txt [],Va.zero⟩ (i+1):=HR2.out
   subst hq
   have H2:=Hxq (show RdP w2 b ra rc f v (i+1) from h2)
   obtain ⟨y0,y1,y2,y3,y4⟩:=cells5 A2.out
   have fA:∀ j,w2.frozen? ⟨w.heap.size,j,none⟩=false:=fun j=>free_at A2.out j
   clear h2 HR2
   go_wp2_with fail
   have mR:=setCs_mod w.heap.size [.int .i64 3,.string ⟨#[]⟩,.int .i64 0,.int .i64 0,.string ⟨#[]⟩] 0 w2
   refine bodyPost_ret (results_cell_row rfl _ _ _ _ _ _ _ rfl (setCs_row (vs:=[.int .i64 3,.string ⟨#[]⟩,.int .i64 0,.int .i64 0,.string ⟨#[]⟩]) A2.out rfl) Tryz.underlying113 rfl (by kernel_rfl)) rfl ⟨_,rfl,rfl,H2.out.new HLo.out mR (by simp),M2.out.trans mR (by simp)⟩
end Go.Proofs.YtppigckioalhhaaGreatDoorR
