/- THE TEXTS MERGED: PwOpen PwLim. -/
import Derived.Test.YtohnmnfhmbmoaaaGreatDoorKG32
import Derived.ProofKit
import Derived.OpenShut
import Derived.Deep.Slices
import Derived.Deep.Fields
namespace Go.Proofs.YtohnmnfhmbmoaaaGreatDoor
open Go.ChangeShapes Go.WideShapes Go.ChangeAt Go.RowKit
set_option linter.unusedVariables false
set_option linter.unusedSimpArgs false
set_option maxRecDepth 100000
theorem exists_listO {α:Type} (P:Nat->α->Prop):∀ (n:Nat),(∀ i,i<n->∃ x,P i x)->∃ xs:List α,xs.length=n/\∀ i (hi:i<xs.length),P i xs[i]
 | 0,_=>⟨[],rfl,fun i hi=>by simp at hi⟩
 | n+1,h=>by
  obtain ⟨xs,hl,hp⟩:=exists_listO P n (fun i hi=>h i (by omega))
  obtain ⟨x,hx⟩:=h n (by omega)
  refine ⟨xs++[x],by simp [hl],fun i hi=>?_⟩
  by_cases e:i<xs.length
  ·rw [List.getElem_append_left e];exact hp i e
  ·have:i=n:=by simp at hi;omega
   subst this
   have e2:(xs++[x])[i]=x:=by
    rw [List.getElem_append_right (by omega)];simp [hl]
   rw [e2];exact hx
theorem add_plain (b o k:Nat):(⟨b,o,none⟩:Addr).add k=⟨b,o+k,none⟩:=by
 simp [Addr.add]
theorem bulk_sum {α H:Type} (f:α->Nat):∀ (bs:List α) (ds:List (DataW H)),bs.length=ds.length->(∀ i (h:i<bs.length) (h2:i<ds.length),f bs[i]<=1000 * Rows.uptoBulk ds[i])->(bs.map f).sum<=1000 * Rows.uptoBulkAll ds
 | [],_,_,_=>by simp
 | a :: bs,d :: ds,hl,h=>by
  have h0:=h 0 (by simp) (by simp)
  have ih:=bulk_sum f bs ds (by simpa using hl) (fun i h1 h2=>by
   have:=h (i+1) (by simpa using h1) (by simpa using h2)
   simpa using this)
  simp only [List.map_cons,List.sum_cons,Rows.uptoBulkAll]
  simp only [List.getElem_cons_zero] at h0
  omega
/-- a slice of anything, out of its reading; whose room is told, too -/
theorem open_rows {α H:Type} {enc:TypeId × Value->H} {W:World} {T e:TypeId} {C fuel:Nat} {cs:List Value} {x:DataW H × List MemPlace} (ht:Tryz.prog.underlying T=some (.slice e)) (hC:Tryz.prog.cellsOf e=C) (hC0:0<C) (Q:α->List Value->Prop) (f:α->Nat)
  (h:DataW.trod enc Tryz.prog W 0 (fun _=>true) true fuel T cs=some x)
  (each:∀ n cs' y,fuel=n+1->DataW.trod enc Tryz.prog W 0 (fun _=>true) true n e cs'=some y->∃ a:α,(Q a cs'/\cs'.length=C)/\f a<=1000 * Rows.uptoBulk y.1) :
  ∃ (u:Value) (bs:List α),cs=[u]/\(bs.map f).sum+1000<=1000 * Rows.uptoBulk x.1 /\
   ((bs=[]/\∃ a c,u=.slice a 0 c)\/∃ b off c,u=.slice (some ⟨b,off,none⟩) bs.length c/\bs.length<=c/\∀ i (hi:i<bs.length),∃ cs',(∀ (j:Nat) v,cs'[j]?=some v->W.cell? ⟨b,off+i * C+j,none⟩=some v)/\Q bs[i] cs'):=by
 rcases DataW.trod_slice ht h with ⟨hcs,hx⟩ | ⟨a,len,cap,elems,rest,n,hfu,hcs,hx,hb,hl,hm,hlen,hel,-,-⟩
 ·exact ⟨_,[],hcs,by rw [hx];simp [Rows.uptoBulk],.inl ⟨rfl,_,_,rfl⟩⟩
 ·rw [hC] at hel
  obtain ⟨bs,hal,hap⟩:=exists_listO (fun i (b:α)=>∃ cs',W.cells? 0 (a.add (i * C)) C=some cs'/\(Q b cs'/\cs'.length=C)/\∀ h:i<elems.length,f b<=1000 * Rows.uptoBulk elems[i].1) len (fun i hil=>by
   have hb:=hel i hil
   rw [List.getElem?_eq_getElem (by omega)] at hb
   obtain ⟨cs',h1,h2⟩:=Option.bind_eq_some_iff.1 hb
   obtain ⟨b,q1,q2⟩:=each n cs' _ hfu h2
   exact ⟨b,cs',h1,q1,fun _=>q2⟩)
  have hsum:=bulk_sum f bs (elems.map (·.1)) (by simp [hal,hlen]) (fun i h1 h2=>by
   obtain ⟨cs',-,-,hw⟩:=hap i h1
   have:=hw (by simpa using h2)
   simpa using this)
  subst hcs
  refine ⟨_,bs,rfl,?_,?_⟩
  ·rw [hx]
   simp only [Rows.uptoBulk]
   omega
  ·rcases Nat.eq_zero_or_pos len with h0 | h0
   ·subst h0
    exact .inl ⟨List.eq_nil_of_length_eq_zero hal,_,_,rfl⟩
   ·obtain ⟨b,off,spot⟩:=a
    have hspot:spot=none:=by
     obtain ⟨cs',hc,⟨-,hcl⟩,-⟩:=hap 0 (by omega)
     obtain ⟨-,-,hat⟩:=World.cells?_some hc
     have h00:=hat 0 (by omega)
     rw [List.getElem?_eq_getElem (by omega)] at h00
     simp [Addr.add] at h00
     simpa using World.cell?_spot h00
    subst hspot
    refine .inr ⟨b,off,cap,by rw [hal],by omega,fun i hi=>?_⟩
    obtain ⟨cs',hc,⟨hq,hcl⟩,-⟩:=hap i hi
    obtain ⟨-,hl2,hat⟩:=World.cells?_some hc
    refine ⟨cs',fun j v hj=>?_,hq⟩
    have hjl:j<cs'.length:=(List.getElem?_eq_some_iff.1 hj).1
    have:=hat j (by omega)
    rw [hj,add_plain,add_plain] at this
    exact this
/-- all blocks -/
def All (_:Nat):Prop:=True
/-- rows as the parser's lists -/
theorem row_of {α:Type} {W:World} {n:Nat} {f:α->Array Value} {u:Value} {bs:List α} (h0:0<n) (hn:∀ x,(f x).size=n)
  (hr:(bs=[]/\∃ a c,u=.slice a 0 c)\/∃ b off c,u=.slice (some ⟨b,off,none⟩) bs.length c/\bs.length<=c/\∀ i (hi:i<bs.length),∃ cs',(∀ (j:Nat) v,cs'[j]?=some v->W.cell? ⟨b,off+i * n+j,none⟩=some v)/\cs'=(f bs[i]).toList):RowB All W n f bs u:=by
 rcases hr with ⟨rfl,a,c,rfl⟩ | ⟨b,off,c,rfl,hcap,hi⟩
 ·exact .nil
 ·cases bs with
  | nil=>exact .nil
  | cons x r =>
   have hb:b<W.heap.size:=by
    obtain ⟨cs',hc,rfl⟩:=hi 0 (by simp)
    have hsz:0<(f x).toList.length:=by rw [Array.length_toList,hn];exact h0
    exact World.block_lt_of_cell? W ⟨b,_,none⟩ (hc 0 _ (List.getElem?_eq_getElem hsz))
   refine .row trivial hb (fun i hil=>?_) hcap
   obtain ⟨cs',hc,rfl⟩:=hi i hil
   exact fun j y hy=>hc j y (by simpa using hy)
/-- a reading's rows, their things apart -/
theorem row_and {α:Type} {W:World} {n:Nat} {u:Value} {bs:List α} {Q:α->List Value->Prop} {f:α->Array Value} {R:α->Prop}
  (hQ:∀ a cs,Q a cs->cs=(f a).toList/\R a) (hr:(bs=[]/\∃ a c,u=.slice a 0 c)\/∃ b off c,u=.slice (some ⟨b,off,none⟩) bs.length c/\bs.length<=c/\∀ i (hi:i<bs.length),∃ cs',(∀ (j:Nat) v,cs'[j]?=some v->W.cell? ⟨b,off+i * n+j,none⟩=some v)/\Q bs[i] cs')
  (h0:0<n) (hn:∀ x,(f x).size=n):RowB All W n f bs u/\∀ p∈bs,R p:=by
 refine ⟨row_of h0 hn ?_,fun p hp=>?_⟩
 ·rcases hr with h | ⟨b,off,c,h1,h2,h3⟩
  ·exact .inl h
  ·refine .inr ⟨b,off,c,h1,h2,fun i hi=>?_⟩
   obtain ⟨cs',hc,hq⟩:=h3 i hi
   exact ⟨cs',hc,(hQ _ _ hq).1⟩
 ·rcases hr with ⟨rfl,-⟩ | ⟨b,off,c,h1,h2,h3⟩
  ·cases hp
  ·obtain ⟨i,hi,rfl⟩:=List.mem_iff_getElem.1 hp
   obtain ⟨cs',hc,hq⟩:=h3 i hi
   exact (hQ _ _ hq).2
theorem bulk_agg {H:Type} (l:List (DataW H)):Rows.uptoBulk (.agg l)=Rows.uptoBulkAll l+1:=rfl
theorem bulk_pos {H:Type} (d:DataW H):1<=Rows.uptoBulk d:=by
 cases d with
 | lit l=>cases l <;> simp [Rows.uptoBulk]
 | nil=>simp [Rows.uptoBulk]
 | ptr d=>simp [Rows.uptoBulk]
 | slice elems spare=>simp [Rows.uptoBulk]
 | agg parts=>simp [Rows.uptoBulk]
 | iface t d=>simp [Rows.uptoBulk]
 | map entries=>simp [Rows.uptoBulk]
 | held h=>simp [Rows.uptoBulk]
theorem Tryz.underVal:∃ fs f0 f1 f2,Tryz.prog.underlying 35=some (.struct fs)/\fs=#[f0,f1,f2]/\f0.offset=0/\f1.offset=1/\f2.offset=2/\f0.type=3/\f1.type=3/\f2.type=9 :=
 ⟨_,_,_,_,Tryz.underlying35,rfl,rfl,rfl,rfl,rfl,rfl,rfl⟩
theorem Tryz.underTerm:∃ fs f0 f1 f2,Tryz.prog.underlying 88=some (.struct fs)/\fs=#[f0,f1,f2]/\f0.offset=0/\f1.offset=1/\f2.offset=2/\f0.type=3/\f1.type=9/\f2.type=35 :=
 ⟨_,_,_,_,Tryz.underlying88,rfl,rfl,rfl,rfl,rfl,rfl,rfl⟩
theorem Tryz.underAtom:∃ fs f0 f1,Tryz.prog.underlying 42=some (.struct fs)/\fs=#[f0,f1]/\f0.offset=0/\f1.offset=1/\f0.type=9/\f1.type=40 :=
 ⟨_,_,_,Tryz.underlying42,rfl,rfl,rfl,rfl,rfl⟩
theorem Tryz.underExpr:∃ fs f0 f1 f2 f3 f4,Tryz.prog.underlying 38=some (.struct fs)/\fs=#[f0,f1,f2,f3,f4]/\f0.offset=0/\f1.offset=1/\f2.offset=2/\f3.offset=5/\f4.offset=6/\f0.type=3/\f1.type=9/\f2.type=35/\f3.type=3/\f4.type=36 :=
 ⟨_,_,_,_,_,_,Tryz.underlying38,rfl,rfl,rfl,rfl,rfl,rfl,rfl,rfl,rfl,rfl,rfl⟩
theorem Tryz.underAgg:∃ fs f0 f1 f2 f3,Tryz.prog.underlying 45=some (.struct fs)/\fs=#[f0,f1,f2,f3]/\f0.offset=0/\f1.offset=1/\f2.offset=2/\f3.offset=9/\f0.type=3/\f1.type=9/\f2.type=38/\f3.type=43 :=
 ⟨_,_,_,_,_,Tryz.underlying45,rfl,rfl,rfl,rfl,rfl,rfl,rfl,rfl,rfl⟩
theorem Tryz.underPos:∃ fs f0 f1,Tryz.prog.underlying 47=some (.struct fs)/\fs=#[f0,f1]/\f0.offset=0/\f1.offset=1/\f0.type=3/\f1.type=3 :=
 ⟨_,_,_,Tryz.underlying47,rfl,rfl,rfl,rfl,rfl⟩
theorem Tryz.underLit:∃ fs f0 f1 f2 f3 f4 f5 f6,Tryz.prog.underlying 49=some (.struct fs)/\fs=#[f0,f1,f2,f3,f4,f5,f6]/\f0.offset=0/\f1.offset=1/\f2.offset=3/\f3.offset=4/\f4.offset=11/\f5.offset=18/\f6.offset=28/\f0.type=3/\f1.type=42/\f2.type=3/\f3.type=38/\f4.type=38/\f5.type=45/\f6.type=47 :=
 ⟨_,_,_,_,_,_,_,_,Tryz.underlying49,rfl,rfl,rfl,rfl,rfl,rfl,rfl,rfl,rfl,rfl,rfl,rfl,rfl,rfl,rfl⟩
theorem Tryz.underRule:∃ fs f0 f1 f2,Tryz.prog.underlying 63=some (.struct fs)/\fs=#[f0,f1,f2]/\f0.offset=0/\f1.offset=2/\f2.offset=3/\f0.type=42/\f1.type=43/\f2.type=47 :=
 ⟨_,_,_,_,Tryz.underlying63,rfl,rfl,rfl,rfl,rfl,rfl,rfl⟩
theorem Tryz.underRel:∃ fs f0 f1 f2,Tryz.prog.underlying 70=some (.struct fs)/\fs=#[f0,f1,f2]/\f0.offset=0/\f1.offset=1/\f2.offset=2/\f0.type=9/\f1.type=68/\f2.type=47 :=
 ⟨_,_,_,_,Tryz.underlying70,rfl,rfl,rfl,rfl,rfl,rfl,rfl⟩
theorem Tryz.underProg:∃ fs f0 f1,Tryz.prog.underlying 25=some (.struct fs)/\fs=#[f0,f1]/\f0.offset=0/\f1.offset=1/\f0.type=22/\f1.type=23 :=
 ⟨_,_,_,Tryz.underlying25,rfl,rfl,rfl,rfl,rfl⟩
/-- one value, out of its reading -/
theorem open_val_cells {H:Type} {enc:TypeId × Value->H} {W:World} {fuel:Nat} {cs:List Value} {x:DataW H × List MemPlace}
  (h:DataW.trod enc Tryz.prog W 0 (fun _=>true) true fuel 35 cs=some x) :
  ∃ v:Va.Val,cs=(valV v).toList/\Rt.VO v:=by
 obtain ⟨fs,f0,f1,f2,hu,rfl,o0,o1,o2,t0,t1,t2⟩:=Tryz.underVal
 obtain ⟨ys,n,hfu,hx,hlen,hyl,hf⟩:=DataW.trod_struct hu h
 rw [show Tryz.prog.cellsOf 35=3 by kernel_rfl] at hlen
 match cs,hlen,ys,hyl with
 | [c0,c1,c2],_,[y0,y1,y2],_ =>
  have h0:=hf 0 f0 rfl
  rw [o0,t0,show Tryz.prog.cellsOf 3=1 by kernel_rfl] at h0
  have h1:=hf 1 f1 rfl
  rw [o1,t1,show Tryz.prog.cellsOf 3=1 by kernel_rfl] at h1
  have h2:=hf 2 f2 rfl
  rw [o2,t2,show Tryz.prog.cellsOf 9=1 by kernel_rfl] at h2
  simp at h0 h1 h2
  obtain ⟨k,e0,e0',w0⟩:=DataW.trod_int Tryz.underlying3 h0
  obtain ⟨m,e1,e1',w1⟩:=DataW.trod_int Tryz.underlying3 h1
  obtain ⟨s,e2,e2',w2⟩:=DataW.trod_string Tryz.underlying9 h2
  have r1:-9223372036854775808<=m/\m<=9223372036854775807:=by
   simp [Lit.wf,IntKind.min,IntKind.max,IntKind.signed,IntKind.bits] at w1
   omega
  simp at e0 e1 e2
  subst e0 e1 e2
  refine ⟨⟨k,m,Cod.str s⟩,?_,⟨Cod.str_lt s,r1.1,r1.2⟩⟩
  simp [valV,Lx.ofS_str]
def TmQ (t:Pr.Term) (cs:List Value):Prop:=cs=[.int .i64 t.k,.string t.v,.int .i64 t.x.k,.int .i64 t.x.n,.string (Lx.ofS t.x.s)]/\Rt.VO t.x
theorem open_term {H:Type} {enc:TypeId × Value->H} {W:World} {fuel:Nat} {cs:List Value} {x:DataW H × List MemPlace}
  (h:DataW.trod enc Tryz.prog W 0 (fun _=>true) true fuel 88 cs=some x) :
  ∃ t:Pr.Term,(TmQ t cs/\cs.length=5)/\t.v.size+300<=1000 * Rows.uptoBulk x.1:=by
 obtain ⟨fs,f0,f1,f2,hu,rfl,o0,o1,o2,t0,t1,t2⟩:=Tryz.underTerm
 obtain ⟨ys,n,hfu,hx,hlen,hyl,hf⟩:=DataW.trod_struct hu h
 rw [show Tryz.prog.cellsOf 88=5 by kernel_rfl] at hlen
 match cs,hlen,ys,hyl with
 | [c0,c1,c2,c3,c4],_,[y0,y1,y2],_ =>
  have h0:=hf 0 f0 rfl
  rw [o0,t0,show Tryz.prog.cellsOf 3=1 by kernel_rfl] at h0
  have h1:=hf 1 f1 rfl
  rw [o1,t1,show Tryz.prog.cellsOf 9=1 by kernel_rfl] at h1
  have h2:=hf 2 f2 rfl
  rw [o2,t2,show Tryz.prog.cellsOf 35=3 by kernel_rfl] at h2
  simp at h0 h1 h2
  obtain ⟨k,e0,e0',w0⟩:=DataW.trod_int Tryz.underlying3 h0
  obtain ⟨s,e1,e1',w1⟩:=DataW.trod_string Tryz.underlying9 h1
  obtain ⟨v,e2,hok⟩:=open_val_cells h2
  simp [valV] at e0 e1 e2
  obtain ⟨e2,e3,e4⟩:=e2
  subst e0 e1 e2 e3 e4
  refine ⟨⟨k,s,v⟩,⟨⟨rfl,hok⟩,rfl⟩,?_⟩
  rw [hx]
  have:=bulk_pos y2.1
  simp only [List.map_cons,List.map_nil,bulk_agg,Rows.uptoBulkAll,e0',e1',Rows.uptoBulk]
  have hs:s.data.toList.length=s.size:=by simp
  rw [hs]
  show s.size+300<=_
  omega
theorem open_atom {H:Type} {enc:TypeId × Value->H} {W:World} {fuel:Nat} {cs:List Value} {x:DataW H × List MemPlace}
  (h:DataW.trod enc Tryz.prog W 0 (fun _=>true) true fuel 42 cs=some x) :
  ∃ (a:Pr.Atom) (tu:Value),cs=[.string a.rel,tu]/\(RowB All W 5 tmV a.terms tu/\∀ t∈a.terms,Rt.VO t.x)/\aWt a<=1000 * Rows.uptoBulk x.1:=by
 obtain ⟨fs,f0,f1,hu,rfl,o0,o1,t0,t1⟩:=Tryz.underAtom
 obtain ⟨ys,n,hfu,hx,hlen,hyl,hf⟩:=DataW.trod_struct hu h
 rw [show Tryz.prog.cellsOf 42=2 by kernel_rfl] at hlen
 match cs,hlen,ys,hyl with
 | [c0,c1],_,[y0,y1],_ =>
  have h0:=hf 0 f0 rfl
  rw [o0,t0,show Tryz.prog.cellsOf 9=1 by kernel_rfl] at h0
  have h1:=hf 1 f1 rfl
  rw [o1,t1,show Tryz.prog.cellsOf 40=1 by kernel_rfl] at h1
  simp at h0 h1
  obtain ⟨s,e0,e0',w0⟩:=DataW.trod_string Tryz.underlying9 h0
  obtain ⟨u,ts,e1,hw,hr⟩:=open_rows Tryz.underlying40 (by kernel_rfl:Tryz.prog.cellsOf 88=5) (by decide) TmQ (fun t=>t.v.size+300) h1 (fun n cs' y _ h=>open_term h)
  simp at e0 e1
  subst e0 e1
  refine ⟨⟨s,ts⟩,c1,rfl,?_,?_⟩
  ·exact row_and (Q:=TmQ) (R:=fun t=>Rt.VO t.x) (fun a cs h=>⟨h.1,h.2⟩) hr (by decide) tmV_size
  ·rw [hx]
   simp only [List.map_cons,List.map_nil,bulk_agg,Rows.uptoBulkAll,e0',Rows.uptoBulk]
   have hs:s.data.toList.length=s.size:=by simp
   rw [hs]
   show s.size+300+(ts.map fun t=>t.v.size+300).sum<=_
   omega
def ExQ (W:World) (p:Pr.Ex × Value) (cs:List Value):Prop:=cs=(exV p.1 p.2).toList/\EB All W p.1 p.2/\Rt.ExV p.1
theorem exWts_sum:∀ l:List Pr.Ex,exWts l=(l.map exWt).sum
 | []=>by simp [exWts]
 | e :: r=>by simp only [exWts,List.map_cons,List.sum_cons];rw [exWts_sum r]
theorem open_expr {H:Type} {enc:TypeId × Value->H} {W:World}:∀ (fuel:Nat) {cs:List Value} {x:DataW H × List MemPlace}
  (h:DataW.trod enc Tryz.prog W 0 (fun _=>true) true fuel 38 cs=some x),
  ∃ p:Pr.Ex × Value,(ExQ W p cs/\cs.length=7)/\exWt p.1<=1000 * Rows.uptoBulk x.1:=by
 intro fuel
 induction fuel using Nat.strongRecOn with
 | ind fuel ih =>
 intro cs x h
 obtain ⟨fs,f0,f1,f2,f3,f4,hu,rfl,o0,o1,o2,o3,o4,t0,t1,t2,t3,t4⟩:=Tryz.underExpr
 obtain ⟨ys,n,hfu,hx,hlen,hyl,hf⟩:=DataW.trod_struct hu h
 rw [show Tryz.prog.cellsOf 38=7 by kernel_rfl] at hlen
 match cs,hlen,ys,hyl with
 | [c0,c1,c2,c3,c4,c5,c6],_,[y0,y1,y2,y3,y4],_ =>
  have h0:=hf 0 f0 rfl
  rw [o0,t0,show Tryz.prog.cellsOf 3=1 by kernel_rfl] at h0
  have h1:=hf 1 f1 rfl
  rw [o1,t1,show Tryz.prog.cellsOf 9=1 by kernel_rfl] at h1
  have h2:=hf 2 f2 rfl
  rw [o2,t2,show Tryz.prog.cellsOf 35=3 by kernel_rfl] at h2
  have h3:=hf 3 f3 rfl
  rw [o3,t3,show Tryz.prog.cellsOf 3=1 by kernel_rfl] at h3
  have h4:=hf 4 f4 rfl
  rw [o4,t4,show Tryz.prog.cellsOf 36=1 by kernel_rfl] at h4
  simp at h0 h1 h2 h3 h4
  obtain ⟨k,e0,e0',w0⟩:=DataW.trod_int Tryz.underlying3 h0
  obtain ⟨op,e3,e3',w3⟩:=DataW.trod_int Tryz.underlying3 h3
  obtain ⟨s,e1,e1',w1⟩:=DataW.trod_string Tryz.underlying9 h1
  obtain ⟨v,e2,hok⟩:=open_val_cells h2
  obtain ⟨u,bs,e4,hw,hr⟩:=open_rows Tryz.underlying36 (by kernel_rfl:Tryz.prog.cellsOf 38=7) (by decide) (ExQ W) (fun p=>exWt p.1) h4 (fun n' cs' y hn h=>ih n' (by omega) h)
  simp [valV] at e0 e1 e2 e3 e4
  obtain ⟨e2,e5,e6⟩:=e2
  subst e0 e1 e2 e3 e4 e5 e6
  refine ⟨(.mk k s v op (bs.map (·.1)),c6),⟨⟨rfl,?_⟩,rfl⟩,?_⟩
  ·obtain ⟨hrow,hall⟩:=row_and (Q:=ExQ W) (f:=csX) (R:=fun p=>EB All W p.1 p.2/\Rt.ExV p.1) (fun a cs h=>⟨h.1,h.2⟩) hr (by decide) bearsX.size
   refine ⟨EB.of_row bs hrow (fun p hp=>(hall p hp).1),.mk hok (fun a ha=>?_)⟩
   obtain ⟨q,hq,rfl⟩:=List.mem_map.1 ha
   exact (hall q hq).2
  ·rw [hx]
   have:=bulk_pos y2.1
   simp only [List.map_cons,List.map_nil,bulk_agg,Rows.uptoBulkAll,e0',e1',e3',Rows.uptoBulk]
   have hs:s.data.toList.length=s.size:=by simp
   rw [hs]
   rw [exWt_eq]
   show s.size+300+exWts (bs.map (·.1))<=_
   rw [exWts_sum,List.map_map]
   have e:(bs.map (exWt ∘ (·.1))).sum=(bs.map fun p=>exWt p.1).sum:=rfl
   rw [e]
   omega
theorem open_pos {H:Type} {enc:TypeId × Value->H} {W:World} {fuel:Nat} {cs:List Value} {x:DataW H × List MemPlace}
  (h:DataW.trod enc Tryz.prog W 0 (fun _=>true) true fuel 47 cs=some x) :
  ∃ ln cl:Int,cs=[.int .i64 ln,.int .i64 cl]:=by
 obtain ⟨fs,f0,f1,hu,rfl,o0,o1,t0,t1⟩:=Tryz.underPos
 obtain ⟨ys,n,hfu,hx,hlen,hyl,hf⟩:=DataW.trod_struct hu h
 rw [show Tryz.prog.cellsOf 47=2 by kernel_rfl] at hlen
 match cs,hlen,ys,hyl with
 | [c0,c1],_,[y0,y1],_ =>
  have h0:=hf 0 f0 rfl
  rw [o0,t0,show Tryz.prog.cellsOf 3=1 by kernel_rfl] at h0
  have h1:=hf 1 f1 rfl
  rw [o1,t1,show Tryz.prog.cellsOf 3=1 by kernel_rfl] at h1
  simp at h0 h1
  obtain ⟨k,e0,e0',w0⟩:=DataW.trod_int Tryz.underlying3 h0
  obtain ⟨m,e1,e1',w1⟩:=DataW.trod_int Tryz.underlying3 h1
  simp at e0 e1
  subst e0 e1
  exact ⟨k,m,rfl⟩
theorem drop_split {α:Type} (l:List α) (a b:Nat):l.drop a=(l.drop a).take b++l.drop (a+b):=by
 conv=>lhs;rw [<-List.take_append_drop b (l.drop a),List.drop_drop]
theorem seven {α:Type} (l:List α) (h:l.length=30) {p0 p1 p2 p3 p4 p5 p6:List α} (h0:(l.drop 0).take 1=p0) (h1:(l.drop 1).take 2=p1) (h2:(l.drop 3).take 1=p2) (h3:(l.drop 4).take 7=p3) (h4:(l.drop 11).take 7=p4) (h5:(l.drop 18).take 10=p5) (h6:(l.drop 28).take 2=p6) :
  l=p0++(p1++(p2++(p3++(p4++(p5++p6))))):=by
 subst h0 h1 h2 h3 h4 h5 h6
 have e6:l.drop 28=(l.drop 28).take 2:=by rw [List.take_of_length_le];simp [h]
 rw [<-e6,<-drop_split l 18 10,<-drop_split l 11 7,<-drop_split l 4 7,<-drop_split l 3 1,<-drop_split l 1 2,<-drop_split l 0 1]
 rfl
def LiQ (W:World) (p:Pr.Li × LU) (cs:List Value):Prop:=cs=(liV p.1 p.2).toList/\LB All W p.1 p.2/\Rt.LiV p.1
theorem lsWt_sum:∀ l:List Pr.Li,lsWt l=(l.map lWt).sum
 | []=>by simp [lsWt]
 | e :: r=>by simp only [lsWt,List.map_cons,List.sum_cons];rw [lsWt_sum r]
/-- literals in a row -/
theorem lits_row {W:World} {u:Value} {bs:List (Pr.Li × LU)} (hr:(bs=[]/\∃ a c,u=.slice a 0 c)\/∃ b off c,u=.slice (some ⟨b,off,none⟩) bs.length c/\bs.length<=c/\∀ i (hi:i<bs.length),∃ cs',(∀ (j:Nat) v,cs'[j]?=some v->W.cell? ⟨b,off+i * 30+j,none⟩=some v)/\LiQ W bs[i] cs'):BB All W (bs.map (·.1)) u/\∀ x∈bs.map (·.1),Rt.LiV x:=by
 obtain ⟨hrow,hall⟩:=row_and (Q:=LiQ W) (f:=csL) (R:=fun p=>LB All W p.1 p.2/\Rt.LiV p.1) (fun a cs h=>⟨h.1,h.2⟩) hr (by decide) liV_size
 refine ⟨BB.of_row bs hrow (fun p hp=>(hall p hp).1),fun x hx=>?_⟩
 obtain ⟨q,hq,rfl⟩:=List.mem_map.1 hx
 exact (hall q hq).2
theorem open_lit {H:Type} {enc:TypeId × Value->H} {W:World}:∀ (fuel:Nat) {cs:List Value} {x:DataW H × List MemPlace}
  (h:DataW.trod enc Tryz.prog W 0 (fun _=>true) true fuel 49 cs=some x),
  ∃ p:Pr.Li × LU,(LiQ W p cs/\cs.length=30)/\lWt p.1<=1000 * Rows.uptoBulk x.1:=by
 intro fuel
 induction fuel using Nat.strongRecOn with
 | ind fuel ih =>
 intro cs x h
 obtain ⟨fs,f0,f1,f2,f3,f4,f5,f6,hu,rfl,o0,o1,o2,o3,o4,o5,o6,t0,t1,t2,t3,t4,t5,t6⟩:=Tryz.underLit
 obtain ⟨ys,n,hfu,hx,hlen,hyl,hf⟩:=DataW.trod_struct hu h
 rw [show Tryz.prog.cellsOf 49=30 by kernel_rfl] at hlen
 match ys,hyl with
 | [y0,y1,y2,y3,y4,y5,y6],_ =>
  have h0:=hf 0 f0 rfl
  rw [o0,t0,show Tryz.prog.cellsOf 3=1 by kernel_rfl] at h0
  have h1:=hf 1 f1 rfl
  rw [o1,t1,show Tryz.prog.cellsOf 42=2 by kernel_rfl] at h1
  have h2:=hf 2 f2 rfl
  rw [o2,t2,show Tryz.prog.cellsOf 3=1 by kernel_rfl] at h2
  have h3:=hf 3 f3 rfl
  rw [o3,t3,show Tryz.prog.cellsOf 38=7 by kernel_rfl] at h3
  have h4:=hf 4 f4 rfl
  rw [o4,t4,show Tryz.prog.cellsOf 38=7 by kernel_rfl] at h4
  have h5:=hf 5 f5 rfl
  rw [o5,t5,show Tryz.prog.cellsOf 45=10 by kernel_rfl] at h5
  have h6:=hf 6 f6 rfl
  rw [o6,t6,show Tryz.prog.cellsOf 47=2 by kernel_rfl] at h6
  change _=some y0 at h0
  change _=some y1 at h1
  change _=some y2 at h2
  change _=some y3 at h3
  change _=some y4 at h4
  change _=some y5 at h5
  change _=some y6 at h6
  obtain ⟨k,e0,e0',w0⟩:=DataW.trod_int Tryz.underlying3 h0
  obtain ⟨op,e2,e2',w2⟩:=DataW.trod_int Tryz.underlying3 h2
  obtain ⟨a,tu,e1,hT,wa⟩:=open_atom h1
  obtain ⟨⟨le,lu⟩,⟨⟨e3,hl,vl⟩,-⟩,wl⟩:=open_expr _ h3
  obtain ⟨⟨re,ru⟩,⟨⟨e4,hr,vr⟩,-⟩,wr⟩:=open_expr _ h4
  obtain ⟨ln,cl,e6⟩:=open_pos h6
  have hh:=h5
  clear h0 h1 h2 h3 h4 h6 hf hu
  have hxl:=hx
  clear hx h h5
  have key:∀ ys':List (DataW H × List MemPlace),True:=fun _=>trivial
  clear key
  obtain ⟨fn,av,of,ou,body,bu,e5,hO,vO,hB,wg⟩:∃ (fn:Int) (av:ByteArray) (of:Pr.Ex) (ou:Value) (body:List Pr.Li) (bu:Value),(cs.drop 18).take 10=(agVP fn av of ou bu).toList/\EB All W of ou/\Rt.ExV of/\(BB All W body bu/\∀ x∈body,Rt.LiV x)/\exWt of+av.size+lsWt body+1000<=1000 * Rows.uptoBulk y5.1:=by
   have h:=hh
   generalize (cs.drop 18).take 10=cs at h ⊢
   generalize y5=x at h ⊢
   clear hyl hlen
   obtain ⟨fs,f0,f1,f2,f3,hu,rfl,o0,o1,o2,o3,t0,t1,t2,t3⟩:=Tryz.underAgg
   obtain ⟨ys,n,hfu2,hx,hlen,hyl,hf⟩:=DataW.trod_struct hu h
   rw [show Tryz.prog.cellsOf 45=10 by kernel_rfl] at hlen
   match cs,hlen,ys,hyl with
   | [c0,c1,c2,c3,c4,c5,c6,c7,c8,c9],_,[y0,y1,y2,y3],_ =>
    have h0:=hf 0 f0 rfl
    rw [o0,t0,show Tryz.prog.cellsOf 3=1 by kernel_rfl] at h0
    have h1:=hf 1 f1 rfl
    rw [o1,t1,show Tryz.prog.cellsOf 9=1 by kernel_rfl] at h1
    have h2:=hf 2 f2 rfl
    rw [o2,t2,show Tryz.prog.cellsOf 38=7 by kernel_rfl] at h2
    have h3:=hf 3 f3 rfl
    rw [o3,t3,show Tryz.prog.cellsOf 43=1 by kernel_rfl] at h3
    simp at h0 h1 h2 h3
    obtain ⟨fn,e0,e0',w0⟩:=DataW.trod_int Tryz.underlying3 h0
    obtain ⟨s,e1,e1',w1⟩:=DataW.trod_string Tryz.underlying9 h1
    obtain ⟨⟨of,ou⟩,⟨⟨e2,hO,vO⟩,-⟩,wo⟩:=open_expr _ h2
    obtain ⟨u,bs,e3,hw,hr⟩:=open_rows Tryz.underlying43 (by kernel_rfl:Tryz.prog.cellsOf 49=30) (by decide) (LiQ W) (fun p=>lWt p.1) h3 (fun n' cs' y hn h=>ih n' (by omega) h)
    simp at e0 e1 e3
    subst e0 e1 e3
    refine ⟨fn,s,of,ou,bs.map (·.1),c9,?_,hO,vO,lits_row hr,?_⟩
    ·simp only [exV] at e2
     simp only [List.cons.injEq,and_true] at e2
     obtain ⟨d0,d1,d2,d3,d4,d5,d6⟩:=e2
     subst d0 d1 d2 d3 d4 d5 d6
     rfl
    ·rw [hx]
     simp only [List.map_cons,List.map_nil,bulk_agg,Rows.uptoBulkAll,e0',e1',Rows.uptoBulk]
     have hs:s.data.toList.length=s.size:=by simp
     rw [hs]
     rw [lsWt_sum,List.map_map]
     have e:(bs.map (lWt ∘ (·.1))).sum=(bs.map fun p=>lWt p.1).sum:=rfl
     rw [e]
     dsimp only at wo
     omega
  have hcs:=seven cs hlen e0 e1 e2 e3 e4 e5 e6
  refine ⟨(.mk k a op le re fn av of body ln cl,⟨tu,lu,ru,ou,bu⟩),⟨⟨hcs,LB.of hT.1 hl hr hO hB.1,.mk hT.2 vl vr vO hB.2⟩,hlen⟩,?_⟩
  rw [hxl]
  simp only [List.map_cons,List.map_nil,bulk_agg,Rows.uptoBulkAll]
  show aWt a+exWt le+exWt re+exWt of+av.size+1000+lsWt body<=_
  dsimp only at wl wr
  omega
def RuQ (W:World) (p:Pr.Rul × Value × Value) (cs:List Value):Prop:=cs=(ruV p.1 p.2.1 p.2.2).toList/\RulB All W p/\Rt.RuV p.1
theorem open_rule {H:Type} {enc:TypeId × Value->H} {W:World} {fuel:Nat} {cs:List Value} {x:DataW H × List MemPlace}
  (h:DataW.trod enc Tryz.prog W 0 (fun _=>true) true fuel 63 cs=some x) :
  ∃ p:Pr.Rul × Value × Value,(RuQ W p cs/\cs.length=5)/\rWt p.1+2<=1000 * Rows.uptoBulk x.1:=by
 obtain ⟨fs,f0,f1,f2,hu,rfl,o0,o1,o2,t0,t1,t2⟩:=Tryz.underRule
 obtain ⟨ys,n,hfu,hx,hlen,hyl,hf⟩:=DataW.trod_struct hu h
 rw [show Tryz.prog.cellsOf 63=5 by kernel_rfl] at hlen
 match cs,hlen,ys,hyl with
 | [c0,c1,c2,c3,c4],_,[y0,y1,y2],_ =>
  have h0:=hf 0 f0 rfl
  rw [o0,t0,show Tryz.prog.cellsOf 42=2 by kernel_rfl] at h0
  have h1:=hf 1 f1 rfl
  rw [o1,t1,show Tryz.prog.cellsOf 43=1 by kernel_rfl] at h1
  have h2:=hf 2 f2 rfl
  rw [o2,t2,show Tryz.prog.cellsOf 47=2 by kernel_rfl] at h2
  simp at h0 h1 h2
  obtain ⟨a,tu,e0,hT,wa⟩:=open_atom h0
  obtain ⟨u,bs,e1,hw,hr⟩:=open_rows Tryz.underlying43 (by kernel_rfl:Tryz.prog.cellsOf 49=30) (by decide) (LiQ W) (fun p=>lWt p.1) h1 (fun n' cs' y hn h=>open_lit n' h)
  obtain ⟨ln,cl,e2⟩:=open_pos h2
  simp at e0 e1 e2
  obtain ⟨d0,d1⟩:=e0
  obtain ⟨d2,d3⟩:=e2
  subst d0 d1 d2 d3 e1
  refine ⟨(⟨a,bs.map (·.1),ln,cl⟩,c1,c2),⟨⟨rfl,⟨hT.1,(lits_row hr).1⟩,⟨hT.2,(lits_row hr).2⟩⟩,rfl⟩,?_⟩
  rw [hx]
  have:=bulk_pos y2.1
  simp only [List.map_cons,List.map_nil,bulk_agg,Rows.uptoBulkAll]
  show aWt a+lsWt (bs.map (·.1))+10+2<=_
  rw [lsWt_sum,List.map_map]
  have e:(bs.map (lWt ∘ (·.1))).sum=(bs.map fun p=>lWt p.1).sum:=rfl
  rw [e]
  omega
def InQ (t:Int) (cs:List Value):Prop:=cs=[.int .i64 t]
theorem open_ints {H:Type} {enc:TypeId × Value->H} {W:World} {fuel:Nat} {cs:List Value} {x:DataW H × List MemPlace}
  (h:DataW.trod enc Tryz.prog W 0 (fun _=>true) true fuel 68 cs=some x) :
  ∃ (u:Value) (ts:List Int),cs=[u]/\RowB All W 1 intC ts u/\10 * ts.length+1000<=1000 * Rows.uptoBulk x.1:=by
 obtain ⟨u,ts,e1,hw,hr⟩:=open_rows Tryz.underlying68 (by kernel_rfl:Tryz.prog.cellsOf 3=1) (by decide) InQ (fun _=>10) h (fun n cs' y _ h=>by
  obtain ⟨k,e0,e0',w0⟩:=DataW.trod_int Tryz.underlying3 h
  exact ⟨k,⟨e0,by rw [e0];rfl⟩,by have:=bulk_pos y.1;omega⟩)
 refine ⟨u,ts,e1,?_,?_⟩
 ·exact (row_and (Q:=InQ) (f:=intC) (R:=fun _=>True) (fun a cs h=>⟨h,trivial⟩) hr (by decide) intC_size).1
 ·have e:(ts.map fun _=>10).sum=10 * ts.length:=by
   clear hw hr e1
   induction ts with
   | nil=>rfl
   | cons a r ih=>rw [List.map_cons,List.sum_cons,ih,List.length_cons];omega
  rw [e] at hw
  exact hw
def ReQ (W:World) (p:Pr.Rel × Value) (cs:List Value):Prop:=cs=(deV p.1 p.2).toList/\RelB All W p
theorem open_rel {H:Type} {enc:TypeId × Value->H} {W:World} {fuel:Nat} {cs:List Value} {x:DataW H × List MemPlace}
  (h:DataW.trod enc Tryz.prog W 0 (fun _=>true) true fuel 70 cs=some x) :
  ∃ p:Pr.Rel × Value,(ReQ W p cs/\cs.length=4)/\dWt p.1+2<=1000 * Rows.uptoBulk x.1:=by
 obtain ⟨fs,f0,f1,f2,hu,rfl,o0,o1,o2,t0,t1,t2⟩:=Tryz.underRel
 obtain ⟨ys,n,hfu,hx,hlen,hyl,hf⟩:=DataW.trod_struct hu h
 rw [show Tryz.prog.cellsOf 70=4 by kernel_rfl] at hlen
 match cs,hlen,ys,hyl with
 | [c0,c1,c2,c3],_,[y0,y1,y2],_ =>
  have h0:=hf 0 f0 rfl
  rw [o0,t0,show Tryz.prog.cellsOf 9=1 by kernel_rfl] at h0
  have h1:=hf 1 f1 rfl
  rw [o1,t1,show Tryz.prog.cellsOf 68=1 by kernel_rfl] at h1
  have h2:=hf 2 f2 rfl
  rw [o2,t2,show Tryz.prog.cellsOf 47=2 by kernel_rfl] at h2
  simp at h0 h1 h2
  obtain ⟨s,e0,e0',w0⟩:=DataW.trod_string Tryz.underlying9 h0
  obtain ⟨u,ts,e1,hY,hw⟩:=open_ints h1
  obtain ⟨ln,cl,e2⟩:=open_pos h2
  simp at e0 e1 e2
  obtain ⟨d2,d3⟩:=e2
  subst e0 d2 d3 e1
  refine ⟨(⟨s,ts,ln,cl⟩,c1),⟨⟨rfl,hY⟩,rfl⟩,?_⟩
  rw [hx]
  have:=bulk_pos y2.1
  simp only [List.map_cons,List.map_nil,bulk_agg,Rows.uptoBulkAll,e0',Rows.uptoBulk]
  have hs:s.data.toList.length=s.size:=by simp
  rw [hs]
  show s.size+30+10 * ts.length+2<=_
  omega
theorem open_prog {H:Type} {enc:TypeId × Value->H} {W:World} {fuel:Nat} {cs:List Value} {x:DataW H × List MemPlace}
  (h:DataW.trod enc Tryz.prog W 0 (fun _=>true) true fuel 25 cs=some x) :
  ∃ (P:Pr.Prog) (du ru:Value),cs=[du,ru]/\PgB All W P (.agg #[du,ru])/\Rt.PgV P/\dsWt P.rels+rsWt P.rules<=1000 * Rows.uptoBulk x.1:=by
 obtain ⟨fs,f0,f1,hu,rfl,o0,o1,t0,t1⟩:=Tryz.underProg
 obtain ⟨ys,n,hfu,hx,hlen,hyl,hf⟩:=DataW.trod_struct hu h
 rw [show Tryz.prog.cellsOf 25=2 by kernel_rfl] at hlen
 match cs,hlen,ys,hyl with
 | [c0,c1],_,[y0,y1],_ =>
  have h0:=hf 0 f0 rfl
  rw [o0,t0,show Tryz.prog.cellsOf 22=1 by kernel_rfl] at h0
  have h1:=hf 1 f1 rfl
  rw [o1,t1,show Tryz.prog.cellsOf 23=1 by kernel_rfl] at h1
  simp at h0 h1
  obtain ⟨u,ds,e0,hw0,hr0⟩:=open_rows Tryz.underlying22 (by kernel_rfl:Tryz.prog.cellsOf 70=4) (by decide) (ReQ W) (fun p=>dWt p.1+2) h0 (fun n' cs' y hn h=>open_rel h)
  obtain ⟨u',rs,e1,hw1,hr1⟩:=open_rows Tryz.underlying23 (by kernel_rfl:Tryz.prog.cellsOf 63=5) (by decide) (RuQ W) (fun p=>rWt p.1+2) h1 (fun n' cs' y hn h=>open_rule h)
  simp at e0 e1
  subst e0 e1
  refine ⟨⟨ds.map (·.1),rs.map (·.1)⟩,c0,c1,rfl,?_,?_,?_⟩
  ·obtain ⟨g1,g2⟩:=row_and (Q:=ReQ W) (f:=csR) (R:=fun p=>RelB All W p) (fun a cs h=>⟨h.1,h.2⟩) hr0 (by decide) csR_size
   obtain ⟨g3,g4⟩:=row_and (Q:=RuQ W) (f:=csU) (R:=fun p=>RulB All W p/\Rt.RuV p.1) (fun a cs h=>⟨h.1,h.2⟩) hr1 (by decide) csU_size
   exact ⟨ds,rs,c0,c1,rfl,rfl,g1,g3,g2,fun p hp=>(g4 p hp).1⟩
  ·obtain ⟨g3,g4⟩:=row_and (Q:=RuQ W) (f:=csU) (R:=fun p=>RulB All W p/\Rt.RuV p.1) (fun a cs h=>⟨h.1,h.2⟩) hr1 (by decide) csU_size
   intro r hr
   obtain ⟨q,hq,rfl⟩:=List.mem_map.1 hr
   exact (g4 q hq).2
  ·rw [hx]
   simp only [List.map_cons,List.map_nil,bulk_agg,Rows.uptoBulkAll]
   show ((ds.map (·.1)).map fun x=>dWt x+2).sum+((rs.map (·.1)).map fun x=>rWt x+2).sum<=_
   rw [List.map_map,List.map_map]
   have e:(ds.map ((fun x=>dWt x+2) ∘ (·.1))).sum=(ds.map fun p=>dWt p.1+2).sum:=rfl
   have e':(rs.map ((fun x=>rWt x+2) ∘ (·.1))).sum=(rs.map fun p=>rWt p.1+2).sum:=rfl
   rw [e,e']
   omega
theorem open_prog_arg {H:Type} {enc:TypeId × Value->H} {W:World} {v0:Value} {d:DataW H} {p:List MemPlace}
  (hv:∃ cs,v0=.agg cs/\cs.size=Tryz.prog.cellsOf 25) (h:DataW.Trod enc Tryz.prog W 0 (fun _=>true) true 25 v0 d p) :
  ∃ (P:Pr.Prog) (du ru:Value),v0=.agg #[du,ru]/\PgB All W P (.agg #[du,ru])/\Rt.PgV P/\dsWt P.rels+rsWt P.rules<=1000 * Rows.uptoBulk d:=by
 obtain ⟨cs,rfl,-⟩:=hv
 obtain ⟨fuel,hf⟩:=h
 obtain ⟨P,du,ru,e,hB,hV,hw⟩:=open_prog hf
 refine ⟨P,du,ru,?_,hB,hV,hw⟩
 congr 1
 apply Array.ext'
 simpa [Value.cells] using e
theorem exWts_len:∀ l:List Pr.Ex,300 * l.length<=exWts l
 | []=>by simp
 | .mk k v x op args :: r=>by
  have:=exWts_len r
  rw [exWts,exWt,List.length_cons]
  omega
mutual
theorem exM_wt:∀ e:Pr.Ex,300 * exM e<=exWt e
 | .mk k v x op args=>by
  have h1:=exMs_wt args
  have h2:=exWts_len args
  rw [exM,exWt]
  rcases Nat.le_total args.length (exMs args) with h | h
  ·rw [Nat.max_eq_right h];omega
  ·rw [Nat.max_eq_left h];omega
theorem exMs_wt:∀ l:List Pr.Ex,300 * exMs l<=exWts l
 | []=>by simp [exMs]
 | e :: r=>by
  have h1:=exM_wt e
  have h2:=exMs_wt r
  rw [exMs,exWts]
  rcases Nat.le_total (exM e) (exMs r) with h | h
  ·rw [Nat.max_eq_right h];omega
  ·rw [Nat.max_eq_left h];omega
end
theorem sum_ge {α:Type} (f:α->Nat) (c:Nat):∀ (l:List α),(∀ x∈l,c<=f x)->c * l.length<=(l.map f).sum
 | [],_=>by simp
 | x :: r,h=>by
  have h1:=h x (by simp)
  have h2:=sum_ge f c r (fun y hy=>h y (List.mem_cons_of_mem _ hy))
  rw [List.map_cons,List.sum_cons,List.length_cons,Nat.mul_add]
  omega
theorem sum_mem {α:Type} (f:α->Nat):∀ (l:List α),∀ x∈l,f x<=(l.map f).sum
 | y :: r,x,h=>by
  rw [List.map_cons,List.sum_cons]
  rcases List.mem_cons.1 h with rfl | h
  ·omega
  ·have:=sum_mem f r x h;omega
theorem aWt_len (a:Pr.Atom):300 * a.terms.length<=aWt a:=by
 have:=sum_ge (fun t:Pr.Term=>t.v.size+300) 300 a.terms (fun x _=>by omega)
 unfold aWt tsWt
 omega
theorem lsWt_lenL:∀ l:List Pr.Li,300 * l.length<=lsWt l
 | []=>by simp
 | .mk k a op l r fn av of body ln cl :: rest=>by
  have:=lsWt_lenL rest
  rw [lsWt,lWt,List.length_cons]
  omega
mutual
theorem liM_wt:∀ e:Pr.Li,300 * liM e<=lWt e
 | .mk k a op l r fn av of body ln cl=>by
  have h1:=aWt_len a
  have h2:=exM_wt l
  have h3:=exM_wt r
  have h4:=exM_wt of
  have h5:=lsWt_lenL body
  have h6:=liMs_wt body
  rw [liM,lWt]
  omega
theorem liMs_wt:∀ l:List Pr.Li,300 * liMs l<=lsWt l
 | []=>by simp [liMs]
 | e :: r=>by
  have h1:=liM_wt e
  have h2:=liMs_wt r
  rw [liMs,lsWt]
  omega
end
theorem PgM.light {p:Pr.Prog} (h:dsWt p.rels+rsWt p.rules<=1048576000):PgM p:=by
 have hd:∀ r∈p.rels,dWt r+2<=1048576000:=fun r hr=>by
  have:=sum_mem (fun x=>dWt x+2) p.rels r hr
  unfold dsWt at h
  omega
 have hu:∀ r∈p.rules,rWt r+2<=1048576000:=fun r hr=>by
  have:=sum_mem (fun x=>rWt x+2) p.rules r hr
  unfold rsWt at h
  omega
 refine ⟨?_,?_,fun r hr=>?_,fun r hr=>?_,fun r hr=>?_,fun r hr=>?_⟩
 ·have:=sum_ge (fun x=>dWt x+2) 32 p.rels (fun x _=>by unfold dWt;omega)
  unfold dsWt at h
  omega
 ·have:=sum_ge (fun x=>rWt x+2) 12 p.rules (fun x _=>by unfold rWt;omega)
  unfold rsWt at h
  omega
 ·have:=hd r hr
  unfold dWt at this
  omega
 ·have:=hu r hr
  have h2:=aWt_len r.head
  unfold rWt at this
  omega
 ·have:=hu r hr
  have h2:=lsWt_lenL r.body
  unfold rWt at this
  omega
 ·have:=hu r hr
  have h2:=liMs_wt r.body
  unfold rWt at this
  omega
end Go.Proofs.YtohnmnfhmbmoaaaGreatDoor
