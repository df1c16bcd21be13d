/- THE TEXTS MERGED: PwOpen PwLim PkLp PkTx. -/
import Derived.Test.YtbfaclljbbfknaaGreatDoorKP30
import Derived.Great.BuildSlice
import Derived.Deep.Slices
import Derived.Deep.Fields
namespace Go.Proofs.YtbfaclljbbfknaaGreatDoor
open Go.ChangeShapes Go.WideShapes Go.ChangeAt Go.RowKit
set_option linter.unusedVariables false
set_option linter.unusedSimpArgs false
set_option maxRecDepth 100000
theorem exists_listO {α:Type} (P:Nat->α->Prop):∀ (n:Nat),(∀ i,i<n->∃ x,P i x)->∃ xs:List α,xs.length=n/\∀ i (hi:i<xs.length),P i xs[i]
 | 0,_=>⟨[],rfl,fun i hi=>by simp at hi⟩
 | n+1,h=>by
  obtain ⟨xs,hl,hp⟩:=exists_listO P n (fun i hi=>h i (by omega))
  obtain ⟨x,hx⟩:=h n (by omega)
  refine ⟨xs++[x],by simp [hl],fun i hi=>?_⟩
  by_cases e:i<xs.length
  ·rw [List.getElem_append_left e];exact hp i e
  ·have:i=n:=by simp at hi;omega
   subst this
   have e2:(xs++[x])[i]=x:=by
    rw [List.getElem_append_right (by omega)];simp [hl]
   rw [e2];exact hx
theorem add_plain (b o k:Nat):(⟨b,o,none⟩:Addr).add k=⟨b,o+k,none⟩:=by
 simp [Addr.add]
theorem bulk_sum {α H:Type} (f:α->Nat):∀ (bs:List α) (ds:List (DataW H)),bs.length=ds.length->(∀ i (h:i<bs.length) (h2:i<ds.length),f bs[i]<=1000 * Rows.uptoBulk ds[i])->(bs.map f).sum<=1000 * Rows.uptoBulkAll ds
 | [],_,_,_=>by simp
 | a :: bs,d :: ds,hl,h=>by
  have h0:=h 0 (by simp) (by simp)
  have ih:=bulk_sum f bs ds (by simpa using hl) (fun i h1 h2=>by
   have:=h (i+1) (by simpa using h1) (by simpa using h2)
   simpa using this)
  simp only [List.map_cons,List.sum_cons,Rows.uptoBulkAll]
  simp only [List.getElem_cons_zero] at h0
  omega
/-- a slice of anything, out of its reading; whose room is told, too -/
theorem open_rows {α H:Type} {enc:TypeId × Value->H} {W:World} {T e:TypeId} {C fuel:Nat} {cs:List Value} {x:DataW H × List MemPlace} (ht:Tryz.prog.underlying T=some (.slice e)) (hC:Tryz.prog.cellsOf e=C) (hC0:0<C) (Q:α->List Value->Prop) (f:α->Nat)
  (h:DataW.trod enc Tryz.prog W 0 (fun _=>true) true fuel T cs=some x)
  (each:∀ n cs' y,fuel=n+1->DataW.trod enc Tryz.prog W 0 (fun _=>true) true n e cs'=some y->∃ a:α,(Q a cs'/\cs'.length=C)/\f a<=1000 * Rows.uptoBulk y.1) :
  ∃ (u:Value) (bs:List α),cs=[u]/\(bs.map f).sum+1000<=1000 * Rows.uptoBulk x.1 /\
   ((bs=[]/\∃ a c,u=.slice a 0 c)\/∃ b off c,u=.slice (some ⟨b,off,none⟩) bs.length c/\bs.length<=c/\∀ i (hi:i<bs.length),∃ cs',(∀ (j:Nat) v,cs'[j]?=some v->W.cell? ⟨b,off+i * C+j,none⟩=some v)/\Q bs[i] cs'):=by
 rcases DataW.trod_slice ht h with ⟨hcs,hx⟩ | ⟨a,len,cap,elems,rest,n,hfu,hcs,hx,hb,hl,hm,hlen,hel,-,-⟩
 ·exact ⟨_,[],hcs,by rw [hx];simp [Rows.uptoBulk],.inl ⟨rfl,_,_,rfl⟩⟩
 ·rw [hC] at hel
  obtain ⟨bs,hal,hap⟩:=exists_listO (fun i (b:α)=>∃ cs',W.cells? 0 (a.add (i * C)) C=some cs'/\(Q b cs'/\cs'.length=C)/\∀ h:i<elems.length,f b<=1000 * Rows.uptoBulk elems[i].1) len (fun i hil=>by
   have hb:=hel i hil
   rw [List.getElem?_eq_getElem (by omega)] at hb
   obtain ⟨cs',h1,h2⟩:=Option.bind_eq_some_iff.1 hb
   obtain ⟨b,q1,q2⟩:=each n cs' _ hfu h2
   exact ⟨b,cs',h1,q1,fun _=>q2⟩)
  have hsum:=bulk_sum f bs (elems.map (·.1)) (by simp [hal,hlen]) (fun i h1 h2=>by
   obtain ⟨cs',-,-,hw⟩:=hap i h1
   have:=hw (by simpa using h2)
   simpa using this)
  subst hcs
  refine ⟨_,bs,rfl,?_,?_⟩
  ·rw [hx]
   simp only [Rows.uptoBulk]
   omega
  ·rcases Nat.eq_zero_or_pos len with h0 | h0
   ·subst h0
    exact .inl ⟨List.eq_nil_of_length_eq_zero hal,_,_,rfl⟩
   ·obtain ⟨b,off,spot⟩:=a
    have hspot:spot=none:=by
     obtain ⟨cs',hc,⟨-,hcl⟩,-⟩:=hap 0 (by omega)
     obtain ⟨-,-,hat⟩:=World.cells?_some hc
     have h00:=hat 0 (by omega)
     rw [List.getElem?_eq_getElem (by omega)] at h00
     simp [Addr.add] at h00
     simpa using World.cell?_spot h00
    subst hspot
    refine .inr ⟨b,off,cap,by rw [hal],by omega,fun i hi=>?_⟩
    obtain ⟨cs',hc,⟨hq,hcl⟩,-⟩:=hap i hi
    obtain ⟨-,hl2,hat⟩:=World.cells?_some hc
    refine ⟨cs',fun j v hj=>?_,hq⟩
    have hjl:j<cs'.length:=(List.getElem?_eq_some_iff.1 hj).1
    have:=hat j (by omega)
    rw [hj,add_plain,add_plain] at this
    exact this
/-- all blocks -/
def All (_:Nat):Prop:=True
/-- rows as the parser's lists -/
theorem row_of {α:Type} {W:World} {n:Nat} {f:α->Array Value} {u:Value} {bs:List α} (h0:0<n) (hn:∀ x,(f x).size=n)
  (hr:(bs=[]/\∃ a c,u=.slice a 0 c)\/∃ b off c,u=.slice (some ⟨b,off,none⟩) bs.length c/\bs.length<=c/\∀ i (hi:i<bs.length),∃ cs',(∀ (j:Nat) v,cs'[j]?=some v->W.cell? ⟨b,off+i * n+j,none⟩=some v)/\cs'=(f bs[i]).toList):RowB All W n f bs u:=by
 rcases hr with ⟨rfl,a,c,rfl⟩ | ⟨b,off,c,rfl,hcap,hi⟩
 ·exact .nil
 ·cases bs with
  | nil=>exact .nil
  | cons x r =>
   have hb:b<W.heap.size:=by
    obtain ⟨cs',hc,rfl⟩:=hi 0 (by simp)
    have hsz:0<(f x).toList.length:=by rw [Array.length_toList,hn];exact h0
    exact World.block_lt_of_cell? W ⟨b,_,none⟩ (hc 0 _ (List.getElem?_eq_getElem hsz))
   refine .row trivial hb (fun i hil=>?_) hcap
   obtain ⟨cs',hc,rfl⟩:=hi i hil
   exact fun j y hy=>hc j y (by simpa using hy)
/-- a reading's rows, their things apart -/
theorem row_and {α:Type} {W:World} {n:Nat} {u:Value} {bs:List α} {Q:α->List Value->Prop} {f:α->Array Value} {R:α->Prop}
  (hQ:∀ a cs,Q a cs->cs=(f a).toList/\R a) (hr:(bs=[]/\∃ a c,u=.slice a 0 c)\/∃ b off c,u=.slice (some ⟨b,off,none⟩) bs.length c/\bs.length<=c/\∀ i (hi:i<bs.length),∃ cs',(∀ (j:Nat) v,cs'[j]?=some v->W.cell? ⟨b,off+i * n+j,none⟩=some v)/\Q bs[i] cs')
  (h0:0<n) (hn:∀ x,(f x).size=n):RowB All W n f bs u/\∀ p∈bs,R p:=by
 refine ⟨row_of h0 hn ?_,fun p hp=>?_⟩
 ·rcases hr with h | ⟨b,off,c,h1,h2,h3⟩
  ·exact .inl h
  ·refine .inr ⟨b,off,c,h1,h2,fun i hi=>?_⟩
   obtain ⟨cs',hc,hq⟩:=h3 i hi
   exact ⟨cs',hc,(hQ _ _ hq).1⟩
 ·rcases hr with ⟨rfl,-⟩ | ⟨b,off,c,h1,h2,h3⟩
  ·cases hp
  ·obtain ⟨i,hi,rfl⟩:=List.mem_iff_getElem.1 hp
   obtain ⟨cs',hc,hq⟩:=h3 i hi
   exact (hQ _ _ hq).2
theorem bulk_agg {H:Type} (l:List (DataW H)):Rows.uptoBulk (.agg l)=Rows.uptoBulkAll l+1:=rfl
theorem bulk_pos {H:Type} (d:DataW H):1<=Rows.uptoBulk d:=by
 cases d with
 | lit l=>cases l <;> simp [Rows.uptoBulk]
 | nil=>simp [Rows.uptoBulk]
 | ptr d=>simp [Rows.uptoBulk]
 | slice elems spare=>simp [Rows.uptoBulk]
 | agg parts=>simp [Rows.uptoBulk]
 | iface t d=>simp [Rows.uptoBulk]
 | map entries=>simp [Rows.uptoBulk]
 | held h=>simp [Rows.uptoBulk]
theorem Tryz.underVal:∃ fs f0 f1 f2,Tryz.prog.underlying 23=some (.struct fs)/\fs=#[f0,f1,f2]/\f0.offset=0/\f1.offset=1/\f2.offset=2/\f0.type=3/\f1.type=3/\f2.type=9 :=
 ⟨_,_,_,_,Tryz.underlying23,rfl,rfl,rfl,rfl,rfl,rfl,rfl⟩
theorem Tryz.underExpr:∃ fs f0 f1 f2 f3 f4,Tryz.prog.underlying 26=some (.struct fs)/\fs=#[f0,f1,f2,f3,f4]/\f0.offset=0/\f1.offset=1/\f2.offset=2/\f3.offset=5/\f4.offset=6/\f0.type=3/\f1.type=9/\f2.type=23/\f3.type=3/\f4.type=24 :=
 ⟨_,_,_,_,_,_,Tryz.underlying26,rfl,rfl,rfl,rfl,rfl,rfl,rfl,rfl,rfl,rfl,rfl⟩
/-- one value, out of its reading -/
theorem open_val_cells {H:Type} {enc:TypeId × Value->H} {W:World} {fuel:Nat} {cs:List Value} {x:DataW H × List MemPlace}
  (h:DataW.trod enc Tryz.prog W 0 (fun _=>true) true fuel 23 cs=some x) :
  ∃ v:Va.Val,cs=(valV v).toList/\Rt.VO v:=by
 obtain ⟨fs,f0,f1,f2,hu,rfl,o0,o1,o2,t0,t1,t2⟩:=Tryz.underVal
 obtain ⟨ys,n,hfu,hx,hlen,hyl,hf⟩:=DataW.trod_struct hu h
 rw [show Tryz.prog.cellsOf 23=3 by kernel_rfl] at hlen
 match cs,hlen,ys,hyl with
 | [c0,c1,c2],_,[y0,y1,y2],_ =>
  have h0:=hf 0 f0 rfl
  rw [o0,t0,show Tryz.prog.cellsOf 3=1 by kernel_rfl] at h0
  have h1:=hf 1 f1 rfl
  rw [o1,t1,show Tryz.prog.cellsOf 3=1 by kernel_rfl] at h1
  have h2:=hf 2 f2 rfl
  rw [o2,t2,show Tryz.prog.cellsOf 9=1 by kernel_rfl] at h2
  simp at h0 h1 h2
  obtain ⟨k,e0,e0',w0⟩:=DataW.trod_int Tryz.underlying3 h0
  obtain ⟨m,e1,e1',w1⟩:=DataW.trod_int Tryz.underlying3 h1
  obtain ⟨s,e2,e2',w2⟩:=DataW.trod_string Tryz.underlying9 h2
  have r1:-9223372036854775808<=m/\m<=9223372036854775807:=by
   simp [Lit.wf,IntKind.min,IntKind.max,IntKind.signed,IntKind.bits] at w1
   omega
  simp at e0 e1 e2
  subst e0 e1 e2
  refine ⟨⟨k,m,Cod.str s⟩,?_,⟨Cod.str_lt s,r1.1,r1.2⟩⟩
  simp [valV,Lx.ofS_str]
def ExQ (W:World) (p:Pr.Ex × Value) (cs:List Value):Prop:=cs=(exV p.1 p.2).toList/\EB All W p.1 p.2/\Rt.ExV p.1
theorem exWts_sum:∀ l:List Pr.Ex,exWts l=(l.map exWt).sum
 | []=>by simp [exWts]
 | e :: r=>by simp only [exWts,List.map_cons,List.sum_cons];rw [exWts_sum r]
theorem open_expr {H:Type} {enc:TypeId × Value->H} {W:World}:∀ (fuel:Nat) {cs:List Value} {x:DataW H × List MemPlace}
  (h:DataW.trod enc Tryz.prog W 0 (fun _=>true) true fuel 26 cs=some x),
  ∃ p:Pr.Ex × Value,(ExQ W p cs/\cs.length=7)/\exWt p.1<=1000 * Rows.uptoBulk x.1:=by
 intro fuel
 induction fuel using Nat.strongRecOn with
 | ind fuel ih =>
 intro cs x h
 obtain ⟨fs,f0,f1,f2,f3,f4,hu,rfl,o0,o1,o2,o3,o4,t0,t1,t2,t3,t4⟩:=Tryz.underExpr
 obtain ⟨ys,n,hfu,hx,hlen,hyl,hf⟩:=DataW.trod_struct hu h
 rw [show Tryz.prog.cellsOf 26=7 by kernel_rfl] at hlen
 match cs,hlen,ys,hyl with
 | [c0,c1,c2,c3,c4,c5,c6],_,[y0,y1,y2,y3,y4],_ =>
  have h0:=hf 0 f0 rfl
  rw [o0,t0,show Tryz.prog.cellsOf 3=1 by kernel_rfl] at h0
  have h1:=hf 1 f1 rfl
  rw [o1,t1,show Tryz.prog.cellsOf 9=1 by kernel_rfl] at h1
  have h2:=hf 2 f2 rfl
  rw [o2,t2,show Tryz.prog.cellsOf 23=3 by kernel_rfl] at h2
  have h3:=hf 3 f3 rfl
  rw [o3,t3,show Tryz.prog.cellsOf 3=1 by kernel_rfl] at h3
  have h4:=hf 4 f4 rfl
  rw [o4,t4,show Tryz.prog.cellsOf 24=1 by kernel_rfl] at h4
  simp at h0 h1 h2 h3 h4
  obtain ⟨k,e0,e0',w0⟩:=DataW.trod_int Tryz.underlying3 h0
  obtain ⟨op,e3,e3',w3⟩:=DataW.trod_int Tryz.underlying3 h3
  obtain ⟨s,e1,e1',w1⟩:=DataW.trod_string Tryz.underlying9 h1
  obtain ⟨v,e2,hok⟩:=open_val_cells h2
  obtain ⟨u,bs,e4,hw,hr⟩:=open_rows Tryz.underlying24 (by kernel_rfl:Tryz.prog.cellsOf 26=7) (by decide) (ExQ W) (fun p=>exWt p.1) h4 (fun n' cs' y hn h=>ih n' (by omega) h)
  simp [valV] at e0 e1 e2 e3 e4
  obtain ⟨e2,e5,e6⟩:=e2
  subst e0 e1 e2 e3 e4 e5 e6
  refine ⟨(.mk k s v op (bs.map (·.1)),c6),⟨⟨rfl,?_⟩,rfl⟩,?_⟩
  ·obtain ⟨hrow,hall⟩:=row_and (Q:=ExQ W) (f:=csX) (R:=fun p=>EB All W p.1 p.2/\Rt.ExV p.1) (fun a cs h=>⟨h.1,h.2⟩) hr (by decide) bearsX.size
   refine ⟨EB.of_row bs hrow (fun p hp=>(hall p hp).1),.mk hok (fun a ha=>?_)⟩
   obtain ⟨q,hq,rfl⟩:=List.mem_map.1 ha
   exact (hall q hq).2
  ·rw [hx]
   have:=bulk_pos y2.1
   simp only [List.map_cons,List.map_nil,bulk_agg,Rows.uptoBulkAll,e0',e1',e3',Rows.uptoBulk]
   have hs:s.data.toList.length=s.size:=by simp
   rw [hs]
   rw [exWt_eq]
   show s.size+300+exWts (bs.map (·.1))<=_
   rw [exWts_sum,List.map_map]
   have e:(bs.map (exWt ∘ (·.1))).sum=(bs.map fun p=>exWt p.1).sum:=rfl
   rw [e]
   omega
theorem exWts_len:∀ l:List Pr.Ex,300 * l.length<=exWts l
 | []=>by simp
 | .mk k v x op args :: r=>by
  have:=exWts_len r
  rw [exWts,exWt,List.length_cons]
  omega
mutual
theorem exM_wt:∀ e:Pr.Ex,300 * exM e<=exWt e
 | .mk k v x op args=>by
  have h1:=exMs_wt args
  have h2:=exWts_len args
  rw [exM,exWt]
  rcases Nat.le_total args.length (exMs args) with h | h
  ·rw [Nat.max_eq_right h];omega
  ·rw [Nat.max_eq_left h];omega
theorem exMs_wt:∀ l:List Pr.Ex,300 * exMs l<=exWts l
 | []=>by simp [exMs]
 | e :: r=>by
  have h1:=exM_wt e
  have h2:=exMs_wt r
  rw [exMs,exWts]
  rcases Nat.le_total (exM e) (exMs r) with h | h
  ·rw [Nat.max_eq_right h];omega
  ·rw [Nat.max_eq_left h];omega
end
theorem sum_ge {α:Type} (f:α->Nat) (c:Nat):∀ (l:List α),(∀ x∈l,c<=f x)->c * l.length<=(l.map f).sum
 | [],_=>by simp
 | x :: r,h=>by
  have h1:=h x (by simp)
  have h2:=sum_ge f c r (fun y hy=>h y (List.mem_cons_of_mem _ hy))
  rw [List.map_cons,List.sum_cons,List.length_cons,Nat.mul_add]
  omega
theorem aWt_len (a:Pr.Atom):300 * a.terms.length<=aWt a:=by
 have:=sum_ge (fun t:Pr.Term=>t.v.size+300) 300 a.terms (fun x _=>by omega)
 unfold aWt tsWt
 omega
theorem lsWt_lenL:∀ l:List Pr.Li,300 * l.length<=lsWt l
 | []=>by simp
 | .mk k a op l r fn av of body ln cl :: rest=>by
  have:=lsWt_lenL rest
  rw [lsWt,lWt,List.length_cons]
  omega
mutual
theorem liM_wt:∀ e:Pr.Li,300 * liM e<=lWt e
 | .mk k a op l r fn av of body ln cl=>by
  have h1:=aWt_len a
  have h2:=exM_wt l
  have h3:=exM_wt r
  have h4:=exM_wt of
  have h5:=lsWt_lenL body
  have h6:=liMs_wt body
  rw [liM,lWt]
  omega
theorem liMs_wt:∀ l:List Pr.Li,300 * liMs l<=lsWt l
 | []=>by simp [liMs]
 | e :: r=>by
  have h1:=liM_wt e
  have h2:=liMs_wt r
  rw [liMs,lsWt]
  omega
end
end Go.Proofs.YtbfaclljbbfknaaGreatDoor
namespace Go.Proofs.YtbfaclljbbfknaaGreatDoor.Pk
open Lx (Tok)
open Pr (Ex strength binds)
open Sy (Env PR exprF chainF constant sign level plain)
set_option linter.unusedVariables false
set_option linter.unusedSimpArgs false
/-- is it a number above 0? -/
def pos (a:Ex):Prop:=a.k=2/\a.x.k=1/\0<a.x.n
instance (a:Ex):Decidable (pos a):=by unfold pos;infer_instance
def o1 (p:Prop) [Decidable p]:Nat:=if p then 1 else 0
/-- the brackets of an expression's text -/
def lpE:Ex->Nat
 | .mk k _ _ op [a]=>if k=4 then lpE a+o1 (binds a<3\/pos a) else 0
 | .mk k _ _ op [a,b]=>if k=4 then lpE a+o1 (binds a<strength op)+(lpE b+o1 (binds b<=strength op)) else 0
 | _=>0
theorem lp_leaf (k:Int) (v:ByteArray) (x:Va.Val) (op:Int):lpE (.mk k v x op [])=0:=by simp [lpE]
theorem lp_one (v:ByteArray) (x:Va.Val) (op:Int) (a:Ex):lpE (.mk 4 v x op [a])=lpE a+o1 (binds a<3\/pos a):=by rw [lpE,if_pos rfl]
theorem lp_two (v:ByteArray) (x:Va.Val) (op:Int) (a b:Ex):lpE (.mk 4 v x op [a,b])=lpE a+o1 (binds a<strength op)+(lpE b+o1 (binds b<=strength op)):=by rw [lpE,if_pos rfl]
theorem o1_le (p q:Prop) [Decidable p] [Decidable q] (h:p->q):o1 p<=o1 q:=by
 unfold o1
 by_cases hp:p
 ·rw [if_pos hp,if_pos (h hp)];exact Nat.le_refl _
 ·rw [if_neg hp];exact Nat.zero_le _
theorem o1_no (p:Prop) [Decidable p] (h:¬ p):o1 p=0:=if_neg h
theorem o1_one (p:Prop) [Decidable p]:o1 p<=1:=by unfold o1;split <;> omega
/-- the brackets among the first words -/
def cL (v:Env):Nat->Nat
 | 0=>0
 | i+1=>cL v i+o1 (sign (v.tk i) [40]=true)
theorem cL_mono (v:Env) {i j:Nat} (h:i<=j):cL v i<=cL v j:=by
 induction h with
 | refl=>exact Nat.le_refl _
 | step _ ih=>rw [cL];omega
theorem must_some {v:Env} {s:List Nat} {i j:Nat} {u:Unit} (h:Sy.must v s i=.ok u j):sign (v.tk i) s=true/\j=i+1:=by
 unfold Sy.must at h
 split at h
 ·rename_i hs
  simp only [PR.ok.injEq,true_and] at h
  exact ⟨hs,h.symm⟩
 ·cases h
theorem level_strength {t:Tok} {line:Nat} (hl:line=1\/line=2) (h:(level t).1=line):strength ((level t).2:Nat)=line:=by
 revert h
 unfold level
 repeat' split
 all_goals (intro h;simp only at h;first | omega | (subst h;decide))
/-- what is known of an expression that was read from word i to word j -/
structure Rd (v:Env) (line i:Nat) (e:Ex) (j:Nat):Prop where
 le:i<=j
 lp:cL v i+(lpE e+o1 (binds e<line))<=cL v j
 num:line=3->pos e->(v.tk i).kind=3\/cL v i+1<=cL v j
theorem const_kind {v:Env} (hq:∀ i,(v.tk i).kind=4->(v.tk i).vk=2) {i n:Nat} {c:Va.Val} (h:constant v i=some (c,n)) (hp:c.k=1/\0<c.n):(v.tk i).kind=3:=by
 unfold constant at h
 split at h
 ·rename_i hk
  rcases hk with hk | hk
  ·exact hk
  ·simp only [Option.some.injEq,Prod.mk.injEq] at h
   obtain ⟨rfl,-⟩:=h
   have:=hq i hk
   simp only [this] at hp
   omega
 ·split at h
  ·simp only [Option.some.injEq,Prod.mk.injEq] at h
   obtain ⟨rfl,-⟩:=h
   simp at hp
  ·split at h
   ·simp only [Option.some.injEq,Prod.mk.injEq] at h
    obtain ⟨rfl,-⟩:=h
    simp only at hp
    omega
   ·cases h
theorem const_not {v:Env} {i:Nat} (h:constant v i=none) (hs:sign (v.tk i) [45]=true):(v.tk (i+1)).kind≠3:=by
 unfold constant at h
 split at h
 ·cases h
 ·split at h
  ·cases h
  ·split at h
   ·cases h
   ·rename_i hn
    exact fun hk=>hn ⟨hs,hk⟩
theorem chain_lp {v:Env} {line:Nat} (hl:line=1\/line=2) {sub:Nat->Nat->PR (Ex × Nat)} (hsub:∀ above i e d j,sub above i=.ok (e,d) j->Rd v (line+1) i e j) (i0:Nat) :
  ∀ (k:Nat) (above:Nat) (e:Ex) (d i:Nat) (e':Ex) (d' j:Nat),i0<=i->cL v i0+(lpE e+o1 (binds e<line))<=cL v i->chainF v line sub above k e d i=.ok (e',d') j ->
   i0<=j/\cL v i0+(lpE e'+o1 (binds e'<line))<=cL v j:=by
 intro k
 induction k with
 | zero=>intro above e d i e' d' j h0 hc h;simp [chainF] at h
 | succ k ih =>
  intro above e d i e' d' j h0 hc h
  rw [chainF] at h
  split at h
  ·simp only [PR.ok.injEq,Prod.mk.injEq] at h
   obtain ⟨⟨rfl,-⟩,rfl⟩:=h
   exact ⟨h0,hc⟩
  ·rename_i hlev
   split at h
   ·cases h
   ·cases hs:sub (above+1) (i+1) with
    | err f=>rw [hs] at h;cases h
    | ok r m =>
     obtain ⟨er,dr⟩:=r
     rw [hs] at h
     simp only [PR.bind_ok] at h
     have R:=hsub _ _ _ _ _ hs
     have hst:strength ((level (v.tk i)).2:Nat)=line:=level_strength hl (by simpa using hlev)
     refine ih above _ _ m e' d' j (by have:=R.le;omega) ?_ h
     have h1:=R.lp
     have h2:=cL_mono v (show i<=i+1 by omega)
     have hb:binds (.mk 4 (Sy.txt []) Va.zero ((level (v.tk i)).2:Nat) [e,er])=line:=by
      show (if (4:Int)=4 then strength ((level (v.tk i)).2:Nat) else 4)=line
      rw [if_pos rfl,hst]
     rw [lp_two,hb,hst,o1_no (line<line) (by omega)]
     have h3:=o1_le (binds er<=line) (binds er<line+1) (fun h=>by omega)
     omega
/-- an expression is not read of fewer brackets than it must have -/
theorem ex_lp {v:Env} (hq:∀ i,(v.tk i).kind=4->(v.tk i).vk=2):∀ (n line above i:Nat) (e:Ex) (d j:Nat),(line=1\/line=2\/line=3)->exprF v n line above i=.ok (e,d) j->Rd v line i e j:=by
 intro n
 induction n with
 | zero=>intro line above i e d j hl h;simp [exprF] at h
 | succ n ih =>
  intro line above i e d j hl h
  rw [exprF] at h
  split at h
  ·rename_i h3
   subst h3
   split at h
   ·rename_i hk
    simp only [PR.ok.injEq,Prod.mk.injEq] at h
    obtain ⟨⟨rfl,-⟩,rfl⟩:=h
    refine ⟨by omega,?_,fun _ hp=>by unfold pos at hp;exact absurd hp.1 (by show ¬ (1:Int)=2;decide)⟩
    rw [lp_leaf,o1_no _ (by show ¬ (if (1:Int)=4 then _ else 4)<3;rw [if_neg (by decide)];omega)]
    exact cL_mono v (by omega)
   ·split at h
    ·rename_i c m hc
     simp only [PR.ok.injEq,Prod.mk.injEq] at h
     obtain ⟨⟨rfl,-⟩,rfl⟩:=h
     refine ⟨by omega,?_,fun _ hp=>.inl (const_kind hq hc ⟨hp.2.1,hp.2.2⟩)⟩
     rw [lp_leaf,o1_no _ (by show ¬ (if (2:Int)=4 then _ else 4)<3;rw [if_neg (by decide)];omega)]
     exact cL_mono v (by omega)
    ·rename_i hc
     split at h
     ·rename_i hs
      split at h
      ·cases h
      ·cases hr:exprF v n 3 (above+1) (i+1) with
       | err f=>rw [hr] at h;cases h
       | ok r m =>
        obtain ⟨er,dr⟩:=r
        rw [hr] at h
        simp only [PR.bind_ok,PR.ok.injEq,Prod.mk.injEq] at h
        obtain ⟨⟨rfl,-⟩,rfl⟩:=h
        have R:=ih 3 _ _ _ _ _ (.inr (.inr rfl)) hr
        have h1:=R.lp
        have h2:=cL_mono v (show i<=i+1 by omega)
        have h4:=const_not hc hs
        refine ⟨by have:=R.le;omega,?_,fun _ hp=>by unfold pos at hp;exact absurd hp.1 (by show ¬ (4:Int)=2;decide)⟩
        have hz:o1 (binds (.mk 4 (Sy.txt []) Va.zero 6 [er])<3)=0:=o1_no _ (by show ¬ (if (4:Int)=4 then strength 6 else 4)<3;rw [if_pos rfl];decide)
        rw [lp_one,hz]
        by_cases hp:pos er
        ·have hlp:lpE er=0:=by
          obtain ⟨k0,v0,x0,op0,args0⟩:=er
          have hk:k0=2:=hp.1
          subst hk
          rw [lpE.eq_def]
          split <;> first | rfl | (rename_i heq;simp only [Ex.mk.injEq] at heq;obtain ⟨rfl,-⟩:=heq;rw [if_neg (by decide)])
         have h5:cL v (i+1)+1<=cL v m:=by
          rcases R.num rfl hp with h | h
          ·exact absurd h h4
          ·exact h
         have:=o1_one (binds er<3\/pos er)
         omega
        ·have:=o1_le (binds er<3\/pos er) (binds er<3) (fun h=>h.elim id (fun h=>absurd h hp))
         omega
     ·split at h
      ·cases h
      ·cases h1:Sy.must v [40] i with
       | err f=>rw [h1] at h;cases h
       | ok u m =>
        rw [h1] at h
        simp only [PR.bind_ok] at h
        obtain ⟨s1,rfl⟩:=must_some h1
        cases h2:exprF v n 1 (above+1) (i+1) with
        | err f=>rw [h2] at h;cases h
        | ok r m2 =>
         obtain ⟨er,dr⟩:=r
         rw [h2] at h
         simp only [PR.bind_ok] at h
         cases h3:Sy.must v [41] m2 with
         | err f=>rw [h3] at h;cases h
         | ok u m3 =>
          rw [h3] at h
          simp only [PR.bind_ok,PR.ok.injEq,Prod.mk.injEq] at h
          obtain ⟨⟨rfl,-⟩,rfl⟩:=h
          obtain ⟨s3,rfl⟩:=must_some h3
          have R:=ih 1 _ _ _ _ _ (.inl rfl) h2
          have g1:=R.lp
          have g2:=cL_mono v (show m2<=m2+1 by omega)
          have g3:cL v (i+1)=cL v i+1:=by rw [cL,o1,if_pos s1]
          have g4:=o1_one (binds er<3)
          exact ⟨by have:=R.le;omega,by omega,fun _ _=>.inr (by omega)⟩
  ·rename_i h3
   have hl2:line=1\/line=2:=by omega
   cases hr:exprF v n (line+1) above i with
   | err f=>rw [hr] at h;cases h
   | ok r m =>
    obtain ⟨er,dr⟩:=r
    rw [hr] at h
    simp only [PR.bind_ok] at h
    have hl3:line+1=1\/line+1=2\/line+1=3:=by omega
    have R:=ih (line+1) _ _ _ _ _ hl3 hr
    have h1:=R.lp
    have h2:=o1_le (binds er<line) (binds er<line+1) (fun h=>by omega)
    obtain ⟨c1,c2⟩:=chain_lp hl2 (fun above i e d j hs=>ih (line+1) above i e d j hl3 hs) i _ _ _ _ _ _ _ _ R.le (by omega) h
    exact ⟨c1,c2,fun h=>absurd h h3⟩
open Pr (Ex strength binds pE pO)
open Sy (sign sh)
open Rt
open Cod (str)
/-- how a text is gone through: 0: outside of quotes; 1: within; 2: behind a backslash -/
def st (q c:Nat):Nat:=if q=0 then (if c=34 then 1 else 0) else if q=1 then (if c=92 then 2 else if c=34 then 0 else 1) else 1
def run (q:Nat):List Nat->Nat
 | []=>q
 | c :: r=>run (st q c) r
/-- the places of the brackets that open -/
def opn:Nat->Nat->List Nat->List Nat
 | _,_,[]=>[]
 | q,i,c :: r=>if q=0/\c=40 then i :: opn (st q c) (i+1) r else opn (st q c) (i+1) r
/-- the place of the bracket that closes -/
def clo:Nat->Int->Nat->List Nat->Option Nat
 | _,_,_,[]=>none
 | q,d,i,c :: r=>if q=0/\c=40 then clo (st q c) (d+1) (i+1) r else if q=0/\c=41 then (if d - 1=0 then some i else clo (st q c) (d - 1) (i+1) r) else clo (st q c) d (i+1) r
/-- a text without two places -/
def wo (s:List Nat) (p c:Nat):List Nat:=s.take p++((s.take c).drop (p+1)++s.drop (c+1))
def cnt (ts:List Tok):Nat:=ts.countP (fun t=>sign t [40])
theorem cnt_app (a b:List Tok):cnt (a++b)=cnt a+cnt b:=List.countP_append
theorem run_app (q:Nat) (a b:List Nat):run q (a++b)=run (run q a) b:=by
 induction a generalizing q with
 | nil=>rfl
 | cons c r ih=>exact ih _
theorem opn_app (a b:List Nat):∀ (q i:Nat),opn q i (a++b)=opn q i a++opn (run q a) (i+a.length) b:=by
 induction a with
 | nil=>intro q i;rfl
 | cons c r ih =>
  intro q i
  show (if q=0/\c=40 then i :: opn (st q c) (i+1) (r++b) else opn (st q c) (i+1) (r++b))=(if q=0/\c=40 then i :: opn (st q c) (i+1) r else opn (st q c) (i+1) r)++_
  rw [ih,show i+1+r.length=i+(c :: r).length by simp;omega]
  split <;> rfl
theorem opn_shift (a:List Nat):∀ (q i k:Nat),opn q (k+i) a=(opn q i a).map (k+·):=by
 induction a with
 | nil=>intro q i k;rfl
 | cons c r ih =>
  intro q i k
  show (if q=0/\c=40 then (k+i) :: opn (st q c) (k+i+1) r else opn (st q c) (k+i+1) r)=(if q=0/\c=40 then i :: opn (st q c) (i+1) r else opn (st q c) (i+1) r).map (k+·)
  rw [show k+i+1=k+(i+1) by omega,ih]
  split <;> simp
/-- outside of quotes, without brackets -/
def flt (u:List Nat):Prop:=∀ c∈u,c≠34/\c≠40/\c≠41
theorem flt_run {u:List Nat} (h:flt u):run 0 u=0:=by
 induction u with
 | nil=>rfl
 | cons c r ih =>
  have hc:=h c (by simp)
  show run (st 0 c) r=0
  rw [show st 0 c=0 by unfold st;rw [if_pos rfl,if_neg hc.1]]
  exact ih (fun x hx=>h x (by simp [hx]))
theorem flt_opn {u:List Nat} (h:flt u):∀ i,opn 0 i u=[]:=by
 induction u with
 | nil=>intro i;rfl
 | cons c r ih =>
  intro i
  have hc:=h c (by simp)
  show (if 0=0/\c=40 then _ else _)=_
  rw [if_neg (fun hh=>hc.2.1 hh.2),show st 0 c=0 by unfold st;rw [if_pos rfl,if_neg hc.1]]
  exact ih (fun x hx=>h x (by simp [hx])) _
theorem flt_clo {u:List Nat} (h:flt u):∀ (d:Int) (i:Nat) (r:List Nat),clo 0 d i (u++r)=clo 0 d (i+u.length) r:=by
 induction u with
 | nil=>intro d i r;rfl
 | cons c t ih =>
  intro d i r
  have hc:=h c (by simp)
  show (if 0=0/\c=40 then _ else if 0=0/\c=41 then _ else _)=_
  rw [if_neg (fun hh=>hc.2.1 hh.2),if_neg (fun hh=>hc.2.2 hh.2),show st 0 c=0 by unfold st;rw [if_pos rfl,if_neg hc.1]]
  show clo 0 d (i+1) (t++r)=_
  rw [ih (fun x hx=>h x (by simp [hx]))]
  congr 1
  simp
  omega
/-- a text: whole outside of quotes; its brackets stand in pairs; without a pair it has fewer brackets than n -/
structure Good (s:List Nat) (n:Nat):Prop where
 ne:s≠[]
 tx:∃ ts,Tx brk s ts/\cnt ts<=n
 rn:run 0 s=0
 cl:∀ (d:Int) (i:Nat) (r:List Nat),1<=d->clo 0 d i (s++r)=clo 0 d (i+s.length) r
 op:∀ p∈opn 0 0 s,∃ c,p<c/\c<s.length/\(∀ (i:Nat) (r:List Nat),clo 0 0 (i+p) ((s++r).drop p)=some (i+c))/\wo s p c≠[]/\∃ ts,Tx brk (wo s p c) ts/\cnt ts+1<=n
theorem Good.leaf {s:List Nat} {ts:List Tok} (h0:s≠[]) (ht:Tx brk s ts) (hc:cnt ts=0) (hr:run 0 s=0) (ho:opn 0 0 s=[]) (hcl:∀ (d:Int) (i:Nat) (r:List Nat),1<=d->clo 0 d i (s++r)=clo 0 d (i+s.length) r):Good s 0 :=
 ⟨h0,⟨ts,ht,by omega⟩,hr,hcl,fun p hp=>by rw [ho] at hp;cases hp⟩
theorem Good.neu {s:List Nat} {ts:List Tok} (h0:s≠[]) (ht:Tx brk s ts) (hc:cnt ts=0) (h:flt s):Good s 0 :=
 Good.leaf h0 ht hc (flt_run h) (flt_opn h 0) (fun d i r _=>flt_clo h d i r)
theorem wo_left {a x:List Nat} {p c:Nat} (hp:p<c) (hc:c<a.length):wo (a++x) p c=wo a p c++x:=by
 unfold wo
 rw [List.take_append_of_le_length (by omega),List.take_append_of_le_length (by omega),List.drop_append_of_le_length (by omega),List.append_assoc,List.append_assoc]
theorem wo_right {a x:List Nat} {p c:Nat} (hp:p<c):wo (a++x) (a.length+p) (a.length+c)=a++wo x p c:=by
 unfold wo
 have t1:(a++x).take (a.length+p)=a++x.take p:=List.take_length_add_append p
 have t2:(a++x).take (a.length+c)=a++x.take c:=List.take_length_add_append c
 have t3:(a++x.take c).drop (a.length+p+1)=(x.take c).drop (p+1):=by rw [Nat.add_assoc];exact List.drop_length_add_append (p+1)
 have t4:(a++x).drop (a.length+c+1)=x.drop (c+1):=by rw [Nat.add_assoc];exact List.drop_length_add_append (c+1)
 rw [t1,t2,t3,t4,List.append_assoc]
/-- two texts, a word between -/
theorem Good.bin {a u b:List Nat} {n m:Nat} {tu:List Tok} (ha:Good a n) (hb:Good b m) (hu:flt u) (hcu:cnt tu=0)
  (hT:∀ (x y:List Nat) (tx ty:List Tok),x≠[]->y≠[]->Tx brk x tx->Tx brk y ty->Tx brk (x++(u++y)) (tx++(tu++ty))):Good (a++(u++b)) (n+m):=by
 obtain ⟨ta,hta,hca⟩:=ha.tx
 obtain ⟨tb,htb,hcb⟩:=hb.tx
 have hrn:run 0 (a++u)=0:=by rw [run_app,ha.rn,flt_run hu]
 refine ⟨by simp [ha.ne],⟨_,hT a b ta tb ha.ne hb.ne hta htb,by rw [cnt_app,cnt_app];omega⟩,by rw [<-List.append_assoc,run_app,hrn,hb.rn],fun d i r hd=>?_,fun p hp=>?_⟩
 ·rw [List.append_assoc,List.append_assoc,ha.cl d i _ hd,flt_clo hu,hb.cl d _ _ hd]
  congr 1
  simp only [List.length_append]
  omega
 ·rw [opn_app,ha.rn,opn_app,flt_opn hu,flt_run hu,List.nil_append] at hp
  rcases List.mem_append.1 hp with hp | hp
  ·obtain ⟨c,h1,h2,h3,h4,ts,h5,h6⟩:=ha.op p hp
   refine ⟨c,h1,by simp only [List.length_append];omega,fun i r=>?_,?_,?_⟩
   ·rw [List.append_assoc];exact h3 i _
   ·rw [wo_left h1 h2];simp [h4]
   ·rw [wo_left h1 h2]
    exact ⟨_,hT _ b ts tb h4 hb.ne h5 htb,by rw [cnt_app,cnt_app];omega⟩
  ·rw [show 0+a.length+u.length=(a++u).length+0 by simp,opn_shift] at hp
   obtain ⟨p',hp',rfl⟩:=List.mem_map.1 hp
   obtain ⟨c,h1,h2,h3,h4,ts,h5,h6⟩:=hb.op p' hp'
   refine ⟨(a++u).length+c,by omega,by simp only [List.length_append] at h2 ⊢;omega,fun i r=>?_,?_,?_⟩
   ·rw [<-List.append_assoc a u b,List.append_assoc,show ((a++u)++(b++r)).drop ((a++u).length+p')=(b++r).drop p' from List.drop_length_add_append p']
    have:=h3 (i+(a++u).length) r
    rw [show i+((a++u).length+p')=i+(a++u).length+p' by omega,show i+((a++u).length+c)=i+(a++u).length+c by omega]
    exact this
   ·rw [<-List.append_assoc,wo_right h1];simp [h4]
   ·rw [<-List.append_assoc,wo_right h1,List.append_assoc]
    exact ⟨_,hT a _ ta ts ha.ne h4 hta h5,by rw [cnt_app,cnt_app];omega⟩
/-- a word ahead -/
theorem Good.pre {u b:List Nat} {m:Nat} {tu:List Tok} (hb:Good b m) (hu:flt u) (hcu:cnt tu=0) (hT:∀ (y:List Nat) (ty:List Tok),y≠[]->Tx brk y ty->Tx brk (u++y) (tu++ty)):Good (u++b) m:=by
 obtain ⟨tb,htb,hcb⟩:=hb.tx
 refine ⟨by simp [hb.ne],⟨_,hT b tb hb.ne htb,by rw [cnt_app];omega⟩,by rw [run_app,flt_run hu,hb.rn],fun d i r hd=>?_,fun p hp=>?_⟩
 ·rw [List.append_assoc,flt_clo hu,hb.cl d _ _ hd]
  congr 1
  simp only [List.length_append]
  omega
 ·rw [opn_app,flt_opn hu,flt_run hu,List.nil_append,show 0+u.length=u.length+0 by omega,opn_shift] at hp
  obtain ⟨p',hp',rfl⟩:=List.mem_map.1 hp
  obtain ⟨c,h1,h2,h3,h4,ts,h5,h6⟩:=hb.op p' hp'
  refine ⟨u.length+c,by omega,by simp only [List.length_append] at h2 ⊢;omega,fun i r=>?_,?_,?_⟩
  ·rw [List.append_assoc,show (u++(b++r)).drop (u.length+p')=(b++r).drop p' from List.drop_length_add_append p']
   have:=h3 (i+u.length) r
   rw [show i+(u.length+p')=i+u.length+p' by omega,show i+(u.length+c)=i+u.length+c by omega]
   exact this
  ·rw [wo_right h1];simp [h4]
  ·rw [wo_right h1]
   exact ⟨_,hT _ ts h4 h5,by rw [cnt_app];omega⟩
theorem cnt_open:cnt [tM [40]]=1:=rfl
theorem cnt_close:cnt [tM [41]]=0:=rfl
/-- in brackets -/
theorem Good.brk {b:List Nat} {m:Nat} (hb:Good b m):Good (40 :: (b++[41])) (m+1):=by
 obtain ⟨tb,htb,hcb⟩:=hb.tx
 have cb:∀ ts:List Tok,cnt (tM [40] :: (ts++[tM [41]]))=cnt ts+1:=fun ts=>by
  rw [show tM [40] :: (ts++[tM [41]])=[tM [40]]++(ts++[tM [41]]) from rfl,cnt_app,cnt_app,cnt_open,cnt_close];omega
 have e0:st 0 40=0:=by decide
 have e1:st 0 41=0:=by decide
 refine ⟨by simp,⟨_,tx_brackets hb.ne htb,by rw [cb];omega⟩,?_,fun d i r hd=>?_,fun p hp=>?_⟩
 ·show run (st 0 40) (b++[41])=0
  rw [e0,run_app,hb.rn];rfl
 ·show clo 0 d i (40 :: ((b++[41])++r))=_
  rw [clo,if_pos ⟨rfl,rfl⟩,e0,List.append_assoc,hb.cl (d+1) (i+1) _ (by omega)]
  show clo 0 (d+1) (i+1+b.length) (41 :: r)=_
  rw [clo,if_neg (by simp),if_pos ⟨rfl,rfl⟩,if_neg (by omega),e1,show d+1 - 1=d by omega]
  congr 1
  simp
  omega
 ·have ho:opn 0 0 (40 :: (b++[41]))=0 :: (opn 0 0 b).map (1+·):=by
   rw [opn,if_pos ⟨rfl,rfl⟩,e0,opn_app,hb.rn,show (0+1:Nat)=1+0 by omega,opn_shift]
   show 0 :: (_++[])=_
   rw [List.append_nil]
  rw [ho] at hp
  rcases List.mem_cons.1 hp with rfl | hp
  ·refine ⟨b.length+1,by omega,by simp,fun i r=>?_,?_,tb,?_,by omega⟩
   ·show clo 0 0 i (40 :: ((b++[41])++r))=_
    rw [clo,if_pos ⟨rfl,rfl⟩,e0,List.append_assoc,hb.cl (0+1) (i+1) _ (by omega)]
    show clo 0 (0+1) (i+1+b.length) (41 :: r)=_
    rw [clo,if_neg (by simp),if_pos ⟨rfl,rfl⟩,if_pos (by omega)]
    congr 1
    omega
   ·have:wo (40 :: (b++[41])) 0 (b.length+1)=b:=by simp [wo]
    rw [this];exact hb.ne
   ·have:wo (40 :: (b++[41])) 0 (b.length+1)=b:=by simp [wo]
    rw [this];exact htb
  ·obtain ⟨p',hp',rfl⟩:=List.mem_map.1 hp
   obtain ⟨c,h1,h2,h3,h4,ts,h5,h6⟩:=hb.op p' hp'
   have hw:wo (40 :: (b++[41])) (1+p') (1+c)=40 :: (wo b p' c++[41]):=by
    have:=wo_right (a:=[40]) (x:=b++[41]) h1
    rw [List.length_singleton] at this
    rw [show 40 :: (b++[41])=[40]++(b++[41]) from rfl,this,wo_left h1 h2]
    rfl
   refine ⟨1+c,by omega,by simp;omega,fun i r=>?_,by rw [hw];simp,?_⟩
   ·rw [show 1+p'=p'+1 by omega]
    show clo 0 0 (i+(p'+1)) (((b++[41])++r).drop p')=_
    rw [List.append_assoc]
    have:=h3 (i+1) ([41]++r)
    rw [show i+(p'+1)=i+1+p' by omega,show i+(1+c)=i+1+c by omega]
    exact this
   ·rw [hw]
    exact ⟨_,tx_brackets h4 h5,by rw [cb];omega⟩
end Go.Proofs.YtbfaclljbbfknaaGreatDoor.Pk
