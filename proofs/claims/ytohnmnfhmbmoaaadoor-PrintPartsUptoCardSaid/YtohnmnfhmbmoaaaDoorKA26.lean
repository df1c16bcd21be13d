/- THE TEXTS MERGED: PaLaw PaOpen. -/
import Derived.Test.YtohnmnfhmbmoaaaDoorKA25
import Derived.LaidMore
import Derived.Stop.LaidErr
import Derived.Stop.Joined
namespace Go.Proofs.YtohnmnfhmbmoaaaDoor
open Go.RowKit
set_option linter.unusedVariables false
set_option linter.unusedSimpArgs false
set_option maxRecDepth 100000
def tvs (o:Option (List Nat)):ByteArray:=match o with | some t=>Lx.ofS t | none=>⟨#[]⟩
def tvk (o:Option (List Nat)):Int:=match o with | some _=>0 | none=>50
theorem tv_eq (o:Option (List Nat)):tv o=.tuple #[.string (tvs o),.int .i64 (tvk o)]:=by cases o <;> rfl
/-- what is told -/
def Tl (s:ByteArray) (k:Int) (w:World) (e:Ending) (w':World):Prop:=e=.returned (.tuple #[.string s,.int .i64 k])/\Mod [] w w'
section
variable {P:Program} {ops:Array Oper} {rest:List Oper} {o:Oper} {a:Act} {w:World} {Q:Exit->Act->World->Prop}
/-- an operation with a guard that lets it by -/
theorem wpList_let (hw:Region.wanted o (yielded ops a.tmps)=true) (h:wpList P ops Q ({ o with guard:=none } :: rest) a w):wpList P ops Q (o :: rest) a w:=by
 unfold wpList at h ⊢
 rw [if_pos hw]
 rw [if_pos (by rfl)] at h
 exact h
end
theorem liV_30 (l:Pr.Li) (U:LU):(liV l U).size=30:=by cases l;rfl
theorem three_vars (w:World) (A B C:Array Value) (S T U:TypeId) :
  (((w.alloc (.cells A S)).alloc (.cells B T)).alloc (.cells C U)).heap[w.heap.size]?=some (.cells A S (0,0))/\(((w.alloc (.cells A S)).alloc (.cells B T)).alloc (.cells C U)).heap[w.heap.size+1]?=some (.cells B T (0,0))/\(((w.alloc (.cells A S)).alloc (.cells B T)).alloc (.cells C U)).heap[w.heap.size+2]?=some (.cells C U (0,0))/\Mod [] w (((w.alloc (.cells A S)).alloc (.cells B T)).alloc (.cells C U)):=by
 have hz:((w.alloc (.cells A S)).alloc (.cells B T)).heap.size=w.heap.size+2:=by simp
 have hm:=(Mod.refl [] ((w.alloc (.cells A S)).alloc (.cells B T))).alloc (.cells C U)
 have h3:=heap_alloc_new ((w.alloc (.cells A S)).alloc (.cells B T)) (.cells C U)
 rw [hz] at h3
 exact ⟨hm.at (two_a w A B S T) (by simp),hm.at (two_b w A B S T) (by simp),h3,(((Mod.refl [] w).alloc _).alloc _).alloc _⟩
theorem BB.single {F:Nat->Prop} {w:World} {l:Pr.Li} {U:LU} {g:Nat} (hg:w.heap[g]?=some (.cells (liV l U) 38 (0,0))) (hF:F g) (h:LB F w l U):BB F w [l] (.slice (some ⟨g,0,none⟩) 1 1):=by
 refine ⟨_,_,fun _=>U,rfl,fun i hi=>⟨g,0,rfl,hF,lt_of_block hg,?_⟩,fun i hi=>?_,Nat.le_refl _⟩
 ·obtain rfl:i=0:=by simpa using hi
  exact CellsAt.of hg
 ·obtain rfl:i=0:=by simpa using hi
  exact h
set_option maxHeartbeats 16000000 in
theorem PrintParts_any (r:Pr.Rul) (tu ub:Value) (l:Pr.Li) (U:LU) (e:Pr.Ex) (u:Value) (hwt:rWt r+lWt l+exWt e<=3145728000) (w:World) (h1:RowB All w 5 tmV r.head.terms tu) (h2:BB All w r.body ub) (v1:Rt.RuV r) (hl:LB All w l U) (v2:Rt.LiV l) (he:EB All w e u) (v3:Rt.ExV e) (hG:GlobV w) :
  Calls Tryd.prog 3 #[.agg (ruV r tu ub),.agg (liV l U),.agg (exV e u)] w fun e' w'=>e'=.returned (.bool true)/\Mod [] w w':=by
 obtain ⟨⟨rel,ts⟩,body,ln,cl⟩:=r
 obtain ⟨ta,tc,rfl⟩:=h1.lit
 obtain ⟨ba,bc,rfl⟩:=h2.lit
 obtain ⟨ea,ec,rfl⟩:=he.lit
 unfold ruV exV
 dsimp only at h1 h2 ⊢
 have hr0:rWt ⟨⟨rel,ts⟩,body,ln,cl⟩=aWt ⟨rel,ts⟩+lsWt body+10:=rfl
 rw [hr0] at hwt
 have hb1:ts.length<=134217728:=by have:=aWt_len ⟨rel,ts⟩;dsimp only at this;omega
 have hb2:body.length<=134217728:=by have:=lsWt_lenL body;omega
 have hb3:liMs body<=134217728:=by have:=liMs_wt body;omega
 have hb4:exM e<=134217728:=by have:=exM_wt e;omega
 have hb5:liMs [l]<=134217728:=by have:=liM_wt l;simp only [liMs];omega
 generalize htU:tvs (Pr.pR ⟨⟨rel,ts⟩,body,ln,cl⟩)=sU
 generalize hkU:tvk (Pr.pR ⟨⟨rel,ts⟩,body,ln,cl⟩)=kU
 generalize htL:tvs (Pr.pL 16 l)=sL
 generalize hkL:tvk (Pr.pL 16 l)=kL
 generalize htA:tvs (Pr.pA ⟨rel,ts⟩)=sA
 generalize hkA:tvk (Pr.pA ⟨rel,ts⟩)=kA
 generalize htE:tvs (Pr.pE 17 e)=sE
 generalize hkE:tvk (Pr.pE 17 e)=kE
 have P1:Hid (∀ (tu ub:Value) (W:World),RowB All W 5 tmV ts tu->BB All W body ub->GlobV W->Calls Tryd.prog 8 #[.agg #[.string rel,tu,ub,.int .i64 ln,.int .i64 cl]] W (Tl sU kU W)):=Hxq (fun tu ub W g1 g2 g3=>(Rule_any ⟨⟨rel,ts⟩,body,ln,cl⟩ tu ub W (g1.tok v1.1) (g2.bok v1.2) g3 (by omega)).mono fun e' w' h=>⟨by rw [h.1,tv_eq,htU,hkU],h.2.1⟩)
 have P2:Hid (∀ (U:LU) (W:World),LB All W l U->GlobV W->Calls Tryd.prog 9 #[.agg (liV l U)] W (Tl sL kL W)):=Hxq (fun U W g1 g3=>by
  have g2:=g1.lok v2
  obtain ⟨U1,U2,U3,U4,U5⟩:=U
  obtain ⟨k,a,op,le,re,fn,av,of,bd,ln,cl⟩:=l
  exact (Literal_any k a op le re fn av of bd ln cl U1 U2 U3 U4 U5 W g2 g3 (by omega)).mono fun e' w' h=>⟨by rw [h.1,tv_eq,htL,hkL],h.2.1⟩)
 have P3:Hid (∀ (tu:Value) (W:World),RowB All W 5 tmV ts tu->GlobV W->Calls Tryd.prog 10 #[.agg #[.string rel,tu]] W (Tl sA kA W)):=Hxq (fun tu W g1 g3=>(Atom_any ⟨rel,ts⟩ tu W (g1.tok v1.1) g3 (by omega)).mono fun e' w' h=>⟨by rw [h.1,tv_eq,htA,hkA],h.2.1⟩)
 have P4:Hid (∀ (u:Value) (W:World),EB All W e u->GlobV W->Calls Tryd.prog 11 #[.agg (exV e u)] W (Tl sE kE W)):=Hxq (fun u W g1 g3=>(Expr_any e u W (g1.eok v3) g3 (by omega)).mono fun e' w' h=>⟨by rw [h.1,tv_eq,htE,hkE],h.2.1⟩)
 have Q1:Hid (∀ (tu ub:Value) (W:World),RowB All W 5 tmV ts tu->BB All W body ub->GlobV W->Calls Tryd.prog 15 #[.agg #[.string rel,tu,ub,.int .i64 ln,.int .i64 cl]] W (Tl sU kU W)):=Hxq (fun tu ub W g1 g2 g3=>(rRule_any ⟨⟨rel,ts⟩,body,ln,cl⟩ tu ub W (g1.tok v1.1) (g2.bok v1.2) g3 (by omega)).mono fun e' w' h=>⟨by rw [h.1,tv_eq,htU,hkU],h.2⟩)
 have Q2:Hid (∀ (U:LU) (W:World),LB All W l U->GlobV W->Calls Tryd.prog 16 #[.agg (liV l U)] W (Tl sL kL W)):=Hxq (fun U W g1 g3=>by
  have g2:=g1.lok v2
  obtain ⟨U1,U2,U3,U4,U5⟩:=U
  obtain ⟨k,a,op,le,re,fn,av,of,bd,ln,cl⟩:=l
  exact (rLiteral_any k a op le re fn av of bd ln cl U1 U2 U3 U4 U5 W g2 g3 (by omega)).mono fun e' w' h=>⟨by rw [h.1,tv_eq,htL,hkL],h.2⟩)
 have Q3:Hid (∀ (tu:Value) (W:World),RowB All W 5 tmV ts tu->GlobV W->Calls Tryd.prog 17 #[.agg #[.string rel,tu]] W (Tl sA kA W)):=Hxq (fun tu W g1 g3=>(rAtom_any ⟨rel,ts⟩ tu W (g1.tok v1.1) g3 (by omega)).mono fun e' w' h=>⟨by rw [h.1,tv_eq,htA,hkA],h.2⟩)
 have Q4:Hid (∀ (u:Value) (W:World),EB All W e u->GlobV W->Calls Tryd.prog 18 #[.agg (exV e u)] W (Tl sE kE W)):=Hxq (fun u W g1 g3=>(rExpr_any e u W (g1.eok v3) g3 (by omega)).mono fun e' w' h=>⟨by rw [h.1,tv_eq,htE,hkE],h.2⟩)
 unfold exV at P4 Q4
 clear htU hkU htL hkL htA hkA htE hkE v1 v2 v3 hwt hr0
 obtain ⟨CL,hCL⟩:∃ CL,liV l U=CL:=⟨_,rfl⟩
 have hCz:CL.size=30:=by rw [<-hCL];exact liV_30 l U
 have HZC:Hid ((Tryd.prog.info? 38).map (·.size)=some CL.size):=Hxq (by rw [hCz];kernel_rfl)
 have HCL:=Lib.hid hCL
 rw [hCL]
 have hiL:(Tryd.prog.info? 38).map (fun i=>(i.zero,i.size))=some (some (.agg #[Value.int .i64 0,Value.string ⟨#[]⟩,Value.slice none 0 0,Value.int .i64 0,Value.int .i64 0,Value.string ⟨#[]⟩,Value.int .i64 0,Value.int .i64 0,Value.string ⟨#[]⟩,Value.int .i64 0,Value.slice none 0 0,Value.int .i64 0,Value.string ⟨#[]⟩,Value.int .i64 0,Value.int .i64 0,Value.string ⟨#[]⟩,Value.int .i64 0,Value.slice none 0 0,Value.int .i64 0,Value.string ⟨#[]⟩,Value.int .i64 0,Value.string ⟨#[]⟩,Value.int .i64 0,Value.int .i64 0,Value.string ⟨#[]⟩,Value.int .i64 0,Value.slice none 0 0,Value.slice none 0 0,Value.int .i64 0,Value.int .i64 0]),30):=by kernel_rfl
 obtain ⟨iL,hinf,hz⟩:∃ i,Tryd.prog.info? 38=some i/\(i.zero,i.size)=(some (.agg #[Value.int .i64 0,Value.string ⟨#[]⟩,Value.slice none 0 0,Value.int .i64 0,Value.int .i64 0,Value.string ⟨#[]⟩,Value.int .i64 0,Value.int .i64 0,Value.string ⟨#[]⟩,Value.int .i64 0,Value.slice none 0 0,Value.int .i64 0,Value.string ⟨#[]⟩,Value.int .i64 0,Value.int .i64 0,Value.string ⟨#[]⟩,Value.int .i64 0,Value.slice none 0 0,Value.int .i64 0,Value.string ⟨#[]⟩,Value.int .i64 0,Value.string ⟨#[]⟩,Value.int .i64 0,Value.int .i64 0,Value.string ⟨#[]⟩,Value.int .i64 0,Value.slice none 0 0,Value.slice none 0 0,Value.int .i64 0,Value.int .i64 0]),30):=by
  cases hi:Tryd.prog.info? 38 with
  | none=>rw [hi] at hiL;cases hiL
  | some i=>rw [hi] at hiL;exact ⟨i,rfl,Option.some.inj hiL⟩
 have hz0:=congrArg Prod.fst hz;have hz1:=congrArg Prod.snd hz
 clear hiL hz
 dsimp only at hz0 hz1
 clear hCL
 have hv:=three_vars w #[.string rel,.slice ta ts.length tc,.slice ba body.length bc,.int .i64 ln,.int .i64 cl] CL #[.int .i64 e.k,.string e.v,.int .i64 e.x.k,.int .i64 e.x.n,.string (Lx.ofS e.x.s),.int .i64 e.op,.slice ea e.args.length ec] 29 38 34
 have HV:=Lib.hid hv
 have H1:=Lib.hid h1;have H2:=Lib.hid h2;have H3:=Lib.hid hl;have H4:=Lib.hid he;have HG:=Lib.hid hG
 clear hv h1 h2 hl he hG
 go_enter Tryd.func3,Tryd.ntmps3
 go_upto_region 1 with fail
 obtain ⟨x0,x1,x2,m0⟩:=HV.out
 clear HV
 generalize ((w.alloc _).alloc _).alloc _=w1 at *
 generalize w.heap.size=g at *
 have M_w1:=Lib.hid m0
 have ER_w1:=Lib.hid x0;have EL_w1:=Lib.hid x1;have EE_w1:=Lib.hid x2
 have H1_w1:=Hxq (H1.out.keep m0 (by simp));have H2_w1:=Hxq (H2.out.keep m0 (by simp));have H3_w1:=Hxq (H3.out.keep m0 (by simp));have H4_w1:=Hxq (H4.out.keep m0 (by simp));have HG_w1:=Hxq (HG.out.past m0 (by simp))
 clear x0 x1 x2 m0 H1 H2 H3 H4 HG
 go_wp2_with fail
 refine (awake_any w1 HG_w1.out).mono ?_
 rintro e2 w2 ⟨rfl,m⟩
 have M_w2:=Hxq (M_w1.out.trans m (by simp))
 have ER_w2:=Hxq (m.at ER_w1.out (by simp))
 have EL_w2:=Hxq (m.at EL_w1.out (by simp))
 have EE_w2:=Hxq (m.at EE_w1.out (by simp))
 have H1_w2:=Hxq (H1_w1.out.keep m (by simp))
 have H2_w2:=Hxq (H2_w1.out.keep m (by simp))
 have H3_w2:=Hxq (H3_w1.out.keep m (by simp))
 have H4_w2:=Hxq (H4_w1.out.keep m (by simp))
 have HG_w2:=Hxq (HG_w1.out.past m (by simp))
 clear M_w1 ER_w1 EL_w1 EE_w1 H1_w1 H2_w1 H3_w1 H4_w1 HG_w1
 clear m 
 have x0:=cell_at ER_w2.out 0;have x1:=cell_at ER_w2.out 1;have x2:=cell_at ER_w2.out 2;have x3:=cell_at ER_w2.out 3;have x4:=cell_at ER_w2.out 4
 simp only [List.getElem?_toArray,List.getElem?_cons_zero,List.getElem?_cons_succ] at x0 x1 x2 x3 x4
 go_wp2_with fail
 refine (copyAtom_any ⟨rel,ts⟩ hb1 _ w2 H1_w2.out).mono ?_
 rintro e3 w3 ⟨u3,rfl,hu3,m⟩
 replace hu3:=hu3.mono (F':=All) (fun _ _ _=>trivial)
 obtain ⟨a3,c3,rfl⟩:=hu3.lit
 have M_w3:=Hxq (M_w2.out.trans m (by simp))
 have ER_w3:=Hxq (m.at ER_w2.out (by simp))
 have EL_w3:=Hxq (m.at EL_w2.out (by simp))
 have EE_w3:=Hxq (m.at EE_w2.out (by simp))
 have H1_w3:=Hxq (H1_w2.out.keep m (by simp))
 have H2_w3:=Hxq (H2_w2.out.keep m (by simp))
 have H3_w3:=Hxq (H3_w2.out.keep m (by simp))
 have H4_w3:=Hxq (H4_w2.out.keep m (by simp))
 have HG_w3:=Hxq (HG_w2.out.past m (by simp))
 clear M_w2 ER_w2 EL_w2 EE_w2 H1_w2 H2_w2 H3_w2 H4_w2 HG_w2
 clear m x0 x1 x2 x3 x4
 go_upto_region 3 with fail
 have xB:=heap_alloc_new w3 (Obj.cells #[.string rel,.slice a3 ts.length c3] 24)
 have m:=(Mod.refl [] w3).alloc (Obj.cells #[.string rel,.slice a3 ts.length c3] 24)
 generalize w3.alloc (Obj.cells _ 24)=w4 at *
 generalize w3.heap.size=pEA at *
 have M_w4:=Hxq (M_w3.out.trans m (by simp))
 have ER_w4:=Hxq (m.at ER_w3.out (by simp))
 have EL_w4:=Hxq (m.at EL_w3.out (by simp))
 have EE_w4:=Hxq (m.at EE_w3.out (by simp))
 have H1_w4:=Hxq (H1_w3.out.keep m (by simp))
 have H2_w4:=Hxq (H2_w3.out.keep m (by simp))
 have H3_w4:=Hxq (H3_w3.out.keep m (by simp))
 have H4_w4:=Hxq (H4_w3.out.keep m (by simp))
 have HG_w4:=Hxq (HG_w3.out.past m (by simp))
 clear M_w3 ER_w3 EL_w3 EE_w3 H1_w3 H2_w3 H3_w3 H4_w3 HG_w3
 have EA_w4:=Hxq (xB)
 have HA_w4:=Hxq (hu3.keep m (by simp))
 clear m xB hu3
 have x0:=cell_at ER_w4.out 0;have x1:=cell_at ER_w4.out 1;have x2:=cell_at ER_w4.out 2;have x3:=cell_at ER_w4.out 3;have x4:=cell_at ER_w4.out 4
 simp only [List.getElem?_toArray,List.getElem?_cons_zero,List.getElem?_cons_succ] at x0 x1 x2 x3 x4
 go_wp2_with fail
 refine (copyLits_any body hb2 hb3 _ w4 H2_w4.out).mono ?_
 rintro e5 w5 ⟨acc,b5,c5,rfl,hac,hgi,m⟩
 have hb5':=(BB.of_gi hgi).mono (F':=All) (fun _ _ _=>trivial)
 rw [hac] at hb5'
 have hal:acc.length=body.length:=by rw [<-hac,List.length_map]
 rw [hal] at hb5' ⊢
 have HB_w5:=Lib.hid hb5'
 clear hac hgi hal hb5'
 have M_w5:=Hxq (M_w4.out.trans m (by simp))
 have ER_w5:=Hxq (m.at ER_w4.out (by simp))
 have EL_w5:=Hxq (m.at EL_w4.out (by simp))
 have EE_w5:=Hxq (m.at EE_w4.out (by simp))
 have H1_w5:=Hxq (H1_w4.out.keep m (by simp))
 have H2_w5:=Hxq (H2_w4.out.keep m (by simp))
 have H3_w5:=Hxq (H3_w4.out.keep m (by simp))
 have H4_w5:=Hxq (H4_w4.out.keep m (by simp))
 have HG_w5:=Hxq (HG_w4.out.past m (by simp))
 have EA_w5:=Hxq (m.at EA_w4.out (by simp))
 have HA_w5:=Hxq (HA_w4.out.keep m (by simp))
 clear M_w4 ER_w4 EL_w4 EE_w4 H1_w4 H2_w4 H3_w4 H4_w4 HG_w4 EA_w4 HA_w4
 clear m x0 x1 x2 x3 x4
 go_upto_region 4 with fail
 have xS:=heap_alloc_new w5 (Obj.cells CL 38)
 have mS:=(Mod.refl [] w5).alloc (Obj.cells CL 38)
 have hbs:=Hxq (BB.single (F:=All) (l:=l) (U:=U) (g:=w5.heap.size) (by rw [HCL.out];exact xS) trivial (H3_w5.out.keep mS (by simp)))
 clear xS
 have HCC:=Hxq (copyLits_any [l] (by simp) hb5 _ _ hbs.out)
 go_wp2_with (first | refine wpList_load_row rfl 38 _ rfl (g+1) CL 38 (0,0) rfl EL_w5.out _ Tryd.underlying38 rfl HZC.out ?_ | refine wpList_slice_one rfl 25 38 _ rfl CL iL (.agg #[Value.int .i64 0,Value.string ⟨#[]⟩,Value.slice none 0 0,Value.int .i64 0,Value.int .i64 0,Value.string ⟨#[]⟩,Value.int .i64 0,Value.int .i64 0,Value.string ⟨#[]⟩,Value.int .i64 0,Value.slice none 0 0,Value.int .i64 0,Value.string ⟨#[]⟩,Value.int .i64 0,Value.int .i64 0,Value.string ⟨#[]⟩,Value.int .i64 0,Value.slice none 0 0,Value.int .i64 0,Value.string ⟨#[]⟩,Value.int .i64 0,Value.string ⟨#[]⟩,Value.int .i64 0,Value.int .i64 0,Value.string ⟨#[]⟩,Value.int .i64 0,Value.slice none 0 0,Value.slice none 0 0,Value.int .i64 0,Value.int .i64 0]) rfl Tryd.underlying25 hinf hz0 (by rw [hCz];exact hz1.symm) (by rw [hz1];omega) (by rw [hz1];omega) ?_)
 refine HCC.out.mono ?_
 rintro e6 w6 ⟨acc,b7,c7,rfl,hac,hgi,m⟩
 replace m:=mS.trans m (by simp)
 have hb7:=(BB.of_gi hgi).mono (F':=All) (fun _ _ _=>trivial)
 rw [hac] at hb7
 have hal:acc.length=1:=by have:=congrArg List.length hac;simpa using this
 rw [hal] at hb7 ⊢
 have M_w6:=Hxq (M_w5.out.trans m (by simp))
 have ER_w6:=Hxq (m.at ER_w5.out (by simp))
 have EL_w6:=Hxq (m.at EL_w5.out (by simp))
 have EE_w6:=Hxq (m.at EE_w5.out (by simp))
 have H1_w6:=Hxq (H1_w5.out.keep m (by simp))
 have H2_w6:=Hxq (H2_w5.out.keep m (by simp))
 have H3_w6:=Hxq (H3_w5.out.keep m (by simp))
 have H4_w6:=Hxq (H4_w5.out.keep m (by simp))
 have HG_w6:=Hxq (HG_w5.out.past m (by simp))
 have EA_w6:=Hxq (m.at EA_w5.out (by simp))
 have HA_w6:=Hxq (HA_w5.out.keep m (by simp))
 have HB_w6:=Hxq (HB_w5.out.keep m (by simp))
 clear M_w5 ER_w5 EL_w5 EE_w5 H1_w5 H2_w5 H3_w5 H4_w5 HG_w5 EA_w5 HA_w5 HB_w5
 have HL_w6:=Hxq (hb7)
 clear m mS hac hgi hal hb7 HCC hbs
 have x0:=cell_at EE_w6.out 0;have x1:=cell_at EE_w6.out 1;have x2:=cell_at EE_w6.out 2;have x3:=cell_at EE_w6.out 3;have x4:=cell_at EE_w6.out 4;have x5:=cell_at EE_w6.out 5;have x6:=cell_at EE_w6.out 6
 simp only [List.getElem?_toArray,List.getElem?_cons_zero,List.getElem?_cons_succ] at x0 x1 x2 x3 x4 x5 x6
 go_wp2_with fail
 refine (copyExpr_any e hb4 _ w6 H4_w6.out).mono ?_
 rintro e7 w7 ⟨u9,rfl,hu9,m⟩
 replace hu9:=hu9.mono (F':=All) (fun _ _ _=>trivial)
 obtain ⟨a9,c9,rfl⟩:=hu9.lit
 unfold exV
 have M_w7:=Hxq (M_w6.out.trans m (by simp))
 have ER_w7:=Hxq (m.at ER_w6.out (by simp))
 have EL_w7:=Hxq (m.at EL_w6.out (by simp))
 have EE_w7:=Hxq (m.at EE_w6.out (by simp))
 have H1_w7:=Hxq (H1_w6.out.keep m (by simp))
 have H2_w7:=Hxq (H2_w6.out.keep m (by simp))
 have H3_w7:=Hxq (H3_w6.out.keep m (by simp))
 have H4_w7:=Hxq (H4_w6.out.keep m (by simp))
 have HG_w7:=Hxq (HG_w6.out.past m (by simp))
 have EA_w7:=Hxq (m.at EA_w6.out (by simp))
 have HA_w7:=Hxq (HA_w6.out.keep m (by simp))
 have HB_w7:=Hxq (HB_w6.out.keep m (by simp))
 have HL_w7:=Hxq (HL_w6.out.keep m (by simp))
 clear M_w6 ER_w6 EL_w6 EE_w6 H1_w6 H2_w6 H3_w6 H4_w6 HG_w6 EA_w6 HA_w6 HB_w6 HL_w6
 clear m x0 x1 x2 x3 x4 x5 x6
 go_upto_region 6 with fail
 have xB:=heap_alloc_new w7 (Obj.cells #[.int .i64 e.k,.string e.v,.int .i64 e.x.k,.int .i64 e.x.n,.string (Lx.ofS e.x.s),.int .i64 e.op,.slice a9 e.args.length c9] 34)
 have m:=(Mod.refl [] w7).alloc (Obj.cells #[.int .i64 e.k,.string e.v,.int .i64 e.x.k,.int .i64 e.x.n,.string (Lx.ofS e.x.s),.int .i64 e.op,.slice a9 e.args.length c9] 34)
 generalize w7.alloc (Obj.cells _ 34)=w8 at *
 generalize w7.heap.size=pEX at *
 have M_w8:=Hxq (M_w7.out.trans m (by simp))
 have ER_w8:=Hxq (m.at ER_w7.out (by simp))
 have EL_w8:=Hxq (m.at EL_w7.out (by simp))
 have EE_w8:=Hxq (m.at EE_w7.out (by simp))
 have H1_w8:=Hxq (H1_w7.out.keep m (by simp))
 have H2_w8:=Hxq (H2_w7.out.keep m (by simp))
 have H3_w8:=Hxq (H3_w7.out.keep m (by simp))
 have H4_w8:=Hxq (H4_w7.out.keep m (by simp))
 have HG_w8:=Hxq (HG_w7.out.past m (by simp))
 have EA_w8:=Hxq (m.at EA_w7.out (by simp))
 have HA_w8:=Hxq (HA_w7.out.keep m (by simp))
 have HB_w8:=Hxq (HB_w7.out.keep m (by simp))
 have HL_w8:=Hxq (HL_w7.out.keep m (by simp))
 clear M_w7 ER_w7 EL_w7 EE_w7 H1_w7 H2_w7 H3_w7 H4_w7 HG_w7 EA_w7 HA_w7 HB_w7 HL_w7
 have EX_w8:=Hxq (xB)
 have HX_w8:=Hxq (hu9.keep m (by simp))
 clear m xB hu9
 have x0:=cell_at ER_w8.out 0;have x1:=cell_at ER_w8.out 1;have x2:=cell_at ER_w8.out 2;have x3:=cell_at ER_w8.out 3;have x4:=cell_at ER_w8.out 4
 simp only [List.getElem?_toArray,List.getElem?_cons_zero,List.getElem?_cons_succ] at x0 x1 x2 x3 x4
 have y0:=cell_at EA_w8.out 0;have y1:=cell_at EA_w8.out 1
 simp only [List.getElem?_toArray,List.getElem?_cons_zero,List.getElem?_cons_succ] at y0 y1
 go_wp2_with fail
 refine (P1.out _ _ w8 HA_w8.out HB_w8.out HG_w8.out).mono ?_
 rintro e9 w9 ⟨rfl,m⟩
 have M_w9:=Hxq (M_w8.out.trans m (by simp))
 have ER_w9:=Hxq (m.at ER_w8.out (by simp))
 have EL_w9:=Hxq (m.at EL_w8.out (by simp))
 have EE_w9:=Hxq (m.at EE_w8.out (by simp))
 have H1_w9:=Hxq (H1_w8.out.keep m (by simp))
 have H2_w9:=Hxq (H2_w8.out.keep m (by simp))
 have H3_w9:=Hxq (H3_w8.out.keep m (by simp))
 have H4_w9:=Hxq (H4_w8.out.keep m (by simp))
 have HG_w9:=Hxq (HG_w8.out.past m (by simp))
 have EA_w9:=Hxq (m.at EA_w8.out (by simp))
 have HA_w9:=Hxq (HA_w8.out.keep m (by simp))
 have HB_w9:=Hxq (HB_w8.out.keep m (by simp))
 have HL_w9:=Hxq (HL_w8.out.keep m (by simp))
 have EX_w9:=Hxq (m.at EX_w8.out (by simp))
 have HX_w9:=Hxq (HX_w8.out.keep m (by simp))
 clear M_w8 ER_w8 EL_w8 EE_w8 H1_w8 H2_w8 H3_w8 H4_w8 HG_w8 EA_w8 HA_w8 HB_w8 HL_w8 EX_w8 HX_w8
 clear m x0 x1 x2 x3 x4 y0 y1
 obtain ⟨g7,o7,hg7⟩:∃ g7 o7,b7=some ⟨g7,o7,none⟩:=by obtain ⟨ub,cb,us,hu,h1,-,-⟩:=HL_w9.out;obtain ⟨g7,o7,h7,-⟩:=h1 0 (by simp);cases hu;exact ⟨g7,o7,h7⟩
 subst hg7
 obtain ⟨U7,hc7,hl7⟩:∃ U7,CellsAt w9 g7 o7 (liV l U7)/\LB All w9 l U7:=by obtain ⟨ub,cb,us,hu,h1,h2,-⟩:=HL_w9.out;obtain ⟨g8,o8,h7,-,-,h8⟩:=h1 0 (by simp);cases hu;cases h7;exact ⟨us 0,by simpa using h8,h2 0 (by simp)⟩
 have h7z:=liV_30 l U7
 have HP2:=Hxq (P2.out U7 w9 hl7 HG_w9.out)
 have hr7:w9.rangeAt g7 o7 (liV l U7).toList:=CellsAt.range (by simpa using hc7)
 generalize liV l U7=C7 at *
 have HR7:=Lib.hid hr7;have HZ7:Hid ((Tryd.prog.info? 38).map (·.size)=some C7.toList.length):=Hxq (by rw [Array.length_toList,h7z];kernel_rfl)
 clear hr7 hc7 hl7 h7z
 go_wp2_with (refine wpList_load_mid rfl 38 _ rfl g7 _ rfl _ _ HR7.out Tryd.underlying38 rfl HZ7.out ?_)
 refine (HP2.out).mono ?_
 rintro e10 w10 ⟨rfl,m⟩
 have M_w10:=Hxq (M_w9.out.trans m (by simp))
 have ER_w10:=Hxq (m.at ER_w9.out (by simp))
 have EL_w10:=Hxq (m.at EL_w9.out (by simp))
 have EE_w10:=Hxq (m.at EE_w9.out (by simp))
 have H1_w10:=Hxq (H1_w9.out.keep m (by simp))
 have H2_w10:=Hxq (H2_w9.out.keep m (by simp))
 have H3_w10:=Hxq (H3_w9.out.keep m (by simp))
 have H4_w10:=Hxq (H4_w9.out.keep m (by simp))
 have HG_w10:=Hxq (HG_w9.out.past m (by simp))
 have EA_w10:=Hxq (m.at EA_w9.out (by simp))
 have HA_w10:=Hxq (HA_w9.out.keep m (by simp))
 have HB_w10:=Hxq (HB_w9.out.keep m (by simp))
 have HL_w10:=Hxq (HL_w9.out.keep m (by simp))
 have EX_w10:=Hxq (m.at EX_w9.out (by simp))
 have HX_w10:=Hxq (HX_w9.out.keep m (by simp))
 clear M_w9 ER_w9 EL_w9 EE_w9 H1_w9 H2_w9 H3_w9 H4_w9 HG_w9 EA_w9 HA_w9 HB_w9 HL_w9 EX_w9 HX_w9
 clear m HP2 HR7 HZ7
 have y0:=cell_at EA_w10.out 0;have y1:=cell_at EA_w10.out 1
 simp only [List.getElem?_toArray,List.getElem?_cons_zero,List.getElem?_cons_succ] at y0 y1
 go_wp2_with fail
 refine (P3.out _ w10 HA_w10.out HG_w10.out).mono ?_
 rintro e11 w11 ⟨rfl,m⟩
 have M_w11:=Hxq (M_w10.out.trans m (by simp))
 have ER_w11:=Hxq (m.at ER_w10.out (by simp))
 have EL_w11:=Hxq (m.at EL_w10.out (by simp))
 have EE_w11:=Hxq (m.at EE_w10.out (by simp))
 have H1_w11:=Hxq (H1_w10.out.keep m (by simp))
 have H2_w11:=Hxq (H2_w10.out.keep m (by simp))
 have H3_w11:=Hxq (H3_w10.out.keep m (by simp))
 have H4_w11:=Hxq (H4_w10.out.keep m (by simp))
 have HG_w11:=Hxq (HG_w10.out.past m (by simp))
 have EA_w11:=Hxq (m.at EA_w10.out (by simp))
 have HA_w11:=Hxq (HA_w10.out.keep m (by simp))
 have HB_w11:=Hxq (HB_w10.out.keep m (by simp))
 have HL_w11:=Hxq (HL_w10.out.keep m (by simp))
 have EX_w11:=Hxq (m.at EX_w10.out (by simp))
 have HX_w11:=Hxq (HX_w10.out.keep m (by simp))
 clear M_w10 ER_w10 EL_w10 EE_w10 H1_w10 H2_w10 H3_w10 H4_w10 HG_w10 EA_w10 HA_w10 HB_w10 HL_w10 EX_w10 HX_w10
 clear m y0 y1
 have x0:=cell_at EX_w11.out 0;have x1:=cell_at EX_w11.out 1;have x2:=cell_at EX_w11.out 2;have x3:=cell_at EX_w11.out 3;have x4:=cell_at EX_w11.out 4;have x5:=cell_at EX_w11.out 5;have x6:=cell_at EX_w11.out 6
 simp only [List.getElem?_toArray,List.getElem?_cons_zero,List.getElem?_cons_succ] at x0 x1 x2 x3 x4 x5 x6
 go_wp2_with fail
 refine (P4.out _ w11 HX_w11.out HG_w11.out).mono ?_
 rintro e12 w12 ⟨rfl,m⟩
 have M_w12:=Hxq (M_w11.out.trans m (by simp))
 have ER_w12:=Hxq (m.at ER_w11.out (by simp))
 have EL_w12:=Hxq (m.at EL_w11.out (by simp))
 have EE_w12:=Hxq (m.at EE_w11.out (by simp))
 have H1_w12:=Hxq (H1_w11.out.keep m (by simp))
 have H2_w12:=Hxq (H2_w11.out.keep m (by simp))
 have H3_w12:=Hxq (H3_w11.out.keep m (by simp))
 have H4_w12:=Hxq (H4_w11.out.keep m (by simp))
 have HG_w12:=Hxq (HG_w11.out.past m (by simp))
 have EA_w12:=Hxq (m.at EA_w11.out (by simp))
 have HA_w12:=Hxq (HA_w11.out.keep m (by simp))
 have HB_w12:=Hxq (HB_w11.out.keep m (by simp))
 have HL_w12:=Hxq (HL_w11.out.keep m (by simp))
 have EX_w12:=Hxq (m.at EX_w11.out (by simp))
 have HX_w12:=Hxq (HX_w11.out.keep m (by simp))
 clear M_w11 ER_w11 EL_w11 EE_w11 H1_w11 H2_w11 H3_w11 H4_w11 HG_w11 EA_w11 HA_w11 HB_w11 HL_w11 EX_w11 HX_w11
 clear m x0 x1 x2 x3 x4 x5 x6
 have y0:=cell_at EA_w12.out 0;have y1:=cell_at EA_w12.out 1
 simp only [List.getElem?_toArray,List.getElem?_cons_zero,List.getElem?_cons_succ] at y0 y1
 have x0:=cell_at ER_w12.out 0;have x1:=cell_at ER_w12.out 1;have x2:=cell_at ER_w12.out 2;have x3:=cell_at ER_w12.out 3;have x4:=cell_at ER_w12.out 4
 simp only [List.getElem?_toArray,List.getElem?_cons_zero,List.getElem?_cons_succ] at x0 x1 x2 x3 x4
 go_wp2_with fail
 refine (sameAtom_any ⟨rel,ts⟩ (by dsimp only;omega) _ _ w12 HA_w12.out H1_w12.out).mono ?_
 rintro e13 w13 ⟨rfl,m⟩
 have M_w13:=Hxq (M_w12.out.trans m (by simp))
 have ER_w13:=Hxq (m.at ER_w12.out (by simp))
 have EL_w13:=Hxq (m.at EL_w12.out (by simp))
 have EE_w13:=Hxq (m.at EE_w12.out (by simp))
 have H1_w13:=Hxq (H1_w12.out.keep m (by simp))
 have H2_w13:=Hxq (H2_w12.out.keep m (by simp))
 have H3_w13:=Hxq (H3_w12.out.keep m (by simp))
 have H4_w13:=Hxq (H4_w12.out.keep m (by simp))
 have HG_w13:=Hxq (HG_w12.out.past m (by simp))
 have EA_w13:=Hxq (m.at EA_w12.out (by simp))
 have HA_w13:=Hxq (HA_w12.out.keep m (by simp))
 have HB_w13:=Hxq (HB_w12.out.keep m (by simp))
 have HL_w13:=Hxq (HL_w12.out.keep m (by simp))
 have EX_w13:=Hxq (m.at EX_w12.out (by simp))
 have HX_w13:=Hxq (HX_w12.out.keep m (by simp))
 clear M_w12 ER_w12 EL_w12 EE_w12 H1_w12 H2_w12 H3_w12 H4_w12 HG_w12 EA_w12 HA_w12 HB_w12 HL_w12 EX_w12 HX_w12
 clear m y0 y1 x0 x1 x2 x3 x4
 have x0:=cell_at ER_w13.out 0;have x1:=cell_at ER_w13.out 1;have x2:=cell_at ER_w13.out 2;have x3:=cell_at ER_w13.out 3;have x4:=cell_at ER_w13.out 4
 simp only [List.getElem?_toArray,List.getElem?_cons_zero,List.getElem?_cons_succ] at x0 x1 x2 x3 x4
 go_wp2_with fail
 refine (sameLits_any body (by omega) (by omega) _ _ w13 HB_w13.out H2_w13.out).mono ?_
 rintro e14 w14 ⟨rfl,m⟩
 have M_w14:=Hxq (M_w13.out.trans m (by simp))
 have ER_w14:=Hxq (m.at ER_w13.out (by simp))
 have EL_w14:=Hxq (m.at EL_w13.out (by simp))
 have EE_w14:=Hxq (m.at EE_w13.out (by simp))
 have H1_w14:=Hxq (H1_w13.out.keep m (by simp))
 have H2_w14:=Hxq (H2_w13.out.keep m (by simp))
 have H3_w14:=Hxq (H3_w13.out.keep m (by simp))
 have H4_w14:=Hxq (H4_w13.out.keep m (by simp))
 have HG_w14:=Hxq (HG_w13.out.past m (by simp))
 have EA_w14:=Hxq (m.at EA_w13.out (by simp))
 have HA_w14:=Hxq (HA_w13.out.keep m (by simp))
 have HB_w14:=Hxq (HB_w13.out.keep m (by simp))
 have HL_w14:=Hxq (HL_w13.out.keep m (by simp))
 have EX_w14:=Hxq (m.at EX_w13.out (by simp))
 have HX_w14:=Hxq (HX_w13.out.keep m (by simp))
 clear M_w13 ER_w13 EL_w13 EE_w13 H1_w13 H2_w13 H3_w13 H4_w13 HG_w13 EA_w13 HA_w13 HB_w13 HL_w13 EX_w13 HX_w13
 clear m x0 x1 x2 x3 x4
 have xS:=heap_alloc_new w14 (Obj.cells CL 38)
 have mS:=(Mod.refl [] w14).alloc (Obj.cells CL 38)
 have hbs:=Hxq (BB.single (F:=All) (l:=l) (U:=U) (g:=w14.heap.size) (by rw [HCL.out];exact xS) trivial (H3_w14.out.keep mS (by simp)))
 have HCC:=Hxq (sameLits_any [l] (by simp) (by omega) _ _ _ (HL_w14.out.keep mS (by simp)) hbs.out)
 clear xS
 go_wp2_with (first | (refine wpList_let (by rfl) ?_;refine wpList_load_row rfl 38 _ rfl (g+1) CL 38 (0,0) rfl EL_w14.out _ Tryd.underlying38 rfl HZC.out ?_) | (refine wpList_let (by rfl) ?_;refine wpList_slice_one rfl 25 38 _ rfl CL iL (.agg #[Value.int .i64 0,Value.string ⟨#[]⟩,Value.slice none 0 0,Value.int .i64 0,Value.int .i64 0,Value.string ⟨#[]⟩,Value.int .i64 0,Value.int .i64 0,Value.string ⟨#[]⟩,Value.int .i64 0,Value.slice none 0 0,Value.int .i64 0,Value.string ⟨#[]⟩,Value.int .i64 0,Value.int .i64 0,Value.string ⟨#[]⟩,Value.int .i64 0,Value.slice none 0 0,Value.int .i64 0,Value.string ⟨#[]⟩,Value.int .i64 0,Value.string ⟨#[]⟩,Value.int .i64 0,Value.int .i64 0,Value.string ⟨#[]⟩,Value.int .i64 0,Value.slice none 0 0,Value.slice none 0 0,Value.int .i64 0,Value.int .i64 0]) rfl Tryd.underlying25 hinf hz0 (by rw [hCz];exact hz1.symm) (by rw [hz1];omega) (by rw [hz1];omega) ?_))
 refine HCC.out.mono ?_
 rintro e15 w15 ⟨rfl,m⟩
 replace m:=mS.trans m (by simp)
 have M_w15:=Hxq (M_w14.out.trans m (by simp))
 have ER_w15:=Hxq (m.at ER_w14.out (by simp))
 have EL_w15:=Hxq (m.at EL_w14.out (by simp))
 have EE_w15:=Hxq (m.at EE_w14.out (by simp))
 have H1_w15:=Hxq (H1_w14.out.keep m (by simp))
 have H2_w15:=Hxq (H2_w14.out.keep m (by simp))
 have H3_w15:=Hxq (H3_w14.out.keep m (by simp))
 have H4_w15:=Hxq (H4_w14.out.keep m (by simp))
 have HG_w15:=Hxq (HG_w14.out.past m (by simp))
 have EA_w15:=Hxq (m.at EA_w14.out (by simp))
 have HA_w15:=Hxq (HA_w14.out.keep m (by simp))
 have HB_w15:=Hxq (HB_w14.out.keep m (by simp))
 have HL_w15:=Hxq (HL_w14.out.keep m (by simp))
 have EX_w15:=Hxq (m.at EX_w14.out (by simp))
 have HX_w15:=Hxq (HX_w14.out.keep m (by simp))
 clear M_w14 ER_w14 EL_w14 EE_w14 H1_w14 H2_w14 H3_w14 H4_w14 HG_w14 EA_w14 HA_w14 HB_w14 HL_w14 EX_w14 HX_w14
 clear m mS HCC hbs
 have y0:=cell_at EX_w15.out 0;have y1:=cell_at EX_w15.out 1;have y2:=cell_at EX_w15.out 2;have y3:=cell_at EX_w15.out 3;have y4:=cell_at EX_w15.out 4;have y5:=cell_at EX_w15.out 5;have y6:=cell_at EX_w15.out 6
 simp only [List.getElem?_toArray,List.getElem?_cons_zero,List.getElem?_cons_succ] at y0 y1 y2 y3 y4 y5 y6
 have x0:=cell_at EE_w15.out 0;have x1:=cell_at EE_w15.out 1;have x2:=cell_at EE_w15.out 2;have x3:=cell_at EE_w15.out 3;have x4:=cell_at EE_w15.out 4;have x5:=cell_at EE_w15.out 5;have x6:=cell_at EE_w15.out 6
 simp only [List.getElem?_toArray,List.getElem?_cons_zero,List.getElem?_cons_succ] at x0 x1 x2 x3 x4 x5 x6
 go_wp2_with fail
 refine (sameExpr_any e (by omega) _ _ w15 HX_w15.out H4_w15.out).mono ?_
 rintro e16 w16 ⟨rfl,m⟩
 have M_w16:=Hxq (M_w15.out.trans m (by simp))
 have ER_w16:=Hxq (m.at ER_w15.out (by simp))
 have EL_w16:=Hxq (m.at EL_w15.out (by simp))
 have EE_w16:=Hxq (m.at EE_w15.out (by simp))
 have H1_w16:=Hxq (H1_w15.out.keep m (by simp))
 have H2_w16:=Hxq (H2_w15.out.keep m (by simp))
 have H3_w16:=Hxq (H3_w15.out.keep m (by simp))
 have H4_w16:=Hxq (H4_w15.out.keep m (by simp))
 have HG_w16:=Hxq (HG_w15.out.past m (by simp))
 have EA_w16:=Hxq (m.at EA_w15.out (by simp))
 have HA_w16:=Hxq (HA_w15.out.keep m (by simp))
 have HB_w16:=Hxq (HB_w15.out.keep m (by simp))
 have HL_w16:=Hxq (HL_w15.out.keep m (by simp))
 have EX_w16:=Hxq (m.at EX_w15.out (by simp))
 have HX_w16:=Hxq (HX_w15.out.keep m (by simp))
 clear M_w15 ER_w15 EL_w15 EE_w15 H1_w15 H2_w15 H3_w15 H4_w15 HG_w15 EA_w15 HA_w15 HB_w15 HL_w15 EX_w15 HX_w15
 clear m y0 y1 y2 y3 y4 y5 y6 x0 x1 x2 x3 x4 x5 x6
 have x0:=cell_at ER_w16.out 0;have x1:=cell_at ER_w16.out 1;have x2:=cell_at ER_w16.out 2;have x3:=cell_at ER_w16.out 3;have x4:=cell_at ER_w16.out 4
 simp only [List.getElem?_toArray,List.getElem?_cons_zero,List.getElem?_cons_succ] at x0 x1 x2 x3 x4
 go_wp2_with fail
 refine (Q1.out _ _ w16 H1_w16.out H2_w16.out HG_w16.out).mono ?_
 rintro e17 w17 ⟨rfl,m⟩
 have M_w17:=Hxq (M_w16.out.trans m (by simp))
 have ER_w17:=Hxq (m.at ER_w16.out (by simp))
 have EL_w17:=Hxq (m.at EL_w16.out (by simp))
 have EE_w17:=Hxq (m.at EE_w16.out (by simp))
 have H1_w17:=Hxq (H1_w16.out.keep m (by simp))
 have H2_w17:=Hxq (H2_w16.out.keep m (by simp))
 have H3_w17:=Hxq (H3_w16.out.keep m (by simp))
 have H4_w17:=Hxq (H4_w16.out.keep m (by simp))
 have HG_w17:=Hxq (HG_w16.out.past m (by simp))
 have EA_w17:=Hxq (m.at EA_w16.out (by simp))
 have HA_w17:=Hxq (HA_w16.out.keep m (by simp))
 have HB_w17:=Hxq (HB_w16.out.keep m (by simp))
 have HL_w17:=Hxq (HL_w16.out.keep m (by simp))
 have EX_w17:=Hxq (m.at EX_w16.out (by simp))
 have HX_w17:=Hxq (HX_w16.out.keep m (by simp))
 clear M_w16 ER_w16 EL_w16 EE_w16 H1_w16 H2_w16 H3_w16 H4_w16 HG_w16 EA_w16 HA_w16 HB_w16 HL_w16 EX_w16 HX_w16
 clear m x0 x1 x2 x3 x4
 have HQ2:Hid (Calls Tryd.prog 16 #[.agg CL] w17 (Tl sL kL w17)):=Hxq (by rw [<-HCL.out];exact Q2.out U w17 H3_w17.out HG_w17.out)
 go_wp2_with (refine wpList_load_row rfl 38 _ rfl (g+1) CL 38 (0,0) rfl EL_w17.out _ Tryd.underlying38 rfl HZC.out ?_)
 refine (HQ2.out).mono ?_
 rintro e18 w18 ⟨rfl,m⟩
 have M_w18:=Hxq (M_w17.out.trans m (by simp))
 have ER_w18:=Hxq (m.at ER_w17.out (by simp))
 have EL_w18:=Hxq (m.at EL_w17.out (by simp))
 have EE_w18:=Hxq (m.at EE_w17.out (by simp))
 have H1_w18:=Hxq (H1_w17.out.keep m (by simp))
 have H2_w18:=Hxq (H2_w17.out.keep m (by simp))
 have H3_w18:=Hxq (H3_w17.out.keep m (by simp))
 have H4_w18:=Hxq (H4_w17.out.keep m (by simp))
 have HG_w18:=Hxq (HG_w17.out.past m (by simp))
 have EA_w18:=Hxq (m.at EA_w17.out (by simp))
 have HA_w18:=Hxq (HA_w17.out.keep m (by simp))
 have HB_w18:=Hxq (HB_w17.out.keep m (by simp))
 have HL_w18:=Hxq (HL_w17.out.keep m (by simp))
 have EX_w18:=Hxq (m.at EX_w17.out (by simp))
 have HX_w18:=Hxq (HX_w17.out.keep m (by simp))
 clear M_w17 ER_w17 EL_w17 EE_w17 H1_w17 H2_w17 H3_w17 H4_w17 HG_w17 EA_w17 HA_w17 HB_w17 HL_w17 EX_w17 HX_w17
 clear m HQ2
 have x0:=cell_at ER_w18.out 0;have x1:=cell_at ER_w18.out 1;have x2:=cell_at ER_w18.out 2;have x3:=cell_at ER_w18.out 3;have x4:=cell_at ER_w18.out 4
 simp only [List.getElem?_toArray,List.getElem?_cons_zero,List.getElem?_cons_succ] at x0 x1 x2 x3 x4
 go_wp2_with fail
 refine (Q3.out _ w18 H1_w18.out HG_w18.out).mono ?_
 rintro e19 w19 ⟨rfl,m⟩
 have M_w19:=Hxq (M_w18.out.trans m (by simp))
 have ER_w19:=Hxq (m.at ER_w18.out (by simp))
 have EL_w19:=Hxq (m.at EL_w18.out (by simp))
 have EE_w19:=Hxq (m.at EE_w18.out (by simp))
 have H1_w19:=Hxq (H1_w18.out.keep m (by simp))
 have H2_w19:=Hxq (H2_w18.out.keep m (by simp))
 have H3_w19:=Hxq (H3_w18.out.keep m (by simp))
 have H4_w19:=Hxq (H4_w18.out.keep m (by simp))
 have HG_w19:=Hxq (HG_w18.out.past m (by simp))
 have EA_w19:=Hxq (m.at EA_w18.out (by simp))
 have HA_w19:=Hxq (HA_w18.out.keep m (by simp))
 have HB_w19:=Hxq (HB_w18.out.keep m (by simp))
 have HL_w19:=Hxq (HL_w18.out.keep m (by simp))
 have EX_w19:=Hxq (m.at EX_w18.out (by simp))
 have HX_w19:=Hxq (HX_w18.out.keep m (by simp))
 clear M_w18 ER_w18 EL_w18 EE_w18 H1_w18 H2_w18 H3_w18 H4_w18 HG_w18 EA_w18 HA_w18 HB_w18 HL_w18 EX_w18 HX_w18
 clear m x0 x1 x2 x3 x4
 have x0:=cell_at EE_w19.out 0;have x1:=cell_at EE_w19.out 1;have x2:=cell_at EE_w19.out 2;have x3:=cell_at EE_w19.out 3;have x4:=cell_at EE_w19.out 4;have x5:=cell_at EE_w19.out 5;have x6:=cell_at EE_w19.out 6
 simp only [List.getElem?_toArray,List.getElem?_cons_zero,List.getElem?_cons_succ] at x0 x1 x2 x3 x4 x5 x6
 go_wp2_with fail
 refine (Q4.out _ w19 H4_w19.out HG_w19.out).mono ?_
 rintro e20 w20 ⟨rfl,m⟩
 have M_w20:=Hxq (M_w19.out.trans m (by simp))
 have ER_w20:=Hxq (m.at ER_w19.out (by simp))
 have EL_w20:=Hxq (m.at EL_w19.out (by simp))
 have EE_w20:=Hxq (m.at EE_w19.out (by simp))
 have H1_w20:=Hxq (H1_w19.out.keep m (by simp))
 have H2_w20:=Hxq (H2_w19.out.keep m (by simp))
 have H3_w20:=Hxq (H3_w19.out.keep m (by simp))
 have H4_w20:=Hxq (H4_w19.out.keep m (by simp))
 have HG_w20:=Hxq (HG_w19.out.past m (by simp))
 have EA_w20:=Hxq (m.at EA_w19.out (by simp))
 have HA_w20:=Hxq (HA_w19.out.keep m (by simp))
 have HB_w20:=Hxq (HB_w19.out.keep m (by simp))
 have HL_w20:=Hxq (HL_w19.out.keep m (by simp))
 have EX_w20:=Hxq (m.at EX_w19.out (by simp))
 have HX_w20:=Hxq (HX_w19.out.keep m (by simp))
 clear M_w19 ER_w19 EL_w19 EE_w19 H1_w19 H2_w19 H3_w19 H4_w19 HG_w19 EA_w19 HA_w19 HB_w19 HL_w19 EX_w19 HX_w19
 clear m x0 x1 x2 x3 x4 x5 x6
 go_wp2_with fail
 all_goals go_ret
 all_goals exact ⟨by simp,M_w20.out⟩
open Go.RowKit
set_option linter.unusedVariables false
set_option linter.unusedSimpArgs false
set_option maxRecDepth 100000
theorem gTabV : Tryd.prog.globalNamed "internal/strconv.uint64pow10" = some 0 := by kernel_rfl
theorem tTabV:(Tryd.prog.globals[0]?).map (·.type)=some 134:=by kernel_rfl
theorem globV_of_laid {W:World} (h:laidMetH Tryd.prog Rows.printPartsRow.laid W):GlobV W:=by
 rw [MakeChecks.laidMetH_plain _ _ _ (by kernel_rfl)] at h
 exact ⟨Lib.tabIs_of_head (zs:=Lib.pow10Tab) gTabV tTabV Tryd.underlying134 Tryd.underlying128 (by kernel_rfl) (by kernel_rfl) h.tail.tail⟩
section
variable {H:Type} {enc:TypeId × Value->H} {W:World} {v0:Value} {d:DataW H} {p:List MemPlace}
theorem open_rule_arg (hv:∃ cs,v0=.agg cs/\cs.size=Tryd.prog.cellsOf 29) (h:DataW.Trod enc Tryd.prog W 0 (fun _=>true) true 29 v0 d p) :
  ∃ (r:Pr.Rul) (tu ub:Value),v0=.agg (ruV r tu ub)/\(RowB All W 5 tmV r.head.terms tu/\Rt.RuV r)/\BB All W r.body ub/\rWt r<=1000 * Rows.uptoBulk d:=by
 obtain ⟨cs,rfl,-⟩:=hv
 obtain ⟨fuel,hf⟩:=h
 obtain ⟨q,⟨⟨e,hB,hV⟩,-⟩,hw⟩:=open_rule hf
 refine ⟨q.1,q.2.1,q.2.2,?_,⟨hB.1,hV⟩,hB.2,Nat.le_trans (Nat.le_add_right _ 2) hw⟩
 congr 1
 apply Array.ext'
 simpa [Value.cells] using e
theorem open_lit_arg (hv:∃ cs,v0=.agg cs/\cs.size=Tryd.prog.cellsOf 38) (h:DataW.Trod enc Tryd.prog W 0 (fun _=>true) true 38 v0 d p) :
  ∃ (l:Pr.Li) (U:LU),v0=.agg (liV l U)/\(LB All W l U/\Rt.LiV l)/\lWt l<=1000 * Rows.uptoBulk d:=by
 obtain ⟨cs,rfl,-⟩:=hv
 obtain ⟨fuel,hf⟩:=h
 obtain ⟨q,⟨⟨e,hB,hV⟩,-⟩,hw⟩:=open_lit fuel hf
 refine ⟨q.1,q.2,?_,⟨hB,hV⟩,hw⟩
 congr 1
 apply Array.ext'
 simpa [Value.cells] using e
theorem open_expr_arg (hv:∃ cs,v0=.agg cs/\cs.size=Tryd.prog.cellsOf 34) (h:DataW.Trod enc Tryd.prog W 0 (fun _=>true) true 34 v0 d p) :
  ∃ (e:Pr.Ex) (u:Value),v0=.agg (exV e u)/\(EB All W e u/\Rt.ExV e)/\exWt e<=1000 * Rows.uptoBulk d:=by
 obtain ⟨cs,rfl,-⟩:=hv
 obtain ⟨fuel,hf⟩:=h
 obtain ⟨q,⟨⟨e,hB,hV⟩,-⟩,hw⟩:=open_expr fuel hf
 refine ⟨q.1,q.2,?_,⟨hB,hV⟩,hw⟩
 congr 1
 apply Array.ext'
 simpa [Value.cells] using e
end
theorem PrintParts_card (r:Pr.Rul) (tu ub:Value) (l:Pr.Li) (U:LU) (e:Pr.Ex) (u:Value) (b1:rWt r<=1048576000) (b2:lWt l<=1048576000) (b3:exWt e<=1048576000) (w:World) (h1:RowB All w 5 tmV r.head.terms tu/\Rt.RuV r) (h2:BB All w r.body ub) (hl:LB All w l U/\Rt.LiV l) (he:EB All w e u/\Rt.ExV e) (hG:GlobV w) :
  Calls Tryd.prog 3 #[.agg (ruV r tu ub),.agg (liV l U),.agg (exV e u)] w fun e' w'=>e'=.returned (.bool true)/\Mod [] w w' :=
 PrintParts_any r tu ub l U e u (by omega) w h1.1 h2 h1.2 hl.1 hl.2 he.1 he.2 hG
end Go.Proofs.YtohnmnfhmbmoaaaDoor
