/- THE TEXTS MERGED: TyCopy PwClone SyPut PwOwn. -/
import Derived.Test.YtohnmnfhmbmoaaaGreatDoorKG5
import Derived.Lib.SliceRun
import Derived.Laws.OwnMore
namespace Go.Proofs.YtohnmnfhmbmoaaaGreatDoor
open Go.RowKit
set_option linter.unusedVariables false
set_option linter.unusedSimpArgs false
set_option maxRecDepth 100000
/-- a copy: in new blocks alone -/
def CpAT (a:Pr.Atom) (w:World) (e:Ending) (w':World):Prop:=∃ u,e=.returned (.agg #[.string a.rel,u])/\RowT (fun k=>w.heap.size<=k) w' 88 5 tmV a.terms u/\Mod [] w w'
set_option maxHeartbeats 4000000 in
theorem copyAtom_T {F:Nat->Prop} (a:Pr.Atom) (hl:a.terms.length<=134217728) (u:Value) (w:World) (h:RowB F w 5 tmV a.terms u) :
  Calls Tryz.prog 26 #[.agg #[.string a.rel,u]] w (CpAT a w):=by
 obtain ⟨rel,ts⟩:=a
 dsimp only at *
 obtain ⟨i0,hinf,hz0,hz1,hz2⟩:=info_parts Tryz.infoTerm
 obtain ⟨a1,c1,rfl⟩:=h.lit
 have hsrc:=rows_src Tryz.underlying40 tmV_size (by omega) tmV_one h
 have mA:=((Mod.refl [] w).alloc (Obj.cells #[.string rel,.slice a1 ts.length c1] 42)).alloc (Obj.cells #[.string ⟨#[]⟩,.slice none 0 0] 42)
 have eA:=two_a w #[.string rel,.slice a1 ts.length c1] #[.string ⟨#[]⟩,.slice none 0 0] 42 42
 have eB:=two_b w #[.string rel,.slice a1 ts.length c1] #[.string ⟨#[]⟩,.slice none 0 0] 42 42
 have H1:=h.keep mA (by simp)
 have S1:=Hxq (rows_src Tryz.underlying40 tmV_size (by omega) tmV_one H1)
 clear h hsrc H1
 go_enter Tryz.func26,Tryz.ntmps26
 go_upto_region 1 with fail
 generalize (w.alloc (Obj.cells _ 42)).alloc (Obj.cells _ 42)=w0 at *
 have M0:=Lib.hid mA;have E0:=Lib.hid eA;have E1:=Lib.hid eB
 clear mA eA eB
 have x0:=cell_at E0.out 0;have x1:=cell_at E0.out 1
 simp only [List.getElem?_toArray,List.getElem?_cons_zero,List.getElem?_cons_succ] at x0 x1
 go_wp2_with (at_builtin;refine wpList_append_src _ rfl _ _ 40 40 rfl 88 i0 (.agg #[Value.int IntKind.i64 0,Value.string ⟨#[]⟩,Value.int IntKind.i64 0,Value.int IntKind.i64 0,Value.string ⟨#[]⟩]) 5 56 Tryz.underlying40 hinf hz0 hz1 hz2 rfl (.slice none 0 0) 0 [] rfl (World.ownsRow_nil _ _ _ _) _ ts.length (rowCells tmV ts) rfl S1.out (by unfold maxLen;omega) (by omega) ?_)
 intro v2 w2 hown2 hm2 hf2 hn2
 (try rw [Nat.zero_add] at hown2);(try rw [List.nil_append] at hown2)
 obtain ⟨a2,c2,rfl⟩:=owns_slice hown2
 have M2:=Hxq (show Mod [] w0 w2 from hm2)
 have hR:=RowT.of_owns (base:=0) (F:=fun k=>w0.heap.size<=k) tmV_size hown2 (fun k hk=>by
  rcases hf2 k hk with hh | hh
  ·simp [fp] at hh
  ·exact hh)
 have R2:=Lib.hid hR
 clear hown2 hm2 hf2 hn2 x0 x1 S1 hR
 have E2:=Hxq (M2.out.at E0.out (by simp));have E3:=Hxq (M2.out.at E1.out (by simp))
 have x0:=cell_at E2.out 0;have y0:=cell_at E3.out 0;have y1:=cell_at E3.out 1
 simp only [List.getElem?_toArray,List.getElem?_cons_zero,List.getElem?_cons_succ] at x0 y0 y1
 have fA:∀ j,w2.frozen? ⟨w.heap.size+1,j,none⟩=false:=fun j=>free_at E3.out j
 have hz:=M0.out.size
 have hz2:=lt_of_block E1.out
 go_wp2_with fail
 have mR:=setCs_mod (w.heap.size+1) [.string rel,.slice a2 ts.length c2] 0 w2
 refine bodyPost_ret (results_cell_row rfl _ _ _ _ _ _ _ rfl (setCs_row (vs:=[.string rel,.slice a2 ts.length c2]) E3.out rfl) Tryz.underlying42 rfl (by kernel_rfl)) rfl ⟨_,rfl,?_,(M0.out.trans M2.out (by simp)).trans mR (by simp)⟩
 exact (R2.out.keep mR (fun s hs=>by rw [Msq] at hs;omega)).mono (fun k hk _=>by omega)
/-- a copy: in new blocks alone -/
def CpXT (e:Pr.Ex) (w:World) (o:Ending) (w':World):Prop:=∃ u,o=.returned (.agg (exV e u))/\ET (fun k=>w.heap.size<=k) w' e u/\Mod [] w w'
def CXCT (d:Nat):Prop:=∀ (e:Pr.Ex),exD e<=d->exM e<=134217728->∀ (F:Nat->Prop) (u:Value) (w:World),EB F w e u ->
 Calls Tryz.prog 51 #[.agg (exV e u)] w (CpXT e w)
set_option maxHeartbeats 8000000 in
theorem cxct_of (d:Nat) (hS:CXCT d):CXCT (d+1):=by
 intro e he hM F u w h
 obtain ⟨i0,hinf,hz0,hz1,hz2⟩:=info_parts Tryz.infoEx
 obtain ⟨k,v,⟨xk,xn,xs⟩,op,args⟩:=e
 obtain ⟨a1,c1,rfl⟩:=h.lit
 have hd:exDs args<=d:=by simp only [exD] at he;omega
 have hM1:args.length<=134217728:=by simp only [exM] at hM;omega
 have hM2:exMs args<=134217728:=by simp only [exM] at hM;omega
 have HS:=Lib.hid hS;have H1:=Lib.hid h
 clear h hS he hM
 simp only [exV,Pr.Ex.k,Pr.Ex.v,Pr.Ex.x,Pr.Ex.op,Pr.Ex.args] at *
 generalize hxB:Lx.ofS xs=xB at *
 have mA:=((Mod.refl [] w).alloc (Obj.cells #[.int .i64 k,.string v,.int .i64 xk,.int .i64 xn,.string xB,.int .i64 op,.slice a1 args.length c1] 38)).alloc (Obj.cells #[Value.int IntKind.i64 0,Value.string ⟨#[]⟩,Value.int IntKind.i64 0,Value.int IntKind.i64 0,Value.string ⟨#[]⟩,Value.int IntKind.i64 0,Value.slice none 0 0] 38)
 have eA:=two_a w #[.int .i64 k,.string v,.int .i64 xk,.int .i64 xn,.string xB,.int .i64 op,.slice a1 args.length c1] #[Value.int IntKind.i64 0,Value.string ⟨#[]⟩,Value.int IntKind.i64 0,Value.int IntKind.i64 0,Value.string ⟨#[]⟩,Value.int IntKind.i64 0,Value.slice none 0 0] 38 38
 have eB:=two_b w #[.int .i64 k,.string v,.int .i64 xk,.int .i64 xn,.string xB,.int .i64 op,.slice a1 args.length c1] #[Value.int IntKind.i64 0,Value.string ⟨#[]⟩,Value.int IntKind.i64 0,Value.int IntKind.i64 0,Value.string ⟨#[]⟩,Value.int IntKind.i64 0,Value.slice none 0 0] 38 38
 go_enter Tryz.func51,Tryz.ntmps51
 go_upto_region 1 with fail
 generalize (w.alloc (Obj.cells _ 38)).alloc (Obj.cells _ 38)=w0 at *
 have M0:=Lib.hid mA;have E0:=Lib.hid eA;have E1:=Lib.hid eB
 clear mA eA eB
 have x0:=cell_at E0.out 0;have x1:=cell_at E0.out 1;have x2:=cell_at E0.out 2;have x3:=cell_at E0.out 3;have x4:=cell_at E0.out 4;have x5:=cell_at E0.out 5;have x6:=cell_at E0.out 6
 simp only [List.getElem?_toArray,List.getElem?_cons_zero,List.getElem?_cons_succ] at x0 x1 x2 x3 x4 x5 x6
 go_upto_region 3 with fail
 generalize hwL:w0.alloc (Obj.cells _ 38)=wL
 have hLA:Hid (Mod [] w0 wL/\wL.heap[w0.heap.size]?=some (.cells #[.int .i64 k,.string v,.int .i64 xk,.int .i64 xn,.string xB,.int .i64 op,.slice none 0 0] 38 (0,0))):=Hxq (by
  subst hwL
  exact ⟨(Mod.refl [] w0).alloc _,heap_alloc_new w0 _⟩)
 clear x0 x1 x2 x3 x4 x5 x6 hwL
 have ML:=Lib.hid hLA.out.1;have EL:=Lib.hid hLA.out.2
 have hpl:=lt_of_block EL.out
 have hp0:=lt_of_block E1.out
 have hm0:=M0.out.size
 generalize hpb:w0.heap.size=pb at *
 have GL:Hid (GI 38 7 csX BXT [pb] wL wL [] none 0):=Hxq (GI.nil (fun s hs=>by rw [Msq] at hs;omega))
 clear hLA
 go_wp2_with fail
 have HL1:=Hxq (H1.out.mono (F':=fun k=>k<w.heap.size) (fun k _ h=>h))
 go_loopw [4] (fun iv wr=>∃ (acc:List ExU) (va:Option Addr) (vc:Nat),iv=.int .i64 (acc.length:Nat)/\acc.map (·.1)=args.take acc.length/\acc.length<=args.length/\wr.heap[pb]?=some (.cells #[.int .i64 k,.string v,.int .i64 xk,.int .i64 xn,.string xB,.int .i64 op,.slice va acc.length vc] 38 (0,0))/\GI 38 7 csX BXT [pb] wL wr acc va vc) (fun iv _=>args.length - (intOf iv).toNat)
 case atStart=>exact ⟨[],none,0,rfl,by simp,by simp,EL.out,GL.out⟩
 case round =>
  obtain ⟨acc,va,vc,rfl,hmap,hle,hbx,hG⟩:=hrel
  have MW:=Hxq (((M0.out.trans ML.out (by simp)).mono (T:=[pb]) (by simp)).trans hG.mod (by simp))
  have EP:=Hxq (hG.mod.at (ML.out.at E0.out (by simp)) (by simp;omega))
  have EX:=Lib.hid hbx;have G0:=Lib.hid hG;have HM:=Lib.hid hmap
  have z6:=cell_at EP.out 6;have b6:=cell_at EX.out 6
  simp only [List.getElem?_toArray,List.getElem?_cons_zero,List.getElem?_cons_succ] at z6 b6
  clear hG hbx hmap
  by_cases hlt:acc.length<args.length
  ·have hjI:(acc.length:Int)<(args.length:Int):=by omega
   have hj0:(0:Int)<=(acc.length:Int):=by omega
   obtain ⟨b1,o1,u1,rfl,hc1,hE1⟩:=(HL1.out.keep MW.out (by simp;omega)).at acc.length hlt
   have hdj:=exDs_mem args acc.length hlt
   have hmj:=exMs_mem args acc.length hlt
   have HY:Hid (args[acc.length]?=some args[acc.length]):=Hxq (List.getElem?_eq_getElem hlt)
   simp only [Pr.Ex.args] at hc1 hE1
   generalize args[acc.length]=y at *
   obtain ⟨a2,c2,rfl⟩:=hE1.lit
   have r0:=hc1 0 (.int .i64 y.k) rfl
   have r1:=hc1 1 (.string y.v) rfl
   have r2:=hc1 2 (.int .i64 y.x.k) rfl
   have r3:=hc1 3 (.int .i64 y.x.n) rfl
   have r4:=hc1 4 (.string (Lx.ofS y.x.s)) rfl
   have r5:=hc1 5 (.int .i64 y.op) rfl
   have r6:=hc1 6 (.slice a2 y.args.length c2) rfl
   rw [Nat.add_zero] at r0
   clear hc1
   have HE1:=Lib.hid hE1
   clear hE1
   have HC:Hid (∀ w',Mod [] wr w'->Calls Tryz.prog 51 #[.agg (exV y (.slice a2 y.args.length c2))] w' (CpXT y w')):=Hxq (fun w' hm=>HS.out y (by omega) (by omega) _ _ _ (HE1.out.keep hm (by simp)))
   have hna:pb∉fp (.slice va acc.length vc):=fun hk=>by have:=G0.out.new pb hk;omega
   have hlR:=Hxq (fun k hk=>fp_lt G0.out.row k hk)
   have hsz:=G0.out.mod.size
   unfold exV at HC
   go_wp2_with fail
   go_region_law (first
    | (go_simp;refine (HC.out wr.drew ((Mod.refl [] wr).drew)).mono ?_;rintro e3 w3 ⟨u3,rfl,hb3,m3⟩;obtain ⟨a3,c3,rfl⟩:=hb3.lit;have m03:=((Mod.refl [] wr).drew).trans m3 (by simp);have X3:=Hxq (m03.at EX.out (by simp));have q3:w3.cell? ⟨pb,6,none⟩=some (.slice va acc.length vc):=cell_at X3.out 6;have mA4:=(Mod.refl [] w3).alloc (Obj.cells #[.int .i64 y.k,.string y.v,.int .i64 y.x.k,.int .i64 y.x.n,.string (Lx.ofS y.x.s),.int .i64 y.op,.slice a3 y.args.length c3] 38);have X4:=Hxq (mA4.at X3.out (by simp));have q4:(w3.alloc (Obj.cells #[.int .i64 y.k,.string y.v,.int .i64 y.x.k,.int .i64 y.x.n,.string (Lx.ofS y.x.s),.int .i64 y.op,.slice a3 y.args.length c3] 38)).cell? ⟨pb,6,none⟩=some (.slice va acc.length vc):=cell_at X4.out 6;have G4:=Hxq ((G0.out.keep bearsXT (m03.mono (by simp))).keep bearsXT (mA4.mono (by simp)));have S4:Hid (Src Tryz.prog 7 36 (.slice (some ⟨w3.heap.size,0,none⟩) 1 1) 1 (csX (y,.slice a3 y.args.length c3)).toList (w3.alloc (Obj.cells #[.int .i64 y.k,.string y.v,.int .i64 y.x.k,.int .i64 y.x.n,.string (Lx.ofS y.x.s),.int .i64 y.op,.slice a3 y.args.length c3] 38))):=Hxq (src_one (TS:=36) Tryz.underlying36 (heap_alloc_new w3 (Obj.cells (csX (y,.slice a3 y.args.length c3)) 38)) rfl (csX_one (p:=(y,.slice a3 y.args.length c3)) (w:=w3) hb3.eb));have L4:Hid (BXT (fun k=>wr.heap.size<=k) (w3.alloc (Obj.cells #[.int .i64 y.k,.string y.v,.int .i64 y.x.k,.int .i64 y.x.n,.string (Lx.ofS y.x.s),.int .i64 y.op,.slice a3 y.args.length c3] 38)) (y,.slice a3 y.args.length c3)):=Hxq (hb3.keep mA4 (by simp));unfold exV;clear hb3 m3 m03 mA4)
    | (refine step_append_src _ rfl _ _ 36 36 rfl 38 i0 (.agg #[Value.int IntKind.i64 0,Value.string ⟨#[]⟩,Value.int IntKind.i64 0,Value.int IntKind.i64 0,Value.string ⟨#[]⟩,Value.int IntKind.i64 0,Value.slice none 0 0]) 7 88 Tryz.underlying36 hinf hz0 hz1 hz2 rfl (.slice va acc.length vc) acc.length (rowCells csX acc) rfl G4.out.row _ 1 (csX (y,.slice a3 y.args.length c3)).toList rfl S4.out (by unfold maxLen;omega) (by omega) ?_;intro v5 w5 hown5 hm5 hf5;obtain ⟨va5,vc5,rfl⟩:=owns_slice hown5;have G5:=Hxq (G4.out.grow bearsXT hm5 L4.out hlR.out hsz hown5 hf5);have X5:=Hxq (hm5.at X4.out hna);have q5:w5.cell? ⟨pb,6,none⟩=some (.slice va acc.length vc):=cell_at X5.out 6;have f5:w5.frozen? ⟨pb,6,none⟩=false:=free_at X5.out 6;clear hown5 hm5 hf5))
   all_goals (
    have X6:=Hxq (setCell_at X5.out 6 (.slice va5 (acc.length+1) vc5))
    have G6:=Hxq (G5.out.keep bearsXT ((Mod.refl [pb] w5).setCell (p:=⟨pb,6,none⟩) (.inl (by simp)) (.slice va5 (acc.length+1) vc5)))
    clear q3 q4 q5 f5 X3 X4 X5 S4 L4 G4 G5 z6 b6
    go_wp2_with fail
    generalize w5.setCell ⟨pb,6,none⟩ (.slice va5 (acc.length+1) vc5)=w8 at *
    go_roundw
    case rel =>
     refine ⟨acc++[(y,.slice a3 y.args.length c3)],va5,vc5,by rw [List.length_append];go_num,?_,by simp;omega,?_,G6.out⟩
     ·rw [List.map_append,HM.out,show (acc++[(y,Value.slice a3 y.args.length c3)]).length=acc.length+1 by simp,List.take_add_one,HY.out];rfl
     ·rw [X6.out];simp
    case measure=>simp [intOf];omega)
  ·obtain hae:acc.length=args.length:=by omega
   have hjI:¬ (acc.length:Int)<(args.length:Int):=by omega
   have hargs:args=acc.map (·.1):=by rw [HM.out,hae,List.take_length]
   have ER:=Hxq (G0.out.mod.at (ML.out.at E1.out (by simp)) (by simp;omega))
   have b0:=cell_at EX.out 0;have b1:=cell_at EX.out 1;have b2:=cell_at EX.out 2;have b3:=cell_at EX.out 3;have b4:=cell_at EX.out 4;have b5:=cell_at EX.out 5;have y0:=cell_at ER.out 0;have y1:=cell_at ER.out 1;have y2:=cell_at ER.out 2;have y3:=cell_at ER.out 3;have y4:=cell_at ER.out 4;have y5:=cell_at ER.out 5;have y6:=cell_at ER.out 6
   simp only [List.getElem?_toArray,List.getElem?_cons_zero,List.getElem?_cons_succ] at b0 b1 b2 b3 b4 b5 y0 y1 y2 y3 y4 y5 y6
   have fA:∀ j,wr.frozen? ⟨w.heap.size+1,j,none⟩=false:=fun j=>free_at ER.out j
   have hsz:=G0.out.mod.size
   have HAR:=Lib.hid hargs
   clear hae hargs
   go_wp2_with fail
   have mR:=setCs_mod (w.heap.size+1) [.int .i64 k,.string v,.int .i64 xk,.int .i64 xn,.string xB,.int .i64 op,.slice va acc.length vc] 0 wr
   refine bodyPost_ret (results_cell_row rfl _ _ _ _ _ _ _ rfl (setCs_row (vs:=[.int .i64 k,.string v,.int .i64 xk,.int .i64 xn,.string xB,.int .i64 op,.slice va acc.length vc]) ER.out rfl) Tryz.underlying38 rfl (by kernel_rfl)) rfl ⟨.slice va acc.length vc,?_,?_,?_⟩
   ·rw [<-hxB];rfl
   ·rw [HAR.out]
    refine ET.of_row acc (mR.owns G0.out.row (fun k hk hs=>by rw [Msq] at hs;have:=G0.out.new k hk;omega)) (fun k hk=>by have:=G0.out.new k hk;omega) (fun p hp=>?_)
    exact bearsXT.mono (bearsXT.keep (G0.out.sub p hp) mR (fun s hs hh=>by rw [Msq] at hs;omega)) (fun k hk _=>by omega)
   ·exact ((M0.out.trans ML.out (by simp)).trans (S:=[]) (T:=[pb]) G0.out.mod (fun t ht=>.inr (by rw [Msq] at ht;omega))).trans mR (fun t ht=>.inr (by rw [Msq] at ht;omega))
theorem cxct_all:∀ d,CXCT d
 | 0=>fun e he _=>by cases e;simp [exD] at he
 | d+1=>cxct_of d (cxct_all d)
theorem copyExpr_T {F:Nat->Prop} (e:Pr.Ex) (hM:exM e<=134217728) (u:Value) (w:World) (h:EB F w e u) :
  Calls Tryz.prog 51 #[.agg (exV e u)] w (CpXT e w):=cxct_all _ e (Nat.le_refl _) hM F u w h
/-- a list's things behind a slice's address -/
def LAt {α:Type} (w:World) (n:Nat) (cs:α->Array Value) (l:List α) (a:Option Addr):Prop:=∀ i (hi:i<l.length),∃ b off,a=some ⟨b,off,none⟩/\CellsAt w b (off+i * n) (cs l[i])/\b<w.heap.size
section
variable {α:Type} {w w':World} {n:Nat} {cs:α->Array Value} {l:List α} {a:Option Addr} {F:Nat->Prop}
theorem LAt.keep (h:LAt w n cs l a) (hm:Mod [] w w'):LAt w' n cs l a:=fun i hi=>by
 obtain ⟨b,off,rfl,hc,hb⟩:=h i hi
 exact ⟨b,off,rfl,hc.keep hm (by simp),Nat.lt_of_lt_of_le hb hm.size⟩
theorem LAt.nil (h:LAt w n cs l none):l=[]:=by
 cases l with
 | nil=>rfl
 | cons x r=>obtain ⟨b,off,hh,-⟩:=h 0 (by simp);cases hh
theorem LAt.src {TS e:TypeId} (hu:Tryz.prog.underlying TS=some (.slice e)) (hn:∀ x,(cs x).size=n) (h0:0<n) (h1:∀ x∈l,∀ v∈(cs x).toList,v.oneCell'=true) (ad:Addr) (c:Nat) (h:LAt w n cs l (some ad)) :
  Src Tryz.prog n TS (.slice (some ad) l.length c) l.length (rowCells cs l) w:=by
 have hone:∀ v∈rowCells cs l,v.oneCell'=true:=by
  intro v hv
  obtain ⟨x,hm,hx⟩:=List.mem_flatMap.1 hv
  exact h1 x hm v hx
 refine Src.ofSlice w hu ad _ c _ (rowCells_len hn l) (fun j v hv=>?_) hone
 have hj:=(List.getElem?_eq_some_iff.1 hv).1
 rw [rowCells_len hn] at hj
 have hi:j / n<l.length:=Nat.div_lt_of_lt_mul (by rw [Nat.mul_comm];exact hj)
 obtain ⟨b,off,hh,hc,-⟩:=h (j / n) hi
 cases hh
 rw [addr_add]
 have hmd:j % n<n:=Nat.mod_lt _ h0
 have hsz:j % n<(cs l[j / n]).size:=by rw [hn];exact hmd
 have key:=rowCells_get hn l (j / n) hi (j % n) _ (Array.getElem?_eq_getElem hsz)
 have hjj:j / n * n+j % n=j:=by rw [Nat.mul_comm];exact Nat.div_add_mod j n
 rw [hjj,hv] at key
 have:=hc (j % n) _ (Array.getElem?_eq_getElem hsz)
 rw [Nat.add_assoc,hjj] at this
 rw [this,key]
theorem RowB.lat {a:Option Addr} {c:Nat} (h:RowB F w n cs l (.slice a l.length c)):LAt w n cs l a:=fun i hi=>by
 generalize hu:Value.slice a l.length c=u at h
 cases h with
 | nil=>simp at hi
 | row hF hb h1 hc =>
  simp only [Value.slice.injEq] at hu
  exact ⟨_,_,hu.1,h1 i hi,hb⟩
end
/-- an expression's arguments with their slices -/
theorem EB.lat {F:Nat->Prop} {w:World} {e:Pr.Ex} {u:Value} (h:EB F w e u):∃ (l:List ExU) (a:Option Addr) (c:Nat),u=.slice a l.length c/\l.map (·.1)=e.args/\LAt w 7 csX l a/\∀ p∈l,BX F w p:=by
 cases h with
 | nil=>exact ⟨[],_,_,rfl,rfl,fun i hi=>absurd hi (by simp),by simp⟩
 | @row k v x op args b off c us hF hb h1 h2 =>
  refine ⟨args.mapIdx (fun i e=>(e,us i)),some ⟨b,off,none⟩,c,by simp,?_,fun i hi=>?_,fun p hp=>?_⟩
  ·apply List.ext_getElem?
   intro i
   simp only [Pr.Ex.args,List.getElem?_map,List.getElem?_mapIdx,Option.map_map]
   cases args[i]? <;> rfl
  ·rw [List.length_mapIdx] at hi
   refine ⟨b,off,rfl,?_,hb⟩
   rw [List.getElem_mapIdx]
   exact h1 i hi
  ·obtain ⟨i,hi,rfl⟩:=List.mem_iff_getElem.1 hp
   rw [List.length_mapIdx] at hi
   rw [List.getElem_mapIdx]
   exact h2 i hi
/-- a body's literals with their slices -/
theorem BB.lat {F:Nat->Prop} {w:World} {body:List Pr.Li} {u:Value} (h:BB F w body u):∃ (l:List (Pr.Li × LU)) (a:Option Addr) (c:Nat),u=.slice a l.length c/\l.map (·.1)=body/\LAt w 30 csL l a/\∀ p∈l,BL F w p:=by
 obtain ⟨ub,cb,us,rfl,h1,h2,-⟩:=h
 refine ⟨body.mapIdx (fun i e=>(e,us i)),ub,cb,by simp,?_,fun i hi=>?_,fun p hp=>?_⟩
 ·apply List.ext_getElem?
  intro i
  simp only [List.getElem?_map,List.getElem?_mapIdx,Option.map_map]
  cases body[i]? <;> rfl
 ·rw [List.length_mapIdx] at hi
  obtain ⟨g,off,hu,hF,hg,hc⟩:=h1 i hi
  refine ⟨g,off,hu,?_,hg⟩
  rw [List.getElem_mapIdx]
  exact hc
 ·obtain ⟨i,hi,rfl⟩:=List.mem_iff_getElem.1 hp
  rw [List.length_mapIdx] at hi
  rw [List.getElem_mapIdx]
  exact h2 i hi
theorem csL_one {F:Nat->Prop} {w:World} {p:Pr.Li × LU} (h:BL F w p):∀ u∈(csL p).toList,u.oneCell'=true:=liV_one p h
/-- a clone: a row of the call's own -/
def ClR {α:Type} (T:TypeId) (n:Nat) (cs:α->Array Value) (l:List α) (w:World) (e:Ending) (w':World):Prop :=
 ∃ (a:Option Addr) (c:Nat),e=.returned (.slice a l.length c)/\w'.ownsRow 0 T n (.slice a l.length c) l.length (rowCells cs l)/\(∀ k∈fp (.slice a l.length c),w.heap.size<=k)/\Mod [] w w'
set_option maxHeartbeats 4000000 in
theorem cloneI_any (l:List Int) (hl:l.length<=134217728) (a:Option Addr) (c:Nat) (w:World) (h:LAt w 1 intC l a) :
  Calls Tryz.prog 32 #[.slice a l.length c] w (ClR 3 1 intC l w):=by
 obtain ⟨i0,hinf,hz0,hz1,hz2⟩:=info_parts Tryz.infoInt
 have q1:∀ (w:World) (a:Option Addr) (n c n' c':Nat),(binOp .eql 68 (.slice a n c) (.slice none n' c')).run Tryz.prog w=.ok (.bool a.isNone) w:=fun w a n c n' c'=>Lib.run_eql_slice_nil w _ _ a n c n' c' Tryz.underlying68
 cases a with
 | none =>
  obtain rfl:=h.nil
  clear h
  go_enter Tryz.func32,Tryz.ntmps32
  go_wp2
  go_ret
  exact ⟨none,0,rfl,World.ownsRow_nil _ _ _ _,by simp [fp],Mod.refl _ _⟩
 | some ad =>
  have m1:=(Mod.refl [] w).alloc (Obj.cells #[] 3)
  have S1:=Hxq (LAt.src (c:=c) Tryz.underlying68 intC_size (by omega) (fun x _=>intC_one x) ad (h.keep m1))
  have O1:Hid ((w.alloc (Obj.cells #[] 3)).ownsRow 0 3 1 (.slice (some ⟨w.heap.size,0,none⟩) 0 0) 0 []):=Hxq (World.ownsRow_made w #[] 0 (Nat.zero_le _) (Nat.zero_le _) rfl)
  have M1:=Lib.hid m1
  clear h m1
  go_enter Tryz.func32,Tryz.ntmps32
  go_wp2_with (at_builtin;refine wpList_append_src _ rfl _ _ 68 68 rfl 3 i0 (.int .i64 0) 1 8 Tryz.underlying68 hinf hz0 hz1 hz2 rfl (.slice (some ⟨w.heap.size,0,none⟩) 0 0) 0 [] rfl O1.out _ l.length (rowCells intC l) rfl S1.out (by unfold maxLen;omega) (by omega) ?_)
  intro v2 w2 hown2 hm2 hf2 hn2
  (try rw [Nat.zero_add] at hown2);(try rw [List.nil_append] at hown2)
  obtain ⟨a2,c2,rfl⟩:=owns_slice hown2
  have H2:=Lib.hid hown2;have M2:=Lib.hid hm2;have F2:=Lib.hid hf2
  clear hown2 hm2 hf2 hn2 S1 O1
  go_wp2
  go_ret
  refine ⟨a2,c2,rfl,H2.out,fun k hk=>?_,M1.out.trans M2.out (fun t ht=>by simp [fp] at ht;subst ht;exact .inr (Nat.le_refl _))⟩
  rcases F2.out k hk with hh | hh
  ·simp [fp] at hh;omega
  ·have:=M1.out.size;omega
set_option maxHeartbeats 4000000 in
theorem cloneT_any (l:List Pr.Term) (hl:l.length<=134217728) (a:Option Addr) (c:Nat) (w:World) (h:LAt w 5 tmV l a) :
  Calls Tryz.prog 33 #[.slice a l.length c] w (ClR 88 5 tmV l w):=by
 obtain ⟨i0,hinf,hz0,hz1,hz2⟩:=info_parts Tryz.infoTerm
 have q1:∀ (w:World) (a:Option Addr) (n c n' c':Nat),(binOp .eql 40 (.slice a n c) (.slice none n' c')).run Tryz.prog w=.ok (.bool a.isNone) w:=fun w a n c n' c'=>Lib.run_eql_slice_nil w _ _ a n c n' c' Tryz.underlying40
 cases a with
 | none =>
  obtain rfl:=h.nil
  clear h
  go_enter Tryz.func33,Tryz.ntmps33
  go_wp2
  go_ret
  exact ⟨none,0,rfl,World.ownsRow_nil _ _ _ _,by simp [fp],Mod.refl _ _⟩
 | some ad =>
  have m1:=(Mod.refl [] w).alloc (Obj.cells #[] 88)
  have S1:=Hxq (LAt.src (c:=c) Tryz.underlying40 tmV_size (by omega) (fun x _=>tmV_one x) ad (h.keep m1))
  have O1:Hid ((w.alloc (Obj.cells #[] 88)).ownsRow 0 88 5 (.slice (some ⟨w.heap.size,0,none⟩) 0 0) 0 []):=Hxq (World.ownsRow_made w #[] 0 (Nat.zero_le _) (Nat.zero_le _) rfl)
  have M1:=Lib.hid m1
  clear h m1
  go_enter Tryz.func33,Tryz.ntmps33
  go_wp2_with (at_builtin;refine wpList_append_src _ rfl _ _ 40 40 rfl 88 i0 (.agg #[Value.int IntKind.i64 0,Value.string ⟨#[]⟩,Value.int IntKind.i64 0,Value.int IntKind.i64 0,Value.string ⟨#[]⟩]) 5 56 Tryz.underlying40 hinf hz0 hz1 hz2 rfl (.slice (some ⟨w.heap.size,0,none⟩) 0 0) 0 [] rfl O1.out _ l.length (rowCells tmV l) rfl S1.out (by unfold maxLen;omega) (by omega) ?_)
  intro v2 w2 hown2 hm2 hf2 hn2
  (try rw [Nat.zero_add] at hown2);(try rw [List.nil_append] at hown2)
  obtain ⟨a2,c2,rfl⟩:=owns_slice hown2
  have H2:=Lib.hid hown2;have M2:=Lib.hid hm2;have F2:=Lib.hid hf2
  clear hown2 hm2 hf2 hn2 S1 O1
  go_wp2
  go_ret
  refine ⟨a2,c2,rfl,H2.out,fun k hk=>?_,M1.out.trans M2.out (fun t ht=>by simp [fp] at ht;subst ht;exact .inr (Nat.le_refl _))⟩
  rcases F2.out k hk with hh | hh
  ·simp [fp] at hh;omega
  ·have:=M1.out.size;omega
set_option maxHeartbeats 4000000 in
theorem cloneX_any (l:List ExU) (hl:l.length<=134217728) (a:Option Addr) (c:Nat) (w:World) (h:LAt w 7 csX l a) (h1:∀ x∈l,∀ v∈(csX x).toList,v.oneCell'=true) :
  Calls Tryz.prog 88 #[.slice a l.length c] w (ClR 38 7 csX l w):=by
 obtain ⟨i0,hinf,hz0,hz1,hz2⟩:=info_parts Tryz.infoEx
 have q1:∀ (w:World) (a:Option Addr) (n c n' c':Nat),(binOp .eql 36 (.slice a n c) (.slice none n' c')).run Tryz.prog w=.ok (.bool a.isNone) w:=fun w a n c n' c'=>Lib.run_eql_slice_nil w _ _ a n c n' c' Tryz.underlying36
 cases a with
 | none =>
  obtain rfl:=h.nil
  clear h
  go_enter Tryz.func88,Tryz.ntmps88
  go_wp2
  go_ret
  exact ⟨none,0,rfl,World.ownsRow_nil _ _ _ _,by simp [fp],Mod.refl _ _⟩
 | some ad =>
  have m1:=(Mod.refl [] w).alloc (Obj.cells #[] 38)
  have S1:=Hxq (LAt.src (c:=c) Tryz.underlying36 bearsX.size (by omega) h1 ad (h.keep m1))
  have O1:Hid ((w.alloc (Obj.cells #[] 38)).ownsRow 0 38 7 (.slice (some ⟨w.heap.size,0,none⟩) 0 0) 0 []):=Hxq (World.ownsRow_made w #[] 0 (Nat.zero_le _) (Nat.zero_le _) rfl)
  have M1:=Lib.hid m1
  clear h m1
  go_enter Tryz.func88,Tryz.ntmps88
  go_wp2_with (at_builtin;refine wpList_append_src _ rfl _ _ 36 36 rfl 38 i0 (.agg #[Value.int IntKind.i64 0,Value.string ⟨#[]⟩,Value.int IntKind.i64 0,Value.int IntKind.i64 0,Value.string ⟨#[]⟩,Value.int IntKind.i64 0,Value.slice none 0 0]) 7 88 Tryz.underlying36 hinf hz0 hz1 hz2 rfl (.slice (some ⟨w.heap.size,0,none⟩) 0 0) 0 [] rfl O1.out _ l.length (rowCells csX l) rfl S1.out (by unfold maxLen;omega) (by omega) ?_)
  intro v2 w2 hown2 hm2 hf2 hn2
  (try rw [Nat.zero_add] at hown2);(try rw [List.nil_append] at hown2)
  obtain ⟨a2,c2,rfl⟩:=owns_slice hown2
  have H2:=Lib.hid hown2;have M2:=Lib.hid hm2;have F2:=Lib.hid hf2
  clear hown2 hm2 hf2 hn2 S1 O1
  go_wp2
  go_ret
  refine ⟨a2,c2,rfl,H2.out,fun k hk=>?_,M1.out.trans M2.out (fun t ht=>by simp [fp] at ht;subst ht;exact .inr (Nat.le_refl _))⟩
  rcases F2.out k hk with hh | hh
  ·simp [fp] at hh;omega
  ·have:=M1.out.size;omega
set_option maxHeartbeats 4000000 in
theorem cloneL_any (l:List (Pr.Li × LU)) (hl:l.length<=134217728) (a:Option Addr) (c:Nat) (w:World) (h:LAt w 30 csL l a) (h1:∀ x∈l,∀ v∈(csL x).toList,v.oneCell'=true) :
  Calls Tryz.prog 57 #[.slice a l.length c] w (ClR 49 30 csL l w):=by
 obtain ⟨i0,hinf,hz0,hz1,hz2⟩:=info_parts Tryz.infoLit
 have q1:∀ (w:World) (a:Option Addr) (n c n' c':Nat),(binOp .eql 43 (.slice a n c) (.slice none n' c')).run Tryz.prog w=.ok (.bool a.isNone) w:=fun w a n c n' c'=>Lib.run_eql_slice_nil w _ _ a n c n' c' Tryz.underlying43
 cases a with
 | none =>
  obtain rfl:=h.nil
  clear h
  go_enter Tryz.func57,Tryz.ntmps57
  go_wp2
  go_ret
  exact ⟨none,0,rfl,World.ownsRow_nil _ _ _ _,by simp [fp],Mod.refl _ _⟩
 | some ad =>
  have m1:=(Mod.refl [] w).alloc (Obj.cells #[] 49)
  have S1:=Hxq (LAt.src (c:=c) Tryz.underlying43 liV_size (by omega) h1 ad (h.keep m1))
  have O1:Hid ((w.alloc (Obj.cells #[] 49)).ownsRow 0 49 30 (.slice (some ⟨w.heap.size,0,none⟩) 0 0) 0 []):=Hxq (World.ownsRow_made w #[] 0 (Nat.zero_le _) (Nat.zero_le _) rfl)
  have M1:=Lib.hid m1
  clear h m1
  go_enter Tryz.func57,Tryz.ntmps57
  go_wp2_with (at_builtin;refine wpList_append_src _ rfl _ _ 43 43 rfl 49 i0 (.agg #[.int .i64 0,.string ⟨#[]⟩,.slice none 0 0,.int .i64 0,.int .i64 0,.string ⟨#[]⟩,.int .i64 0,.int .i64 0,.string ⟨#[]⟩,.int .i64 0,.slice none 0 0,.int .i64 0,.string ⟨#[]⟩,.int .i64 0,.int .i64 0,.string ⟨#[]⟩,.int .i64 0,.slice none 0 0,.int .i64 0,.string ⟨#[]⟩,.int .i64 0,.string ⟨#[]⟩,.int .i64 0,.int .i64 0,.string ⟨#[]⟩,.int .i64 0,.slice none 0 0,.slice none 0 0,.int .i64 0,.int .i64 0]) 30 384 Tryz.underlying43 hinf hz0 hz1 hz2 rfl (.slice (some ⟨w.heap.size,0,none⟩) 0 0) 0 [] rfl O1.out _ l.length (rowCells csL l) rfl S1.out (by unfold maxLen;omega) (by omega) ?_)
  intro v2 w2 hown2 hm2 hf2 hn2
  (try rw [Nat.zero_add] at hown2);(try rw [List.nil_append] at hown2)
  obtain ⟨a2,c2,rfl⟩:=owns_slice hown2
  have H2:=Lib.hid hown2;have M2:=Lib.hid hm2;have F2:=Lib.hid hf2
  clear hown2 hm2 hf2 hn2 S1 O1
  go_wp2
  go_ret
  refine ⟨a2,c2,rfl,H2.out,fun k hk=>?_,M1.out.trans M2.out (fun t ht=>by simp [fp] at ht;subst ht;exact .inr (Nat.le_refl _))⟩
  rcases F2.out k hk with hh | hh
  ·simp [fp] at hh;omega
  ·have:=M1.out.size;omega
open Go.RowKit
set_option linter.unusedVariables false
set_option linter.unusedSimpArgs false
set_option maxRecDepth 100000
theorem rowCells_set1 {α:Type} {cs:α->Array Value} {n:Nat} (hn:∀ x,(cs x).size=n) (p':α) (o:Nat) (u:Value) (ho:o<n):∀ (acc:List α) (i:Nat) (h:i<acc.length),(cs p').toList=(cs acc[i]).toList.set o u ->
  rowCells cs (acc.set i p')=(rowCells cs acc).set (i * n+o) u
 | x :: r,0,h,hc=>by
  simp only [List.getElem_cons_zero] at hc
  have hx:(cs x).toList.length=n:=by rw [Array.length_toList,hn]
  simp only [List.set_cons_zero,rowCells,List.flatMap_cons,Nat.zero_mul,Nat.zero_add]
  rw [hc,List.set_append_left _ _ (by omega)]
 | x :: r,i+1,h,hc=>by
  simp only [List.getElem_cons_succ] at hc
  have hx:(cs x).toList.length=n:=by rw [Array.length_toList,hn]
  have ih:=rowCells_set1 hn p' o u ho r i (by simpa using h) hc
  simp only [rowCells] at ih
  simp only [List.set_cons_succ,rowCells,List.flatMap_cons]
  rw [ih,List.set_append_right _ _ (by rw [hx,Nat.add_mul];omega)]
  congr 2
  rw [hx,Nat.add_mul];omega
theorem GI.put1 {α:Type} {T:TypeId} {n:Nat} {cs:α->Array Value} {B:(Nat->Prop)->World->α->Prop} {S:List Nat} {w0 W:World} {acc:List α} {g:Nat} {vc:Nat} (hB:Bears n cs B) (h:GI T n cs B S w0 W acc (some ⟨g,0,none⟩) vc) (i:Nat) (hi:i<acc.length) (p':α) (o:Nat) (ho:o<n) (u:Value)
  (hc:(cs p').toList=(cs acc[i]).toList.set o u) (hp:B (fun k=>w0.heap.size<=k/\k∉fp (.slice (some ⟨g,0,none⟩) acc.length vc)) W p') :
  GI T n cs B S w0 (W.setCell ⟨g,i * n+o,none⟩ u) (acc.set i p') (some ⟨g,0,none⟩) vc:=by
 have e1:(acc.set i p').length=acc.length:=by simp
 have hm:Mod [g] W (W.setCell ⟨g,i * n+o,none⟩ u):=(Mod.refl [g] W).setCell (p:=⟨g,i * n+o,none⟩) (.inl (by simp)) u
 have hg:g∈fp (.slice (some ⟨g,0,none⟩) acc.length vc):=by simp [fp]
 refine ⟨?_,by rw [e1];exact h.new,fun q hq=>?_,h.low,h.mod.trans hm (fun k hk=>by rw [Msq] at hk;subst hk;exact .inr (h.new _ hg))⟩
 ·rw [e1,rowCells_set1 hB.size p' o u ho acc i hi hc]
  exact (h.row.stored (i * n+o) u).1
 ·rw [e1]
  have hq2:B (fun k=>w0.heap.size<=k/\k∉fp (.slice (some ⟨g,0,none⟩) acc.length vc)) W q:=by
   rcases List.mem_or_eq_of_mem_set hq with hq | rfl
   ·exact h.sub q hq
   ·exact hp
  exact hB.keep hq2 hm (fun s hs hh=>by rw [Msq] at hs;subst hs;exact hh.2 hg)
def setL (xs:List Value) (o:Nat):List Value->List Value
 | []=>xs
 | v :: r=>setL (xs.set o v) (o+1) r
theorem setL_len:∀ (vs xs:List Value) (o:Nat),(setL xs o vs).length=xs.length
 | [],_,_=>rfl
 | v :: r,xs,o=>by rw [setL,setL_len r];simp
theorem setL_app (A:List Value):∀ (vs Z B:List Value) (o:Nat),o+vs.length<=Z.length->setL (A++Z++B) (A.length+o) vs=A++setL Z o vs++B
 | [],_,_,_,_=>rfl
 | v :: r,Z,B,o,h=>by
  simp only [List.length_cons] at h
  rw [setL,setL,List.append_assoc,List.set_append_right _ _ (by omega),List.set_append_left _ _ (by omega),show A.length+o - A.length=o by omega,<-List.append_assoc]
  exact setL_app A r (Z.set o v) B (o+1) (by simp;omega)
theorem owns_setCs {e:TypeId} {base size g n cap:Nat}:∀ (vs xs:List Value) (o:Nat) (w:World),w.ownsRow base e size (.slice (some ⟨g,0,none⟩) n cap) n xs ->
  (setCs w g o vs).ownsRow base e size (.slice (some ⟨g,0,none⟩) n cap) n (setL xs o vs)
 | [],_,_,_,h=>h
 | v :: r,xs,o,w,h=>owns_setCs r _ (o+1) _ (h.stored o v).1
section
variable {α:Type} {T:TypeId} {n:Nat} {cs:α->Array Value} {B:(Nat->Prop)->World->α->Prop} {w0 W W':World} {done src rest:List α} {Z:List Value} {va:Option Addr} {vc g m:Nat} {S:List Nat}
structure RI {α:Type} (T:TypeId) (n:Nat) (cs:α->Array Value) (B:(Nat->Prop)->World->α->Prop) (w0 W:World) (done src:List α) (va:Option Addr) (vc:Nat):Prop where
 row:W.ownsRow 0 T n (.slice va src.length vc) src.length (rowCells cs (done++src.drop done.length))
 new:∀ k∈fp (.slice va src.length vc),w0.heap.size<=k
 le:done.length<=src.length
 sub:∀ p∈done,B (fun k=>w0.heap.size<=k/\k∉fp (.slice va src.length vc)) W p
structure MI {α:Type} (T:TypeId) (n:Nat) (cs:α->Array Value) (B:(Nat->Prop)->World->α->Prop) (w0 W:World) (done:List α) (Z:List Value) (rest:List α) (g vc m:Nat):Prop where
 row:W.ownsRow 0 T n (.slice (some ⟨g,0,none⟩) m vc) m (rowCells cs done++Z++rowCells cs rest)
 z:Z.length=n
 new:w0.heap.size<=g
 sub:∀ p∈done,B (fun k=>w0.heap.size<=k/\k≠g) W p
theorem RI.start (h:W.ownsRow 0 T n (.slice va src.length vc) src.length (rowCells cs src)) (hn:∀ k∈fp (.slice va src.length vc),w0.heap.size<=k):RI T n cs B w0 W [] src va vc :=
 ⟨by simpa using h,hn,by simp,by simp⟩
theorem RI.keep (hB:Bears n cs B) (h:RI T n cs B w0 W done src va vc) (hm:Mod S W W') (hS:∀ s∈S,s<w0.heap.size):RI T n cs B w0 W' done src va vc :=
 ⟨hm.owns h.row (fun k hk hs=>by have:=h.new k hk;have:=hS k hs;omega),h.new,h.le,fun p hp=>hB.keep (h.sub p hp) hm (fun s hs hh=>by have:=hS s hs;omega)⟩
theorem MI.lt (h:MI T n cs B w0 W done Z rest g vc m):g<W.heap.size:=by
 rcases h.row.2 with ⟨h1,-⟩ | ⟨g',cap,cur,h1,hb,hg,-⟩
 ·cases h1
 ·simp only [Value.slice.injEq,Option.some.injEq,Addr.mk.injEq,and_true] at h1
  obtain ⟨rfl,-⟩:=h1
  exact lt_of_block hg
theorem RI.mid (h:RI T n cs B w0 W done src va vc) (hn:∀ x,(cs x).size=n) (hl:done.length<src.length):∃ g,va=some ⟨g,0,none⟩/\MI T n cs B w0 W done (cs src[done.length]).toList (src.drop (done.length+1)) g vc src.length:=by
 obtain ⟨g,rfl⟩:∃ g,va=some ⟨g,0,none⟩:=by
  rcases h.row.2 with ⟨h1,h2⟩ | ⟨g,cap,cur,h1,-⟩
  ·omega
  ·simp only [Value.slice.injEq] at h1;exact ⟨g,h1.1⟩
 refine ⟨g,rfl,?_,by rw [Array.length_toList,hn],h.new g (by simp [fp]),fun p hp=>by simpa [fp] using h.sub p hp⟩
 have:=h.row
 have e:rowCells cs (done++List.drop done.length src)=rowCells cs done++(cs src[done.length]).toList++rowCells cs (List.drop (done.length+1) src):=by
  rw [List.drop_eq_getElem_cons hl]
  simp only [rowCells,List.flatMap_append,List.flatMap_cons,List.append_assoc]
 rwa [e] at this
theorem MI.keep (hB:Bears n cs B) (h:MI T n cs B w0 W done Z rest g vc m) (hm:Mod S W W') (hS:∀ s∈S,s<w0.heap.size):MI T n cs B w0 W' done Z rest g vc m :=
 ⟨hm.owns h.row (fun k hk hs=>by simp [fp] at hk;subst hk;have:=h.new;have:=hS k hs;omega),h.z,h.new,fun p hp=>hB.keep (h.sub p hp) hm (fun s hs hh=>by have:=hS s hs;omega)⟩
theorem MI.cell (h:MI T n cs B w0 W done Z rest g vc m) (hn:∀ x,(cs x).size=n) (o:Nat) (v:Value) (hv:Z[o]?=some v):W.cell? ⟨g,done.length * n+o,none⟩=some v:=by
 have hc:=h.row.cells (g:=g) rfl (done.length * n+o) v (by
  have ho:=(List.getElem?_eq_some_iff.1 hv).1
  rw [List.append_assoc,List.getElem?_append_right (by rw [rowCells_len hn];omega),rowCells_len hn,show done.length * n+o - done.length * n=o by omega,List.getElem?_append_left ho,hv])
 rw [addr_add] at hc
 simpa using hc
theorem MI.frozen (h:MI T n cs B w0 W done Z rest g vc m) (j:Nat):W.frozen? ⟨g,j,none⟩=false:=h.row.frozenAt j
theorem MI.sets (hB:Bears n cs B) (h:MI T n cs B w0 W done Z rest g vc m) (o:Nat) (vs:List Value) (ho:o+vs.length<=n):MI T n cs B w0 (setCs W g (done.length * n+o) vs) done (setL Z o vs) rest g vc m:=by
 refine ⟨?_,by rw [setL_len,h.z],h.new,fun p hp=>hB.keep (h.sub p hp) (setCs_mod g vs _ W) (fun s hs hh=>by rw [Msq] at hs;exact hh.2 hs)⟩
 have:=owns_setCs vs _ (done.length * n+o) W h.row
 have e:done.length * n=(rowCells cs done).length:=(rowCells_len hB.size done).symm
 rw [e] at this ⊢
 rwa [setL_app _ _ _ _ _ (by rw [h.z];exact ho)] at this
theorem MI.fin (hB:Bears n cs B) (p':α) (h:MI T n cs B w0 W done (cs p').toList (src.drop (done.length+1)) g vc src.length) (hl:done.length<src.length) (hp:B (fun k=>w0.heap.size<=k/\k≠g) W p'):RI T n cs B w0 W (done++[p']) src (some ⟨g,0,none⟩) vc:=by
 refine ⟨?_,fun k hk=>by simp [fp] at hk;subst hk;exact h.new,by simp;omega,fun p hq=>?_⟩
 ·have:=h.row
  simpa [rowCells] using this
 ·have e:(fun k=>w0.heap.size<=k/\k∉fp (.slice (some ⟨g,0,none⟩) src.length vc))=(fun k=>w0.heap.size<=k/\k≠g):=by simp [fp]
  rw [e]
  rcases List.mem_append.1 hq with hq | hq
  ·exact h.sub p hq
  ·rw [Msq] at hq;subst hq;exact hp
/-- all done -/
theorem RI.all (h:RI T n cs B w0 W done src va vc) (he:done.length=src.length):W.ownsRow 0 T n (.slice va done.length vc) done.length (rowCells cs done):=by
 have:=h.row
 rw [he,List.drop_length,List.append_nil] at this
 rwa [he]
end
end Go.Proofs.YtohnmnfhmbmoaaaGreatDoor
