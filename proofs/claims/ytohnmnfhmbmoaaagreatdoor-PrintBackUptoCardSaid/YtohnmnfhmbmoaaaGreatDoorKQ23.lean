/- THE TEXTS MERGED: TyCopy. -/
import Derived.Test.YtohnmnfhmbmoaaaGreatDoorKQ1
import Derived.Test.YtohnmnfhmbmoaaaGreatDoorKQ22
import Derived.Deep.RegionLaw
namespace Go.Proofs.YtohnmnfhmbmoaaaGreatDoor
open Go.RowKit
set_option linter.unusedVariables false
set_option linter.unusedSimpArgs false
set_option maxRecDepth 100000
/-- a copy: in new blocks alone -/
def CpAT (a:Pr.Atom) (w:World) (e:Ending) (w':World):Prop:=∃ u,e=.returned (.agg #[.string a.rel,u])/\RowT (fun k=>w.heap.size<=k) w' 88 5 tmV a.terms u/\Mod [] w w'
set_option maxHeartbeats 4000000 in
theorem copyAtom_T {F:Nat->Prop} (a:Pr.Atom) (hl:a.terms.length<=134217728) (u:Value) (w:World) (h:RowB F w 5 tmV a.terms u) :
  Calls Tryz.prog 26 #[.agg #[.string a.rel,u]] w (CpAT a w):=by
 obtain ⟨rel,ts⟩:=a
 dsimp only at *
 obtain ⟨i0,hinf,hz0,hz1,hz2⟩:=info_parts Tryz.infoTerm
 obtain ⟨a1,c1,rfl⟩:=h.lit
 have hsrc:=rows_src Tryz.underlying40 tmV_size (by omega) tmV_one h
 have mA:=((Mod.refl [] w).alloc (Obj.cells #[.string rel,.slice a1 ts.length c1] 42)).alloc (Obj.cells #[.string ⟨#[]⟩,.slice none 0 0] 42)
 have eA:=two_a w #[.string rel,.slice a1 ts.length c1] #[.string ⟨#[]⟩,.slice none 0 0] 42 42
 have eB:=two_b w #[.string rel,.slice a1 ts.length c1] #[.string ⟨#[]⟩,.slice none 0 0] 42 42
 have H1:=h.keep mA (by simp)
 have S1:=Hxq (rows_src Tryz.underlying40 tmV_size (by omega) tmV_one H1)
 clear h hsrc H1
 go_enter Tryz.func26,Tryz.ntmps26
 go_upto_region 1 with fail
 generalize (w.alloc (Obj.cells _ 42)).alloc (Obj.cells _ 42)=w0 at *
 have M0:=Lib.hid mA;have E0:=Lib.hid eA;have E1:=Lib.hid eB
 clear mA eA eB
 have x0:=cell_at E0.out 0;have x1:=cell_at E0.out 1
 simp only [List.getElem?_toArray,List.getElem?_cons_zero,List.getElem?_cons_succ] at x0 x1
 go_wp2_with (at_builtin;refine wpList_append_src _ rfl _ _ 40 40 rfl 88 i0 (.agg #[Value.int IntKind.i64 0,Value.string ⟨#[]⟩,Value.int IntKind.i64 0,Value.int IntKind.i64 0,Value.string ⟨#[]⟩]) 5 56 Tryz.underlying40 hinf hz0 hz1 hz2 rfl (.slice none 0 0) 0 [] rfl (World.ownsRow_nil _ _ _ _) _ ts.length (rowCells tmV ts) rfl S1.out (by unfold maxLen;omega) (by omega) ?_)
 intro v2 w2 hown2 hm2 hf2 hn2
 (try rw [Nat.zero_add] at hown2);(try rw [List.nil_append] at hown2)
 obtain ⟨a2,c2,rfl⟩:=owns_slice hown2
 have M2:=Hxq (show Mod [] w0 w2 from hm2)
 have hR:=RowT.of_owns (base:=0) (F:=fun k=>w0.heap.size<=k) tmV_size hown2 (fun k hk=>by
  rcases hf2 k hk with hh | hh
  ·simp [fp] at hh
  ·exact hh)
 have R2:=Lib.hid hR
 clear hown2 hm2 hf2 hn2 x0 x1 S1 hR
 have E2:=Hxq (M2.out.at E0.out (by simp));have E3:=Hxq (M2.out.at E1.out (by simp))
 have x0:=cell_at E2.out 0;have y0:=cell_at E3.out 0;have y1:=cell_at E3.out 1
 simp only [List.getElem?_toArray,List.getElem?_cons_zero,List.getElem?_cons_succ] at x0 y0 y1
 have fA:∀ j,w2.frozen? ⟨w.heap.size+1,j,none⟩=false:=fun j=>free_at E3.out j
 have hz:=M0.out.size
 have hz2:=lt_of_block E1.out
 go_wp2_with fail
 have mR:=setCs_mod (w.heap.size+1) [.string rel,.slice a2 ts.length c2] 0 w2
 refine bodyPost_ret (results_cell_row rfl _ _ _ _ _ _ _ rfl (setCs_row (vs:=[.string rel,.slice a2 ts.length c2]) E3.out rfl) Tryz.underlying42 rfl (by kernel_rfl)) rfl ⟨_,rfl,?_,(M0.out.trans M2.out (by simp)).trans mR (by simp)⟩
 exact (R2.out.keep mR (fun s hs=>by rw [Msq] at hs;omega)).mono (fun k hk _=>by omega)
/-- a copy: in new blocks alone -/
def CpXT (e:Pr.Ex) (w:World) (o:Ending) (w':World):Prop:=∃ u,o=.returned (.agg (exV e u))/\ET (fun k=>w.heap.size<=k) w' e u/\Mod [] w w'
def CXCT (d:Nat):Prop:=∀ (e:Pr.Ex),exD e<=d->exM e<=134217728->∀ (F:Nat->Prop) (u:Value) (w:World),EB F w e u ->
 Calls Tryz.prog 51 #[.agg (exV e u)] w (CpXT e w)
set_option maxHeartbeats 8000000 in
theorem cxct_of (d:Nat) (hS:CXCT d):CXCT (d+1):=by
 intro e he hM F u w h
 obtain ⟨i0,hinf,hz0,hz1,hz2⟩:=info_parts Tryz.infoEx
 obtain ⟨k,v,⟨xk,xn,xs⟩,op,args⟩:=e
 obtain ⟨a1,c1,rfl⟩:=h.lit
 have hd:exDs args<=d:=by simp only [exD] at he;omega
 have hM1:args.length<=134217728:=by simp only [exM] at hM;omega
 have hM2:exMs args<=134217728:=by simp only [exM] at hM;omega
 have HS:=Lib.hid hS;have H1:=Lib.hid h
 clear h hS he hM
 simp only [exV,Pr.Ex.k,Pr.Ex.v,Pr.Ex.x,Pr.Ex.op,Pr.Ex.args] at *
 generalize hxB:Lx.ofS xs=xB at *
 have mA:=((Mod.refl [] w).alloc (Obj.cells #[.int .i64 k,.string v,.int .i64 xk,.int .i64 xn,.string xB,.int .i64 op,.slice a1 args.length c1] 38)).alloc (Obj.cells #[Value.int IntKind.i64 0,Value.string ⟨#[]⟩,Value.int IntKind.i64 0,Value.int IntKind.i64 0,Value.string ⟨#[]⟩,Value.int IntKind.i64 0,Value.slice none 0 0] 38)
 have eA:=two_a w #[.int .i64 k,.string v,.int .i64 xk,.int .i64 xn,.string xB,.int .i64 op,.slice a1 args.length c1] #[Value.int IntKind.i64 0,Value.string ⟨#[]⟩,Value.int IntKind.i64 0,Value.int IntKind.i64 0,Value.string ⟨#[]⟩,Value.int IntKind.i64 0,Value.slice none 0 0] 38 38
 have eB:=two_b w #[.int .i64 k,.string v,.int .i64 xk,.int .i64 xn,.string xB,.int .i64 op,.slice a1 args.length c1] #[Value.int IntKind.i64 0,Value.string ⟨#[]⟩,Value.int IntKind.i64 0,Value.int IntKind.i64 0,Value.string ⟨#[]⟩,Value.int IntKind.i64 0,Value.slice none 0 0] 38 38
 go_enter Tryz.func51,Tryz.ntmps51
 go_upto_region 1 with fail
 generalize (w.alloc (Obj.cells _ 38)).alloc (Obj.cells _ 38)=w0 at *
 have M0:=Lib.hid mA;have E0:=Lib.hid eA;have E1:=Lib.hid eB
 clear mA eA eB
 have x0:=cell_at E0.out 0;have x1:=cell_at E0.out 1;have x2:=cell_at E0.out 2;have x3:=cell_at E0.out 3;have x4:=cell_at E0.out 4;have x5:=cell_at E0.out 5;have x6:=cell_at E0.out 6
 simp only [List.getElem?_toArray,List.getElem?_cons_zero,List.getElem?_cons_succ] at x0 x1 x2 x3 x4 x5 x6
 go_upto_region 3 with fail
 generalize hwL:w0.alloc (Obj.cells _ 38)=wL
 have hLA:Hid (Mod [] w0 wL/\wL.heap[w0.heap.size]?=some (.cells #[.int .i64 k,.string v,.int .i64 xk,.int .i64 xn,.string xB,.int .i64 op,.slice none 0 0] 38 (0,0))):=Hxq (by
  subst hwL
  exact ⟨(Mod.refl [] w0).alloc _,heap_alloc_new w0 _⟩)
 clear x0 x1 x2 x3 x4 x5 x6 hwL
 have ML:=Lib.hid hLA.out.1;have EL:=Lib.hid hLA.out.2
 have hpl:=lt_of_block EL.out
 have hp0:=lt_of_block E1.out
 have hm0:=M0.out.size
 generalize hpb:w0.heap.size=pb at *
 have GL:Hid (GI 38 7 csX BXT [pb] wL wL [] none 0):=Hxq (GI.nil (fun s hs=>by rw [Msq] at hs;omega))
 clear hLA
 go_wp2_with fail
 have HL1:=Hxq (H1.out.mono (F':=fun k=>k<w.heap.size) (fun k _ h=>h))
 go_loopw [4] (fun iv wr=>∃ (acc:List ExU) (va:Option Addr) (vc:Nat),iv=.int .i64 (acc.length:Nat)/\acc.map (·.1)=args.take acc.length/\acc.length<=args.length/\wr.heap[pb]?=some (.cells #[.int .i64 k,.string v,.int .i64 xk,.int .i64 xn,.string xB,.int .i64 op,.slice va acc.length vc] 38 (0,0))/\GI 38 7 csX BXT [pb] wL wr acc va vc) (fun iv _=>args.length - (intOf iv).toNat)
 case atStart=>exact ⟨[],none,0,rfl,by simp,by simp,EL.out,GL.out⟩
 case round =>
  obtain ⟨acc,va,vc,rfl,hmap,hle,hbx,hG⟩:=hrel
  have MW:=Hxq (((M0.out.trans ML.out (by simp)).mono (T:=[pb]) (by simp)).trans hG.mod (by simp))
  have EP:=Hxq (hG.mod.at (ML.out.at E0.out (by simp)) (by simp;omega))
  have EX:=Lib.hid hbx;have G0:=Lib.hid hG;have HM:=Lib.hid hmap
  have z6:=cell_at EP.out 6;have b6:=cell_at EX.out 6
  simp only [List.getElem?_toArray,List.getElem?_cons_zero,List.getElem?_cons_succ] at z6 b6
  clear hG hbx hmap
  by_cases hlt:acc.length<args.length
  ·have hjI:(acc.length:Int)<(args.length:Int):=by omega
   have hj0:(0:Int)<=(acc.length:Int):=by omega
   obtain ⟨b1,o1,u1,rfl,hc1,hE1⟩:=(HL1.out.keep MW.out (by simp;omega)).at acc.length hlt
   have hdj:=exDs_mem args acc.length hlt
   have hmj:=exMs_mem args acc.length hlt
   have HY:Hid (args[acc.length]?=some args[acc.length]):=Hxq (List.getElem?_eq_getElem hlt)
   simp only [Pr.Ex.args] at hc1 hE1
   generalize args[acc.length]=y at *
   obtain ⟨a2,c2,rfl⟩:=hE1.lit
   have r0:=hc1 0 (.int .i64 y.k) rfl
   have r1:=hc1 1 (.string y.v) rfl
   have r2:=hc1 2 (.int .i64 y.x.k) rfl
   have r3:=hc1 3 (.int .i64 y.x.n) rfl
   have r4:=hc1 4 (.string (Lx.ofS y.x.s)) rfl
   have r5:=hc1 5 (.int .i64 y.op) rfl
   have r6:=hc1 6 (.slice a2 y.args.length c2) rfl
   rw [Nat.add_zero] at r0
   clear hc1
   have HE1:=Lib.hid hE1
   clear hE1
   have HC:Hid (∀ w',Mod [] wr w'->Calls Tryz.prog 51 #[.agg (exV y (.slice a2 y.args.length c2))] w' (CpXT y w')):=Hxq (fun w' hm=>HS.out y (by omega) (by omega) _ _ _ (HE1.out.keep hm (by simp)))
   have hna:pb∉fp (.slice va acc.length vc):=fun hk=>by have:=G0.out.new pb hk;omega
   have hlR:=Hxq (fun k hk=>fp_lt G0.out.row k hk)
   have hsz:=G0.out.mod.size
   unfold exV at HC
   go_wp2_with fail
   go_region_law (first
    | (go_simp;refine (HC.out wr.drew ((Mod.refl [] wr).drew)).mono ?_;rintro e3 w3 ⟨u3,rfl,hb3,m3⟩;obtain ⟨a3,c3,rfl⟩:=hb3.lit;have m03:=((Mod.refl [] wr).drew).trans m3 (by simp);have X3:=Hxq (m03.at EX.out (by simp));have q3:w3.cell? ⟨pb,6,none⟩=some (.slice va acc.length vc):=cell_at X3.out 6;have mA4:=(Mod.refl [] w3).alloc (Obj.cells #[.int .i64 y.k,.string y.v,.int .i64 y.x.k,.int .i64 y.x.n,.string (Lx.ofS y.x.s),.int .i64 y.op,.slice a3 y.args.length c3] 38);have X4:=Hxq (mA4.at X3.out (by simp));have q4:(w3.alloc (Obj.cells #[.int .i64 y.k,.string y.v,.int .i64 y.x.k,.int .i64 y.x.n,.string (Lx.ofS y.x.s),.int .i64 y.op,.slice a3 y.args.length c3] 38)).cell? ⟨pb,6,none⟩=some (.slice va acc.length vc):=cell_at X4.out 6;have G4:=Hxq ((G0.out.keep bearsXT (m03.mono (by simp))).keep bearsXT (mA4.mono (by simp)));have S4:Hid (Src Tryz.prog 7 36 (.slice (some ⟨w3.heap.size,0,none⟩) 1 1) 1 (csX (y,.slice a3 y.args.length c3)).toList (w3.alloc (Obj.cells #[.int .i64 y.k,.string y.v,.int .i64 y.x.k,.int .i64 y.x.n,.string (Lx.ofS y.x.s),.int .i64 y.op,.slice a3 y.args.length c3] 38))):=Hxq (src_one (TS:=36) Tryz.underlying36 (heap_alloc_new w3 (Obj.cells (csX (y,.slice a3 y.args.length c3)) 38)) rfl (csX_one (p:=(y,.slice a3 y.args.length c3)) (w:=w3) hb3.eb));have L4:Hid (BXT (fun k=>wr.heap.size<=k) (w3.alloc (Obj.cells #[.int .i64 y.k,.string y.v,.int .i64 y.x.k,.int .i64 y.x.n,.string (Lx.ofS y.x.s),.int .i64 y.op,.slice a3 y.args.length c3] 38)) (y,.slice a3 y.args.length c3)):=Hxq (hb3.keep mA4 (by simp));unfold exV;clear hb3 m3 m03 mA4)
    | (refine step_append_src _ rfl _ _ 36 36 rfl 38 i0 (.agg #[Value.int IntKind.i64 0,Value.string ⟨#[]⟩,Value.int IntKind.i64 0,Value.int IntKind.i64 0,Value.string ⟨#[]⟩,Value.int IntKind.i64 0,Value.slice none 0 0]) 7 88 Tryz.underlying36 hinf hz0 hz1 hz2 rfl (.slice va acc.length vc) acc.length (rowCells csX acc) rfl G4.out.row _ 1 (csX (y,.slice a3 y.args.length c3)).toList rfl S4.out (by unfold maxLen;omega) (by omega) ?_;intro v5 w5 hown5 hm5 hf5;obtain ⟨va5,vc5,rfl⟩:=owns_slice hown5;have G5:=Hxq (G4.out.grow bearsXT hm5 L4.out hlR.out hsz hown5 hf5);have X5:=Hxq (hm5.at X4.out hna);have q5:w5.cell? ⟨pb,6,none⟩=some (.slice va acc.length vc):=cell_at X5.out 6;have f5:w5.frozen? ⟨pb,6,none⟩=false:=free_at X5.out 6;clear hown5 hm5 hf5))
   all_goals (
    have X6:=Hxq (setCell_at X5.out 6 (.slice va5 (acc.length+1) vc5))
    have G6:=Hxq (G5.out.keep bearsXT ((Mod.refl [pb] w5).setCell (p:=⟨pb,6,none⟩) (.inl (by simp)) (.slice va5 (acc.length+1) vc5)))
    clear q3 q4 q5 f5 X3 X4 X5 S4 L4 G4 G5 z6 b6
    go_wp2_with fail
    generalize w5.setCell ⟨pb,6,none⟩ (.slice va5 (acc.length+1) vc5)=w8 at *
    go_roundw
    case rel =>
     refine ⟨acc++[(y,.slice a3 y.args.length c3)],va5,vc5,by rw [List.length_append];go_num,?_,by simp;omega,?_,G6.out⟩
     ·rw [List.map_append,HM.out,show (acc++[(y,Value.slice a3 y.args.length c3)]).length=acc.length+1 by simp,List.take_add_one,HY.out];rfl
     ·rw [X6.out];simp
    case measure=>simp [intOf];omega)
  ·obtain hae:acc.length=args.length:=by omega
   have hjI:¬ (acc.length:Int)<(args.length:Int):=by omega
   have hargs:args=acc.map (·.1):=by rw [HM.out,hae,List.take_length]
   have ER:=Hxq (G0.out.mod.at (ML.out.at E1.out (by simp)) (by simp;omega))
   have b0:=cell_at EX.out 0;have b1:=cell_at EX.out 1;have b2:=cell_at EX.out 2;have b3:=cell_at EX.out 3;have b4:=cell_at EX.out 4;have b5:=cell_at EX.out 5;have y0:=cell_at ER.out 0;have y1:=cell_at ER.out 1;have y2:=cell_at ER.out 2;have y3:=cell_at ER.out 3;have y4:=cell_at ER.out 4;have y5:=cell_at ER.out 5;have y6:=cell_at ER.out 6
   simp only [List.getElem?_toArray,List.getElem?_cons_zero,List.getElem?_cons_succ] at b0 b1 b2 b3 b4 b5 y0 y1 y2 y3 y4 y5 y6
   have fA:∀ j,wr.frozen? ⟨w.heap.size+1,j,none⟩=false:=fun j=>free_at ER.out j
   have hsz:=G0.out.mod.size
   have HAR:=Lib.hid hargs
   clear hae hargs
   go_wp2_with fail
   have mR:=setCs_mod (w.heap.size+1) [.int .i64 k,.string v,.int .i64 xk,.int .i64 xn,.string xB,.int .i64 op,.slice va acc.length vc] 0 wr
   refine bodyPost_ret (results_cell_row rfl _ _ _ _ _ _ _ rfl (setCs_row (vs:=[.int .i64 k,.string v,.int .i64 xk,.int .i64 xn,.string xB,.int .i64 op,.slice va acc.length vc]) ER.out rfl) Tryz.underlying38 rfl (by kernel_rfl)) rfl ⟨.slice va acc.length vc,?_,?_,?_⟩
   ·rw [<-hxB];rfl
   ·rw [HAR.out]
    refine ET.of_row acc (mR.owns G0.out.row (fun k hk hs=>by rw [Msq] at hs;have:=G0.out.new k hk;omega)) (fun k hk=>by have:=G0.out.new k hk;omega) (fun p hp=>?_)
    exact bearsXT.mono (bearsXT.keep (G0.out.sub p hp) mR (fun s hs hh=>by rw [Msq] at hs;omega)) (fun k hk _=>by omega)
   ·exact ((M0.out.trans ML.out (by simp)).trans (S:=[]) (T:=[pb]) G0.out.mod (fun t ht=>.inr (by rw [Msq] at ht;omega))).trans mR (fun t ht=>.inr (by rw [Msq] at ht;omega))
theorem cxct_all:∀ d,CXCT d
 | 0=>fun e he _=>by cases e;simp [exD] at he
 | d+1=>cxct_of d (cxct_all d)
theorem copyExpr_T {F:Nat->Prop} (e:Pr.Ex) (hM:exM e<=134217728) (u:Value) (w:World) (h:EB F w e u) :
  Calls Tryz.prog 51 #[.agg (exV e u)] w (CpXT e w):=cxct_all _ e (Nat.le_refl _) hM F u w h
end Go.Proofs.YtohnmnfhmbmoaaaGreatDoor
