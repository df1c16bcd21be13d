/- THE TEXTS MERGED: TwExpr Tail. -/
import Derived.Test.YtohnmnfhmbmoaaaGreatDoorKG6
import Derived.Deep.RegionHeld
namespace Go.Proofs.YtohnmnfhmbmoaaaGreatDoor
open Go.RowKit
set_option linter.unusedVariables false
set_option linter.unusedSimpArgs false
set_option maxRecDepth 100000
def PXCT (d:Nat):Prop:=∀ (e:Pr.Ex),exD e<=d->exM e<=134217728->∀ (F:Nat->Prop) (u:Value) (w:World),EB F w e u ->
 Calls Tryz.prog 58 #[.agg (exV e u)] w (CpXT e w)
set_option maxHeartbeats 8000000 in
theorem pxct_of (d:Nat) (hS:PXCT d):PXCT (d+1):=by
 intro e he hM F u w h
 obtain ⟨src,a1,c1,rfl,hsm,hla,hsb⟩:=h.lat
 obtain ⟨k,v,⟨xk,xn,xs⟩,op,args⟩:=e
 have hln:src.length=args.length:=by rw [<-List.length_map (f:=(·.1)),hsm];rfl
 simp only [Pr.Ex.args] at hsm
 have hd:exDs args<=d:=by simp only [exD] at he;omega
 have hM1:src.length<=134217728:=by simp only [exM] at hM;omega
 have hM2:exMs args<=134217728:=by simp only [exM] at hM;omega
 have HS:=Lib.hid hS;have HSM:=Lib.hid hsm;have HSB:=Lib.hid hsb;have HLA:=Lib.hid hla;have HLN:=Lib.hid hln
 have H1:=Lib.hid h
 clear h hS he hM hsm hsb hla hln
 simp only [exV,Pr.Ex.k,Pr.Ex.v,Pr.Ex.x,Pr.Ex.op] at *
 generalize hxB:Lx.ofS xs=xB at *
 have mA:=((Mod.refl [] w).alloc (Obj.cells #[.int .i64 k,.string v,.int .i64 xk,.int .i64 xn,.string xB,.int .i64 op,.slice a1 src.length c1] 38)).alloc (Obj.cells #[Value.int IntKind.i64 0,Value.string ⟨#[]⟩,Value.int IntKind.i64 0,Value.int IntKind.i64 0,Value.string ⟨#[]⟩,Value.int IntKind.i64 0,Value.slice none 0 0] 38)
 have eA:=two_a w #[.int .i64 k,.string v,.int .i64 xk,.int .i64 xn,.string xB,.int .i64 op,.slice a1 src.length c1] #[Value.int IntKind.i64 0,Value.string ⟨#[]⟩,Value.int IntKind.i64 0,Value.int IntKind.i64 0,Value.string ⟨#[]⟩,Value.int IntKind.i64 0,Value.slice none 0 0] 38 38
 have eB:=two_b w #[.int .i64 k,.string v,.int .i64 xk,.int .i64 xn,.string xB,.int .i64 op,.slice a1 src.length c1] #[Value.int IntKind.i64 0,Value.string ⟨#[]⟩,Value.int IntKind.i64 0,Value.int IntKind.i64 0,Value.string ⟨#[]⟩,Value.int IntKind.i64 0,Value.slice none 0 0] 38 38
 have zA:((w.alloc (Obj.cells #[.int .i64 k,.string v,.int .i64 xk,.int .i64 xn,.string xB,.int .i64 op,.slice a1 src.length c1] 38)).alloc (Obj.cells #[Value.int IntKind.i64 0,Value.string ⟨#[]⟩,Value.int IntKind.i64 0,Value.int IntKind.i64 0,Value.string ⟨#[]⟩,Value.int IntKind.i64 0,Value.slice none 0 0] 38)).heap.size=w.heap.size+2:=by simp
 go_enter Tryz.func58,Tryz.ntmps58
 go_upto_region 1 with fail
 generalize (w.alloc (Obj.cells _ 38)).alloc (Obj.cells _ 38)=w0 at *
 have M0:=Lib.hid mA;have E0:=Lib.hid eA;have E1:=Lib.hid eB
 have ZA:=Lib.hid zA
 clear mA eA eB zA
 generalize hpa:w.heap.size=pa at *
 have x6:=cell_at E0.out 6
 simp only [List.getElem?_toArray,List.getElem?_cons_zero,List.getElem?_cons_succ] at x6
 go_wp2_with fail
 refine (cloneX_any src hM1 a1 c1 w0 (HLA.out.keep M0.out) (fun x hx=>csX_one (HSB.out x hx))).mono ?_
 rintro e1 w1 ⟨a2,c2,rfl,hown,hnew,hm1⟩
 have O1:=Lib.hid hown;have N1:=Lib.hid hnew;have M1:=Lib.hid hm1
 have E2:=Hxq (M1.out.at E0.out (by simp));have E3:=Hxq (M1.out.at E1.out (by simp))
 clear hown hnew hm1 x6
 have x6:=cell_at E2.out 6
 simp only [List.getElem?_toArray,List.getElem?_cons_zero,List.getElem?_cons_succ] at x6
 have f6:=free_at E2.out 6
 go_upto_region 2 with fail
 have X3:Hid ((w1.setCell ⟨pa,6,none⟩ (.slice a2 src.length c2)).heap[pa]?=some (.cells #[.int .i64 k,.string v,.int .i64 xk,.int .i64 xn,.string xB,.int .i64 op,.slice a2 src.length c2] 38 (0,0))):=Hxq (setCs_heap [.slice a2 src.length c2] 6 [.int .i64 k,.string v,.int .i64 xk,.int .i64 xn,.string xB,.int .i64 op,.slice a1 src.length c1] w1 E2.out)
 have Q3:Hid (Mod [pa] w1 (w1.setCell ⟨pa,6,none⟩ (.slice a2 src.length c2))):=Hxq (setCs_mod pa [.slice a2 src.length c2] 6 w1)
 generalize w1.setCell ⟨pa,6,none⟩ (.slice a2 src.length c2)=wL at *
 have R0:Hid (RI 38 7 csX BXT w0 wL [] src a2 c2):=Hxq (RI.start (Q3.out.owns O1.out (fun k hk hs=>by rw [Msq] at hs;have:=N1.out k hk;have:=ZA.out;omega)) N1.out)
 have ER:=Hxq (Q3.out.at E3.out (by simp))
 have ML:Hid (Mod [pa] w0 wL):=Hxq ((M1.out.mono (T:=[pa]) (by simp)).trans Q3.out (by simp))
 clear x6 f6 E2 E3 O1 N1 Q3
 have x6:=cell_at X3.out 6
 simp only [List.getElem?_toArray,List.getElem?_cons_zero,List.getElem?_cons_succ] at x6
 go_wp2_with fail
 go_loopw [11] (fun iv wr=>∃ (done:List ExU),iv=.int .i64 (done.length:Nat)/\done.map (·.1)=args.take done.length/\RI 38 7 csX BXT w0 wr done src a2 c2/\wr.heap[pa]?=some (.cells #[.int .i64 k,.string v,.int .i64 xk,.int .i64 xn,.string xB,.int .i64 op,.slice a2 src.length c2] 38 (0,0))/\Mod [pa] w0 wr) (fun iv _=>src.length - (intOf iv).toNat)
 case atStart=>exact ⟨[],rfl,by simp,R0.out,X3.out,ML.out⟩
 case round =>
  obtain ⟨done,rfl,hmap,hR,hbox,hmw⟩:=hrel
  have EX:=Lib.hid hbox;have ERW:=Hxq (hmw.at E1.out (by simp))
  have MW:Hid (Mod [pa] w wr):=Hxq ((M0.out.mono (T:=[pa]) (by simp)).trans hmw (by simp))
  clear hbox
  have HMW:=Lib.hid hmw;have HM:=Lib.hid hmap;have RR:=Lib.hid hR
  clear hR hmw hmap x6
  have z6:=cell_at EX.out 6
  simp only [List.getElem?_toArray,List.getElem?_cons_zero,List.getElem?_cons_succ] at z6
  by_cases hlt:done.length<src.length
  ·have hjI:(done.length:Int)<(src.length:Int):=by omega
   have hj0:(0:Int)<=(done.length:Int):=by omega
   obtain ⟨g,hg,hMI⟩:=RR.out.mid bearsXT.size hlt
   subst hg
   have hla:done.length<args.length:=by have:=HLN.out;omega
   have hsx:src[done.length].1=args[done.length]:=by
    have e:=congrArg (fun l=>l[done.length]?) HSM.out
    simp only [List.getElem?_map,List.getElem?_eq_getElem hlt,List.getElem?_eq_getElem hla,Option.map_some,Option.some.injEq] at e
    exact e
   have hbx:=HSB.out _ (List.getElem_mem hlt)
   have hdj:=exDs_mem args done.length hla
   have hmj:=exMs_mem args done.length hla
   have HY:Hid (args[done.length]?=some args[done.length]):=Hxq (List.getElem?_eq_getElem hla)
   rw [<-hsx] at hdj hmj HY
   generalize src[done.length]=z at *
   obtain ⟨y,u1⟩:=z
   dsimp only at hdj hmj HY hsx
   have hE1:EB (fun k=>k<pa) wr y u1:=(EB.mono (F':=fun k=>k<pa) hbx (fun k _ hk=>by omega)).keep MW.out (by simp)
   obtain ⟨a3,c3,rfl⟩:=hE1.lit
   have r0:=hMI.cell bearsXT.size 0 (.int .i64 y.k) rfl
   have r1:=hMI.cell bearsXT.size 1 (.string y.v) rfl
   have r2:=hMI.cell bearsXT.size 2 (.int .i64 y.x.k) rfl
   have r3:=hMI.cell bearsXT.size 3 (.int .i64 y.x.n) rfl
   have r4:=hMI.cell bearsXT.size 4 (.string (Lx.ofS y.x.s)) rfl
   have r5:=hMI.cell bearsXT.size 5 (.int .i64 y.op) rfl
   have r6:=hMI.cell bearsXT.size 6 (.slice a3 y.args.length c3) rfl
   rw [Nat.add_zero] at r0
   have HE1:=Lib.hid hE1;have HMI:=Lib.hid hMI
   clear hE1 hMI hbx hsx
   have HC:Hid (∀ w',Mod [] wr w'->Calls Tryz.prog 58 #[.agg (exV y (.slice a3 y.args.length c3))] w' (CpXT y w')):=Hxq (fun w' hm=>HS.out y (by omega) (by omega) _ _ _ (HE1.out.keep hm (by simp)))
   have hgl:=HMI.out.lt
   have hgn:=HMI.out.new
   clear hdj hmj
   unfold exV at HC
   go_wp2_with fail
   go_region_law (first
    | (go_simp;refine (HC.out wr.drew ((Mod.refl [] wr).drew)).mono ?_;rintro e3 w3 ⟨u4,rfl,hb4,m4⟩;obtain ⟨a4,c4,rfl⟩:=hb4.lit;have m04:=((Mod.refl [] wr).drew).trans m4 (by simp);have X4:=Hxq (m04.at EX.out (by simp));have q4:w3.cell? ⟨pa,6,none⟩=some (.slice (some ⟨g,0,none⟩) src.length c2):=cell_at X4.out 6;have G4:=Hxq (HMI.out.keep bearsXT m04 (by simp));have fG:∀ j,w3.frozen? ⟨g,j,none⟩=false:=fun j=>G4.out.frozen j;have s0:=G4.out.cell bearsXT.size 0 (.int .i64 y.k) rfl;have s1:=G4.out.cell bearsXT.size 1 (.string y.v) rfl;have s2:=G4.out.cell bearsXT.size 2 (.int .i64 y.x.k) rfl;have s3:=G4.out.cell bearsXT.size 3 (.int .i64 y.x.n) rfl;have s4:=G4.out.cell bearsXT.size 4 (.string (Lx.ofS y.x.s)) rfl;have s5:=G4.out.cell bearsXT.size 5 (.int .i64 y.op) rfl;have s6:=G4.out.cell bearsXT.size 6 (.slice a3 y.args.length c3) rfl;rw [Nat.add_zero] at s0;have B4:=Lib.hid hb4;have M4:=Lib.hid m04;unfold exV;clear hb4 m4 m04)
    )
   all_goals (
    have hgn2:pa+2<=g:=by have:=ZA.out;omega
    have hp4:BXT (fun k=>w0.heap.size<=k/\k≠g) w3 (y,.slice a4 y.args.length c4):=ET.mono B4.out (fun k (hk:wr.heap.size<=k) _=>⟨by omega,by omega⟩)
    have hms:=setCs_mod g (exV y (.slice a4 y.args.length c4)).toList (done.length * 7) w3
    have G6:=Hxq (MI.fin bearsXT (y,.slice a4 y.args.length c4) (G4.out.sets bearsXT 0 (exV y (.slice a4 y.args.length c4)).toList (by simp [exV])) hlt (ET.keep hp4 hms (by simp)))
    have X6:=Hxq (hms.at X4.out (by simp;omega))
    have M6:Hid (Mod [pa] w0 (setCs w3 g (done.length * 7) (exV y (.slice a4 y.args.length c4)).toList)):=Hxq ((HMW.out.trans M4.out (by simp)).trans hms (fun s hs=>.inr (by rw [Msq] at hs;omega)))
    clear q4 X4 G4 fG s0 s1 s2 s3 s4 s5 s6 B4 M4 hms hp4 HMI HC z6 r0 r1 r2 r3 r4 r5 r6
    generalize hw8:setCs w3 g (done.length * 7) (exV y (.slice a4 y.args.length c4)).toList=w8 at *
    have hw9:(((((((w3.setCell { block:=g,off:=done.length * 7 } (Value.int IntKind.i64 y.k)).setCell { block:=g,off:=done.length * 7+1 } (Value.string y.v)).setCell { block:=g,off:=done.length * 7+2 } (Value.int IntKind.i64 y.x.k)).setCell { block:=g,off:=done.length * 7+3 } (Value.int IntKind.i64 y.x.n)).setCell { block:=g,off:=done.length * 7+4 } (Value.string (Lx.ofS y.x.s))).setCell { block:=g,off:=done.length * 7+5 } (Value.int IntKind.i64 y.op)).setCell { block:=g,off:=done.length * 7+6 } (Value.slice a4 y.args.length c4))=w8:=hw8
    rw [hw9]
    clear hw9 hw8
    go_wp2_with fail
    go_roundw
    case rel =>
     refine ⟨done++[(y,.slice a4 y.args.length c4)],by rw [List.length_append];go_num,?_,G6.out,X6.out,M6.out⟩
     rw [List.map_append,HM.out,show (done++[(y,Value.slice a4 y.args.length c4)]).length=done.length+1 by simp,List.take_add_one,HY.out];rfl
    case measure=>simp [intOf];omega)
  ·obtain hae:done.length=src.length:=by have:=RR.out.le;omega
   have hjI:¬ (done.length:Int)<(src.length:Int):=by omega
   have hargs:args=done.map (·.1):=by rw [HM.out,hae,HLN.out,List.take_length]
   have OW:=Hxq (RR.out.all hae)
   have b0:=cell_at EX.out 0;have b1:=cell_at EX.out 1;have b2:=cell_at EX.out 2;have b3:=cell_at EX.out 3;have b4:=cell_at EX.out 4;have b5:=cell_at EX.out 5;have y0:=cell_at ERW.out 0;have y1:=cell_at ERW.out 1;have y2:=cell_at ERW.out 2;have y3:=cell_at ERW.out 3;have y4:=cell_at ERW.out 4;have y5:=cell_at ERW.out 5;have y6:=cell_at ERW.out 6
   simp only [List.getElem?_toArray,List.getElem?_cons_zero,List.getElem?_cons_succ] at b0 b1 b2 b3 b4 b5 y0 y1 y2 y3 y4 y5 y6
   have fA:∀ j,wr.frozen? ⟨pa+1,j,none⟩=false:=fun j=>free_at ERW.out j
   have HAR:=Lib.hid hargs
   have HAE:=Lib.hid hae
   clear hae hargs
   go_wp2_with fail
   have mR:=setCs_mod (pa+1) [.int .i64 k,.string v,.int .i64 xk,.int .i64 xn,.string xB,.int .i64 op,.slice a2 src.length c2] 0 wr
   have hsrc:=HAE.out
   have hza:=ZA.out
   have hn:=RR.out.new
   rw [<-hsrc] at hn mR
   refine bodyPost_ret (results_cell_row rfl _ _ _ _ _ _ _ rfl (setCs_row (vs:=[.int .i64 k,.string v,.int .i64 xk,.int .i64 xn,.string xB,.int .i64 op,.slice a2 src.length c2]) ERW.out rfl) Tryz.underlying38 rfl (by kernel_rfl)) rfl ⟨.slice a2 src.length c2,?_,?_,?_⟩
   ·rw [<-hxB];rfl
   ·rw [HAR.out,<-hsrc]
    refine ET.of_row done (mR.owns OW.out (fun k hk hs=>by rw [Msq] at hs;have:=hn k hk;omega)) (fun k hk=>by have:=hn k hk;omega) (fun p hp=>?_)
    exact bearsXT.mono (bearsXT.keep (RR.out.sub p hp) mR (fun s hs hh=>by rw [Msq] at hs;have:=hh.1;omega)) (fun k hk _=>by have:=hk.1;omega)
   ·rw [<-hsrc]
    exact (M0.out.trans (S:=[]) (T:=[pa]) HMW.out (fun t ht=>.inr (by rw [Msq] at ht;omega))).trans mR (fun t ht=>.inr (by rw [Msq] at ht;omega))
theorem pxct_all:∀ d,PXCT d
 | 0=>fun e he _=>by cases e;simp [exD] at he
 | d+1=>pxct_of d (pxct_all d)
theorem pexpr_T {F:Nat->Prop} (e:Pr.Ex) (hM:exM e<=134217728) (u:Value) (w:World) (h:EB F w e u) :
  Calls Tryz.prog 58 #[.agg (exV e u)] w (CpXT e w):=pxct_all _ e (Nat.le_refl _) hM F u w h
section
variable {P:Program} {ops:Array Oper} {Q:Exit->Act->World->Prop} {md:Region.Mode} {S:World->Prop} {T:List Nat}
/-- whatever order is picked; S holds behind each operation that is not of T -/
def TlAny (P:Program) (md:Region.Mode) (ops:Array Oper) (Q:Exit->Act->World->Prop) (S:World->Prop) (T:List Nat):Nat->Array Bool->Act->World->Prop
 | 0,done,a,w=>Region.ready md ops done=[]/\Q .normal a w
 | f+1,done,a,w=>(Region.ready md ops done=[]->Q .normal a w) /\
   ∀ i,i∈Region.ready md ops done->wpOp P ops Q i (fun b v=>(T.contains i=false->S v)/\TlAny P md ops Q S T f (done.setIfInBounds i true) b v) a w
theorem TlAny.any:∀ (f:Nat) (done:Array Bool) (a:Act) (w:World),TlAny P md ops Q S T f done a w->wpAny P md ops Q f done a w
 | 0,_,_,_,h=>h
 | f+1,_,_,_,h=>⟨h.1,fun i hi=>wpOp_mono (fun b v hb=>TlAny.any f _ b v hb.2) (h.2 i hi)⟩
/-- each operation of T that has not come up waits for number i -/
def tlWaits (md:Region.Mode) (ops:Array Oper) (T:List Nat) (done:Array Bool) (i:Nat):Bool :=
 T.all fun j=>done.getD j true || match ops[j]? with
  | some o=>o.after.any (fun e=>Region.binds md e && e.on == i)
  | none=>true
theorem TlAny.first {i:Nat} {oi:Oper} {v:Value} (hi:ops[i]?=some oi) (hs:Region.noSelect ops=true) (hit:T.contains i=false) (hQ:∀ c a w,Q (.panic c) (a.put oi.dst v) w->Q (.panic c) a w) :
  ∀ (f:Nat) (done:Array Bool) (a:Act) (w:World),
   (∀ j oj,ops[j]?=some oj->j≠i->done.getD j true=false->(∀ e∈oj.after,Region.binds md e=true->e.on≠i)->oi.apart ops oj=true/\T.contains j=false) ->
   i∈Region.ready md ops done->YieldsIf P ops S oi v a->S w->TlAny P md ops Q S T f (done.setIfInBounds i true) (a.put oi.dst v) w->TlAny P md ops Q S T (f+1) done a w:=by
 have hsel:=Region.noSelect_spec hs
 intro f
 induction f with
 | zero =>
  intro done a w _ hr hy hS H
  refine ⟨fun h0=>(by rw [h0] at hr;cases hr),fun j hj=>?_⟩
  rcases Nat.decEq j i with hne | rfl
  ·exact absurd (ready_mono hj hne) (by rw [H.1];exact List.not_mem_nil)
  ·exact hy.wpOp hi hS ⟨fun _=>hS,H⟩
 | succ f ih =>
  intro done a w hfree hr hy hS H
  refine ⟨fun h0=>(by rw [h0] at hr;cases hr),fun j hj=>?_⟩
  rcases Nat.decEq j i with hne | rfl
  ·obtain ⟨hjun,oj,hoj,hall⟩:=mem_ready.1 hj
   have hnot:∀ e∈oj.after,Region.binds md e=true->e.on≠i:=fun e he hb heq=>by
    have h1:=hall e he hb
    have h0:=(mem_ready.1 hr).1
    rw [heq] at h1
    rcases Nat.lt_or_ge i done.size with hlt | hge
    ·simp [hlt] at h0 h1;rw [h0] at h1;cases h1
    ·simp [Array.getElem?_eq_none hge] at h1
   obtain ⟨hap,hjt⟩:=hfree j oj hoj hne hjun hnot
   have h2:=wpOp_putIf hoj hap (fun cs b=>hsel i oi cs b hi) (fun cs b=>hsel j oj cs b hoj) hQ hy (H.2 j (ready_mono hj hne))
   refine wpOp_mono (fun b u h3=>⟨fun _=>h3.2.1 hjt,ih (done.setIfInBounds j true) b u ?_ (ready_mono hr (Ne.symm hne)) h3.1 (h3.2.1 hjt) ?_⟩) h2
   ·intro k ok hk hki hun hno
    refine hfree k ok hk hki ?_ hno
    rcases Nat.decEq j k with hjk | rfl
    ·rw [getD_set_ne true hjk] at hun;exact hun
    ·exact hjun
   ·rw [Array.setIfInBounds_comm _ _ hne]
    exact h3.2.2
  ·exact hy.wpOp hi hS ⟨fun _=>hS,H⟩
theorem TlAny.take (i:Nat) {oi:Oper} {v:Value} {f:Nat} {done:Array Bool} {a:Act} {w:World} (hS:S w) (hy:YieldsIf P ops S oi v a) (hQ:∀ c a w,Q (.panic c) (a.put oi.dst v) w->Q (.panic c) a w)
  (h:TlAny P md ops Q S T f (done.setIfInBounds i true) (a.put oi.dst v) w)
  (hi:ops[i]?=some oi:=by (simp only [List.getElem?_toArray,List.getElem?_cons_succ,List.getElem?_cons_zero]) <;> rfl)
  (hs:Region.noSelect ops=true:=by kernel_rfl) (hf:Region.free md ops done i=true:=by kernel_rfl) (hr:(Region.ready md ops done).contains i=true:=by kernel_rfl)
  (ht:tlWaits md ops T done i=true:=by kernel_rfl) (hit:T.contains i=false:=by kernel_rfl):TlAny P md ops Q S T (f+1) done a w:=by
 refine TlAny.first hi hs hit hQ f done a w (fun j oj hj hne hun hno=>⟨Region.free_spec hi hf j oj hj hne hun hno,?_⟩) (by simpa using hr) hy hS h
 cases hc:T.contains j with
 | false=>rfl
 | true =>
  have hm:=List.all_eq_true.1 ht j (by simpa using hc)
  simp only [hun,hj,Bool.false_or,Array.any_eq_true] at hm
  obtain ⟨k,hk,hb⟩:=hm
  simp only [Bool.and_eq_true,beq_iff_eq] at hb
  exact absurd hb.2 (hno _ (Array.getElem_mem hk) hb.1)
theorem TlAny.firstY {i:Nat} {oi:Oper} {v:Value} (hi:ops[i]?=some oi) (hs:Region.noSelect ops=true) (hit:T.contains i=true) (hQ:∀ c a w,Q (.panic c) (a.put oi.dst v) w->Q (.panic c) a w) :
  ∀ (f:Nat) (done:Array Bool) (a:Act) (w:World),
   (∀ j oj,ops[j]?=some oj->j≠i->done.getD j true=false->(∀ e∈oj.after,Region.binds md e=true->e.on≠i)->oi.apart ops oj=true) ->
   i∈Region.ready md ops done->YieldsIf P ops (fun _=>True) oi v a->TlAny P md ops Q S T f (done.setIfInBounds i true) (a.put oi.dst v) w->TlAny P md ops Q S T (f+1) done a w:=by
 have hsel:=Region.noSelect_spec hs
 have hno':∀ w:World,T.contains i=false->S w:=fun w h=>by rw [hit] at h;cases h
 intro f
 induction f with
 | zero =>
  intro done a w _ hr hy H
  refine ⟨fun h0=>(by rw [h0] at hr;cases hr),fun j hj=>?_⟩
  rcases Nat.decEq j i with hne | rfl
  ·exact absurd (ready_mono hj hne) (by rw [H.1];exact List.not_mem_nil)
  ·exact hy.wpOp hi trivial ⟨hno' w,H⟩
 | succ f ih =>
  intro done a w hfree hr hy H
  refine ⟨fun h0=>(by rw [h0] at hr;cases hr),fun j hj=>?_⟩
  rcases Nat.decEq j i with hne | rfl
  ·obtain ⟨hjun,oj,hoj,hall⟩:=mem_ready.1 hj
   have hnot:∀ e∈oj.after,Region.binds md e=true->e.on≠i:=fun e he hb heq=>by
    have h1:=hall e he hb
    have h0:=(mem_ready.1 hr).1
    rw [heq] at h1
    rcases Nat.lt_or_ge i done.size with hlt | hge
    ·simp [hlt] at h0 h1;rw [h0] at h1;cases h1
    ·simp [Array.getElem?_eq_none hge] at h1
   have h2:=wpOp_putIf hoj (hfree j oj hoj hne hjun hnot) (fun cs b=>hsel i oi cs b hi) (fun cs b=>hsel j oj cs b hoj) hQ hy (H.2 j (ready_mono hj hne))
   refine wpOp_mono (fun b u h3=>⟨h3.2.1,ih (done.setIfInBounds j true) b u ?_ (ready_mono hr (Ne.symm hne)) h3.1 ?_⟩) h2
   ·intro k ok hk hki hun hno
    refine hfree k ok hk hki ?_ hno
    rcases Nat.decEq j k with hjk | rfl
    ·rw [getD_set_ne true hjk] at hun;exact hun
    ·exact hjun
   ·rw [Array.setIfInBounds_comm _ _ hne]
    exact h3.2.2
  ·exact hy.wpOp hi trivial ⟨hno' w,H⟩
/-- an operation of T that yields in whatever world -/
theorem TlAny.pure (i:Nat) {oi:Oper} {v:Value} {f:Nat} {done:Array Bool} {a:Act} {w:World} (hy:YieldsIf P ops (fun _=>True) oi v a) (hQ:∀ c a w,Q (.panic c) (a.put oi.dst v) w->Q (.panic c) a w)
  (h:TlAny P md ops Q S T f (done.setIfInBounds i true) (a.put oi.dst v) w)
  (hi:ops[i]?=some oi:=by (simp only [List.getElem?_toArray,List.getElem?_cons_succ,List.getElem?_cons_zero]) <;> rfl)
  (hs:Region.noSelect ops=true:=by kernel_rfl) (hf:Region.free md ops done i=true:=by kernel_rfl) (hr:(Region.ready md ops done).contains i=true:=by kernel_rfl)
  (hit:T.contains i=true:=by kernel_rfl):TlAny P md ops Q S T (f+1) done a w :=
 TlAny.firstY hi hs hit hQ f done a w (Region.free_spec hi hf) (by simpa using hr) hy h
/-- one operation comes up next -/
theorem TlAny.one (i:Nat) {o:Oper} {f:Nat} {done:Array Bool} {a:Act} {w:World}
  (h:∀ K:Act->World->Prop,Shut (∀ a w,(T.contains i=false->S w)->TlAny P md ops Q S T f (done.setIfInBounds i true) a w->K a w)->if Region.wanted o (yielded ops a.tmps)=true then Oper.wp P o a w K Q else K (a.put o.dst undef) w)
  (hi:ops[i]?=some o:=by (simp only [List.getElem?_toArray,List.getElem?_cons_succ,List.getElem?_cons_zero]) <;> rfl)
  (hr:Region.ready md ops done=[i]:=by kernel_rfl):TlAny P md ops Q S T (f+1) done a w:=by
 refine ⟨fun h0=>absurd (hr ▸ h0) (by simp),fun j hj=>?_⟩
 rw [hr,Msq] at hj
 subst hj
 exact wpOp_step hi (fun K hK=>h K (fun a w h1 h2=>hK a w ⟨h1,h2⟩))
/-- one of two operations comes up next -/
theorem TlAny.two (i k:Nat) {o o2:Oper} {f:Nat} {done:Array Bool} {a:Act} {w:World}
  (h:∀ K:Act->World->Prop,Shut (∀ a w,(T.contains i=false->S w)->TlAny P md ops Q S T f (done.setIfInBounds i true) a w->K a w)->if Region.wanted o (yielded ops a.tmps)=true then Oper.wp P o a w K Q else K (a.put o.dst undef) w)
  (h2:∀ K:Act->World->Prop,Shut (∀ a w,(T.contains k=false->S w)->TlAny P md ops Q S T f (done.setIfInBounds k true) a w->K a w)->if Region.wanted o2 (yielded ops a.tmps)=true then Oper.wp P o2 a w K Q else K (a.put o2.dst undef) w)
  (hi:ops[i]?=some o:=by (simp only [List.getElem?_toArray,List.getElem?_cons_succ,List.getElem?_cons_zero]) <;> rfl)
  (hk:ops[k]?=some o2:=by (simp only [List.getElem?_toArray,List.getElem?_cons_succ,List.getElem?_cons_zero]) <;> rfl)
  (hr:Region.ready md ops done=[i,k]:=by kernel_rfl):TlAny P md ops Q S T (f+1) done a w:=by
 refine ⟨fun h0=>absurd (hr ▸ h0) (by simp),fun j hj=>?_⟩
 rw [hr,List.mem_cons,Msq] at hj
 rcases hj with rfl | rfl
 ·exact wpOp_step hi (fun K hK=>h K (fun a w h1 h2=>hK a w ⟨h1,h2⟩))
 ·exact wpOp_step hk (fun K hK=>h2 K (fun a w h1 h2=>hK a w ⟨h1,h2⟩))
theorem TlAny.fin {f:Nat} {done:Array Bool} {a:Act} {w:World} (h:Q .normal a w) (hr:Region.ready md ops done=[]:=by kernel_rfl):TlAny P md ops Q S T f done a w:=by
 cases f with
 | zero=>exact ⟨hr,h⟩
 | succ f=>exact ⟨fun _=>h,by rw [hr];simp⟩
/-- the beginning -/
theorem tl_region (S:World->Prop) (T:List Nat) {id:Nat} {a:Act} {w:World} (hm:P.follows .mixedOrders=true) (h:TlAny P .any ops Q S T ops.size (Array.replicate ops.size false) a w.drew):(Code.region id ops true).wp P Q a w :=
 wp_region_any hm (TlAny.any _ _ _ _ h)
end
end Go.Proofs.YtohnmnfhmbmoaaaGreatDoor
