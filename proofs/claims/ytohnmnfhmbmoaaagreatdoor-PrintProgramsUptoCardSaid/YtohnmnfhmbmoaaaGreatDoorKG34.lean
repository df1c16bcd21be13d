/- THE TEXTS MERGED: PpLaw PpOpen PfPProg. -/
import Derived.Test.YtohnmnfhmbmoaaaGreatDoorKG33
import Derived.LaidMore
import Derived.Stop.LaidErr
import Derived.Stop.Joined
import Derived.Test.YtohnmnfhmbmoaaaGreatDoorCards
import Derived.Test.YtohnmnfhmbmoaaaGreatDoorTie
import Derived.ShutString
import Derived.SizedLaws
import Derived.JoinedCond
import Derived.Deep.CondSized
import Derived.Deep.DeepHandedRow
import Derived.Deep.DeepWitnessRowRef
import Derived.SevenTiedAt
namespace Go.Proofs.YtohnmnfhmbmoaaaGreatDoor
open Go.RowKit
set_option linter.unusedVariables false
set_option linter.unusedSimpArgs false
set_option maxRecDepth 100000
def tvs (o:Option (List Nat)):ByteArray:=match o with | some t=>Lx.ofS t | none=>⟨#[]⟩
def tvk (o:Option (List Nat)):Int:=match o with | some _=>0 | none=>50
theorem tv_eq (o:Option (List Nat)):tv o=.tuple #[.string (tvs o),.int .i64 (tvk o)]:=by cases o <;> rfl
/-- what is told -/
def Tl (s:ByteArray) (k:Int) (w:World) (e:Ending) (w':World):Prop:=e=.returned (.tuple #[.string s,.int .i64 k])/\Mod [] w w'
theorem POT.spg {w0 W:World} {rels:List RelU} {rus:List RulU} {va ua:Option Addr} {vc uc:Nat} (h:POT w0 W rels rus va vc ua uc) (hM:PgM ⟨rels.map (·.1),rus.map (·.1)⟩) :
  SPg (fun k=>w0.heap.size<=k/\k<W.heap.size) W va rels.length ua rus.length:=by
 have hlt:∀ k,(w0.heap.size<=k/\k<W.heap.size)->k<W.heap.size:=fun k h=>h.2
 refine ⟨hlt,by simpa using hM.rels,by simpa using hM.rules,fun i hi=>?_,fun i hi=>?_⟩
 ·have hr:=(RowT.of_owns (base:=0) csR_size h.rowR h.newR).mono (F':=fun k=>w0.heap.size<=k/\k<W.heap.size) (fun k a b=>⟨a,b⟩)
  have hp:=(RelT.mono (h.subR _ (List.getElem_mem hi)) (F':=fun k=>w0.heap.size<=k/\k<W.heap.size) (fun k a b=>⟨a.1,b⟩)).spoil (hM.types _ (List.mem_map_of_mem (List.getElem_mem hi)))
  generalize hu:Value.slice va rels.length vc=u at hr
  cases hr with
  | nil=>simp at hi
  | row hF hT h1 hc =>
   simp only [Value.slice.injEq] at hu
   exact ⟨_,hu.1,hF,hT,rels[i],h1 i hi,hp⟩
 ·have hr:=(RowT.of_owns (base:=0) csU_size h.rowU h.newU).mono (F':=fun k=>w0.heap.size<=k/\k<W.heap.size) (fun k a b=>⟨a,b⟩)
  have hp:=RulT.mono (h.subU _ (List.getElem_mem hi)) (F':=fun k=>w0.heap.size<=k/\k<W.heap.size) (fun k a b=>⟨a.1,b⟩)
  have hm:=List.mem_map_of_mem (f:=(·.1)) (List.getElem_mem hi)
  generalize hu:Value.slice ua rus.length uc=u at hr
  cases hr with
  | nil=>simp at hi
  | row hF hT h1 hc =>
   simp only [Value.slice.injEq] at hu
   exact ⟨_,hu.1,hF,hT,rus[i],h1 i hi,hp.1.spoil hlt (hM.terms _ hm),hp.2.spoil hlt (hM.body _ hm) (hM.deep _ hm)⟩
theorem POT.prog2 {w0 W:World} {rels:List RelU} {rus:List RulU} {va ua:Option Addr} {vc uc:Nat} {p:Pr.Prog} (h:POT w0 W rels rus va vc ua uc) (e:(⟨rels.map (·.1),rus.map (·.1)⟩:Pr.Prog)=p) :
  PgB (fun k=>w0.heap.size<=k/\k<W.heap.size) W p (.agg #[.slice va rels.length vc,.slice ua rus.length uc]):=by
 rw [<-e]
 exact PgB.mono h.prog (fun k a b=>⟨a,b⟩)
/-- the blocks of a while -/
def Rg (m n:Nat):List Nat:=List.range' m (n - m)
theorem Rg.mem {m n k:Nat}:k∈Rg m n ↔ m<=k/\k<n:=by rw [Rg,List.mem_range'_1];omega
theorem Sp.modR {m n:Nat} {w w1:World} (h:Sp (fun k=>m<=k/\k<n) w w1):Mod (Rg m n) w w1:=h.mod _ (fun k hk _=>Rg.mem.2 hk)
set_option maxHeartbeats 16000000 in
theorem PrintPrograms_any (P:Pr.Prog) (du ru:Value) (hwt:dsWt P.rels+rsWt P.rules<=1048576000) (w:World) (hp:PgB All w P (.agg #[du,ru])) (hv:Rt.PgV P) (hG:GlobV w) :
  Calls Tryz.prog 3 #[.agg #[du,ru]] w fun e w'=>e=.returned (.bool true)/\Mod [] w w':=by
 obtain ⟨a1,c1,b1,d1,hx⟩:=hp.lit
 simp only [Value.agg.injEq,Array.mk.injEq,List.cons.injEq,and_true] at hx
 obtain ⟨rfl,rfl⟩:=hx
 have HMP:=Hxq (PgM.light hwt)
 have HMB:=Hxq (Sy.bareP_M HMP.out)
 generalize hs1:tvs (Pr.pP P)=sP
 generalize hk1:tvk (Pr.pP P)=kP
 have P1:Hid (∀ (F:Nat->Prop) (du ru:Value) (W:World),PgB F W P (.agg #[du,ru])->GlobV W->Calls Tryz.prog 9 #[.agg #[du,ru]] W (Tl sP kP W)):=Hxq (fun F du ru W g1 g3=>by
  obtain ⟨du',ru',hx,hD,hR⟩:=g1.ok hv
  simp only [Value.agg.injEq,Array.mk.injEq,List.cons.injEq,and_true] at hx
  obtain ⟨rfl,rfl⟩:=hx
  exact (Program_any P _ _ W hD hR g3 (by omega)).mono fun e' w' h=>⟨by rw [h.1,tv_eq,hs1,hk1],h.2.1⟩)
 have Q1:Hid (∀ (F:Nat->Prop) (du ru:Value) (W:World),PgB F W P (.agg #[du,ru])->GlobV W->Calls Tryz.prog 12 #[.agg #[du,ru]] W (Tl sP kP W)):=Hxq (fun F du ru W g1 g3=>by
  obtain ⟨du',ru',hx,hD,hR⟩:=g1.ok hv
  simp only [Value.agg.injEq,Array.mk.injEq,List.cons.injEq,and_true] at hx
  obtain ⟨rfl,rfl⟩:=hx
  exact (rProgram_any (rlits_all 16 (Nat.le_refl _)) P _ _ W hD hR g3 (by omega)).mono fun e' w' h=>⟨by rw [h.1,tv_eq,hs1,hk1],h.2⟩)
 have x0:=heap_alloc_new w (Obj.cells #[.slice a1 P.rels.length c1,.slice b1 P.rules.length d1] 25)
 have m0:=(Mod.refl [] w).alloc (Obj.cells #[.slice a1 P.rels.length c1,.slice b1 P.rules.length d1] 25)
 have H0:=Lib.hid hp;have HG:=Lib.hid hG
 clear hs1 hk1 hp hv hG
 go_enter Tryz.func3,Tryz.ntmps3
 go_upto_region 1 with fail
 generalize w.alloc (Obj.cells _ 25)=w1 at *
 have M0:=Lib.hid m0
 have HP:=Hxq (H0.out.keep m0 (by simp));have HV:=Hxq (HG.out.past m0 (by simp));have ER:=Lib.hid x0
 have M_w1:Hid (Mod [] w1 w1):=Hxq (Mod.refl [] w1)
 clear x0 m0 H0 HG
 generalize w.heap.size=pb at *
 go_wp2_with fail
 refine (awake_any w1 HV.out).mono ?_
 rintro e2 w2 ⟨rfl,m⟩
 have M_w2:Hid (Mod [] w1 w2):=Hxq (M_w1.out.trans m (by simp))
 have z_w2:w1.heap.size<=w2.heap.size:=m.size
 clear m 
 have x0:=cell_at (M_w2.out.at ER.out (by simp)) 0;have x1:=cell_at (M_w2.out.at ER.out (by simp)) 1
 simp only [List.getElem?_toArray,List.getElem?_cons_zero,List.getElem?_cons_succ] at x0 x1
 go_wp2_with fail
 refine (copyProg_T P HMP.out _ w2 (HP.out.keep M_w2.out (by simp))).mono ?_
 rintro e3 w3 ⟨qrels,qrus,qva,qvc,qua,quc,rfl,qe,qo⟩
 have m:=qo.mod
 have SQ:=Hxq (qo.spg (qe ▸ HMP.out))
 have QB:=Hxq (qo.prog2 qe)
 clear qe qo
 have M_w3:Hid (Mod [] w1 w3):=Hxq (M_w2.out.trans m (by simp))
 have z_w3:w2.heap.size<=w3.heap.size:=m.size
 clear m x0 x1
 go_upto_region 3 with fail
 have xB:=heap_alloc_new w3 (Obj.cells #[.slice qva qrels.length qvc,.slice qua qrus.length quc] 25)
 have m:=(Mod.refl [] w3).alloc (Obj.cells #[.slice qva qrels.length qvc,.slice qua qrus.length quc] 25)
 generalize w3.alloc (Obj.cells _ 25)=w4 at *
 have M_w4:Hid (Mod [] w1 w4):=Hxq (M_w3.out.trans m (by simp))
 have z_w4:w3.heap.size<=w4.heap.size:=m.size
 have EQ:=Lib.hid xB
 have MS4_w4:Hid (Mod [] w4 w4):=Hxq (Mod.refl [] _)
 have MEQ:=Lib.hid m
 clear m xB
 generalize hpq:w3.heap.size=pq at *
 have Q4:=Hxq (QB.out.keep MEQ.out (by simp))
 have x0:=cell_at (MS4_w4.out.at EQ.out (by simp)) 0;have x1:=cell_at (MS4_w4.out.at EQ.out (by simp)) 1
 simp only [List.getElem?_toArray,List.getElem?_cons_zero,List.getElem?_cons_succ] at x0 x1
 go_wp2_with fail
 refine (P1.out _ _ _ w4 Q4.out (HV.out.past M_w4.out (by simp))).mono ?_
 rintro e5 w5 ⟨rfl,m⟩
 have M_w5:Hid (Mod [] w1 w5):=Hxq (M_w4.out.trans m (by simp))
 have z_w5:w4.heap.size<=w5.heap.size:=m.size
 have MS4_w5:=Hxq (MS4_w4.out.trans m (by simp))
 clear m x0 x1
 have x0:=cell_at (MS4_w5.out.at EQ.out (by simp)) 0;have x1:=cell_at (MS4_w5.out.at EQ.out (by simp)) 1
 simp only [List.getElem?_toArray,List.getElem?_cons_zero,List.getElem?_cons_succ] at x0 x1
 go_wp2_with fail
 refine (pbare_T P HMP.out _ w5 (Q4.out.keep MS4_w5.out (by simp))).mono ?_
 rintro e6 w6 ⟨arels,arus,ava,avc,aua,auc,rfl,ae,ao⟩
 have m:=ao.mod
 have SA:=Hxq (ao.spg (ae ▸ HMB.out))
 have AB:=Hxq (ao.prog2 ae)
 clear ae ao
 have M_w6:Hid (Mod [] w1 w6):=Hxq (M_w5.out.trans m (by simp))
 have z_w6:w5.heap.size<=w6.heap.size:=m.size
 have MS4_w6:=Hxq (MS4_w5.out.trans m (by simp))
 clear m x0 x1
 go_upto_region 5 with fail
 have xB:=heap_alloc_new w6 (Obj.cells #[.slice ava arels.length avc,.slice aua arus.length auc] 25)
 have m:=(Mod.refl [] w6).alloc (Obj.cells #[.slice ava arels.length avc,.slice aua arus.length auc] 25)
 generalize w6.alloc (Obj.cells _ 25)=w7 at *
 have M_w7:Hid (Mod [] w1 w7):=Hxq (M_w6.out.trans m (by simp))
 have z_w7:w6.heap.size<=w7.heap.size:=m.size
 have MS4_w7:=Hxq (MS4_w6.out.trans m (by simp))
 have EA:=Lib.hid xB
 have MS7_w7:Hid (Mod [] w7 w7):=Hxq (Mod.refl [] _)
 have MEA:=Lib.hid m
 clear m xB
 generalize hpa:w6.heap.size=pa at *
 have A7:=Hxq (AB.out.keep MEA.out (by simp))
 have x0:=cell_at (MS4_w7.out.at EQ.out (by simp)) 0;have x1:=cell_at (MS4_w7.out.at EQ.out (by simp)) 1
 simp only [List.getElem?_toArray,List.getElem?_cons_zero,List.getElem?_cons_succ] at x0 x1
 go_wp2_with fail
 refine (pbare_T P HMP.out _ w7 (Q4.out.keep MS4_w7.out (by simp))).mono ?_
 rintro e8 w8 ⟨brels,brus,bva,bvc,bua,buc,rfl,be,bo⟩
 have m:=bo.mod
 have BB8:=Hxq (bo.prog2 be)
 clear be bo
 have M_w8:Hid (Mod [] w1 w8):=Hxq (M_w7.out.trans m (by simp))
 have z_w8:w7.heap.size<=w8.heap.size:=m.size
 have MS4_w8:=Hxq (MS4_w7.out.trans m (by simp))
 have MS7_w8:=Hxq (MS7_w7.out.trans m (by simp))
 clear m x0 x1
 go_upto_region 6 with fail
 have xB:=heap_alloc_new w8 (Obj.cells #[.slice bva brels.length bvc,.slice bua brus.length buc] 25)
 have m:=(Mod.refl [] w8).alloc (Obj.cells #[.slice bva brels.length bvc,.slice bua brus.length buc] 25)
 generalize w8.alloc (Obj.cells _ 25)=w9 at *
 have M_w9:Hid (Mod [] w1 w9):=Hxq (M_w8.out.trans m (by simp))
 have z_w9:w8.heap.size<=w9.heap.size:=m.size
 have MS4_w9:=Hxq (MS4_w8.out.trans m (by simp))
 have MS7_w9:=Hxq (MS7_w8.out.trans m (by simp))
 have EB:=Lib.hid xB
 have MS9_w9:Hid (Mod [] w9 w9):=Hxq (Mod.refl [] _)
 have MEB:=Lib.hid m
 clear m xB
 generalize hpb2:w8.heap.size=pb2 at *
 have B9:=Hxq (BB8.out.keep MEB.out (by simp))
 have x0:=cell_at (MS4_w9.out.at EQ.out (by simp)) 0;have x1:=cell_at (MS4_w9.out.at EQ.out (by simp)) 1
 simp only [List.getElem?_toArray,List.getElem?_cons_zero,List.getElem?_cons_succ] at x0 x1
 have y0:=cell_at (M_w9.out.at ER.out (by simp)) 0;have y1:=cell_at (M_w9.out.at ER.out (by simp)) 1
 simp only [List.getElem?_toArray,List.getElem?_cons_zero,List.getElem?_cons_succ] at y0 y1
 go_wp2_with fail
 refine (sameProg_any P HMP.out _ _ w9 (Q4.out.keep MS4_w9.out (by simp)) (HP.out.keep M_w9.out (by simp))).mono ?_
 rintro e10 w10 ⟨rfl,m⟩
 have M_w10:Hid (Mod [] w1 w10):=Hxq (M_w9.out.trans m (by simp))
 have z_w10:w9.heap.size<=w10.heap.size:=m.size
 have MS4_w10:=Hxq (MS4_w9.out.trans m (by simp))
 have MS7_w10:=Hxq (MS7_w9.out.trans m (by simp))
 have MS9_w10:=Hxq (MS9_w9.out.trans m (by simp))
 clear m x0 x1 y0 y1
 have y0:=cell_at (M_w10.out.at ER.out (by simp)) 0;have y1:=cell_at (M_w10.out.at ER.out (by simp)) 1
 simp only [List.getElem?_toArray,List.getElem?_cons_zero,List.getElem?_cons_succ] at y0 y1
 go_wp2_with fail
 refine (Q1.out _ _ _ w10 (HP.out.keep M_w10.out (by simp)) (HV.out.past M_w10.out (by simp))).mono ?_
 rintro e11 w11 ⟨rfl,m⟩
 have M_w11:Hid (Mod [] w1 w11):=Hxq (M_w10.out.trans m (by simp))
 have z_w11:w10.heap.size<=w11.heap.size:=m.size
 have MS4_w11:=Hxq (MS4_w10.out.trans m (by simp))
 have MS7_w11:=Hxq (MS7_w10.out.trans m (by simp))
 have MS9_w11:=Hxq (MS9_w10.out.trans m (by simp))
 clear m y0 y1
 have y0:=cell_at (M_w11.out.at ER.out (by simp)) 0;have y1:=cell_at (M_w11.out.at ER.out (by simp)) 1
 simp only [List.getElem?_toArray,List.getElem?_cons_zero,List.getElem?_cons_succ] at y0 y1
 go_wp2_with fail
 refine (rbare_any P HMP.out _ w11 (HP.out.keep M_w11.out (by simp))).mono ?_
 rintro e12 w12 ⟨wa,wc,wb,wd,rfl,hW,m⟩
 have WB:=Hxq (hW.mono (G:=fun k=>w11.heap.size<=k) (fun _ h _=>h))
 clear hW
 have M_w12:Hid (Mod [] w1 w12):=Hxq (M_w11.out.trans m (by simp))
 have z_w12:w11.heap.size<=w12.heap.size:=m.size
 have MS4_w12:=Hxq (MS4_w11.out.trans m (by simp))
 have MS7_w12:=Hxq (MS7_w11.out.trans m (by simp))
 have MS9_w12:=Hxq (MS9_w11.out.trans m (by simp))
 clear m y0 y1
 go_upto_region 9 with fail
 have xB:=heap_alloc_new w12 (Obj.cells #[.slice wa P.rels.length wc,.slice wb P.rules.length wd] 25)
 have m:=(Mod.refl [] w12).alloc (Obj.cells #[.slice wa P.rels.length wc,.slice wb P.rules.length wd] 25)
 generalize w12.alloc (Obj.cells _ 25)=w13 at *
 have M_w13:Hid (Mod [] w1 w13):=Hxq (M_w12.out.trans m (by simp))
 have z_w13:w12.heap.size<=w13.heap.size:=m.size
 have MS4_w13:=Hxq (MS4_w12.out.trans m (by simp))
 have MS7_w13:=Hxq (MS7_w12.out.trans m (by simp))
 have MS9_w13:=Hxq (MS9_w12.out.trans m (by simp))
 have EW:=Lib.hid xB
 have MS13_w13:Hid (Mod [] w13 w13):=Hxq (Mod.refl [] _)
 have MEW:=Lib.hid m
 clear m xB
 generalize hpw:w12.heap.size=pw at *
 have W13:=Hxq (WB.out.keep MEW.out (by simp))
 have x0:=cell_at (MS7_w13.out.at EA.out (by simp)) 0;have x1:=cell_at (MS7_w13.out.at EA.out (by simp)) 1
 simp only [List.getElem?_toArray,List.getElem?_cons_zero,List.getElem?_cons_succ] at x0 x1
 have y0:=cell_at (MS13_w13.out.at EW.out (by simp)) 0;have y1:=cell_at (MS13_w13.out.at EW.out (by simp)) 1
 simp only [List.getElem?_toArray,List.getElem?_cons_zero,List.getElem?_cons_succ] at y0 y1
 go_wp2_with fail
 refine (sameProg_any (Sy.bareP P) HMB.out _ _ w13 (A7.out.keep MS7_w13.out (by simp)) W13.out).mono ?_
 rintro e14 w14 ⟨rfl,m⟩
 have M_w14:Hid (Mod [] w1 w14):=Hxq (M_w13.out.trans m (by simp))
 have z_w14:w13.heap.size<=w14.heap.size:=m.size
 have MS4_w14:=Hxq (MS4_w13.out.trans m (by simp))
 have MS7_w14:=Hxq (MS7_w13.out.trans m (by simp))
 have MS9_w14:=Hxq (MS9_w13.out.trans m (by simp))
 have MS13_w14:=Hxq (MS13_w13.out.trans m (by simp))
 clear m x0 x1 y0 y1
 have x0:=cell_at (MS9_w14.out.at EB.out (by simp)) 0;have x1:=cell_at (MS9_w14.out.at EB.out (by simp)) 1
 simp only [List.getElem?_toArray,List.getElem?_cons_zero,List.getElem?_cons_succ] at x0 x1
 have y0:=cell_at (MS13_w14.out.at EW.out (by simp)) 0;have y1:=cell_at (MS13_w14.out.at EW.out (by simp)) 1
 simp only [List.getElem?_toArray,List.getElem?_cons_zero,List.getElem?_cons_succ] at y0 y1
 go_wp2_with fail
 refine (sameProg_any (Sy.bareP P) HMB.out _ _ w14 (B9.out.keep MS9_w14.out (by simp)) (W13.out.keep MS13_w14.out (by simp))).mono ?_
 rintro e15 w15 ⟨rfl,m⟩
 have M_w15:Hid (Mod [] w1 w15):=Hxq (M_w14.out.trans m (by simp))
 have z_w15:w14.heap.size<=w15.heap.size:=m.size
 have MS4_w15:=Hxq (MS4_w14.out.trans m (by simp))
 have MS7_w15:=Hxq (MS7_w14.out.trans m (by simp))
 have MS9_w15:=Hxq (MS9_w14.out.trans m (by simp))
 have MS13_w15:=Hxq (MS13_w14.out.trans m (by simp))
 clear m x0 x1 y0 y1
 have x0:=cell_at (MS7_w15.out.at EA.out (by simp)) 0;have x1:=cell_at (MS7_w15.out.at EA.out (by simp)) 1
 simp only [List.getElem?_toArray,List.getElem?_cons_zero,List.getElem?_cons_succ] at x0 x1
 have SPA:Hid (Sp (fun k=>w5.heap.size<=k/\k<pa) w6 w15):=Hxq (Sp.of_mod (MEA.out.trans MS7_w15.out (by simp)))
 go_upto_region 11 with fail
 refine (spoil_any _ _ _ _ _ _ (hpa ▸ SA.out) w15 SPA.out).mono ?_
 rintro e16 w16 ⟨rfl,hsp⟩
 have mS:=hsp.modR
 have z_w16:w15.heap.size<=w16.heap.size:=mS.size
 have M_w16:Hid (Mod [] w1 w16):=Hxq (M_w15.out.trans mS (fun s hs=>.inr (by have:=Rg.mem.1 hs;omega)))
 have MS4_w16:=Hxq (MS4_w15.out.trans mS (fun s hs=>.inr (by have:=Rg.mem.1 hs;omega)))
 have EB2:=Hxq (mS.at (MS9_w15.out.at EB.out (by simp)) (fun hs=>by have:=Rg.mem.1 hs;omega))
 have B2:=Hxq ((B9.out.keep MS9_w15.out (by simp)).keep mS (fun s hs h=>by have:=Rg.mem.1 hs;(try dsimp only at h);omega))
 have EW2:=Hxq (mS.at (MS13_w15.out.at EW.out (by simp)) (fun hs=>by have:=Rg.mem.1 hs;omega))
 have W2:=Hxq ((W13.out.keep MS13_w15.out (by simp)).keep mS (fun s hs h=>by have:=Rg.mem.1 hs;(try dsimp only at h);omega))
 have MS16_w16:Hid (Mod [] w16 w16):=Hxq (Mod.refl [] _)
 clear mS hsp x0 x1
 have x0:=cell_at (MS16_w16.out.at EB2.out (by simp)) 0;have x1:=cell_at (MS16_w16.out.at EB2.out (by simp)) 1
 simp only [List.getElem?_toArray,List.getElem?_cons_zero,List.getElem?_cons_succ] at x0 x1
 have y0:=cell_at (MS16_w16.out.at EW2.out (by simp)) 0;have y1:=cell_at (MS16_w16.out.at EW2.out (by simp)) 1
 simp only [List.getElem?_toArray,List.getElem?_cons_zero,List.getElem?_cons_succ] at y0 y1
 go_wp2_with fail
 refine (sameProg_any (Sy.bareP P) HMB.out _ _ w16 B2.out W2.out).mono ?_
 rintro e17 w17 ⟨rfl,m⟩
 have M_w17:Hid (Mod [] w1 w17):=Hxq (M_w16.out.trans m (by simp))
 have z_w17:w16.heap.size<=w17.heap.size:=m.size
 have MS4_w17:=Hxq (MS4_w16.out.trans m (by simp))
 have MS16_w17:=Hxq (MS16_w16.out.trans m (by simp))
 clear m x0 x1 y0 y1
 have x0:=cell_at (MS4_w17.out.at EQ.out (by simp)) 0;have x1:=cell_at (MS4_w17.out.at EQ.out (by simp)) 1
 simp only [List.getElem?_toArray,List.getElem?_cons_zero,List.getElem?_cons_succ] at x0 x1
 have y0:=cell_at (M_w17.out.at ER.out (by simp)) 0;have y1:=cell_at (M_w17.out.at ER.out (by simp)) 1
 simp only [List.getElem?_toArray,List.getElem?_cons_zero,List.getElem?_cons_succ] at y0 y1
 go_wp2_with fail
 refine (sameProg_any P HMP.out _ _ w17 (Q4.out.keep MS4_w17.out (by simp)) (HP.out.keep M_w17.out (by simp))).mono ?_
 rintro e18 w18 ⟨rfl,m⟩
 have M_w18:Hid (Mod [] w1 w18):=Hxq (M_w17.out.trans m (by simp))
 have z_w18:w17.heap.size<=w18.heap.size:=m.size
 have MS4_w18:=Hxq (MS4_w17.out.trans m (by simp))
 have MS16_w18:=Hxq (MS16_w17.out.trans m (by simp))
 clear m x0 x1 y0 y1
 have x0:=cell_at (MS4_w18.out.at EQ.out (by simp)) 0;have x1:=cell_at (MS4_w18.out.at EQ.out (by simp)) 1
 simp only [List.getElem?_toArray,List.getElem?_cons_zero,List.getElem?_cons_succ] at x0 x1
 have SPQ:Hid (Sp (fun k=>w2.heap.size<=k/\k<pq) w3 w18):=Hxq (Sp.of_mod (MEQ.out.trans MS4_w18.out (by simp)))
 go_upto_region 13 with fail
 refine (spoil_any _ _ _ _ _ _ (hpq ▸ SQ.out) w18 SPQ.out).mono ?_
 rintro e19 w19 ⟨rfl,hsp⟩
 have mS:=hsp.modR
 have z_w19:w18.heap.size<=w19.heap.size:=mS.size
 have M_w19:Hid (Mod [] w1 w19):=Hxq (M_w18.out.trans mS (fun s hs=>.inr (by have:=Rg.mem.1 hs;omega)))
 have EB3:=Hxq (mS.at (MS16_w18.out.at EB2.out (by simp)) (fun hs=>by have:=Rg.mem.1 hs;omega))
 have B3:=Hxq ((B2.out.keep MS16_w18.out (by simp)).keep mS (fun s hs h=>by have:=Rg.mem.1 hs;(try dsimp only at h);omega))
 have EW3:=Hxq (mS.at (MS16_w18.out.at EW2.out (by simp)) (fun hs=>by have:=Rg.mem.1 hs;omega))
 have W3:=Hxq ((W2.out.keep MS16_w18.out (by simp)).keep mS (fun s hs h=>by have:=Rg.mem.1 hs;(try dsimp only at h);omega))
 have MS19_w19:Hid (Mod [] w19 w19):=Hxq (Mod.refl [] _)
 clear mS hsp x0 x1
 have x0:=cell_at (MS19_w19.out.at EB3.out (by simp)) 0;have x1:=cell_at (MS19_w19.out.at EB3.out (by simp)) 1
 simp only [List.getElem?_toArray,List.getElem?_cons_zero,List.getElem?_cons_succ] at x0 x1
 have y0:=cell_at (MS19_w19.out.at EW3.out (by simp)) 0;have y1:=cell_at (MS19_w19.out.at EW3.out (by simp)) 1
 simp only [List.getElem?_toArray,List.getElem?_cons_zero,List.getElem?_cons_succ] at y0 y1
 go_wp2_with fail
 refine (sameProg_any (Sy.bareP P) HMB.out _ _ w19 B3.out W3.out).mono ?_
 rintro e20 w20 ⟨rfl,m⟩
 have M_w20:Hid (Mod [] w1 w20):=Hxq (M_w19.out.trans m (by simp))
 have z_w20:w19.heap.size<=w20.heap.size:=m.size
 have MS19_w20:=Hxq (MS19_w19.out.trans m (by simp))
 clear m x0 x1 y0 y1
 have y0:=cell_at (M_w20.out.at ER.out (by simp)) 0;have y1:=cell_at (M_w20.out.at ER.out (by simp)) 1
 simp only [List.getElem?_toArray,List.getElem?_cons_zero,List.getElem?_cons_succ] at y0 y1
 go_wp2_with fail
 refine (P1.out _ _ _ w20 (HP.out.keep M_w20.out (by simp)) (HV.out.past M_w20.out (by simp))).mono ?_
 rintro e21 w21 ⟨rfl,m⟩
 have M_w21:Hid (Mod [] w1 w21):=Hxq (M_w20.out.trans m (by simp))
 have z_w21:w20.heap.size<=w21.heap.size:=m.size
 have MS19_w21:=Hxq (MS19_w20.out.trans m (by simp))
 clear m y0 y1
 go_wp2_with fail
 all_goals go_ret
 all_goals exact ⟨by simp,M0.out.trans M_w21.out (by simp)⟩
theorem gTabV : Tryz.prog.globalNamed "internal/strconv.uint64pow10" = some 2 := by kernel_rfl
theorem tTabV:(Tryz.prog.globals[2]?).map (·.type)=some 230:=by kernel_rfl
theorem globV_of_laid {W:World} (h:laidMetH Tryz.prog Rows.printProgramsRow.laid W):GlobV W:=by
 rw [MakeChecks.laidMetH_plain _ _ _ (by kernel_rfl)] at h
 exact ⟨Lib.tabIs_of_head (zs:=Lib.pow10Tab) gTabV tTabV Tryz.underlying230 Tryz.underlying212 (by kernel_rfl) (by kernel_rfl) h.tail.tail⟩
end Go.Proofs.YtohnmnfhmbmoaaaGreatDoor
namespace Go.Proofs.YtohnmnfhmbmoaaaGreatDoor.pPrintProgramsUC
open Go.ChangeShapes Go.WideShapes Go.ChangeAt Go.RowKit
open Go.ChangeMaps (open_string shut_string)
set_option linter.unusedVariables false
set_option maxRecDepth 100000
set_option maxHeartbeats 1000000
theorem own:ownKnob Tryz.prog.godebug=none:=by kernel_rfl
theorem laidOut:laidOutB Tryz.prog=true:=by kernel_rfl
theorem contract (H:Type) (enc:TypeId × Value->H) (W:World) (base:Nat) (args:Array Value) (ds gs:List (DataW H)) (before:List MemPlace)
  (hval:∀ (j:Nat) t v,Tryz.f3.params[j]?=some t->args[j]?=some v->Value.okWide Tryz.prog W .any base t v)
  (hW:DataW.Whole enc Tryz.prog Tryz.f3.params.toList Rows.printProgramsSpec.vars false W args.toList ds gs before)
  (hsz0:(DataW.weightsEach Tryz.prog (Tryz.f3.params.toList++Rows.printProgramsSpec.plain.varTypes Tryz.prog) (ds++gs)).all (·<=reachBytes)=true)
  (hL:laidMetH Tryz.prog Rows.printProgramsUptoRow.laid W) (hk:Rows.uptoBulkAll (ds++gs)<=1048576) :
  Calls Tryz.prog 3 args W fun e W'=>∃ v,e=.returned v/\Rows.printProgramsSpec.post enc Tryz.prog Tryz.f3 false true false false W args v W':=by
 have hW':=hW
 have hG:=globV_of_laid hL
 obtain ⟨p,q,hA0,hV,rfl,hfz,hnd⟩:=hW
 have hA:DataW.TrodAll enc Tryz.prog W 0 (fun _=>true) true Tryz.f3.params.toList args.toList ds p:=hA0
 rw [Tryz.params3] at hA hval hsz0
 obtain ⟨v0,vs0,d0,ds0,p0,q0,hargs,rfl,rfl,h0,r0⟩:=trodAll_cons hA
 obtain ⟨rfl,rfl,rfl⟩:=trodAll_nil r0
 obtain rfl:args=#[v0]:=by cases args;simp_all
 obtain ⟨rfl,rfl⟩:=trodVars_none hV
 have k0:=h0
 have lt0:∀ x∈p0,x.block<W.heap.size:=by obtain ⟨m,hm⟩:=k0;exact DataW.trod_lt m _ _ _ hm
 obtain ⟨P0,du0,ru0,rfl,hD0,hR0,hw0⟩:=open_prog_arg (okWide_struct Tryz.underlying25 (hval 0 25 v0 rfl rfl)) h0
 have hb0:Rows.uptoBulk d0<=1048576:=by simp only [Rows.uptoBulkAll,List.append_nil] at hk;omega
 clear hA0
 refine (PrintPrograms_any P0 du0 ru0 (by omega) W hD0 hR0 hG).mono fun e W' ⟨he,hm⟩=>?_
 subst he
 have bel:Below W.heap.size W W':=hm.below (Nat.le_refl _) (by simp)
 exact ⟨_,rfl,_,_,_,[],_,[],hW',trodAll_mk1 (shut_bool Tryz.underlying4 _),(trodAll_cons_mk (Below.trod laidOut (by kernel_rfl) (of_decide_eq_true (by kernel_rfl)) k0 bel lt0) trodAll_mk0),rfl,bel.frame _,fun h=>by cases h⟩
theorem door_met (os:Os):laidMetH Tryz.prog Rows.printProgramsUptoRow.laid ((World.doorLaid Tryz.prog 67 os).forCall (fun _ _=>0) ⟨#[],#[.agg #[.slice none 0 0,.slice none 0 0]],[]⟩).memory:=by
 rw [MakeChecks.laidMetH_plain _ _ _ (by kernel_rfl)]
 exact laidMet_of_run' 8 (by kernel_rfl) (by kernel_rfl)
theorem reads (os:Os) {H:Type} (enc:TypeId × Value->H):∃ places,DataW.whole enc Tryz.prog ((World.doorLaid Tryz.prog 67 os).forCall (fun _ _=>0) ⟨#[],#[.agg #[.slice none 0 0,.slice none 0 0]],[]⟩).memory Tryz.f3.params.toList Rows.printProgramsSpec.vars false (#[.agg #[.slice none 0 0,.slice none 0 0]]:Array Value).toList 8=some ([.agg [.nil,.nil]],[],places) :=
 ⟨[],by kernel_rfl⟩
theorem lifted (os:Os) (started:os.Started) (H:Type) (enc:TypeId × Value->H) (F:Stop.Interp) :
  ReturnsInHanded {} Tryz.checked os 3 .any ((Rows.OpenSpec.upto Rows.printProgramsSpec).preRow enc Tryz.prog Tryz.f3 Rows.printProgramsUptoRow.domain false Rows.printProgramsUptoRow.laid) (((Rows.OpenSpec.upto Rows.printProgramsSpec).at F).post enc Tryz.prog Tryz.f3 false true false false):=by
 obtain ⟨places,hx⟩:=reads os enc
 refine returnsInHanded_of_row (C:=Tryz.checked) (s:=Rows.OpenSpec.upto Rows.printProgramsSpec) own started (by kernel_rfl) Tryz.func3
  (witness_row_atRef (enc:=enc) (C:=Tryz.checked) false (World.doorLaid Tryz.prog 67 os) #[.agg #[.slice none 0 0,.slice none 0 0]] rfl (by kernel_rfl) (by kernel_rfl) (by kernel_rfl)
   (OpenSpec.preRow_of_cond 8 hx (by kernel_rfl) (fun k hk=>by cases hk;kernel_rfl) (by kernel_rfl) (door_met os))) ?_
 intro W base args ds gs before hval hW _ hc hsz hL _ _
 exact contract H enc W base args ds gs before hval hW hsz hL (of_decide_eq_true (hc _ rfl))
theorem said:Rows.PrintProgramsUptoSaid :=
 OpenClaim.holds_of_cond 3 Tryz.f3 rfl rfl rfl rfl rfl rfl rfl ⟨rfl,rfl,rfl,rfl,rfl⟩ rfl rfl rfl rfl rfl (by kernel_rfl) Tryz.func3 (by kernel_rfl)
  (of_decide_eq_true (by kernel_rfl)) (by unfold Func.isWrapper;first | (rw [if_pos (by decide +kernel)];kernel_rfl) | (rw [if_neg (by decide +kernel)];exact ⟨rfl,rfl⟩))
  (fun os started H enc _ F=>by rw [OpenClaim.pre_eq_preRow];exact lifted os started H enc F)
theorem plain (f : FuncId) (fn : Func) (hf : Tryz.pinned.checked.prog.funcNamed "pedigree/pedigreelaw05.PrintPrograms" = some f) (hfn : Tryz.pinned.checked.prog.funcs[f]? = some fn) :
  true=Tryz.pinned.checked.prog.looks []/\∀ (j:Nat) t,fn.params[j]?=some t->Tryz.pinned.checked.prog.wantsStandIn t=false:=by
 obtain rfl : f = 3 := Option.some.inj ((show Tryz.prog.funcNamed "pedigree/pedigreelaw05.PrintPrograms" = some 3 by kernel_rfl).symm.trans hf) |>.symm
 obtain rfl:fn=Tryz.f3:=(Option.some.inj (Tryz.func3.symm.trans hfn)).symm
 refine ⟨by kernel_rfl,fun j t ht=>?_⟩
 rw [Tryz.params3] at ht
 have hm:t∈[25]:=by simpa using Array.mem_of_getElem? ht
 have hall:([25].all fun u=>!Tryz.prog.wantsStandIn u)=true:=by kernel_rfl
 exact (show Tryz.prog.wantsStandIn t=false by simpa using List.all_eq_true.1 hall t hm)
/-- THE STATEMENT -/
theorem proved:Rows.PrintProgramsUptoCardSaid :=
 Claim7.holds_tied_plain_at .later [] _ _ _ _ said (fun _ h=>by cases h) (by kernel_rfl) (fun _ h=>by cases h) printProgramsUpto_row_tie rfl ⟨rfl,rfl⟩ (by kernel_rfl) rfl plain (by kernel_rfl)
end Go.Proofs.YtohnmnfhmbmoaaaGreatDoor.pPrintProgramsUC
