/- THE TEXTS MERGED: SyLawCut SyPut2 SyBare2 SyKind. -/
import Derived.Test.YtppigckioalhhaaGreatDoorRKP1
import Derived.Test.YtppigckioalhhaaGreatDoorRKP21
import Derived.Test.YtppigckioalhhaaGreatDoorRKP8
import Derived.Test.YtppigckioalhhaaGreatDoorRKP20
import Derived.Test.YtppigckioalhhaaGreatDoorRKP28
import Derived.Test.YtppigckioalhhaaGreatDoorRKP17
namespace Go.Proofs.YtppigckioalhhaaGreatDoorR
open Go.RowKit
set_option linter.unusedVariables false
set_option linter.unusedSimpArgs false
set_option maxRecDepth 100000
/-- a program's two lists -/
theorem valP_lit {n:Nat} {p:Pr.Prog} {w:World} {C:Array Value} (h:valP n p w (.agg C)):∃ a1 c1 a2 c2,C=#[.slice a1 p.rels.length c1,.slice a2 p.rules.length c2]:=by
 obtain ⟨rels,rus,u1,u2,h0,hpp,hb1,hb2,hs1,hs2⟩:=h
 obtain ⟨a1,c1,rfl⟩:=hb1.lit
 obtain ⟨a2,c2,rfl⟩:=hb2.lit
 simp only [Value.agg.injEq] at h0
 subst hpp
 exact ⟨a1,c1,a2,c2,by rw [h0];simp⟩
theorem fault_code (l:List Nat):(Lx.fault l).1=(Lx.given l).2.code:=by
 unfold Lx.fault
 split
 ·rename_i h;rw [h]
 ·rfl
section
variable {w0 W W':World} {rels:List RelU} {rus:List RulU} {va ua:Option Addr} {vc uc g:Nat}
theorem PO.keep (h:PO w0 W rels rus va vc ua uc) (hm:Mod [] W W'):PO w0 W' rels rus va vc ua uc :=
 ⟨hm.owns h.rowR (by simp),hm.owns h.rowU (by simp),h.newR,h.newU,h.dis,fun p hp=>(h.subR p hp).keep hm (by simp),fun p hp=>(h.subU p hp).keep hm (by simp),h.mod.trans hm (by simp)⟩
/-- stores elsewhere -/
theorem PO.past {S:List Nat} (h:PO w0 W rels rus va vc ua uc) (hm:Mod S W W') (hS:∀ s∈S,w0.heap.size<=s/\s∉fp (.slice va rels.length vc)/\s∉fp (.slice ua rus.length uc)/\∀ k,QF w0 (.slice va rels.length vc) (.slice ua rus.length uc) k->k<W.heap.size->k≠s):PO w0 W' rels rus va vc ua uc:=by
 refine ⟨hm.owns h.rowR (fun k hk hs=>(hS k hs).2.1 hk),hm.owns h.rowU (fun k hk hs=>(hS k hs).2.2.1 hk),h.newR,h.newU,h.dis,fun p hp=>?_,fun p hp=>?_,h.mod.trans hm (fun t ht=>.inr (hS t ht).1)⟩
 ·exact (((h.subR p hp).mono (F':=fun k=>QF w0 (.slice va rels.length vc) (.slice ua rus.length uc) k/\k<W.heap.size) (fun k hk hk2=>⟨hk,hk2⟩)).keep hm (fun s hs hh=>(hS s hs).2.2.2 s hh.1 hh.2 rfl)).mono (fun k hk _=>hk.1)
 ·exact (((h.subU p hp).mono (F':=fun k=>QF w0 (.slice va rels.length vc) (.slice ua rus.length uc) k/\k<W.heap.size) (fun k hk hk2=>⟨hk,hk2⟩)).keep hm (fun s hs hh=>(hS s hs).2.2.2 s hh.1 hh.2 rfl)).mono (fun k hk _=>hk.1)
theorem PO.putR (h:PO w0 W rels rus (some ⟨g,0,none⟩) vc ua uc) (i:Nat) (hi:i<rels.length) (p':RelU) (o:Nat) (ho:o<4) (u:Value)
  (hc:(csR p').toList=(csR rels[i]).toList.set o u) (hp:RelB (QF w0 (.slice (some ⟨g,0,none⟩) rels.length vc) (.slice ua rus.length uc)) W p') :
  PO w0 (W.setCell ⟨g,i * 4+o,none⟩ u) (rels.set i p') rus (some ⟨g,0,none⟩) vc ua uc:=by
 have e1:(rels.set i p').length=rels.length:=by simp
 have hm:Mod [g] W (W.setCell ⟨g,i * 4+o,none⟩ u):=(Mod.refl [g] W).setCell (p:=⟨g,i * 4+o,none⟩) (.inl (by simp)) u
 have hg:g∈fp (.slice (some ⟨g,0,none⟩) rels.length vc):=by simp [fp]
 have hS:∀ s∈[g],¬ QF w0 (.slice (some ⟨g,0,none⟩) rels.length vc) (.slice ua rus.length uc) s:=fun s hs hh=>by rw [Msq] at hs;subst hs;exact hh.2.1 hg
 refine ⟨?_,hm.owns h.rowU (fun k hk hs=>?_),by rw [e1];exact h.newR,h.newU,by rw [e1];exact h.dis,fun q hq=>?_,fun q hq=>?_,h.mod.trans hm (fun k hk=>by rw [Msq] at hk;subst hk;exact .inr (h.newR _ hg))⟩
 ·rw [e1,rowCells_set1 csR_size p' o u ho rels i hi hc]
  exact (h.rowR.stored (i * 4+o) u).1
 ·rw [Msq] at hs;subst hs;exact h.dis _ hg hk
 ·rw [e1]
  rcases List.mem_or_eq_of_mem_set hq with hq | rfl
  ·exact (h.subR q hq).keep hm hS
  ·exact hp.keep hm hS
 ·rw [e1];exact (h.subU q hq).keep hm hS
theorem PO.putU (h:PO w0 W rels rus va vc (some ⟨g,0,none⟩) uc) (i:Nat) (hi:i<rus.length) (p':RulU) (o:Nat) (ho:o<5) (u:Value)
  (hc:(csU p').toList=(csU rus[i]).toList.set o u) (hp:RulB (QF w0 (.slice va rels.length vc) (.slice (some ⟨g,0,none⟩) rus.length uc)) W p') :
  PO w0 (W.setCell ⟨g,i * 5+o,none⟩ u) rels (rus.set i p') va vc (some ⟨g,0,none⟩) uc:=by
 have e1:(rus.set i p').length=rus.length:=by simp
 have hm:Mod [g] W (W.setCell ⟨g,i * 5+o,none⟩ u):=(Mod.refl [g] W).setCell (p:=⟨g,i * 5+o,none⟩) (.inl (by simp)) u
 have hg:g∈fp (.slice (some ⟨g,0,none⟩) rus.length uc):=by simp [fp]
 have hS:∀ s∈[g],¬ QF w0 (.slice va rels.length vc) (.slice (some ⟨g,0,none⟩) rus.length uc) s:=fun s hs hh=>by rw [Msq] at hs;subst hs;exact hh.2.2 hg
 refine ⟨hm.owns h.rowR (fun k hk hs=>?_),?_,h.newR,by rw [e1];exact h.newU,by rw [e1];exact h.dis,fun q hq=>?_,fun q hq=>?_,h.mod.trans hm (fun k hk=>by rw [Msq] at hk;subst hk;exact .inr (h.newU _ hg))⟩
 ·rw [Msq] at hs;subst hs;exact h.dis _ hk hg
 ·rw [e1,rowCells_set1 csU_size p' o u ho rus i hi hc]
  exact (h.rowU.stored (i * 5+o) u).1
 ·rw [e1];exact (h.subR q hq).keep hm hS
 ·rw [e1]
  rcases List.mem_or_eq_of_mem_set hq with hq | rfl
  ·exact (h.subU q hq).keep hm hS
  ·exact hp.keep hm hS
theorem PO.prog (h:PO w0 W rels rus va vc ua uc):PgB (fun k=>w0.heap.size<=k) W ⟨rels.map (·.1),rus.map (·.1)⟩ (.agg #[.slice va rels.length vc,.slice ua rus.length uc]) :=
 ⟨rels,rus,_,_,rfl,rfl,RowB.of_owns csR_size h.rowR h.newR,RowB.of_owns csU_size h.rowU h.newU,fun p hp=>(h.subR p hp).mono (fun k hk _=>hk.1),fun p hp=>(h.subU p hp).mono (fun k hk _=>hk.1)⟩
end
open Go.RowKit
set_option linter.unusedVariables false
set_option linter.unusedSimpArgs false
set_option maxRecDepth 100000
def BareR (p:Pr.Prog) (w:World) (e:Ending) (w':World):Prop:=∃ x:Array Value,e=.returned (.agg x)/\PgB (fun k=>w.heap.size<=k) w' (Sy.bareP p) (.agg x)/\Mod [] w w'
set_option maxHeartbeats 16000000 in
theorem bare_any {F:Nat->Prop} (p:Pr.Prog) (hM:PgM p) (u:Value) (w:World) (h:PgB F w p u) :
  Calls Tryz.prog 27 #[u] w (BareR p w):=by
 obtain ⟨a1,c1,b1,d1,rfl⟩:=h.lit
 have mA:=((Mod.refl [] w).alloc (Obj.cells #[.slice a1 p.rels.length c1,.slice b1 p.rules.length d1] 26)).alloc (Obj.cells #[.slice none 0 0,.slice none 0 0] 26)
 have eA:=two_a w #[.slice a1 p.rels.length c1,.slice b1 p.rules.length d1] #[.slice none 0 0,.slice none 0 0] 26 26
 have eB:=two_b w #[.slice a1 p.rels.length c1,.slice b1 p.rules.length d1] #[.slice none 0 0,.slice none 0 0] 26 26
 have HC:=Hxq (copyProg_any p hM _ _ ((h.mono (G:=fun k=>k<w.heap.size) (fun k _ h=>h)).keep mA (by simp)))
 obtain ⟨prels,prules⟩:=p
 have HMM:=Lib.hid hM
 have hl1:=hM.rels
 have hl2:=hM.rules
 dsimp only at *
 clear h hM
 generalize hn1:prels.length=n1 at *
 generalize hn2:prules.length=n2 at *
 go_enter Tryz.func27,Tryz.ntmps27
 go_upto_region 1 with fail
 have hw0:(((w.alloc (Obj.cells #[.slice a1 n1 c1,.slice b1 n2 d1] 26)).alloc (Obj.cells #[.slice none 0 0,.slice none 0 0] 26))).heap.size=w.heap.size+2:=by simp
 generalize (w.alloc (Obj.cells _ 26)).alloc (Obj.cells _ 26)=w0 at *
 have M0:=Lib.hid mA;have EB:=Lib.hid eB
 have x0:=cell_at eA 0;have x1:=cell_at eA 1
 simp only [List.getElem?_toArray,List.getElem?_cons_zero,List.getElem?_cons_succ] at x0 x1
 clear mA eB eA
 go_wp2_with fail
 refine HC.out.mono ?_
 rintro e1 w1 ⟨rels0,rus0,va,vc,ua,uc,rfl,hp0,hPO⟩
 simp only [Pr.Prog.mk.injEq] at hp0
 obtain ⟨hpr,hpu⟩:=hp0
 have hr0:rels0.length=n1:=by rw [<-hn1,<-hpr];simp
 have hu0:rus0.length=n2:=by rw [<-hn2,<-hpu];simp
 have P0:=Lib.hid hPO;have HPR:=Lib.hid hpr;have HPU:=Lib.hid hpu
 have M1:=Hxq (M0.out.trans hPO.mod (by simp));have EB1:=Hxq (hPO.mod.at EB.out (by simp));have z1:=hPO.mod.size
 clear hPO hpr hpu HC x0 x1
 rw [hr0,hu0]
 have mB:=(Mod.refl [] w1).alloc (Obj.cells #[.slice va n1 vc,.slice ua n2 uc] 26)
 have eC:=heap_alloc_new w1 (Obj.cells #[.slice va n1 vc,.slice ua n2 uc] 26)
 go_upto_region 2 with fail
 generalize w1.alloc (Obj.cells _ 26)=w2 at *
 have P2:=Hxq (P0.out.keep mB);have M2:=Hxq (M1.out.trans mB (by simp));have EB2:=Hxq (mB.at EB1.out (by simp));have EC:=Lib.hid eC
 have hpb:w0.heap.size<=w1.heap.size:=z1
 have hnr:∀ k∈fp (.slice va n1 vc),k<w1.heap.size:=fun k hk=>by rw [<-hr0] at hk;exact fp_lt P0.out.rowR k hk
 have hnu:∀ k∈fp (.slice ua n2 uc),k<w1.heap.size:=fun k hk=>by rw [<-hu0] at hk;exact fp_lt P0.out.rowU k hk
 have HNR:=Lib.hid hnr;have HNU:=Lib.hid hnu
 clear mB eC P0 M1 EB1 hnr hnu
 generalize hpo:w1.heap.size=po at *
 have HPO:=Lib.hid hpo
 clear hpo
 go_wp2_with fail
 go_loopw [4] (fun iv wr=>∃ (i:Nat) (rels:List RelU),iv=.int .i64 (i:Nat)/\i<=n1/\rels.length=n1/\rels.map (·.1)=(prels.take i).map Sy.bareR++prels.drop i/\PO w0 wr rels rus0 va vc ua uc/\wr.heap[po]?=some (.cells #[.slice va n1 vc,.slice ua n2 uc] 26 (0,0))) (fun iv _=>n1 - (intOf iv).toNat)
 case atStart=>exact ⟨0,rels0,rfl,Nat.zero_le _,hr0,by simpa using HPR.out,P2.out,EC.out⟩
 case round =>
  obtain ⟨i,rels,rfl,hi,hlen,hmap,hP,hbx⟩:=hrel
  have P3:=Lib.hid hP;have HMP:=Lib.hid hmap;have BX:=Lib.hid hbx
  have y0:=cell_at BX.out 0
  simp only [List.getElem?_toArray,List.getElem?_cons_zero,List.getElem?_cons_succ] at y0
  clear hP hmap hbx
  by_cases hlt:i<n1
  ·have hiI:(i:Int)<(n1:Int):=by omega
   have hi0:(0:Int)<=(i:Int):=by omega
   have hia:i<rels.length:=by omega
   have hil:i<prels.length:=by omega
   obtain ⟨g,hva⟩:∃ g,va=some ⟨g,0,none⟩:=by
    rcases P3.out.rowR.2 with ⟨h1,h2⟩ | ⟨g,cap,cur,h1,-⟩
    ·omega
    ·simp only [Value.slice.injEq] at h1;exact ⟨g,h1.1⟩
   subst hva
   obtain ⟨b,off,hb,hcell⟩:=(RowB.of_owns (F:=fun _=>True) csR_size P3.out.rowR (fun _ _=>trivial)).at i hia
   simp only [Option.some.injEq,Addr.mk.injEq,and_true] at hb
   obtain ⟨rfl,rfl⟩:=hb
   have hsub:=P3.out.subR _ (List.getElem_mem hia)
   have hfz:=fun j=>P3.out.rowR.frozenAt j
   have hgl:g<po:=HNR.out g (by simp [fp])
   have hy:(rels[i]).1=prels[i]:=by
    have e:(rels.map (·.1))[i]?=prels[i]?:=by
     rw [HMP.out,List.getElem?_append_right (by simp;omega),show (List.map Sy.bareR (List.take i prels)).length=i by simp;omega,List.getElem?_drop,Nat.sub_self,Nat.add_zero]
    rw [List.getElem?_map,List.getElem?_eq_getElem hia,List.getElem?_eq_getElem hil] at e
    simpa using e
   have HYL:Hid (prels[i]?=some prels[i]):=Hxq (List.getElem?_eq_getElem hil)
   rw [<-hy] at HYL
   generalize hz:rels[i]=z at *
   obtain ⟨⟨nm,tys,ln,cl⟩,U1⟩:=z
   dsimp only at hcell hsub HYL
   rw [Nat.zero_add] at hcell
   have d2:=hcell 2 (.int .i64 ln) rfl
   have d3:=hcell 3 (.int .i64 cl) rfl
   have m1:Mod [g] wr (wr.setCell ⟨g,i * 4+2,none⟩ (.int .i64 0)):=(Mod.refl [g] wr).setCell (p:=⟨g,i * 4+2,none⟩) (.inl (by simp)) _
   have hgf:∀ s∈[g],¬ QF w0 (.slice (some ⟨g,0,none⟩) rels.length vc) (.slice ua rus0.length uc) s:=fun s hs hh=>by rw [Msq] at hs;subst hs;exact hh.2.1 (by simp [fp])
   have G1:=P3.out.putR i hia (⟨nm,tys,0,cl⟩,U1) 2 (by omega) (.int .i64 0) (by rw [hz];rfl) hsub
   have hia1:i<(rels.set i ((⟨nm,tys,0,cl⟩,U1):RelU)).length:=by simpa using hia
   have G2:=G1.putR i hia1 (⟨nm,tys,0,0⟩,U1) 3 (by omega) (.int .i64 0) (by rw [List.getElem_set_self];rfl) (by rw [List.length_set];exact hsub.keep m1 hgf)
   rw [List.set_set] at G2
   have m2:Mod [g] (wr.setCell ⟨g,i * 4+2,none⟩ (.int .i64 0)) ((wr.setCell ⟨g,i * 4+2,none⟩ (.int .i64 0)).setCell ⟨g,i * 4+2+1,none⟩ (.int .i64 0)):=(Mod.refl [g] _).setCell (p:=⟨g,i * 4+2+1,none⟩) (.inl (by simp)) _
   have G2:Hid (PO w0 ((wr.setCell ⟨g,i * 4+2,none⟩ (.int .i64 0)).setCell ⟨g,i * 4+2+1,none⟩ (.int .i64 0)) (rels.set i (⟨nm,tys,0,0⟩,U1)) rus0 (some ⟨g,0,none⟩) vc ua uc):=Lib.hid G2
   have BX2:=Hxq ((m1.trans m2 (by simp)).at BX.out (by simp;omega))
   have HY2:=Lib.hid hy
   clear G1 m1 m2 hgf hsub hcell hy hz
   go_wp2_with fail
   generalize (wr.setCell ⟨g,i * 4+2,none⟩ (.int .i64 0)).setCell ⟨g,i * 4+2+1,none⟩ (.int .i64 0)=q2 at *
   go_roundw
   case rel =>
    refine ⟨i+1,_,by go_num,by omega,by simpa using hlen,?_,G2.out,BX2.out⟩
    rw [List.map_set,HMP.out,List.set_append_right _ _ (by simp;omega),show (List.map Sy.bareR (List.take i prels)).length=i by simp;omega,Nat.sub_self,List.drop_eq_getElem_cons hil,List.set_cons_zero,List.take_add_one,HYL.out]
    simp [Sy.bareR]
   case measure=>simp [intOf];omega
  ·have hie:i=n1:=by omega
   have hiI:¬ (i:Int)<(n1:Int):=by omega
   have HRL:Hid (rels.map (·.1)=prels.map Sy.bareR):=Hxq (by rw [HMP.out,hie,<-hn1];simp)
   have HLN:=Lib.hid hlen
   clear hie
   go_wp2_with fail
   clear y0
   obtain ⟨wo,rfl⟩:∃ wo:World,wo=wr:=⟨_,rfl⟩
   go_loopw [5] (fun iv wr=>∃ (i:Nat) (rus:List RulU),iv=.int .i64 (i:Nat)/\i<=n2/\rus.length=n2/\rus.map (·.1)=(prules.take i).map Sy.bareU++prules.drop i/\PO w0 wr rels rus va vc ua uc/\wr.heap[po]?=some (.cells #[.slice va n1 vc,.slice ua n2 uc] 26 (0,0))) (fun iv _=>n2 - (intOf iv).toNat)
   case atStart=>exact ⟨0,rus0,rfl,Nat.zero_le _,hu0,by simpa using HPU.out,P3.out,BX.out⟩
   case round =>
    obtain ⟨j,rus,rfl,hj,hlen2,hmap,hP,hbx⟩:=hrel
    have P4:=Lib.hid hP;have HMQ:=Lib.hid hmap;have BY:=Lib.hid hbx
    have y1:=cell_at BY.out 1
    simp only [List.getElem?_toArray,List.getElem?_cons_zero,List.getElem?_cons_succ] at y1
    clear hP hmap hbx
    by_cases hlt2:j<n2
    ·have hjI:(j:Int)<(n2:Int):=by omega
     have hj0:(0:Int)<=(j:Int):=by omega
     have hja:j<rus.length:=by omega
     have hjl:j<prules.length:=by omega
     obtain ⟨g,hua⟩:∃ g,ua=some ⟨g,0,none⟩:=by
      rcases P4.out.rowU.2 with ⟨h1,h2⟩ | ⟨g,cap,cur,h1,-⟩
      ·omega
      ·simp only [Value.slice.injEq] at h1;exact ⟨g,h1.1⟩
     subst hua
     obtain ⟨b,off,hb,hcell⟩:=(RowB.of_owns (F:=fun _=>True) csU_size P4.out.rowU (fun _ _=>trivial)).at j hja
     simp only [Option.some.injEq,Addr.mk.injEq,and_true] at hb
     obtain ⟨rfl,rfl⟩:=hb
     have hsub:=P4.out.subU _ (List.getElem_mem hja)
     have hfz:=fun j=>P4.out.rowU.frozenAt j
     have hgl:g<po:=HNU.out g (by simp [fp])
     have hgn:w0.heap.size<=g:=P4.out.newU g (by simp [fp])
     have hy:(rus[j]).1=prules[j]:=by
      have e:(rus.map (·.1))[j]?=prules[j]?:=by
       rw [HMQ.out,List.getElem?_append_right (by simp;omega),show (List.map Sy.bareU (List.take j prules)).length=j by simp;omega,List.getElem?_drop,Nat.sub_self,Nat.add_zero]
      rw [List.getElem?_map,List.getElem?_eq_getElem hja,List.getElem?_eq_getElem hjl] at e
      simpa using e
     have HYL:Hid (prules[j]?=some prules[j]):=Hxq (List.getElem?_eq_getElem hjl)
     have hq2:=HMM.out.body _ (List.getElem_mem hjl)
     have hq3:=HMM.out.deep _ (List.getElem_mem hjl)
     rw [<-hy] at HYL hq2 hq3
     generalize hz:rus[j]=z at *
     obtain ⟨⟨⟨rel,ts⟩,body,ln,cl⟩,ut,ub⟩:=z
     obtain ⟨hst,hsb⟩:=hsub
     dsimp only at hcell hst hsb HYL hq2 hq3
     obtain ⟨ba,bc,rfl⟩:=hsb.lit
     rw [Nat.zero_add] at hcell
     have d2:=hcell 2 (.slice ba body.length bc) rfl
     have d3:=hcell 3 (.int .i64 ln) rfl
     have d4:=hcell 4 (.int .i64 cl) rfl
     have hzg:g<wr.heap.size:=fp_lt P4.out.rowU g (by simp [fp])
     have m1:Mod [g] wr (wr.setCell ⟨g,j * 5+3,none⟩ (.int .i64 0)):=(Mod.refl [g] wr).setCell (p:=⟨g,j * 5+3,none⟩) (.inl (by simp)) _
     have hgf:∀ s∈[g],¬ QF w0 (.slice va rels.length vc) (.slice (some ⟨g,0,none⟩) rus.length uc) s:=fun s hs hh=>by rw [Msq] at hs;subst hs;exact hh.2.2 (by simp [fp])
     have G1:=P4.out.putU j hja (⟨⟨rel,ts⟩,body,0,cl⟩,ut,.slice ba body.length bc) 3 (by omega) (.int .i64 0) (by rw [hz];rfl) ⟨hst,hsb⟩
     have hja1:j<(rus.set j ((⟨⟨rel,ts⟩,body,0,cl⟩,ut,.slice ba body.length bc):RulU)).length:=by simpa using hja
     have hsb1:=hsb.keep m1 hgf
     have hst1:=hst.keep m1 hgf
     have G2:=G1.putU j hja1 (⟨⟨rel,ts⟩,body,0,0⟩,ut,.slice ba body.length bc) 4 (by omega) (.int .i64 0) (by rw [List.getElem_set_self];rfl) (by rw [List.length_set];exact ⟨hst1,hsb1⟩)
     rw [List.set_set] at G2
     have m2:Mod [g] (wr.setCell ⟨g,j * 5+3,none⟩ (.int .i64 0)) ((wr.setCell ⟨g,j * 5+3,none⟩ (.int .i64 0)).setCell ⟨g,j * 5+3+1,none⟩ (.int .i64 0)):=(Mod.refl [g] _).setCell (p:=⟨g,j * 5+3+1,none⟩) (.inl (by simp)) _
     have G2:Hid (PO w0 ((wr.setCell ⟨g,j * 5+3,none⟩ (.int .i64 0)).setCell ⟨g,j * 5+3+1,none⟩ (.int .i64 0)) rels (rus.set j (⟨⟨rel,ts⟩,body,0,0⟩,ut,.slice ba body.length bc)) va vc (some ⟨g,0,none⟩) uc):=Lib.hid G2
     have HSB:=Hxq (hsb1.keep m2 hgf)
     have HST:=Hxq (hst1.keep m2 hgf)
     have BY2:=Hxq ((m1.trans m2 (by simp)).at BY.out (by simp;omega))
     have z2:=(m1.trans m2 (by simp)).size
     have HGF:=Lib.hid hgf
     have HZ:=Lib.hid hz
     clear G1 m1 m2 hst hsb hst1 hsb1 hcell hy hz hgf
     go_upto_region 10 with fail
     generalize (wr.setCell ⟨g,j * 5+3,none⟩ (.int .i64 0)).setCell ⟨g,j * 5+3+1,none⟩ (.int .i64 0)=q2 at *
     clear d2 d3 d4 hfz y1
     have ZB:Hid (q2.cell? ⟨po,1,none⟩=some (.slice (some ⟨g,0,none⟩) n2 uc)):=Hxq (cell_at BY2.out 1)
     have hpg:po∉[g]:=by simp;omega
     obtain ⟨b,off,hb,hcell⟩:=(RowB.of_owns (F:=fun _=>True) csU_size G2.out.rowU (fun _ _=>trivial)).at j (by simpa using hja)
     simp only [Option.some.injEq,Addr.mk.injEq,and_true] at hb
     obtain ⟨rfl,rfl⟩:=hb
     rw [List.getElem_set_self,Nat.zero_add] at hcell
     have D2:=Hxq (hcell 2 (.slice ba body.length bc) rfl)
     have HCB:=Hxq (bareBody_any body hq2 hq3 _ q2.drew (HSB.out.keep (Mod.refl [] q2).drew (by simp)))
     clear hcell
     have HQ:Hid (∀ k,q2.heap.size<=k->QF w0 (.slice va rels.length vc) (.slice (some ⟨g,0,none⟩) rus.length uc) k):=Hxq (fun k hk=>by
      have h1:=G2.out.mod.size
      have h2:=fun hh=>fp_lt G2.out.rowR k hh
      have h3:=fun hh=>fp_lt G2.out.rowU k hh
      rw [List.length_set] at h3
      exact ⟨by omega,fun hh=>by have:=h2 hh;omega,fun hh=>by have:=h3 hh;omega⟩)
     refine wp_region_held_drew (S:=(fun w':World=>Mod [g] q2 w')) (by kernel_rfl) (by (try dsimp only);exact (Mod.refl [g] q2).drew) (fun hHeld=>?_)
     refine Tkq 0 (v:=?_) (by assumption) ?_ ?_ ?_
     rotate_left 1
     ·refine .inl ⟨by rfl,?_⟩;intro w hSw;have s1:=hSw.cell ZB.out hpg;clear hSw;go_simp
      all_goals with_reducible rfl
     ·exact fun _ _ _ h=>h
     try simp only [Act.put,Lq1,Lq2,Lq3]
     refine Tkq 1 (v:=?_) (by assumption) ?_ ?_ ?_
     rotate_left 1
     ·refine .inl ⟨by rfl,?_⟩;intro w hSw;have s1:=hSw.cell ZB.out hpg;clear hSw;go_simp
      all_goals with_reducible rfl
     ·exact fun _ _ _ h=>h
     try simp only [Act.put,Lq1,Lq2,Lq3]
     refine Tkq 2 (v:=?_) (by assumption) ?_ ?_ ?_
     rotate_left 1
     ·refine .inl ⟨by rfl,?_⟩;intro w hSw;have s1:=hSw.cell ZB.out hpg;clear hSw;go_simp
      all_goals with_reducible rfl
     ·exact fun _ _ _ h=>h
     try simp only [Act.put,Lq1,Lq2,Lq3]
     refine Tkq 3 (v:=?_) (by assumption) ?_ ?_ ?_
     rotate_left 1
     ·refine .inl ⟨by rfl,?_⟩;intro w hSw;have s1:=hSw.cell ZB.out hpg;clear hSw;go_simp
      all_goals with_reducible rfl
     ·exact fun _ _ _ h=>h
     try simp only [Act.put,Lq1,Lq2,Lq3]
     refine Tkq 4 (v:=?_) (by assumption) ?_ ?_ ?_
     rotate_left 1
     ·refine .inl ⟨by rfl,?_⟩;intro w hSw;have s1:=hSw.cell ZB.out hpg;clear hSw;go_simp
      all_goals with_reducible rfl
     ·exact fun _ _ _ h=>h
     try simp only [Act.put,Lq1,Lq2,Lq3]
     refine Tkq 5 (v:=?_) (by assumption) ?_ ?_ ?_
     rotate_left 1
     ·refine .inl ⟨by rfl,?_⟩;intro w hSw;have s1:=hSw.cell ZB.out hpg;clear hSw;go_simp
      all_goals with_reducible rfl
     ·exact fun _ _ _ h=>h
     try simp only [Act.put,Lq1,Lq2,Lq3]
     refine Tkq 6 (v:=?_) (by assumption) ?_ ?_ ?_
     rotate_left 1
     ·refine .inl ⟨by rfl,?_⟩;intro w hSw;have s1:=hSw.cell ZB.out hpg;clear hSw;go_simp
      all_goals with_reducible rfl
     ·exact fun _ _ _ h=>h
     try simp only [Act.put,Lq1,Lq2,Lq3]
     refine Tkq 7 (v:=?_) (by assumption) ?_ ?_ ?_
     rotate_left 1
     ·refine .inl ⟨by rfl,?_⟩;intro w hSw;have s1:=hSw.cell ZB.out hpg;clear hSw;go_simp
      all_goals with_reducible rfl
     ·exact fun _ _ _ h=>h
     try simp only [Act.put,Lq1,Lq2,Lq3]
     refine wpAnyH_ready (rs:=[8]) (by kernel_rfl) (by simp) ?_
     refine AllReadyH.cons (o:=?_) ?_ ?_ AllReadyH.nil
     rotate_left 1
     ·(simp only [Gq1,Gq2,Gq3])<;>rfl
     intro K hK
     have d2:q2.drew.cell? ⟨g,j * 5+2,none⟩=some (.slice ba body.length bc):=D2.out
     go_simp
     refine hK.out _ _ (by (try dsimp only);exact (Mod.refl [g] q2).drew) (fun hHeld=>?_)
     clear hK K
     try simp only [Act.put,Lq1,Lq2,Lq3]
     refine wpAnyH_ready (rs:=[9]) (by kernel_rfl) (by simp) ?_
     refine AllReadyH.cons (o:=?_) ?_ ?_ AllReadyH.nil
     rotate_left 1
     ·(simp only [Gq1,Gq2,Gq3])<;>rfl
     intro K hK
     go_simp
     refine HCB.out.mono ?_
     rintro e5 v5 ⟨bacc,ba3,bc3,rfl,bm,r4,m4⟩
     have N5:=Hxq ((Mod.refl [] q2).drew.trans m4 (by simp))
     have G5:=Hxq (G2.out.keep N5.out)
     have B5:Hid (BB (QF w0 (.slice va rels.length vc) (.slice (some ⟨g,0,none⟩) rus.length uc)) v5 (body.map Sy.bareL) (.slice ba3 bacc.length bc3)):=Hxq (bm ▸ (BB.of_gi r4).mono (fun k hk _=>HQ.out k (by simpa using hk)))
     have ST5:=Hxq (HST.out.keep N5.out (by simp))
     have BM5:Hid (bacc.length=body.length):=Hxq (by have:=congrArg List.length bm;simpa using this)
     clear m4 r4 bm
     refine hK.out _ _ (by (try dsimp only);exact N5.out.mono (by simp)) (fun hHeld=>?_)
     clear hK K
     try simp only [Act.put,Lq1,Lq2,Lq3]
     refine Tkq 10 (v:=?_) (by assumption) ?_ ?_ ?_
     rotate_left 1
     ·refine .inl ⟨by rfl,?_⟩;intro w hSw;have s1:=hSw.cell ZB.out hpg;clear hSw;go_simp
      all_goals with_reducible rfl
     ·exact fun _ _ _ h=>h
     try simp only [Act.put,Lq1,Lq2,Lq3]
     refine Tkq 11 (v:=?_) (by assumption) ?_ ?_ ?_
     rotate_left 1
     ·refine .inl ⟨by rfl,?_⟩;intro w hSw;have s1:=hSw.cell ZB.out hpg;clear hSw;go_simp
      all_goals with_reducible rfl
     ·exact fun _ _ _ h=>h
     try simp only [Act.put,Lq1,Lq2,Lq3]
     refine wpAnyH_ready (rs:=[12]) (by kernel_rfl) (by simp) ?_
     refine AllReadyH.cons (o:=?_) ?_ ?_ AllReadyH.nil
     rotate_left 1
     ·(simp only [Gq1,Gq2,Gq3])<;>rfl
     intro K hK
     have f5:v5.frozen? ⟨g,j * 5+2,none⟩=false:=G5.out.rowU.frozenAt _
     have d5:v5.cell? ⟨g,j * 5+2,none⟩=some (.slice ba body.length bc):=N5.out.cell D2.out (by simp)
     have hja2:j<(rus.set j ((⟨⟨rel,ts⟩,body,0,0⟩,ut,.slice ba body.length bc):RulU)).length:=by simpa using hja
     have G6:=G5.out.putU j hja2 (⟨⟨rel,ts⟩,body.map Sy.bareL,0,0⟩,ut,.slice ba3 bacc.length bc3) 2 (by omega) (.slice ba3 bacc.length bc3) (by rw [List.getElem_set_self];rfl) (by rw [List.length_set];exact ⟨ST5.out,B5.out⟩)
     rw [List.set_set] at G6
     have M6:=Hxq ((N5.out.mono (T:=[g]) (by simp)).setCell (p:=⟨g,j * 5+2,none⟩) (.inl (by simp)) (.slice ba3 bacc.length bc3))
     have G6:=Lib.hid G6
     clear B5 ST5 G5 G2
     go_simp
     refine hK.out _ _ (by (try dsimp only);exact M6.out) (fun hHeld=>?_)
     clear hK K
     try simp only [Act.put,Lq1,Lq2,Lq3]
     refine wpAnyH_done (by kernel_rfl) ?_ _
     clear f5 d5 HCB HSB HST
     have BY6:=Hxq (M6.out.at BY2.out (by simp;omega))
     go_wp2_with fail
     generalize v5.setCell ⟨g,j * 5+2,none⟩ (.slice ba3 bacc.length bc3)=q6 at *
     go_roundw
     case rel =>
      refine ⟨j+1,_,by go_num,by omega,by simpa using hlen2,?_,G6.out,BY6.out⟩
      rw [List.map_set,HMQ.out,List.set_append_right _ _ (by simp;omega),show (List.map Sy.bareU (List.take j prules)).length=j by simp;omega,Nat.sub_self,List.drop_eq_getElem_cons hjl,List.set_cons_zero,List.take_add_one,HYL.out]
      simp [Sy.bareU]
     case measure=>simp [intOf];omega
    ·have hje:j=n2:=by omega
     have hjI:¬ (j:Int)<(n2:Int):=by omega
     have HUL:Hid (rus.map (·.1)=prules.map Sy.bareU):=Hxq (by rw [HMQ.out,hje,<-hn2];simp)
     have HLM:=Lib.hid hlen2
     have MF:=Hxq ((M0.out).trans P4.out.mod (by simp))
     have hz4:=lt_of_block BY.out
     have PF:Hid (PgB (fun k=>w0.heap.size<=k) wr (Sy.bareP ⟨prels,prules⟩) (.agg #[.slice va n1 vc,.slice ua n2 uc])):=Hxq (by
      have:=P4.out.prog
      rw [HRL.out,HUL.out,hlen2,HLN.out] at this
      exact this)
     have y0:=cell_at BY.out 0
     have EB4:=Hxq (P4.out.mod.at EB.out (by simp))
     simp only [List.getElem?_toArray,List.getElem?_cons_zero,List.getElem?_cons_succ] at y0
     have r0:=cell_at EB4.out 0;have r1:=cell_at EB4.out 1
     have fr:=fun j=>free_at EB4.out j
     simp only [List.getElem?_toArray,List.getElem?_cons_zero,List.getElem?_cons_succ] at r0 r1
     clear hje HMQ HMP
     go_wp2_with fail
     have mR:=setCs_mod (w.heap.size+1) [.slice va n1 vc,.slice ua n2 uc] 0 wr
     refine bodyPost_ret (results_cell_row rfl _ _ _ _ _ _ _ rfl (setCs_row (vs:=[.slice va n1 vc,.slice ua n2 uc]) EB4.out rfl) Tryz.underlying26 rfl (by kernel_rfl)) rfl ⟨_,rfl,(PF.out.keep mR (fun s hs=>by rw [Msq] at hs;omega)).mono (fun k hk _=>by omega),(MF.out.mono (T:=[]) (by simp)).trans mR (fun s hs=>by rw [Msq] at hs;exact .inr (by omega))⟩
end Go.Proofs.YtppigckioalhhaaGreatDoorR
namespace Go.Proofs.YtppigckioalhhaaGreatDoorR.Lx
set_option linter.unusedVariables false
/-- a name begins with a small letter, a mark does not -/
structure TokK (t:Tok):Prop where
 name:t.kind=1->small (t.text.headD 0)=true
 mark:t.kind=5->small (t.text.headD 0)=false
theorem word_k {s:List Nat} {w:Wd} (h:word s=.ok w) (hs:s≠[]):(w.kind=1->small ((s.take w.n).headD 0)=true)/\(w.kind=5->small ((s.take w.n).headD 0)=false):=by
 obtain ⟨c,r,rfl⟩:∃ c r,s=c :: r:=by
  cases s with
  | nil=>exact absurd rfl hs
  | cons c r=>exact ⟨c,r,rfl⟩
 unfold word at h
 rw [show (c :: r).headD 0=c from rfl] at h
 by_cases h0:(small c || capital c)=true
 ·rw [if_pos h0] at h
  split at h
  ·cases h
  ·cases h
   refine ⟨fun hk=>?_,fun hk=>?_⟩
   ·by_cases hc:capital c=true
    ·rw [if_pos hc] at hk;cases hk
    ·have hsm:small c=true:=by simpa [hc] using h0
     have hg:goes c=true:=by unfold goes;rw [hsm];rfl
     rw [run_cons,if_pos hg,List.take_succ_cons]
     exact hsm
   ·by_cases hc:capital c=true
    ·rw [if_pos hc] at hk;cases hk
    ·rw [if_neg hc] at hk;cases hk
 ·rw [if_neg h0] at h
  have hsm:small c=false:=by
   cases hh:small c with
   | false=>rfl
   | true=>rw [hh] at h0;exact absurd rfl h0
  have hz:∀ n,small (((c :: r).take n).headD 0)=false:=fun n=>by
   cases n with
   | zero=>rfl
   | succ n=>rw [List.take_succ_cons];exact hsm
  split at h
  ·split at h
   ·cases h
   ·cases h;exact ⟨fun hk=>(by cases hk),fun hk=>(by cases hk)⟩
  ·split at h
   ·split at h
    ·cases h
    ·cases h;exact ⟨fun hk=>(by cases hk),fun hk=>(by cases hk)⟩
   ·split at h
    ·cases h
    ·cases h;exact ⟨fun hk=>(by cases hk),fun _=>hz _⟩
theorem next_k {x y:St} {t:Tok} (h:next x=(y,some t)):TokK t:=by
 unfold next at h
 split at h
 ·simp at h
 ·split at h
  ·simp at h
  ·split at h
   ·simp at h
   ·rename_i he
    split at h
    ·simp at h
    ·rename_i wd hw
     simp only [Prod.mk.injEq,Option.some.injEq] at h
     obtain ⟨-,rfl⟩:=h
     obtain ⟨h1,h2⟩:=word_k hw he
     exact ⟨h1,h2⟩
theorem all_k:∀ (k:Nat) (x:St),∀ t∈(allF k x).1,TokK t
 | 0,x=>by simp [allF]
 | k+1,x=>by
  rw [allF]
  cases hn:next x with
  | mk y o =>
   cases o with
   | none=>simp
   | some t =>
    intro u hu
    rcases List.mem_cons.1 hu with rfl | hu
    ·exact next_k hn
    ·exact all_k k y u hu
end Go.Proofs.YtppigckioalhhaaGreatDoorR.Lx
namespace Go.Proofs.YtppigckioalhhaaGreatDoorR.Sy
set_option linter.unusedVariables false
theorem env_k (s:List Nat):∀ t∈(envOf s).ws,Lx.TokK t:=Lx.all_k _ _
/-- a mark's sign is a mark; a word's sign is a name -/
def mk (t:Lx.Tok) (s:List Nat):Bool:=decide (t.kind=5) && decide (t.text=s)
def nm (t:Lx.Tok) (s:List Nat):Bool:=decide (t.kind=1) && decide (t.text=s)
end Go.Proofs.YtppigckioalhhaaGreatDoorR.Sy
