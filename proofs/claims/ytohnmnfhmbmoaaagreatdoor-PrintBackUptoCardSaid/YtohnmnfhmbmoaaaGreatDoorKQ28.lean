/- THE TEXTS MERGED: TyBare PrWt PrBase PrFn. -/
import Derived.Test.YtohnmnfhmbmoaaaGreatDoorKQ1
import Derived.Test.YtohnmnfhmbmoaaaGreatDoorKQ26
import Derived.Test.YtohnmnfhmbmoaaaGreatDoorKQ27
import Derived.Test.YtohnmnfhmbmoaaaGreatDoorKQ5
import Derived.Test.YtohnmnfhmbmoaaaGreatDoorKQ3
import Derived.Test.YtohnmnfhmbmoaaaGreatDoorKQ2
import Derived.Test.YtohnmnfhmbmoaaaGreatDoorRows
import Derived.WalkKit
import Derived.Lib.Hide
import Derived.Test.YtohnmnfhmbmoaaaGreatDoorKQ7
namespace Go.Proofs.YtohnmnfhmbmoaaaGreatDoor
open Go.RowKit
set_option linter.unusedVariables false
set_option linter.unusedSimpArgs false
set_option maxRecDepth 100000
/-- what Bare leaves -/
def RBare (p:Pr.Prog) (w:World) (e:Ending) (w':World):Prop:=∃ (a1:Option Addr) (c1:Nat) (a2:Option Addr) (c2:Nat),e=.returned (.agg #[.slice a1 p.rels.length c1,.slice a2 p.rules.length c2])/\PgB (fun k=>w.heap.size<=k) w' (Sy.bareP p) (.agg #[.slice a1 p.rels.length c1,.slice a2 p.rules.length c2])/\Mod [] w w'
theorem map_set_same {α β:Type} {f:α->β} {l:List α} {i:Nat} (h:i<l.length) {x:α} (hx:f x=f l[i]):(l.set i x).map f=l.map f:=by
 rw [List.map_set,hx,<-List.getElem_map f (h:=by simpa using h),List.set_getElem_self]
theorem bareU_idem (x:Pr.Rul):Sy.bareU (Sy.bareU x)=Sy.bareU x:=by
 simp only [Sy.bareU,List.map_map]
 congr 1
 apply List.map_congr_left
 intro y _
 exact bareL_idem y
theorem potKeep {w0 W W':World} {rels:List RelU} {rus:List RulU} {va:Option Addr} {vc:Nat} {ua:Option Addr} {uc:Nat} (h:POT w0 W rels rus va vc ua uc) (hm:Mod [] W W'):POT w0 W' rels rus va vc ua uc:=h.keep hm
section
variable {w0 W:World} {rels:List RelU} {rus:List RulU} {va:Option Addr} {vc:Nat} {ua:Option Addr} {uc:Nat}
theorem POT.relAt (h:POT w0 W rels rus va vc ua uc) (i:Nat) (hi:i<rels.length):∃ g,va=some ⟨g,0,none⟩/\CellsAt W g (i * 4) (csR rels[i])/\(∀ j,W.frozen? ⟨g,j,none⟩=false)/\w0.heap.size<=g/\g<W.heap.size:=by
 obtain ⟨b,off,hb,hc⟩:=(RowB.of_owns (F:=fun _=>True) csR_size h.rowR (fun _ _=>trivial)).at i hi
 obtain ⟨rfl,hT⟩:=TyAt.owns h.rowR hb
 subst hb
 refine ⟨b,rfl,by rw [Nat.zero_add] at hc;exact hc,fun j=>?_,h.newR b (by simp [fp]),hT.lt⟩
 obtain ⟨C,hC⟩:=hT
 exact free_at hC j
theorem POT.rulAt (h:POT w0 W rels rus va vc ua uc) (i:Nat) (hi:i<rus.length):∃ g,ua=some ⟨g,0,none⟩/\CellsAt W g (i * 5) (csU rus[i])/\(∀ j,W.frozen? ⟨g,j,none⟩=false)/\w0.heap.size<=g/\g<W.heap.size:=by
 obtain ⟨b,off,hb,hc⟩:=(RowB.of_owns (F:=fun _=>True) csU_size h.rowU (fun _ _=>trivial)).at i hi
 obtain ⟨rfl,hT⟩:=TyAt.owns h.rowU hb
 subst hb
 refine ⟨b,rfl,by rw [Nat.zero_add] at hc;exact hc,fun j=>?_,h.newU b (by simp [fp]),hT.lt⟩
 obtain ⟨C,hC⟩:=hT
 exact free_at hC j
end
set_option maxHeartbeats 8000000 in
theorem rbare_any {F:Nat->Prop} (p:Pr.Prog) (hM:PgM p) (u:Value) (w:World) (h:PgB F w p u) :
  Calls Tryz.prog 13 #[u] w (RBare p w):=by
 obtain ⟨a1,c1,b1,d1,rfl⟩:=h.lit
 have HMM:=Lib.hid hM
 have H1:=Lib.hid h
 have hrl:=hM.rels
 have hul:=hM.rules
 clear h hM
 have mA:=((Mod.refl [] w).alloc (Obj.cells #[.slice a1 p.rels.length c1,.slice b1 p.rules.length d1] 25)).alloc (Obj.cells #[.slice none 0 0,.slice none 0 0] 25)
 have eA:=two_a w #[.slice a1 p.rels.length c1,.slice b1 p.rules.length d1] #[.slice none 0 0,.slice none 0 0] 25 25
 have eB:=two_b w #[.slice a1 p.rels.length c1,.slice b1 p.rules.length d1] #[.slice none 0 0,.slice none 0 0] 25 25
 go_enter Tryz.func13,Tryz.ntmps13
 go_upto_region 1 with fail
 generalize (w.alloc (Obj.cells _ 25)).alloc (Obj.cells _ 25)=w0 at *
 have M0:=Lib.hid mA;have E0:=Lib.hid eA;have E1:=Lib.hid eB
 clear mA eA eB
 have x0:=cell_at E0.out 0;have x1:=cell_at E0.out 1
 simp only [List.getElem?_toArray,List.getElem?_cons_zero,List.getElem?_cons_succ] at x0 x1
 go_wp2_with fail
 refine (copyProg_T p HMM.out _ w0 (H1.out.keep M0.out (by simp))).mono ?_
 rintro e1 w1 ⟨rels,rus,va,vc,ua,uc,rfl,hrp,po⟩
 have hl1:rels.length=p.rels.length:=by rw [<-show rels.map (·.1)=p.rels from congrArg Pr.Prog.rels hrp,List.length_map]
 have hl2:rus.length=p.rules.length:=by rw [<-show rus.map (·.1)=p.rules from congrArg Pr.Prog.rules hrp,List.length_map]
 have HRP:=Lib.hid hrp
 have hrl2:rels.length<=134217728:=by omega
 have hul2:rus.length<=134217728:=by omega
 have HL1:=Lib.hid hl1;have HL2:=Lib.hid hl2
 clear hl1 hl2 hrl hul
 have mB:=(Mod.refl [] w1).alloc (Obj.cells #[.slice va rels.length vc,.slice ua rus.length uc] 25)
 have bB:=heap_alloc_new w1 (Obj.cells #[.slice va rels.length vc,.slice ua rus.length uc] 25)
 have P1:=Hxq (potKeep po mB)
 have R1:=Hxq (po.mod.at E1.out (by simp))
 have R2:=Hxq (mB.at R1.out (by simp))
 have hpr:∀ k∈fp (.slice va rels.length vc),k<w1.heap.size:=fun k hk=>fp_lt po.rowR k hk
 have hpu:∀ k∈fp (.slice ua rus.length uc),k<w1.heap.size:=fun k hk=>fp_lt po.rowU k hk
 have HPR:=Lib.hid hpr;have HPU:=Lib.hid hpu
 have hw01:=po.mod.size
 clear x0 x1 hrp po hpr hpu
 go_upto_region 2 with fail
 generalize w1.alloc (Obj.cells _ 25)=wb at *
 have BX:=Lib.hid bB
 clear mB bB
 generalize hpx:w1.heap.size=px at *
 have hb1:=lt_of_block E1.out
 go_wp2_with fail
 go_loopw [4] (fun iv wr=>∃ (i:Nat) (ls:List RelU),iv=.int .i64 (i:Nat)/\i<=rels.length/\ls.length=rels.length/\ls.map (fun x=>Sy.bareR x.1)=rels.map (fun x=>Sy.bareR x.1)/\(∀ j (h:j<ls.length),j<i->Sy.bareR ls[j].1=ls[j].1)/\POT w0 wr ls rus va vc ua uc/\wr.heap[px]?=some (.cells #[.slice va rels.length vc,.slice ua rus.length uc] 25 (0,0))/\wr.heap[w.heap.size+1]?=some (.cells #[.slice none 0 0,.slice none 0 0] 25 (0,0))) (fun iv _=>rels.length - (intOf iv).toNat)
 case atStart=>exact ⟨0,rels,rfl,Nat.zero_le _,rfl,rfl,fun j _ h=>absurd h (by omega),P1.out,BX.out,R2.out⟩
 case round =>
  obtain ⟨i,ls,rfl,hi,hlen,hmap,hfix,hpo,hbx,hrs⟩:=hrel
  have y0:=cell_at hbx 0;have y1:=cell_at hbx 1
  simp only [List.getElem?_toArray,List.getElem?_cons_zero,List.getElem?_cons_succ] at y0 y1
  by_cases hlt:i<rels.length
  ·have hjI:(i:Int)<(rels.length:Int):=by omega
   have hj0:(0:Int)<=(i:Int):=by omega
   have hil:i<ls.length:=by omega
   obtain ⟨g,rfl,hc,fG,hgn,hgl⟩:=hpo.relAt i hil
   have hgx:g≠px:=by have:=HPR.out g (by simp [fp]);omega
   have hsub:=hpo.subR _ (List.getElem_mem hil)
   generalize hz:ls[i]=z at hc hsub
   obtain ⟨⟨nm,tys,ln,cl⟩,t1⟩:=z
   have c2:=hc 2 (.int .i64 ln) rfl;have c3:=hc 3 (.int .i64 cl) rfl
   have P2:=hpo.putR i hil (⟨nm,tys,0,cl⟩,t1) 2 (by omega) (.int .i64 0) (by rw [hz];rfl) hsub
   have m1:Mod [g] wr (wr.setCell ⟨g,i * 4+2,none⟩ (.int .i64 0)):=(Mod.refl [g] wr).setCell (p:=⟨g,i * 4+2,none⟩) (.inl (by simp)) _
   have hil2:i<(ls.set i ((⟨nm,tys,0,cl⟩,t1):RelU)).length:=by simpa using hil
   have P3:=P2.putR i hil2 (⟨nm,tys,0,0⟩,t1) 3 (by omega) (.int .i64 0) (by rw [List.getElem_set_self];rfl) (by
    rw [List.length_set]
    exact RelT.keep (p:=((⟨nm,tys,0,0⟩,t1):RelU)) hsub m1 (fun s hs hh=>by rw [Msq] at hs;subst hs;exact hh.2.1 (by simp [fp])))
   rw [List.set_set] at P3
   have m2:Mod [g] (wr.setCell ⟨g,i * 4+2,none⟩ (.int .i64 0)) ((wr.setCell ⟨g,i * 4+2,none⟩ (.int .i64 0)).setCell ⟨g,i * 4+3,none⟩ (.int .i64 0)):=(Mod.refl [g] _).setCell (p:=⟨g,i * 4+3,none⟩) (.inl (by simp)) _
   have m12:=m1.trans m2 (by simp)
   have PZ:=Lib.hid P3;have BZ:=Hxq (m12.at hbx (by simp;omega));have RZ:=Hxq (m12.at hrs (by simp;omega))
   have hzz:=Lib.hid hz;have HMQ:=Lib.hid hmap;have HFX:=Lib.hid hfix
   clear P2 P3 m1 m2 m12 hsub hc hz hmap hfix hpo hbx hrs
   go_upto_region 4 with fail
   have hw9:(wr.setCell ⟨g,i * 4+2,none⟩ (.int .i64 0)).setCell ⟨g,i * 4+2+1,none⟩ (.int .i64 0)=(wr.setCell ⟨g,i * 4+2,none⟩ (.int .i64 0)).setCell ⟨g,i * 4+3,none⟩ (.int .i64 0):=rfl
   rw [hw9]
   generalize (wr.setCell ⟨g,i * 4+2,none⟩ (.int .i64 0)).setCell ⟨g,i * 4+3,none⟩ (.int .i64 0)=w8 at *
   clear hw9 y0 y1 c2 c3 fG
   go_wp2_with fail
   go_roundw
   case rel =>
    refine ⟨i+1,ls.set i (⟨nm,tys,0,0⟩,t1),by go_num,by omega,by simpa using hlen,?_,fun j hj hji=>?_,PZ.out,BZ.out,RZ.out⟩
    ·rw [<-HMQ.out]
     exact map_set_same hil (by rw [hzz.out];rfl)
    ·rw [List.length_set] at hj
     rw [List.getElem_set]
     by_cases e:i=j
     ·rw [if_pos e];rfl
     ·rw [if_neg e];exact HFX.out j hj (by omega)
   case measure=>simp [intOf];omega
  ·obtain rfl:i=rels.length:=by omega
   have hjI:¬ (rels.length:Int)<(rels.length:Int):=by omega
   have hls:ls.map (·.1)=(Sy.bareP p).rels:=by
    have e:ls.map (·.1)=ls.map (fun x=>Sy.bareR x.1):=by
     apply List.map_congr_left
     intro x hx
     obtain ⟨j,hj,rfl⟩:=List.mem_iff_getElem.1 hx
     exact (hfix j hj (by omega)).symm
    rw [e,hmap]
    show _=p.rels.map Sy.bareR
    rw [<-show rels.map (·.1)=p.rels from congrArg Pr.Prog.rels HRP.out,List.map_map]
    rfl
   have HLS:=Lib.hid hls
   have HLSL:Hid (ls.length=rels.length):=Lib.hid hlen
   have PO1:=Lib.hid hpo;have BX1:=Lib.hid hbx;have RS1:=Lib.hid hrs
   clear hls hpo hbx hrs hmap hfix hlen
   go_wp2_with fail
   clear y0 y1
   have hbig:∀ j (h:j<rus.length),(rus[j].1.body.length<=134217728/\liMs rus[j].1.body<=134217728):=fun j h=>by
    have e:rus[j].1∈p.rules:=by
     rw [<-show rus.map (·.1)=p.rules from congrArg Pr.Prog.rules HRP.out]
     exact List.mem_map.2 ⟨_,List.getElem_mem h,rfl⟩
    exact ⟨HMM.out.body _ e,HMM.out.deep _ e⟩
   have HBG:=Lib.hid hbig
   clear hbig
   go_loopw [5] (fun iv wr=>∃ (i:Nat) (us:List RulU),iv=.int .i64 (i:Nat)/\i<=rus.length/\us.length=rus.length/\us.map (fun x=>Sy.bareU x.1)=rus.map (fun x=>Sy.bareU x.1)/\(∀ j (h:j<us.length),j<i->Sy.bareU us[j].1=us[j].1)/\POT w0 wr ls us va vc ua uc/\wr.heap[px]?=some (.cells #[.slice va rels.length vc,.slice ua rus.length uc] 25 (0,0))/\wr.heap[w.heap.size+1]?=some (.cells #[.slice none 0 0,.slice none 0 0] 25 (0,0))) (fun iv _=>rus.length - (intOf iv).toNat)
   case atStart=>exact ⟨0,rus,rfl,Nat.zero_le _,rfl,rfl,fun j _ h=>absurd h (by omega),PO1.out,BX1.out,RS1.out⟩
   case round =>
    obtain ⟨i,us,rfl,hi2,hlen,hmap,hfix,hpo,hbx,hrs⟩:=hrel
    have y0:=cell_at hbx 0;have y1:=cell_at hbx 1
    simp only [List.getElem?_toArray,List.getElem?_cons_zero,List.getElem?_cons_succ] at y0 y1
    by_cases hlt:i<rus.length
    ·have hjI:(i:Int)<(rus.length:Int):=by omega
     have hj0:(0:Int)<=(i:Int):=by omega
     have hil:i<us.length:=by omega
     obtain ⟨g,rfl,hc,fG,hgn,hgl⟩:=hpo.rulAt i hil
     have hgx:g≠px:=by have:=HPU.out g (by simp [fp]);omega
     have hsub:=hpo.subU _ (List.getElem_mem hil)
     have hbi:us[i].1.body.length<=134217728/\liMs us[i].1.body<=134217728:=by
      have e:=congrArg (fun l=>l[i]?) hmap
      simp only [List.getElem?_map,List.getElem?_eq_getElem hil,List.getElem?_eq_getElem hlt,Option.map_some,Option.some.injEq,Sy.bareU,Pr.Rul.mk.injEq] at e
      have e2:=congrArg List.length e.2.1
      have e3:=congrArg liMs e.2.1
      simp only [List.length_map] at e2
      rw [Sy.liMs_bareL,Sy.liMs_bareL] at e3
      obtain ⟨q1,q2⟩:=HBG.out i hlt
      omega
     generalize hz:us[i]=z at hc hsub hbi
     obtain ⟨⟨hd,body,ln,cl⟩,t1,b2⟩:=z
     have c3:=hc 3 (.int .i64 ln) rfl;have c4:=hc 4 (.int .i64 cl) rfl
     have P2:=hpo.putU i hil (⟨hd,body,0,cl⟩,t1,b2) 3 (by omega) (.int .i64 0) (by rw [hz];rfl) hsub
     have m1:Mod [g] wr (wr.setCell ⟨g,i * 5+3,none⟩ (.int .i64 0)):=(Mod.refl [g] wr).setCell (p:=⟨g,i * 5+3,none⟩) (.inl (by simp)) _
     have hil2:i<(us.set i ((⟨hd,body,0,cl⟩,t1,b2):RulU)).length:=by simpa using hil
     have P3:=P2.putU i hil2 (⟨hd,body,0,0⟩,t1,b2) 4 (by omega) (.int .i64 0) (by rw [List.getElem_set_self];rfl) (by
      rw [List.length_set]
      exact RulT.keep (p:=((⟨hd,body,0,0⟩,t1,b2):RulU)) hsub m1 (fun s hs hh=>by rw [Msq] at hs;subst hs;exact hh.2.2 (by simp [fp])))
     rw [List.set_set] at P3
     have m2:Mod [g] (wr.setCell ⟨g,i * 5+3,none⟩ (.int .i64 0)) ((wr.setCell ⟨g,i * 5+3,none⟩ (.int .i64 0)).setCell ⟨g,i * 5+4,none⟩ (.int .i64 0)):=(Mod.refl [g] _).setCell (p:=⟨g,i * 5+4,none⟩) (.inl (by simp)) _
     have m12:=m1.trans m2 (by simp)
     have PZ:=Lib.hid P3;have BZ:=Hxq (m12.at hbx (by simp;omega));have RZ:=Hxq (m12.at hrs (by simp;omega))
     have hzz:=Lib.hid hz;have HMQ:=Lib.hid hmap;have HFX:=Lib.hid hfix
     clear P2 P3 m1 m2 m12 hsub hc hz hmap hfix hpo hbx hrs
     go_upto_region 10 with fail
     have hw9:(wr.setCell ⟨g,i * 5+3,none⟩ (.int .i64 0)).setCell ⟨g,i * 5+3+1,none⟩ (.int .i64 0)=(wr.setCell ⟨g,i * 5+3,none⟩ (.int .i64 0)).setCell ⟨g,i * 5+4,none⟩ (.int .i64 0):=rfl
     rw [hw9]
     generalize (wr.setCell ⟨g,i * 5+3,none⟩ (.int .i64 0)).setCell ⟨g,i * 5+4,none⟩ (.int .i64 0)=w8 at *
     clear hw9 y0 y1 c3 c4 fG
     have y1:=cell_at BZ.out 1
     simp only [List.getElem?_toArray,List.getElem?_cons_zero,List.getElem?_cons_succ] at y1
     have hil3:i<(us.set i ((⟨hd,body,0,0⟩,t1,b2):RulU)).length:=by simpa using hil
     obtain ⟨g',hg',hc8,-,-,-⟩:=PZ.out.rulAt i hil3
     simp only [Option.some.injEq,Addr.mk.injEq,and_true] at hg'
     subst hg'
     have hs8:=PZ.out.subU _ (List.getElem_mem hil3)
     rw [List.getElem_set_self] at hc8 hs8
     obtain ⟨ba2,bc2,hb2⟩:=hs8.2.lit
     dsimp only at hb2
     subst hb2
     have c2:=hc8 2 (.slice ba2 body.length bc2) rfl
     have HSB:=Lib.hid hs8.2
     clear hc8 hs8
     go_wp2_with fail
     refine (src_all _ body (Nat.lt_succ_self _) hbi.1 hbi.2 w0.heap.size _ _ w8 (fun k hk=>hk.1) HSB.out).mono ?_
     rintro e5 w9 ⟨rfl,hz9,hb9⟩
     obtain ⟨us2,hl9,hP9,po9⟩:=PZ.out.zd hz9 (Nat.le_refl _)
     have PY:=Lib.hid po9
     have hw0x:w0.heap.size<=px:=by omega
     have BY:=Hxq (hz9.ne (by decide) BZ.out);have RY:=Hxq (hz9.ne (by decide) RZ.out)
     have hi9:i<us2.length:=by rw [hl9];exact hil3
     have HP9:=Lib.hid hP9;have HB9:=Lib.hid hb9
     clear po9 hz9 hb9 hP9 c2 y1 HSB BZ RZ PZ
     go_wp2_with fail
     go_roundw
     case rel =>
      have hset:∀ j (h:j<us2.length),Pu ((us.set i ((⟨hd,body,0,0⟩,t1,.slice ba2 body.length bc2):RulU))[j]'(by rw [<-hl9];exact h)) us2[j]:=fun j h=>HP9.out j (by rw [<-hl9];exact h) h
      refine ⟨i+1,us2,by go_num,by omega,by rw [hl9];simpa using hlen,?_,fun j hj hji=>?_,PY.out,BY.out,RY.out⟩
      ·rw [<-HMQ.out,map_ext hl9 (fun j a b=>(HP9.out j a b).bare)]
       exact map_set_same hil (by rw [hzz.out];rfl)
      ·have hPj:=hset j hj
       by_cases e:i=j
       ·subst e
        rw [List.getElem_set_self] at hPj
        have hsy:=PY.out.subU _ (List.getElem_mem hj)
        generalize us2[i]=y at hPj hsy
        obtain ⟨⟨hd2,body2,ln2,cl2⟩,t2,b3⟩:=y
        obtain ⟨e1,e2,e3,e4,e5,e6⟩:=hPj
        dsimp only at e1 e2 e3 e4 e5 e6 hsy
        simp only [Prod.mk.injEq] at e1
        obtain ⟨rfl,rfl⟩:=e1
        subst e2;subst e3;subst e4
        have hbb:=hsy.2.uniq HB9.out (by
         rw [List.map_map]
         have q:body2.map Sy.bareL=body.map Sy.bareL:=map_ext e5 (fun i a b=>(e6 i a b).bare)
         dsimp only
         rw [q]
         apply List.map_congr_left
         intro x _
         exact (bareL_idem x).symm)
        dsimp only at hbb
        subst hbb
        exact bareU_idem ⟨hd2,body,0,0⟩
       ·rw [List.getElem_set_ne e] at hPj
        have hju:j<us.length:=by rw [hl9,List.length_set] at hj;exact hj
        have hf:=HFX.out j hju (by omega)
        generalize us[j]=x at hPj hf
        generalize us2[j]=y at hPj
        obtain ⟨⟨hd1,body1,ln1,cl1⟩,t1',b1'⟩:=x
        obtain ⟨⟨hd2,body2,ln2,cl2⟩,t2,b3⟩:=y
        obtain ⟨e1,e2,e3,e4,e5,e6⟩:=hPj
        dsimp only at e1 e2 e3 e4 e5 e6 hf
        subst e2;subst e3;subst e4
        simp only [Sy.bareU,Pr.Rul.mk.injEq,true_and] at hf
        have hbb:body2=body1:=List.ext_getElem e5 (fun i g1 g2=>(e6 i g2 g1).fix (by
         have q:=congrArg (fun l=>l[i]?) hf.1
         simp only [List.getElem?_map,List.getElem?_eq_getElem g2,Option.map_some,Option.some.injEq] at q
         exact q))
        subst hbb
        simp only [Sy.bareU,Pr.Rul.mk.injEq,true_and]
        exact hf
     case measure=>simp [intOf];omega
    ·obtain rfl:i=rus.length:=by omega
     have hjI:¬ (rus.length:Int)<(rus.length:Int):=by omega
     have hus:us.map (·.1)=(Sy.bareP p).rules:=by
      have e:us.map (·.1)=us.map (fun x=>Sy.bareU x.1):=by
       apply List.map_congr_left
       intro x hx
       obtain ⟨j,hj,rfl⟩:=List.mem_iff_getElem.1 hx
       exact (hfix j hj (by omega)).symm
      rw [e,hmap]
      show _=p.rules.map Sy.bareU
      rw [<-show rus.map (·.1)=p.rules from congrArg Pr.Prog.rules HRP.out,List.map_map]
      rfl
     have z0:=cell_at hrs 0;have z1:=cell_at hrs 1
     simp only [List.getElem?_toArray,List.getElem?_cons_zero,List.getElem?_cons_succ] at z0 z1
     have fA:∀ j,wr.frozen? ⟨w.heap.size+1,j,none⟩=false:=fun j=>free_at hrs j
     have HUS:=Lib.hid hus
     have PO2:=Lib.hid hpo;have RS2:=Lib.hid hrs;have BX2:=Lib.hid hbx
     clear hus hpo hrs hbx hmap hfix
     go_wp2_with fail
     have mR:=setCs_mod (w.heap.size+1) [.slice va rels.length vc,.slice ua rus.length uc] 0 wr
     refine bodyPost_ret (results_cell_row rfl _ _ _ _ _ _ _ rfl (setCs_row (vs:=[.slice va rels.length vc,.slice ua rus.length uc]) RS2.out rfl) Tryz.underlying25 rfl (by kernel_rfl)) rfl ⟨va,vc,ua,uc,?_,?_,?_⟩
     ·rw [<-HL1.out,<-HL2.out]
     ·have hp:=PO2.out.prog
      rw [HLS.out,HUS.out,hlen,HLSL.out,HL1.out,HL2.out] at hp
      have hz:=M0.out.size
      exact (hp.keep mR (fun s hs hh=>by rw [Msq] at hs;omega)).mono (fun k hk _=>by omega)
     ·exact (M0.out.trans (S:=[]) PO2.out.mod (by simp)).trans mR (fun s hs=>.inr (by rw [Msq] at hs;omega))
set_option linter.unusedVariables false
mutual
def exWt:Pr.Ex->Nat
 | .mk _ v _ _ args=>v.size+300+exWts args
def exWts:List Pr.Ex->Nat
 | []=>0
 | e :: r=>exWt e+exWts r
end
def tsWt (ts:List Pr.Term):Nat:=(ts.map fun t=>t.v.size+300).sum
def aWt (a:Pr.Atom):Nat:=a.rel.size+300+tsWt a.terms
mutual
def lWt:Pr.Li->Nat
 | .mk k a op l r fn av of body ln cl=>aWt a+exWt l+exWt r+exWt of+av.size+1000+lsWt body
def lsWt:List Pr.Li->Nat
 | []=>0
 | e :: r=>lWt e+lsWt r
end
def rWt (r:Pr.Rul):Nat:=aWt r.head+lsWt r.body+10
def dWt (x:Pr.Rel):Nat:=x.name.size+30+10 * x.types.length
def dsWt (l:List Pr.Rel):Nat:=(l.map fun x=>dWt x+2).sum
def rsWt (l:List Pr.Rul):Nat:=(l.map fun x=>rWt x+2).sum
open Go.RowKit
set_option linter.unusedVariables false
set_option linter.unusedSimpArgs false
set_option maxRecDepth 100000
theorem byteCells_str (s:ByteArray):byteCells s=toCells (Cod.str s):=by
 simp [byteCells,toCells,Cod.str,List.map_map,Function.comp_def]
def nrest (c:Int):Bool:=!restI c
theorem word1_any (c:Int) (w:World) :
  Calls Tryz.prog 114 #[.int .i32 c] w fun e w'=>e=.returned (.bool (nrest c))/\w=w':=by
 unfold nrest restI smallI capitalI digitI
 rcases Int.lt_or_le c 97 with h1 | h1
 ·rcases Int.lt_or_le c 65 with h2 | h2
  ·rcases Int.lt_or_le c 48 with h3 | h3
   ·go_enter Tryz.func114,Tryz.ntmps114
    go_wp2
    all_goals go_ret
    all_goals exact ⟨ret_bool (by rw [Bool.eq_iff_iff];simp <;> omega),rfl⟩
   ·go_enter Tryz.func114,Tryz.ntmps114
    go_wp2
    all_goals go_ret
    all_goals exact ⟨ret_bool (by rw [Bool.eq_iff_iff];simp <;> omega),rfl⟩
  ·rcases Int.lt_or_le 90 c with h3 | h3
   ·go_enter Tryz.func114,Tryz.ntmps114
    go_wp2
    all_goals go_ret
    all_goals exact ⟨ret_bool (by rw [Bool.eq_iff_iff];simp <;> omega),rfl⟩
   ·go_enter Tryz.func114,Tryz.ntmps114
    go_wp2
    all_goals go_ret
    all_goals exact ⟨ret_bool (by rw [Bool.eq_iff_iff];simp <;> omega),rfl⟩
 ·rcases Int.lt_or_le 122 c with h3 | h3
  ·go_enter Tryz.func114,Tryz.ntmps114
   go_wp2
   all_goals go_ret
   all_goals exact ⟨ret_bool (by rw [Bool.eq_iff_iff];simp <;> omega),rfl⟩
  ·go_enter Tryz.func114,Tryz.ntmps114
   go_wp2
   all_goals go_ret
   all_goals exact ⟨ret_bool (by rw [Bool.eq_iff_iff];simp <;> omega),rfl⟩
/-- where a text leaves a kind first -/
def idx (l:List Nat):Int:=if Lx.run Lx.goes l=l.length then -1 else (Lx.run Lx.goes l:Nat)
set_option maxHeartbeats 1000000 in
theorem indexFunc_any (s:ByteArray) (hs:s.size<=9223372036854775807) (w:World) :
  Calls Tryz.prog 161 #[.string s,.func (.func 114) #[] #[],.bool true] w fun e w'=>e=.returned (.int .i64 (idx (Cod.str s)))/\Mod [] w w':=by
 have he:=enter_of Tryz.func114 (by kernel_rfl) rfl
 have hrl:=Lx.run_le Lx.goes (Cod.str s)
 have hlen:=Cod.str_len s
 rw [hlen] at hrl
 go_enter Tryz.func161,Tryz.ntmps161
 go_wp2_with fail
 go_loopw [] (fun w'=>∃ pos:Nat,pos<=Lx.run Lx.goes (Cod.str s)/\w'=w.iter s pos) (fun w'=>s.size - w'.iterPos w.heap.size)
 case atStart=>exact ⟨0,Nat.zero_le _,rfl⟩
 case round =>
  obtain ⟨pos,hr,rfl⟩:=hrel
  by_cases hp:pos<s.size
  ·have hnx:∀ ty,(Instr.next (.pointer (some ⟨w.heap.size,0,none⟩)) true ty).run Tryz.prog (w.iter s pos)=_:=fun ty=>run_next_any w s pos ty hp
   cases hd:restI ((Utf8.decode s pos).1:Int)
   ·have hst:=alike_rest.stop s pos hp hr hd
    have hix:idx (Cod.str s)=(pos:Nat):=by unfold idx;rw [hst,if_neg (by rw [hlen];omega)]
    have hnr:nrest ((Utf8.decode s pos).1:Int)=true:=by unfold nrest;rw [hd];rfl
    have HX:=Lib.hid hix;have HN:=Lib.hid hnr
    clear hd hst hix hnr
    go_wp2_with fail
    refine (word1_any _ _).mono ?_
    rintro e w2 ⟨rfl,rfl⟩
    rw [HN.out]
    go_wp2_with fail
    go_ret
    exact ⟨by rw [HX.out];rfl,mod_iter _ _ _⟩
   ·have hst:=alike_rest.step s pos hp hr hd
    have hnr:nrest ((Utf8.decode s pos).1:Int)=false:=by unfold nrest;rw [hd];rfl
    have HN:=Lib.hid hnr
    clear hd hnr
    go_wp2_with fail
    refine (word1_any _ _).mono ?_
    rintro e w2 ⟨rfl,rfl⟩
    rw [HN.out]
    go_wp2_with fail
    go_roundw
    case rel=>exact ⟨_,hst.1,rfl⟩
    case measure =>
     simp
     omega
  ·have hnx:∀ ty,(Instr.next (.pointer (some ⟨w.heap.size,0,none⟩)) true ty).run Tryz.prog (w.iter s pos)=_:=fun ty=>run_next_end w s pos ty hp
   have hix:idx (Cod.str s)=-1:=by unfold idx;rw [if_pos (by rw [hlen];omega)]
   have HX:=Lib.hid hix
   clear hix
   go_wp2_with fail
   go_ret
   exact ⟨by rw [HX.out];rfl,mod_iter _ _ _⟩
theorem contains_any (s:ByteArray) (hs:s.size<=9223372036854775807) (w:World) :
  Calls Tryz.prog 113 #[.string s,.func (.func 114) #[] #[]] w fun e w'=>e=.returned (.bool (!decide (Lx.run Lx.goes (Cod.str s)=(Cod.str s).length)))/\Mod [] w w':=by
 have h1:=fun w=>indexFunc_any s hs w
 have hix:(idx (Cod.str s)=-1/\Lx.run Lx.goes (Cod.str s)=(Cod.str s).length)\/(0<=idx (Cod.str s)/\Lx.run Lx.goes (Cod.str s)≠(Cod.str s).length):=by
  unfold idx
  by_cases h:Lx.run Lx.goes (Cod.str s)=(Cod.str s).length
  ·exact .inl ⟨if_pos h,h⟩
  ·rw [if_neg h];exact .inr ⟨by omega,h⟩
 generalize idx (Cod.str s)=k at *
 rcases hix with ⟨rfl,hr⟩ | ⟨hk,hr⟩
 ·rw [decide_eq_true hr]
  have H1:=Lib.hid h1
  clear h1 hr
  go_enter Tryz.func113,Tryz.ntmps113
  go_wp2_with (go_at_call 140;go_enter Tryz.func140,Tryz.ntmps140;go_wp2_with fail;refine (H1.out _).mono ?_;rintro e w' ⟨rfl,hm⟩;go_wp2_with fail;go_ret)
  all_goals (go_ret;exact ⟨rfl,hm⟩)
 ·rw [decide_eq_false hr]
  have H1:=Lib.hid h1
  clear h1 hr
  go_enter Tryz.func113,Tryz.ntmps113
  go_wp2_with (go_at_call 140;go_enter Tryz.func140,Tryz.ntmps140;go_wp2_with fail;refine (H1.out _).mono ?_;rintro e w' ⟨rfl,hm⟩;go_wp2_with fail;go_ret)
  all_goals (go_ret;exact ⟨rfl,hm⟩)
/-- a word whose first byte lies between two -/
theorem word_anyP (s:ByteArray) (hs:s.size<=9223372036854775807) (lo hi:Nat) (p:Nat->Bool) (hp:∀ c,p c=(decide (lo<=c) && decide (c<=hi))) (w:World) :
  Calls Tryz.prog 85 #[.string s,.int .u8 (lo:Nat),.int .u8 (hi:Nat)] w fun e w'=>e=.returned (.bool (Va.wordB p (Cod.str s)))/\Mod [] w w':=by
 have h1:=fun w=>contains_any s hs w
 have hlen:=Cod.str_len s
 have hem:s.toList.isEmpty=decide (s.size=0):=toList_isEmpty s
 by_cases h0:s.size=0
 ·have e:Va.wordB p (Cod.str s)=false:=by
   unfold Va.wordB
   have:Cod.str s=[]:=List.eq_nil_of_length_eq_zero (by omega)
   rw [this];rfl
  have hem2:s.toList.isEmpty=true:=by rw [hem,decide_eq_true h0]
  have E:=Lib.hid e
  clear e h1 hlen hem h0
  go_enter Tryz.func85,Tryz.ntmps85
  go_wp2_with fail
  go_ret
  exact ⟨by rw [E.out];rfl,Mod.refl _ _⟩
 ·have hem2:s.toList.isEmpty=false:=by rw [hem,decide_eq_false h0]
  have hne:Cod.str s≠[]:=fun h=>by rw [h] at hlen;simp at hlen;omega
  by_cases h32:s.size<=32
  ·have h32I:¬ (32:Int)<(s.size:Int):=by omega
   have hhd:s[0].toNat=(Cod.str s).headD 0:=by
    have:=Lx.get_str s 0 (by omega)
    rw [<-this]
    cases Cod.str s <;> rfl
   have hh0:(0:Int)<(s.size:Int):=by omega
   have hpc:=hp ((Cod.str s).headD 0)
   have e:Va.wordB p (Cod.str s)=(p ((Cod.str s).headD 0) && decide (Lx.run Lx.goes (Cod.str s)=(Cod.str s).length)):=by
    unfold Va.wordB
    rw [decide_eq_true hne,decide_eq_true (by omega)]
    simp
   rw [e]
   clear e
   generalize hrun:decide (Lx.run Lx.goes (Cod.str s)=(Cod.str s).length)=rb at *
   generalize (Cod.str s).headD 0=c at *
   have H1:=Lib.hid h1
   clear h1 hem hne hrun
   by_cases hl:lo<=c
   ·have n1:¬ ((s[0].toNat:Int)<(lo:Int)):=by omega
    by_cases hh:c<=hi
    ·have n2:¬ ((hi:Int)<(s[0].toNat:Int)):=by omega
     have hpt:p c=true:=by rw [hpc,decide_eq_true hl,decide_eq_true hh];rfl
     rw [hpt]
     clear hpc hpt hl hh hhd
     go_enter Tryz.func85,Tryz.ntmps85
     go_wp2_with fail
     refine (H1.out _).mono ?_
     rintro e w1 ⟨rfl,hm⟩
     go_wp2_with fail
     go_ret
     exact ⟨by simp,hm⟩
    ·have n2:((hi:Int)<(s[0].toNat:Int)):=by omega
     have hpt:p c=false:=by rw [hpc,decide_eq_false hh];simp
     rw [hpt]
     clear hpc hpt hl hh hhd
     go_enter Tryz.func85,Tryz.ntmps85
     go_wp2_with fail
     go_ret
     exact ⟨rfl,Mod.refl _ _⟩
   ·have n1:((s[0].toNat:Int)<(lo:Int)):=by omega
    have hpt:p c=false:=by rw [hpc,decide_eq_false hl];simp
    rw [hpt]
    clear hpc hpt hl hhd
    go_enter Tryz.func85,Tryz.ntmps85
    go_wp2_with fail
    go_ret
    exact ⟨rfl,Mod.refl _ _⟩
  ·have h32I:(32:Int)<(s.size:Int):=by omega
   have e:Va.wordB p (Cod.str s)=false:=by
    unfold Va.wordB
    rw [decide_eq_false (p:=(Cod.str s).length<=32) (by omega)]
    simp
   have E:=Lib.hid e
   clear e h1 hlen hem h0 hne h32
   go_enter Tryz.func85,Tryz.ntmps85
   go_wp2_with fail
   go_ret
   exact ⟨by rw [E.out];rfl,Mod.refl _ _⟩
def resW8:List (List UInt8):=[[114,101,108,97,116,105,111,110],[110,111,116],[110,117,109],[115,121,109],[109,111,100],[99,111,117,110,116],[115,117,109],[109,105,110],[109,97,120]]
theorem res_str (s:ByteArray):Va.resW.contains (Cod.str s)=resW8.contains s.toList:=by
 have h1:Va.resW=resW8.map (fun l=>l.map UInt8.toNat):=rfl
 have h2:Cod.str s=s.toList.map UInt8.toNat:=by rw [ByteArray.toList_eq];rfl
 rw [h1,h2,Bool.eq_iff_iff,List.contains_iff_mem,List.contains_iff_mem,List.mem_map]
 constructor
 ·rintro ⟨a,ha,he⟩
  have:a=s.toList:=by
   have:=congrArg (fun l=>l.map UInt8.ofNat) he
   simp only [Va.map_back] at this
   exact this
  exact this ▸ ha
 ·exact fun h=>⟨_,h,rfl⟩
set_option maxHeartbeats 1000000 in
theorem Name_any (s:ByteArray) (hs:s.size<=9223372036854775807) (w:World) :
  Calls Tryz.prog 53 #[.string s] w fun e w'=>e=.returned (.bool (Va.name (Cod.str s)))/\Mod [] w w':=by
 have h1:=fun w=>word_anyP s hs 97 122 Lx.small (fun c=>rfl) w
 have hn:Va.name (Cod.str s)=(!resW8.contains s.toList && Va.wordB Lx.small (Cod.str s)):=by unfold Va.name;rw [res_str]
 rw [hn]
 generalize Va.wordB Lx.small (Cod.str s)=b at *
 have H1:=Lib.hid h1
 clear h1 hn
 go_enter Tryz.func53,Tryz.ntmps53
 go_wp2_with (go_at_call 85;refine (H1.out _).mono ?_;rintro e w' ⟨rfl,hm⟩)
 all_goals (first | (exfalso;simp_all;done) | (go_ret;exact ⟨by congr 1;simp_all [resW8],by first | assumption | exact Mod.refl _ _⟩))
theorem Variable_any (s:ByteArray) (hs:s.size<=9223372036854775807) (w:World) :
  Calls Tryz.prog 63 #[.string s] w fun e w'=>e=.returned (.bool (Va.variable_ (Cod.str s)))/\Mod [] w w':=by
 have h1:=fun w=>word_anyP s hs 65 90 Lx.capital (fun c=>rfl) w
 have H1:=Lib.hid h1
 clear h1
 go_enter Tryz.func63,Tryz.ntmps63
 go_wp2_with fail
 refine (H1.out _).mono ?_
 rintro e w' ⟨rfl,hm⟩
 go_wp2_with fail
 go_ret
 exact ⟨rfl,hm⟩
def chk (v:Va.Val):Int:=if Va.may v then 0 else 20
theorem check_any (v:Va.Val) (w:World) :
  Calls Tryz.prog 128 #[.agg (valV v)] w fun e w'=>e=.returned (.int .i64 (chk v))/\Mod [] w w':=by
 obtain ⟨k,n,s⟩:=v
 unfold valV
 have hsz:=ofS_size s
 have hem:(Lx.ofS s).toList.isEmpty=decide (s=[]):=by
  rw [toList_isEmpty,hsz]
  cases s <;> simp
 by_cases k1:k=1
 ·subst k1
  by_cases hs:s=[]
  ·have e1:(Lx.ofS s).toList.isEmpty=true:=by rw [hem,decide_eq_true hs]
   by_cases h1:-2147483647<=n
   ·by_cases h2:n<=2147483647
    ·have e:chk ⟨1,n,s⟩=0:=by unfold chk Va.may;rw [if_pos];simp [hs,h1,h2]
     have E:=Lib.hid e
     clear hem hs hsz e
     go_enter Tryz.func128,Tryz.ntmps128
     go_wp2_with fail
     go_ret
     exact ⟨by rw [E.out];rfl,(Mod.refl [] w).alloc _⟩
    ·have e:chk ⟨1,n,s⟩=20:=by unfold chk Va.may;rw [if_neg];simp [hs,h1,h2]
     have E:=Lib.hid e
     clear hem hs hsz e
     go_enter Tryz.func128,Tryz.ntmps128
     go_wp2_with fail
     go_ret
     exact ⟨by rw [E.out];rfl,(Mod.refl [] w).alloc _⟩
   ·have e:chk ⟨1,n,s⟩=20:=by unfold chk Va.may;rw [if_neg];simp [hs,h1]
    have E:=Lib.hid e
    clear hem hs hsz e
    go_enter Tryz.func128,Tryz.ntmps128
    go_wp2_with fail
    go_ret
    exact ⟨by rw [E.out];rfl,(Mod.refl [] w).alloc _⟩
  ·have e1:(Lx.ofS s).toList.isEmpty=false:=by rw [hem,decide_eq_false hs]
   have e:chk ⟨1,n,s⟩=20:=by unfold chk Va.may;rw [if_neg];simp [hs]
   have E:=Lib.hid e
   clear hem hs hsz e
   go_enter Tryz.func128,Tryz.ntmps128
   go_wp2_with fail
   go_ret
   exact ⟨by rw [E.out];rfl,(Mod.refl [] w).alloc _⟩
 ·have k1B:(k == 1)=false:=by rw [beq_eq_false_iff_ne];exact k1
  by_cases k2:k=2
  ·subst k2
   by_cases hn:n=0
   ·subst hn
    by_cases hl:s.length<=64
    ·have e:chk ⟨2,0,s⟩=0:=by unfold chk Va.may;rw [if_pos];simp [hl]
     have e2:((Lx.ofS s).size:Int)<=64:=by omega
     have E:=Lib.hid e
     clear hem hsz e hl
     go_enter Tryz.func128,Tryz.ntmps128
     go_wp2_with fail
     go_ret
     exact ⟨by rw [E.out];rfl,(Mod.refl [] w).alloc _⟩
    ·have e:chk ⟨2,0,s⟩=20:=by unfold chk Va.may;rw [if_neg];simp;omega
     have e2:¬ ((Lx.ofS s).size:Int)<=64:=by omega
     have E:=Lib.hid e
     clear hem hsz e hl
     go_enter Tryz.func128,Tryz.ntmps128
     go_wp2_with fail
     go_ret
     exact ⟨by rw [E.out];rfl,(Mod.refl [] w).alloc _⟩
   ·have nB:(n == 0)=false:=by rw [beq_eq_false_iff_ne];exact hn
    have e:chk ⟨2,n,s⟩=20:=by unfold chk Va.may;rw [if_neg];simp [hn]
    have E:=Lib.hid e
    clear hem hsz e
    go_enter Tryz.func128,Tryz.ntmps128
    go_wp2_with fail
    go_ret
    exact ⟨by rw [E.out];rfl,(Mod.refl [] w).alloc _⟩
  ·have k2B:(k == 2)=false:=by rw [beq_eq_false_iff_ne];exact k2
   have e:chk ⟨k,n,s⟩=20:=by unfold chk Va.may;rw [if_neg];simp [k1,k2]
   have E:=Lib.hid e
   clear hem hsz e
   go_enter Tryz.func128,Tryz.ntmps128
   go_wp2_with fail
   go_ret
   exact ⟨by rw [E.out];rfl,(Mod.refl [] w).alloc _⟩
end Go.Proofs.YtohnmnfhmbmoaaaGreatDoor
