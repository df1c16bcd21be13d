/- THE TEXTS MERGED: TwBare LxJoin LxAlone. -/
import Derived.Test.YtohnmnfhmbmoaaaGreatDoorKG8
import Derived.Test.YtohnmnfhmbmoaaaGreatDoorKG11
namespace Go.Proofs.YtohnmnfhmbmoaaaGreatDoor
open Go.RowKit
set_option linter.unusedVariables false
set_option linter.unusedSimpArgs false
set_option maxRecDepth 100000
set_option maxHeartbeats 16000000 in
theorem pbare_T {F:Nat->Prop} (p:Pr.Prog) (hM:PgM p) (u:Value) (w:World) (h:PgB F w p u) :
  Calls Tryz.prog 10 #[u] w (CpPT (Sy.bareP p) w):=by
 obtain ⟨a1,c1,b1,d1,rfl⟩:=h.lit
 obtain ⟨prels,prules⟩:=p
 obtain ⟨iR,hR0,hR1,hR2,hR3⟩:=info_parts Tryz.infoRel
 obtain ⟨iU,hU0,hU1,hU2,hU3⟩:=info_parts Tryz.infoRul
 have HMM:=Lib.hid hM
 have hl1:=hM.rels
 have hl2:=hM.rules
 dsimp only at *
 have H1:=Hxq (h.mono (G:=fun k=>k<w.heap.size) (fun k _ h=>h))
 clear h hM
 have mA:=((Mod.refl [] w).alloc (Obj.cells #[.slice a1 prels.length c1,.slice b1 prules.length d1] 25)).alloc (Obj.cells #[.slice none 0 0,.slice none 0 0] 25)
 have eA:=two_a w #[.slice a1 prels.length c1,.slice b1 prules.length d1] #[.slice none 0 0,.slice none 0 0] 25 25
 have eB:=two_b w #[.slice a1 prels.length c1,.slice b1 prules.length d1] #[.slice none 0 0,.slice none 0 0] 25 25
 have zA:((w.alloc (Obj.cells #[.slice a1 prels.length c1,.slice b1 prules.length d1] 25)).alloc (Obj.cells #[.slice none 0 0,.slice none 0 0] 25)).heap.size=w.heap.size+2:=by simp
 go_enter Tryz.func10,Tryz.ntmps10
 go_upto_region 1 with fail
 generalize (w.alloc (Obj.cells _ 25)).alloc (Obj.cells _ 25)=w0 at *
 have M0:=Lib.hid mA;have E0:=Lib.hid eA;have E1:=Lib.hid eB
 clear mA eA eB
 have mB:=(Mod.refl [] w0).alloc (Obj.cells #[.slice none 0 0,.slice none 0 0] 25)
 have bB:=heap_alloc_new w0 (Obj.cells #[.slice none 0 0,.slice none 0 0] 25)
 have PB:Hid (PIT w0 w.heap.size w0.heap.size [] [] (w0.alloc (Obj.cells #[.slice none 0 0,.slice none 0 0] 25)) none 0 none 0):=Lib.hid
  ⟨bB,World.ownsRow_nil _ _ _ _,World.ownsRow_nil _ _ _ _,by simp [fp],by simp [fp],by simp [fp],by simp,by simp,Nat.le_refl _,by omega,mB.mono (by simp)⟩
 have EB:=Hxq (mB.at E0.out (by simp))
 clear mB bB
 go_upto_region 2 with fail
 rw [zA] at PB
 generalize hpb:w.heap.size+2=pb at *
 generalize w0.alloc (Obj.cells _ 25)=wB at *
 generalize hb:w.heap.size=b at *
 have e0:=cell_at EB.out 0
 simp only [List.getElem?_toArray,List.getElem?_cons_zero,List.getElem?_cons_succ] at e0
 go_wp2_with fail
 clear e0
 go_loopw [11] (fun iv wr=>∃ (rels:List RelU) (va:Option Addr) (vc:Nat),iv=.int .i64 (rels.length:Nat)/\rels.map (·.1)=(prels.take rels.length).map Sy.bareR/\rels.length<=prels.length/\PIT w0 b pb rels [] wr va vc none 0/\wr.heap[b]?=some (.cells #[.slice a1 prels.length c1,.slice b1 prules.length d1] 25 (0,0))) (fun iv _=>prels.length - (intOf iv).toNat)
 case atStart=>exact ⟨[],none,0,rfl,by simp,by simp,PB.out,EB.out⟩
 case round =>
  obtain ⟨rels,va,vc,rfl,hmap,hle,hP,hbx⟩:=hrel
  have MW:=Hxq ((M0.out.mono (T:=[b]) (by simp)).trans hP.mod (by simp))
  have P0:=Lib.hid hP;have HMP:=Lib.hid hmap;have XB:=Lib.hid hbx
  clear hP hmap hbx
  by_cases hlt:rels.length<prels.length
  ·have hjI:(rels.length:Int)<(prels.length:Int):=by omega
   have hj0:(0:Int)<=(rels.length:Int):=by omega
   obtain ⟨g1,o1,t1,rfl,hc1,ht1⟩:=(H1.out.keep MW.out (by simp)).relAt rels.length hlt
   have hty:=HMM.out.types _ (List.getElem_mem hlt)
   have HY:Hid (prels[rels.length]?=some prels[rels.length]):=Hxq (List.getElem?_eq_getElem hlt)
   dsimp only at hc1 ht1
   generalize prels[rels.length]=y at *
   obtain ⟨nm,tys,ln,cl⟩:=y
   obtain ⟨ya1,yc1,rfl⟩:=ht1.lit
   dsimp only at hty
   have p0:=hc1 0 (.string nm) rfl;have p1:=hc1 1 (.slice ya1 tys.length yc1) rfl;have p2:=hc1 2 (.int .i64 ln) rfl;have p3:=hc1 3 (.int .i64 cl) rfl
   rw [Nat.add_zero] at p0
   have n1:=(Mod.refl [] wr).alloc (Obj.cells #[.string nm,.slice ya1 tys.length yc1,.int .i64 ln,.int .i64 cl] 70)
   have HT:=Hxq (RowB.lat (ht1.keep n1 (by simp)))
   clear hc1 ht1
   go_upto_region 5 with fail
   have x1:=heap_alloc_new wr (Obj.cells #[.string nm,.slice ya1 tys.length yc1,.int .i64 ln,.int .i64 cl] 70)
   have hwa:wr.heap.size<=(wr.alloc (Obj.cells #[.string nm,.slice ya1 tys.length yc1,.int .i64 ln,.int .i64 cl] 70)).heap.size:=n1.size
   generalize wr.alloc (Obj.cells #[.string nm,.slice ya1 tys.length yc1,.int .i64 ln,.int .i64 cl] 70)=wa at *
   have hza:=lt_of_block x1
   have X0:=Lib.hid x1
   have PA:=Hxq (P0.out.keep (n1.mono (by simp)));have XBA:=Hxq (n1.at XB.out (by simp))
   clear x1 p0 p1 p2 p3 n1
   generalize hpx:wr.heap.size=px at *
   have hpxl:wr.heap.size=px:=hpx
   have x0:=cell_at X0.out 0;have x1:=cell_at X0.out 1;have e0:=cell_at PA.out.box 0
   simp only [List.getElem?_toArray,List.getElem?_cons_zero,List.getElem?_cons_succ] at x0 x1 e0
   obtain ⟨T,hT⟩:∃ T:List Nat,T=fp (.slice va rels.length vc):=⟨_,rfl⟩
   have hTn:∀ k∈T,w0.heap.size<=k/\k≠pb/\k<wr.heap.size:=fun k hk=>by rw [hT] at hk;exact ⟨(P0.out.newR k hk).1,(P0.out.newR k hk).2,fp_lt P0.out.rowR k hk⟩
   have hTb:pb∉T:=fun hk=>(hTn pb hk).2.1 rfl
   have hTx:px∉T:=fun hk=>by have:=(hTn px hk).2.2;omega
   have hS:∀ s∈T,¬ s<w.heap.size:=fun s hs hh=>by have:=(hTn s hs).1;have:=M0.out.size;omega
   refine tl_region (fun wS=>Mod T wa wS) [0,2,4,10,11] (by kernel_rfl) ?_
   have hHeld:Mod T wa wa.drew:=(Mod.refl T wa).drew
   have N0:Mod [] wa wa.drew:=(Mod.refl [] wa).drew
   try simp only [Act.put,Lq1,Lq2,Lq3]
   refine TlAny.pure 0 (v:=?_) ?_ ?_ ?_
   rotate_left 1
   ·refine Or.inl ⟨by rfl,?_⟩
    intro wS _
    go_simp
    all_goals with_reducible rfl
   ·exact fun _ _ _ h=>h
   try simp only [Act.put,Lq1,Lq2,Lq3]
   refine TlAny.pure 2 (v:=?_) ?_ ?_ ?_
   rotate_left 1
   ·refine Or.inl ⟨by rfl,?_⟩
    intro wS _
    go_simp
    all_goals with_reducible rfl
   ·exact fun _ _ _ h=>h
   try simp only [Act.put,Lq1,Lq2,Lq3]
   refine TlAny.pure 4 (v:=?_) ?_ ?_ ?_
   rotate_left 1
   ·refine Or.inl ⟨by rfl,?_⟩
    intro wS _
    go_simp
    all_goals with_reducible rfl
   ·exact fun _ _ _ h=>h
   try simp only [Act.put,Lq1,Lq2,Lq3]
   refine TlAny.take 1 (v:=?_) hHeld ?_ ?_ ?_
   rotate_left 1
   ·refine Or.inl ⟨by rfl,?_⟩
    intro wS hSw
    replace hSw:Mod T wa wS:=hSw
    have p1:=hSw.cell e0 hTb
    clear hSw
    go_simp
    all_goals with_reducible rfl
   ·exact fun _ _ _ h=>h
   try simp only [Act.put,Lq1,Lq2,Lq3]
   refine TlAny.take 3 (v:=?_) hHeld ?_ ?_ ?_
   rotate_left 1
   ·refine Or.inl ⟨by rfl,?_⟩
    intro wS hSw
    replace hSw:Mod T wa wS:=hSw
    have p1:=hSw.cell x0 hTx
    clear hSw
    go_simp
    all_goals with_reducible rfl
   ·exact fun _ _ _ h=>h
   try simp only [Act.put,Lq1,Lq2,Lq3]
   refine TlAny.take 5 (v:=?_) hHeld ?_ ?_ ?_
   rotate_left 1
   ·refine Or.inl ⟨by rfl,?_⟩
    intro wS hSw
    replace hSw:Mod T wa wS:=hSw
    have p1:=hSw.cell x1 hTx
    clear hSw
    go_simp
    all_goals with_reducible rfl
   ·exact fun _ _ _ h=>h
   try simp only [Act.put,Lq1,Lq2,Lq3]
   refine TlAny.one 6 ?_
   intro K hK
   go_simp
   refine (cloneI_any tys hty _ _ _ (HT.out.keep (N0.mono (by simp)))).mono ?_
   rintro e3 v1 ⟨ya3,yc3,rfl,hown,hnew,m1⟩
   have E0:Hid (RelT (fun k=>wa.heap.size<=k) v1 ((⟨nm,tys,0,0⟩,.slice ya3 tys.length yc3):RelU)):=Hxq (RowT.of_owns (base:=0) intC_size hown hnew)
   replace N0:Mod [] wa v1:=N0.trans m1 (by simp)
   replace hHeld:Mod T wa v1:=N0.mono (by simp)
   clear m1 hown hnew
   refine hK.out _ _ (fun _=>hHeld) ?_
   clear hK K
   try simp only [Act.put,Lq1,Lq2,Lq3]
   refine TlAny.take 7 (v:=?_) hHeld ?_ ?_ ?_
   rotate_left 1
   ·refine Or.inl ⟨by rfl,?_⟩
    intro wS hSw
    replace hSw:Mod T wa wS:=hSw
    clear hSw
    go_simp
    all_goals with_reducible rfl
   ·exact fun _ _ _ h=>h
   try simp only [Act.put,Lq1,Lq2,Lq3]
   refine TlAny.one 8 ?_
   intro K hK
   go_simp
   have FB:Hid (∀ wX,wX=v1.alloc (Obj.cells #[.string nm,.slice ya3 tys.length yc3,.int .i64 0,.int .i64 0] 70)->PIT w0 b pb rels [] wX va vc none 0/\RelT (fun k=>wa.heap.size<=k) wX ((⟨nm,tys,0,0⟩,.slice ya3 tys.length yc3):RelU)/\Src Tryz.prog 4 22 (.slice (some ⟨v1.heap.size,0,none⟩) 1 1) 1 (csR ((⟨nm,tys,0,0⟩,.slice ya3 tys.length yc3):RelU)).toList wX/\Mod [] wa wX):=Hxq (fun wX e=>by
    subst e
    have mA:=(Mod.refl [] v1).alloc (Obj.cells #[.string nm,.slice ya3 tys.length yc3,.int .i64 0,.int .i64 0] 70)
    exact ⟨PA.out.keep ((N0.trans mA (by simp)).mono (by simp)),E0.out.keep mA (by simp),src_one (cs:=csR ((⟨nm,tys,0,0⟩,.slice ya3 tys.length yc3):RelU)) Tryz.underlying22 (heap_alloc_new v1 _) rfl (csR_one E0.out.rb),N0.trans mA (by simp)⟩)
   replace hHeld:Mod T wa (v1.alloc (Obj.cells #[.string nm,.slice ya3 tys.length yc3,.int .i64 0,.int .i64 0] 70)):=hHeld.alloc _
   refine hK.out _ _ (fun _=>hHeld) ?_
   clear hK K
   try simp only [Act.put,Lq1,Lq2,Lq3]
   refine TlAny.one 9 ?_
   intro K hK
   obtain ⟨PX,LX,SX,MX⟩:=FB.out _ rfl
   have PXH:=Lib.hid PX;have LXH:=Lib.hid LX;have SXH:=Lib.hid SX;have MXH:=Lib.hid MX
   clear PX LX SX MX FB
   refine step_append_src _ rfl _ _ 22 22 rfl 70 iR (.agg #[.string ⟨#[]⟩,.slice none 0 0,.int .i64 0,.int .i64 0]) 4 56 Tryz.underlying22 hR0 hR1 hR2 hR3 rfl (.slice va rels.length vc) rels.length (rowCells csR rels) rfl PXH.out.rowR _ 1 (csR ((⟨nm,tys,0,0⟩,.slice ya3 tys.length yc3):RelU)).toList rfl SXH.out (by unfold maxLen;omega) (by omega) ?_
   intro v5 w5 hown5 hm5 hf5
   obtain ⟨va5,vc5,rfl⟩:=owns_slice hown5
   have hna:pb∉fp (.slice va rels.length vc):=by rw [<-hT];exact hTb
   have hnb:b∉fp (.slice va rels.length vc):=fun hk=>by have:=(PXH.out.newR b hk).1;omega
   have hpw:pb<wa.heap.size:=lt_of_block PA.out.box
   have G5:=Hxq (PXH.out.growR (p:=((⟨nm,tys,0,0⟩,.slice ya3 tys.length yc3):RelU)) hm5 LXH.out hpw (fun k hk=>by have:=(hTn k (by rw [hT];exact hk)).2.2;omega) (by simp [fp]) hown5 hf5)
   have q5:w5.cell? ⟨pb,0,none⟩=some (.slice va rels.length vc):=hm5.cell (p:=⟨pb,0,none⟩) (cell_at PXH.out.box 0) hna
   have f5:w5.frozen? ⟨pb,0,none⟩=false:=free_at (hm5.at PXH.out.box hna) 0
   have B5:=Hxq (((Mod.refl [pb] w5).setCell (p:=⟨pb,0,none⟩) (.inl (by simp)) (.slice va5 (rels.length+1) vc5)).at (hm5.at (MXH.out.at XBA.out (by simp)) hnb) (by simp;omega))
   replace hHeld:Mod T wa w5:=(MXH.out.mono (by simp)).trans hm5 (fun t ht=>.inl (by rw [hT];exact ht))
   clear hown5 hm5 hf5 PXH LXH SXH MXH E0 N0
   refine hK.out _ _ (fun _=>hHeld) ?_
   clear hK K
   try simp only [Act.put,Lq1,Lq2,Lq3]
   refine TlAny.pure 10 (v:=?_) ?_ ?_ ?_
   rotate_left 1
   ·refine Or.inl ⟨by rfl,?_⟩
    intro wS _
    go_simp
    all_goals with_reducible rfl
   ·exact fun _ _ _ h=>h
   try simp only [Act.put,Lq1,Lq2,Lq3]
   refine TlAny.one 11 ?_
   intro K hK
   go_simp
   refine hK.out _ _ (fun hN=>absurd hN (by decide)) ?_
   clear hK K
   try simp only [Act.put,Lq1,Lq2,Lq3]
   refine TlAny.fin ?_
   clear q5 f5 hna hnb hHeld
   go_wp2_with fail
   generalize w5.setCell ⟨pb,0,none⟩ (.slice va5 (rels.length+1) vc5)=w8 at *
   go_roundw
   case rel =>
    refine ⟨rels++[((⟨nm,tys,0,0⟩,.slice ya3 tys.length yc3):RelU)],va5,vc5,by rw [List.length_append];go_num,?_,by simp;omega,by simpa using G5.out,B5.out⟩
    rw [List.map_append,HMP.out,show ∀ z:RelU,(rels++[z]).length=rels.length+1 from fun z=>by simp,List.take_add_one,HY.out];simp [Sy.bareR]
   case measure=>simp [intOf];omega
  ·have hjI:¬ (rels.length:Int)<(prels.length:Int):=by omega
   have HAE:Hid (rels.length=prels.length):=Hxq (by omega)
   have HRL:Hid (rels.map (·.1)=prels.map Sy.bareR):=Hxq (by rw [HMP.out,HAE.out,List.take_length])
   have e1:=cell_at XB.out 1
   simp only [List.getElem?_toArray,List.getElem?_cons_zero,List.getElem?_cons_succ] at e1
   go_wp2_with fail
   clear e1
   obtain ⟨wo,rfl⟩:∃ wo:World,wo=wr:=⟨_,rfl⟩
   go_loopw [30] (fun iv wr=>∃ (rus:List RulU) (ua:Option Addr) (uc:Nat),iv=.int .i64 (rus.length:Nat)/\rus.map (·.1)=(prules.take rus.length).map Sy.bareU/\rus.length<=prules.length/\PIT w0 b pb rels rus wr va vc ua uc/\wr.heap[b]?=some (.cells #[.slice a1 prels.length c1,.slice b1 prules.length d1] 25 (0,0))) (fun iv _=>prules.length - (intOf iv).toNat)
   case atStart=>exact ⟨[],none,0,rfl,by simp,by simp,P0.out,XB.out⟩
   case round =>
    obtain ⟨rus,ua,uc,rfl,hmap,hle2,hP,hbx⟩:=hrel
    have MV:=Hxq ((M0.out.mono (T:=[b]) (by simp)).trans hP.mod (by simp))
    have P1:=Lib.hid hP;have HMQ:=Lib.hid hmap;have XC:=Lib.hid hbx
    clear hP hmap hbx
    by_cases hlt:rus.length<prules.length
    ·have hjI:(rus.length:Int)<(prules.length:Int):=by omega
     have hj0:(0:Int)<=(rus.length:Int):=by omega
     obtain ⟨g1,o1,t1,s1,rfl,hc1,ht1,hb1⟩:=(H1.out.keep MV.out (by simp)).rulAt rus.length hlt
     have hq1:=HMM.out.terms _ (List.getElem_mem hlt)
     have hq2:=HMM.out.body _ (List.getElem_mem hlt)
     have hq3:=HMM.out.deep _ (List.getElem_mem hlt)
     have HY:Hid (prules[rus.length]?=some prules[rus.length]):=Hxq (List.getElem?_eq_getElem hlt)
     dsimp only at hc1 ht1 hb1
     generalize prules[rus.length]=y at *
     obtain ⟨⟨rel,ts⟩,body,ln,cl⟩:=y
     obtain ⟨ta1,tc1,rfl⟩:=ht1.lit
     obtain ⟨ba1,bc1,rfl⟩:=hb1.lit
     dsimp only at hq1 hq2 hq3
     have p0:=hc1 0 (.string rel) rfl;have p1:=hc1 1 (.slice ta1 ts.length tc1) rfl;have p2:=hc1 2 (.slice ba1 body.length bc1) rfl;have p3:=hc1 3 (.int .i64 ln) rfl;have p4:=hc1 4 (.int .i64 cl) rfl
     rw [Nat.add_zero] at p0
     have n1:=(Mod.refl [] wr).alloc (Obj.cells #[.string rel,.slice ta1 ts.length tc1,.slice ba1 body.length bc1,.int .i64 ln,.int .i64 cl] 63)
     have HT:=Hxq (RowB.lat (ht1.keep n1 (by simp)));have HBD:=Hxq (hb1.keep n1 (by simp))
     clear hc1 ht1 hb1
     go_upto_region 10 with fail
     have x1:=heap_alloc_new wr (Obj.cells #[.string rel,.slice ta1 ts.length tc1,.slice ba1 body.length bc1,.int .i64 ln,.int .i64 cl] 63)
     have hwa:wr.heap.size<=(wr.alloc (Obj.cells #[.string rel,.slice ta1 ts.length tc1,.slice ba1 body.length bc1,.int .i64 ln,.int .i64 cl] 63)).heap.size:=n1.size
     generalize wr.alloc (Obj.cells #[.string rel,.slice ta1 ts.length tc1,.slice ba1 body.length bc1,.int .i64 ln,.int .i64 cl] 63)=wa at *
     have hza:=lt_of_block x1
     have X0:=Lib.hid x1
     have PA:=Hxq (P1.out.keep (n1.mono (by simp)));have XBA:=Hxq (n1.at XC.out (by simp))
     clear x1 p0 p1 p2 p3 p4 n1
     generalize hpx:wr.heap.size=px at *
     have x0:=cell_at X0.out 0;have x1:=cell_at X0.out 1;have x2:=cell_at X0.out 2;have e1:=cell_at PA.out.box 1
     simp only [List.getElem?_toArray,List.getElem?_cons_zero,List.getElem?_cons_succ] at x0 x1 x2 e1
     obtain ⟨T,hT⟩:∃ T:List Nat,T=fp (.slice ua rus.length uc):=⟨_,rfl⟩
     have hTn:∀ k∈T,w0.heap.size<=k/\k≠pb/\k<wr.heap.size:=fun k hk=>by rw [hT] at hk;exact ⟨(P1.out.newU k hk).1,(P1.out.newU k hk).2,fp_lt P1.out.rowU k hk⟩
     have hTb:pb∉T:=fun hk=>(hTn pb hk).2.1 rfl
     have hTx:px∉T:=fun hk=>by have:=(hTn px hk).2.2;omega
     refine tl_region (fun wS=>Mod T wa wS) [0,2,3,5,6,10,16,17] (by kernel_rfl) ?_
     have hHeld:Mod T wa wa.drew:=(Mod.refl T wa).drew
     have N0:Mod [] wa wa.drew:=(Mod.refl [] wa).drew
     try simp only [Act.put,Lq1,Lq2,Lq3]
     refine TlAny.pure 0 (v:=?_) ?_ ?_ ?_
     rotate_left 1
     ·refine Or.inl ⟨by rfl,?_⟩
      intro wS _
      go_simp
      all_goals with_reducible rfl
     ·exact fun _ _ _ h=>h
     try simp only [Act.put,Lq1,Lq2,Lq3]
     refine TlAny.pure 2 (v:=?_) ?_ ?_ ?_
     rotate_left 1
     ·refine Or.inl ⟨by rfl,?_⟩
      intro wS _
      go_simp
      all_goals with_reducible rfl
     ·exact fun _ _ _ h=>h
     try simp only [Act.put,Lq1,Lq2,Lq3]
     refine TlAny.pure 3 (v:=?_) ?_ ?_ ?_
     rotate_left 1
     ·refine Or.inl ⟨by rfl,?_⟩
      intro wS _
      go_simp
      all_goals with_reducible rfl
     ·exact fun _ _ _ h=>h
     try simp only [Act.put,Lq1,Lq2,Lq3]
     refine TlAny.pure 5 (v:=?_) ?_ ?_ ?_
     rotate_left 1
     ·refine Or.inl ⟨by rfl,?_⟩
      intro wS _
      go_simp
      all_goals with_reducible rfl
     ·exact fun _ _ _ h=>h
     try simp only [Act.put,Lq1,Lq2,Lq3]
     refine TlAny.pure 6 (v:=?_) ?_ ?_ ?_
     rotate_left 1
     ·refine Or.inl ⟨by rfl,?_⟩
      intro wS _
      go_simp
      all_goals with_reducible rfl
     ·exact fun _ _ _ h=>h
     try simp only [Act.put,Lq1,Lq2,Lq3]
     refine TlAny.pure 10 (v:=?_) ?_ ?_ ?_
     rotate_left 1
     ·refine Or.inl ⟨by rfl,?_⟩
      intro wS _
      go_simp
      all_goals with_reducible rfl
     ·exact fun _ _ _ h=>h
     try simp only [Act.put,Lq1,Lq2,Lq3]
     refine TlAny.take 1 (v:=?_) hHeld ?_ ?_ ?_
     rotate_left 1
     ·refine Or.inl ⟨by rfl,?_⟩
      intro wS hSw
      replace hSw:Mod T wa wS:=hSw
      have p1:=hSw.cell e1 hTb
      clear hSw
      go_simp
      all_goals with_reducible rfl
     ·exact fun _ _ _ h=>h
     try simp only [Act.put,Lq1,Lq2,Lq3]
     refine TlAny.take 4 (v:=?_) hHeld ?_ ?_ ?_
     rotate_left 1
     ·refine Or.inl ⟨by rfl,?_⟩
      intro wS hSw
      replace hSw:Mod T wa wS:=hSw
      have p1:=hSw.cell x0 hTx
      clear hSw
      go_simp
      all_goals with_reducible rfl
     ·exact fun _ _ _ h=>h
     try simp only [Act.put,Lq1,Lq2,Lq3]
     refine TlAny.take 7 (v:=?_) hHeld ?_ ?_ ?_
     rotate_left 1
     ·refine Or.inl ⟨by rfl,?_⟩
      intro wS hSw
      replace hSw:Mod T wa wS:=hSw
      have p1:=hSw.cell x1 hTx
      clear hSw
      go_simp
      all_goals with_reducible rfl
     ·exact fun _ _ _ h=>h
     try simp only [Act.put,Lq1,Lq2,Lq3]
     refine TlAny.take 11 (v:=?_) hHeld ?_ ?_ ?_
     rotate_left 1
     ·refine Or.inl ⟨by rfl,?_⟩
      intro wS hSw
      replace hSw:Mod T wa wS:=hSw
      have p1:=hSw.cell x2 hTx
      clear hSw
      go_simp
      all_goals with_reducible rfl
     ·exact fun _ _ _ h=>h
     try simp only [Act.put,Lq1,Lq2,Lq3]
     refine TlAny.one 8 ?_
     intro K hK
     go_simp
     refine (cloneT_any ts hq1 _ _ _ (HT.out.keep N0)).mono ?_
     rintro e3 v1 ⟨ta3,tc3,rfl,hown,hnew,m1⟩
     have E0:Hid (RowT (fun k=>wa.heap.size<=k) v1 88 5 tmV ts (.slice ta3 ts.length tc3)):=Hxq (RowT.of_owns (base:=0) tmV_size hown hnew)
     replace N0:Mod [] wa v1:=N0.trans m1 (by simp)
     replace hHeld:Mod T wa v1:=N0.mono (by simp)
     clear m1 hown hnew
     refine hK.out _ _ (fun _=>hHeld) ?_
     clear hK K
     try simp only [Act.put,Lq1,Lq2,Lq3]
     refine TlAny.take 9 (v:=?_) hHeld ?_ ?_ ?_
     rotate_left 1
     ·refine Or.inl ⟨by rfl,?_⟩
      intro wS hSw
      replace hSw:Mod T wa wS:=hSw
      clear hSw
      go_simp
      all_goals with_reducible rfl
     ·exact fun _ _ _ h=>h
     try simp only [Act.put,Lq1,Lq2,Lq3]
     refine TlAny.one 12 ?_
     intro K hK
     go_simp
     refine (plits_T body hq2 hq3 _ _ (HBD.out.keep N0 (by simp))).mono ?_
     rintro e4 v2 ⟨ba3,bc3,rfl,hbb,m2⟩
     have hs1:wa.heap.size<=v1.heap.size:=N0.size
     have E1:Hid (RulT (fun k=>wa.heap.size<=k) v2 ((⟨⟨rel,ts⟩,body.map Sy.bareL,0,0⟩,.slice ta3 ts.length tc3,.slice ba3 body.length bc3):RulU)):=Lib.hid ⟨E0.out.keep m2 (by simp),hbb.mono (fun k hk _=>by omega)⟩
     replace N0:Mod [] wa v2:=N0.trans m2 (by simp)
     replace hHeld:Mod T wa v2:=N0.mono (by simp)
     clear m2 hbb E0 hs1
     refine hK.out _ _ (fun _=>hHeld) ?_
     clear hK K
     try simp only [Act.put,Lq1,Lq2,Lq3]
     refine TlAny.take 13 (v:=?_) hHeld ?_ ?_ ?_
     rotate_left 1
     ·refine Or.inl ⟨by rfl,?_⟩
      intro wS hSw
      replace hSw:Mod T wa wS:=hSw
      clear hSw
      go_simp
      all_goals with_reducible rfl
     ·exact fun _ _ _ h=>h
     try simp only [Act.put,Lq1,Lq2,Lq3]
     refine TlAny.one 14 ?_
     intro K hK
     go_simp
     have FB:Hid (∀ wX,wX=v2.alloc (Obj.cells #[.string rel,.slice ta3 ts.length tc3,.slice ba3 body.length bc3,.int .i64 0,.int .i64 0] 63)->PIT w0 b pb rels rus wX va vc ua uc/\RulT (fun k=>wa.heap.size<=k) wX ((⟨⟨rel,ts⟩,body.map Sy.bareL,0,0⟩,.slice ta3 ts.length tc3,.slice ba3 body.length bc3):RulU)/\Src Tryz.prog 5 23 (.slice (some ⟨v2.heap.size,0,none⟩) 1 1) 1 (csU ((⟨⟨rel,ts⟩,body.map Sy.bareL,0,0⟩,.slice ta3 ts.length tc3,.slice ba3 body.length bc3):RulU)).toList wX/\Mod [] wa wX):=Hxq (fun wX e=>by
      subst e
      have mA:=(Mod.refl [] v2).alloc (Obj.cells #[.string rel,.slice ta3 ts.length tc3,.slice ba3 body.length bc3,.int .i64 0,.int .i64 0] 63)
      exact ⟨PA.out.keep ((N0.trans mA (by simp)).mono (by simp)),E1.out.keep mA (by simp),src_one (cs:=csU ((⟨⟨rel,ts⟩,body.map Sy.bareL,0,0⟩,.slice ta3 ts.length tc3,.slice ba3 body.length bc3):RulU)) Tryz.underlying23 (heap_alloc_new v2 _) rfl (csU_one E1.out.rb),N0.trans mA (by simp)⟩)
     replace hHeld:Mod T wa (v2.alloc (Obj.cells #[.string rel,.slice ta3 ts.length tc3,.slice ba3 body.length bc3,.int .i64 0,.int .i64 0] 63)):=hHeld.alloc _
     refine hK.out _ _ (fun _=>hHeld) ?_
     clear hK K
     try simp only [Act.put,Lq1,Lq2,Lq3]
     refine TlAny.one 15 ?_
     intro K hK
     obtain ⟨PX,LX,SX,MX⟩:=FB.out _ rfl
     have PXH:=Lib.hid PX;have LXH:=Lib.hid LX;have SXH:=Lib.hid SX;have MXH:=Lib.hid MX
     clear PX LX SX MX FB
     refine step_append_src _ rfl _ _ 23 23 rfl 63 iU (.agg #[.string ⟨#[]⟩,.slice none 0 0,.slice none 0 0,.int .i64 0,.int .i64 0]) 5 80 Tryz.underlying23 hU0 hU1 hU2 hU3 rfl (.slice ua rus.length uc) rus.length (rowCells csU rus) rfl PXH.out.rowU _ 1 (csU ((⟨⟨rel,ts⟩,body.map Sy.bareL,0,0⟩,.slice ta3 ts.length tc3,.slice ba3 body.length bc3):RulU)).toList rfl SXH.out (by unfold maxLen;omega) (by omega) ?_
     intro v5 w5 hown5 hm5 hf5
     obtain ⟨ua5,uc5,rfl⟩:=owns_slice hown5
     have hna:pb∉fp (.slice ua rus.length uc):=by rw [<-hT];exact hTb
     have hnb:b∉fp (.slice ua rus.length uc):=fun hk=>by have:=(PXH.out.newU b hk).1;omega
     have hpw:pb<wa.heap.size:=lt_of_block PA.out.box
     have G5:=Hxq (PXH.out.growU (p:=((⟨⟨rel,ts⟩,body.map Sy.bareL,0,0⟩,.slice ta3 ts.length tc3,.slice ba3 body.length bc3):RulU)) hm5 LXH.out hpw (fun k hk=>by have:=(hTn k (by rw [hT];exact hk)).2.2;omega) (fun k hk=>fp_lt PA.out.rowR k hk) hown5 hf5)
     have q5:w5.cell? ⟨pb,1,none⟩=some (.slice ua rus.length uc):=hm5.cell (p:=⟨pb,1,none⟩) (cell_at PXH.out.box 1) hna
     have f5:w5.frozen? ⟨pb,1,none⟩=false:=free_at (hm5.at PXH.out.box hna) 1
     have B5:=Hxq (((Mod.refl [pb] w5).setCell (p:=⟨pb,1,none⟩) (.inl (by simp)) (.slice ua5 (rus.length+1) uc5)).at (hm5.at (MXH.out.at XBA.out (by simp)) hnb) (by simp;omega))
     replace hHeld:Mod T wa w5:=(MXH.out.mono (by simp)).trans hm5 (fun t ht=>.inl (by rw [hT];exact ht))
     clear hown5 hm5 hf5 PXH LXH SXH MXH E1 N0
     refine hK.out _ _ (fun _=>hHeld) ?_
     clear hK K
     try simp only [Act.put,Lq1,Lq2,Lq3]
     refine TlAny.pure 16 (v:=?_) ?_ ?_ ?_
     rotate_left 1
     ·refine Or.inl ⟨by rfl,?_⟩
      intro wS _
      go_simp
      all_goals with_reducible rfl
     ·exact fun _ _ _ h=>h
     try simp only [Act.put,Lq1,Lq2,Lq3]
     refine TlAny.one 17 ?_
     intro K hK
     go_simp
     refine hK.out _ _ (fun hN=>absurd hN (by decide)) ?_
     clear hK K
     try simp only [Act.put,Lq1,Lq2,Lq3]
     refine TlAny.fin ?_
     clear q5 f5 hna hnb hHeld
     go_wp2_with fail
     generalize w5.setCell ⟨pb,1,none⟩ (.slice ua5 (rus.length+1) uc5)=w8 at *
     go_roundw
     case rel =>
      refine ⟨rus++[((⟨⟨rel,ts⟩,body.map Sy.bareL,0,0⟩,.slice ta3 ts.length tc3,.slice ba3 body.length bc3):RulU)],ua5,uc5,by rw [List.length_append];go_num,?_,by simp;omega,by simpa using G5.out,B5.out⟩
      rw [List.map_append,HMQ.out,show ∀ z:RulU,(rus++[z]).length=rus.length+1 from fun z=>by simp,List.take_add_one,HY.out];simp [Sy.bareU]
     case measure=>simp [intOf];omega
    ·have hjI:¬ (rus.length:Int)<(prules.length:Int):=by omega
     have HAE2:Hid (rus.length=prules.length):=Hxq (by omega)
     have HRU:Hid (rus.map (·.1)=prules.map Sy.bareU):=Hxq (by rw [HMQ.out,HAE2.out,List.take_length])
     have hw0:=M0.out.size
     have hb1:=lt_of_block E1.out
     have ER:=Hxq (P1.out.mod.at E1.out (by simp))
     have x0:=cell_at P1.out.box 0;have x1:=cell_at P1.out.box 1;have z0:=cell_at ER.out 0;have z1:=cell_at ER.out 1
     simp only [List.getElem?_toArray,List.getElem?_cons_zero,List.getElem?_cons_succ] at x0 x1 z0 z1
     have fA:∀ j,wr.frozen? ⟨b+1,j,none⟩=false:=fun j=>free_at ER.out j
     go_wp2_with fail
     have mR:=setCs_mod (b+1) [.slice va rels.length vc,.slice ua rus.length uc] 0 wr
     refine bodyPost_ret (results_cell_row rfl _ _ _ _ _ _ _ rfl (setCs_row (vs:=[.slice va rels.length vc,.slice ua rus.length uc]) ER.out rfl) Tryz.underlying25 rfl (by kernel_rfl)) rfl ⟨rels,rus,va,vc,ua,uc,rfl,by rw [HRL.out,HRU.out];rfl,?_⟩
     have hS:∀ s∈[b+1],¬ PF w0 pb (.slice va rels.length vc) (.slice ua rus.length uc) s:=fun s hs hh=>by
      rw [Msq] at hs;subst hs;have:=hh.1;omega
     refine ⟨mR.owns P1.out.rowR (fun k hk hs=>?_),mR.owns P1.out.rowU (fun k hk hs=>?_),fun k hk=>?_,fun k hk=>?_,P1.out.dis,fun q hq=>?_,fun q hq=>?_,?_⟩
     ·rw [Msq] at hs;have:=(P1.out.newR k hk).1;omega
     ·rw [Msq] at hs;have:=(P1.out.newU k hk).1;omega
     ·have:=(P1.out.newR k hk).1;omega
     ·have:=(P1.out.newU k hk).1;omega
     ·exact ((P1.out.subR q hq).keep mR hS).mono (fun k hk _=>⟨by have:=hk.1;omega,hk.2.2.1,hk.2.2.2⟩)
     ·exact ((P1.out.subU q hq).keep mR hS).mono (fun k hk _=>⟨by have:=hk.1;omega,hk.2.2.1,hk.2.2.2⟩)
     ·exact (M0.out.trans (S:=[]) P1.out.mod (fun s hs=>.inr (by rw [Msq] at hs;omega))).trans mR (fun s hs=>.inr (by rw [Msq] at hs;omega))
end Go.Proofs.YtohnmnfhmbmoaaaGreatDoor
namespace Go.Proofs.YtohnmnfhmbmoaaaGreatDoor.Lx
set_option linter.unusedSimpArgs false
set_option linter.unusedVariables false
theorem esc_join {s:List Nat} {b j:Nat} (h:esc s=some (b,j)) (t:List Nat):esc (s++t)=some (b,j):=by
 match s with
 | []=>simp [esc] at h
 | [c] =>
  unfold esc at h ⊢
  simp only [List.cons_append,List.nil_append] at h ⊢
  by_cases h1:c=34\/c=92
  ·rw [if_pos h1] at h ⊢;exact h
  ·rw [if_neg h1] at h ⊢
   by_cases h2:c=110
   ·rw [if_pos h2] at h ⊢;exact h
   ·rw [if_neg h2] at h
    by_cases h3:c=120 <;> simp [h3] at h
 | [c,x] =>
  unfold esc at h ⊢
  simp only [List.cons_append,List.nil_append] at h ⊢
  by_cases h1:c=34\/c=92
  ·rw [if_pos h1] at h ⊢;exact h
  ·rw [if_neg h1] at h ⊢
   by_cases h2:c=110
   ·rw [if_pos h2] at h ⊢;exact h
   ·rw [if_neg h2] at h
    by_cases h3:c=120 <;> simp [h3] at h
 | c :: x :: y :: u=>simpa [esc] using h
theorem quoF_join:∀ (k:Nat) (s acc:List Nat) (n:Nat) (l:List Nat) (m:Nat),(∀ c∈s,c<256)->quoF k s acc n=some (l,m)->∀ (t:List Nat) (j:Nat),quoF (k+j) (s++t) acc n=some (l,m)
 | 0,_,_,_,_,_,_,h=>by simp [quoF] at h
 | k+1,[],_,_,_,_,_,h=>by simp [quoF] at h
 | k+1,c :: r,acc,n,l,m,hs,h=>fun t j=>by
  have hr:∀ c∈r,c<256:=fun x hx=>hs x (by simp [hx])
  rw [show k+1+j=(k+j)+1 by omega,List.cons_append]
  unfold quoF at h ⊢
  by_cases h1:c=34
  ·rw [if_pos h1] at h ⊢;exact h
  ·rw [if_neg h1] at h ⊢
   by_cases h2:c=10
   ·rw [if_pos h2] at h;simp at h
   ·rw [if_neg h2] at h ⊢
    by_cases h3:c=92
    ·rw [if_pos h3] at h ⊢
     cases he:esc r with
     | none=>rw [he] at h;simp at h
     | some p =>
      obtain ⟨b,m'⟩:=p
      rw [he] at h
      rw [esc_join he t]
      obtain ⟨e1,e2,-⟩:=esc_len hr he
      simp only at h ⊢
      rw [List.drop_append_of_le_length e2]
      exact quoF_join k _ _ _ l m (fun c hc=>hr c (List.mem_of_mem_drop hc)) h t j
    ·rw [if_neg h3] at h ⊢
     exact quoF_join k _ _ _ l m hr h t j
theorem quo_join {s l:List Nat} {m:Nat} (hs:∀ c∈s,c<256) (h:quo s=some (l,m)) (t:List Nat):quo (s++t)=some (l,m):=by
 cases s with
 | nil=>simp [quo,quoF] at h
 | cons c r =>
  unfold quo at h ⊢
  have:=quoF_join _ _ _ _ l m (fun c hc=>hs c (List.mem_of_mem_drop hc)) h t t.length
  rw [show (c :: r).length+t.length=(c :: r++t).length by simp;omega] at this
  exact this
theorem run_take (p:Nat->Bool) (s:List Nat) (k:Nat):run p (s.take k)=min k (run p s):=by
 induction s generalizing k with
 | nil=>simp [run_nil]
 | cons c t ih =>
  cases k with
  | zero=>simp [run_nil]
  | succ k =>
   rw [List.take_succ_cons,run_cons,run_cons,ih]
   split <;> omega
theorem esc_take {s:List Nat} {b j:Nat} (h:esc s=some (b,j)) (q:Nat) (hq:j<=q):esc (s.take q)=some (b,j):=by
 match s with
 | []=>simp [esc] at h
 | [c] =>
  unfold esc at h
  simp only at h
  by_cases h1:c=34\/c=92
  ·rw [if_pos h1] at h
   simp only [Option.some.injEq,Prod.mk.injEq] at h
   obtain ⟨rfl,rfl⟩:=h
   rw [List.take_of_length_le (by simpa using hq)]
   unfold esc;simp only;rw [if_pos h1]
  ·rw [if_neg h1] at h
   by_cases h2:c=110
   ·rw [if_pos h2] at h
    simp only [Option.some.injEq,Prod.mk.injEq] at h
    obtain ⟨rfl,rfl⟩:=h
    rw [List.take_of_length_le (by simpa using hq)]
    unfold esc;simp only;rw [if_neg h1,if_pos h2]
   ·rw [if_neg h2] at h
    by_cases h3:c=120 <;> simp [h3] at h
 | c :: x :: t =>
  unfold esc at h
  simp only at h
  by_cases h1:c=34\/c=92
  ·rw [if_pos h1] at h
   simp only [Option.some.injEq,Prod.mk.injEq] at h
   obtain ⟨rfl,rfl⟩:=h
   obtain ⟨q',rfl⟩:∃ q',q=q'+1:=⟨q - 1,by omega⟩
   rw [List.take_succ_cons]
   unfold esc;simp only;rw [if_pos h1]
  ·rw [if_neg h1] at h
   by_cases h2:c=110
   ·rw [if_pos h2] at h
    simp only [Option.some.injEq,Prod.mk.injEq] at h
    obtain ⟨rfl,rfl⟩:=h
    obtain ⟨q',rfl⟩:∃ q',q=q'+1:=⟨q - 1,by omega⟩
    rw [List.take_succ_cons]
    unfold esc;simp only;rw [if_neg h1,if_pos h2]
   ·rw [if_neg h2] at h
    by_cases h3:c=120
    ·rw [if_pos h3] at h
     cases t with
     | nil=>simp at h
     | cons y u =>
      have hj:j=3:=by
       simp only at h
       cases hx:hexv x with
       | none=>rw [hx] at h;simp at h
       | some u1 =>
        cases hy:hexv y with
        | none=>rw [hx,hy] at h;simp at h
        | some u2=>rw [hx,hy] at h;simp at h;omega
      subst hj
      obtain ⟨q',rfl⟩:∃ q',q=q'+3:=⟨q - 3,by omega⟩
      simp only [List.take_succ_cons]
      unfold esc
      simp only
      rw [if_neg h1,if_neg h2,if_pos h3]
      exact h
    ·simp [h3] at h
theorem quoF_take:∀ (k:Nat) (s acc:List Nat) (n:Nat) (l:List Nat) (m:Nat),(∀ c∈s,c<256)->(∀ c∈acc,c<256)->quoF k s acc n=some (l,m)->∀ k',m - n<=k'->quoF k' (s.take (m - n)) acc n=some (l,m)
 | 0,_,_,_,_,_,_,_,h=>by simp [quoF] at h
 | k+1,[],_,_,_,_,_,_,h=>by simp [quoF] at h
 | k+1,c :: r,acc,n,l,m,hs,ha,h=>fun k' hk=>by
  have hr:∀ c∈r,c<256:=fun x hx=>hs x (by simp [hx])
  have hl:=quoF_len (k+1) (c :: r) acc n l m hs ha h
  obtain ⟨q,hq⟩:∃ q,m - n=q+1:=⟨m - n - 1,by omega⟩
  obtain ⟨k'',rfl⟩:∃ k'',k'=k''+1:=⟨k' - 1,by omega⟩
  rw [hq,List.take_succ_cons]
  unfold quoF at h ⊢
  by_cases h1:c=34
  ·rw [if_pos h1] at h ⊢;exact h
  ·rw [if_neg h1] at h ⊢
   by_cases h2:c=10
   ·rw [if_pos h2] at h;simp at h
   ·rw [if_neg h2] at h ⊢
    by_cases h3:c=92
    ·rw [if_pos h3] at h ⊢
     cases he:esc r with
     | none=>rw [he] at h;simp at h
     | some p =>
      obtain ⟨b,j⟩:=p
      rw [he] at h
      simp only at h
      obtain ⟨e1,e2,e3⟩:=esc_len hr he
      have ha':∀ c∈acc++[b],c<256:=fun x hx=>by
       rcases List.mem_append.1 hx with hx | hx
       ·exact ha x hx
       ·simp at hx;omega
      have hl2:=quoF_len k (r.drop j) (acc++[b]) (n+1+j) l m (fun c hc=>hr c (List.mem_of_mem_drop hc)) ha' h
      rw [esc_take he q (by omega)]
      simp only
      have:=quoF_take k (r.drop j) (acc++[b]) (n+1+j) l m (fun c hc=>hr c (List.mem_of_mem_drop hc)) ha' h k'' (by omega)
      rw [List.drop_take,show q - j=m - (n+1+j) by omega]
      exact this
    ·rw [if_neg h3] at h ⊢
     have ha':∀ x∈acc++[c],x<256:=fun x hx=>by
      rcases List.mem_append.1 hx with hx | hx
      ·exact ha x hx
      ·simp at hx;have:=hs c (by simp);omega
     have:=quoF_take k r (acc++[c]) (n+1) l m hr ha' h k'' (by omega)
     rw [show q=m - (n+1) by omega]
     exact this
theorem quo_take {s l:List Nat} {m:Nat} (hs:∀ c∈s,c<256) (h:quo s=some (l,m)):quo (s.take m)=some (l,m):=by
 cases s with
 | nil=>simp [quo,quoF] at h
 | cons c r =>
  obtain ⟨l1,l2,-⟩:=quo_len hs h
  unfold quo at h ⊢
  obtain ⟨q,rfl⟩:∃ q,m=q+1:=⟨m - 1,by omega⟩
  have:=quoF_take _ _ _ _ l (q+1) (fun c hc=>hs c (List.mem_of_mem_drop hc)) (by simp) h (q+1) (by omega)
  simp only [List.take_succ_cons,List.drop_succ_cons,List.drop_zero,List.length_cons,List.length_take,Nat.add_sub_cancel] at this ⊢
  have hle:min q r.length=q:=by simp at l2;omega
  rw [hle]
  exact this
theorem headD_take {s:List Nat} {n:Nat} (h:1<=n):(s.take n).headD 0=s.headD 0:=by
 cases s with
 | nil=>simp
 | cons c t =>
  obtain ⟨q,rfl⟩:∃ q,n=q+1:=⟨n - 1,by omega⟩
  rfl
/-- is nothing there but blanks and remarks? -/
def bare:Bool->List Nat->Bool
 | _,[]=>true
 | r,c :: t=>if c=10 then bare false t else if c=35 then bare true t else if !r && (c != 32 && (c != 9 && c != 13)) then false else bare r t
end Go.Proofs.YtohnmnfhmbmoaaaGreatDoor.Lx
