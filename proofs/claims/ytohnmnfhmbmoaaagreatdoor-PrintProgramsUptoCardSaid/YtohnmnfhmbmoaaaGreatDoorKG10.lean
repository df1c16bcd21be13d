/- THE TEXTS MERGED: TyCopy4. -/
import Derived.Test.YtohnmnfhmbmoaaaGreatDoorKG9
namespace Go.Proofs.YtohnmnfhmbmoaaaGreatDoor
open Go.RowKit
set_option linter.unusedVariables false
set_option linter.unusedSimpArgs false
set_option maxRecDepth 100000
/-- a program whose rows are the call's own -/
structure POT (w0 W:World) (rels:List RelU) (rus:List RulU) (va:Option Addr) (vc:Nat) (ua:Option Addr) (uc:Nat):Prop where
 rowR:W.ownsRow 0 70 4 (.slice va rels.length vc) rels.length (rowCells csR rels)
 rowU:W.ownsRow 0 63 5 (.slice ua rus.length uc) rus.length (rowCells csU rus)
 newR:∀ k∈fp (.slice va rels.length vc),w0.heap.size<=k
 newU:∀ k∈fp (.slice ua rus.length uc),w0.heap.size<=k
 dis:∀ k∈fp (.slice va rels.length vc),k∉fp (.slice ua rus.length uc)
 subR:∀ p∈rels,RelT (QF w0 (.slice va rels.length vc) (.slice ua rus.length uc)) W p
 subU:∀ p∈rus,RulT (QF w0 (.slice va rels.length vc) (.slice ua rus.length uc)) W p
 mod:Mod [] w0 W
def CpPT (p:Pr.Prog) (w:World) (e:Ending) (w':World):Prop:=∃ (rels:List RelU) (rus:List RulU) (va:Option Addr) (vc:Nat) (ua:Option Addr) (uc:Nat),
 e=.returned (.agg #[.slice va rels.length vc,.slice ua rus.length uc])/\(⟨rels.map (·.1),rus.map (·.1)⟩:Pr.Prog)=p/\POT w w' rels rus va vc ua uc
set_option maxHeartbeats 16000000 in
theorem copyProg_T {F:Nat->Prop} (p:Pr.Prog) (hM:PgM p) (u:Value) (w:World) (h:PgB F w p u) :
  Calls Tryz.prog 8 #[u] w (CpPT p w):=by
 obtain ⟨a1,c1,b1,d1,rfl⟩:=h.lit
 obtain ⟨prels,prules⟩:=p
 obtain ⟨iR,hR0,hR1,hR2,hR3⟩:=info_parts Tryz.infoRel
 obtain ⟨iU,hU0,hU1,hU2,hU3⟩:=info_parts Tryz.infoRul
 obtain ⟨iI,hI0,hI1,hI2,hI3⟩:=info_parts Tryz.infoInt
 have HMM:=Lib.hid hM
 have hl1:=hM.rels
 have hl2:=hM.rules
 dsimp only at *
 have H1:=Hxq (h.mono (G:=fun k=>k<w.heap.size) (fun k _ h=>h))
 clear h hM
 have mA:=((Mod.refl [] w).alloc (Obj.cells #[.slice a1 prels.length c1,.slice b1 prules.length d1] 25)).alloc (Obj.cells #[.slice none 0 0,.slice none 0 0] 25)
 have eA:=two_a w #[.slice a1 prels.length c1,.slice b1 prules.length d1] #[.slice none 0 0,.slice none 0 0] 25 25
 have eB:=two_b w #[.slice a1 prels.length c1,.slice b1 prules.length d1] #[.slice none 0 0,.slice none 0 0] 25 25
 have zA:((w.alloc (Obj.cells #[.slice a1 prels.length c1,.slice b1 prules.length d1] 25)).alloc (Obj.cells #[.slice none 0 0,.slice none 0 0] 25)).heap.size=w.heap.size+2:=by simp
 go_enter Tryz.func8,Tryz.ntmps8
 go_upto_region 1 with fail
 generalize (w.alloc (Obj.cells _ 25)).alloc (Obj.cells _ 25)=w0 at *
 have M0:=Lib.hid mA;have E0:=Lib.hid eA;have E1:=Lib.hid eB
 clear mA eA eB
 have mB:=(Mod.refl [] w0).alloc (Obj.cells #[.slice none 0 0,.slice none 0 0] 25)
 have bB:=heap_alloc_new w0 (Obj.cells #[.slice none 0 0,.slice none 0 0] 25)
 have PB:Hid (PIT w0 w.heap.size w0.heap.size [] [] (w0.alloc (Obj.cells #[.slice none 0 0,.slice none 0 0] 25)) none 0 none 0):=Lib.hid
  ⟨bB,World.ownsRow_nil _ _ _ _,World.ownsRow_nil _ _ _ _,by simp [fp],by simp [fp],by simp [fp],by simp,by simp,Nat.le_refl _,by omega,mB.mono (by simp)⟩
 have EB:=Hxq (mB.at E0.out (by simp))
 clear mB bB
 go_upto_region 2 with fail
 rw [zA] at PB
 generalize hpb:w.heap.size+2=pb at *
 generalize w0.alloc (Obj.cells _ 25)=wB at *
 generalize hb:w.heap.size=b at *
 go_wp2_with fail
 go_loopw [4] (fun iv wr=>∃ (rels:List RelU) (va:Option Addr) (vc:Nat),iv=.int .i64 (rels.length:Nat)/\rels.map (·.1)=prels.take rels.length/\rels.length<=prels.length/\PIT w0 b pb rels [] wr va vc none 0/\wr.heap[b]?=some (.cells #[.slice a1 prels.length c1,.slice b1 prules.length d1] 25 (0,0))) (fun iv _=>prels.length - (intOf iv).toNat)
 case atStart=>exact ⟨[],none,0,rfl,by simp,by simp,PB.out,EB.out⟩
 case round =>
  obtain ⟨rels,va,vc,rfl,hmap,hle,hP,hbx⟩:=hrel
  have MW:=Hxq ((M0.out.mono (T:=[b]) (by simp)).trans hP.mod (by simp))
  have P0:=Lib.hid hP;have HMP:=Lib.hid hmap;have XB:=Lib.hid hbx;have BX:=Lib.hid hP.box
  have y0:=cell_at XB.out 0
  simp only [List.getElem?_toArray,List.getElem?_cons_zero,List.getElem?_cons_succ] at y0
  have e0:=cell_at BX.out 0
  simp only [List.getElem?_toArray,List.getElem?_cons_zero,List.getElem?_cons_succ] at e0
  clear hP hmap hbx
  by_cases hlt:rels.length<prels.length
  ·have hjI:(rels.length:Int)<(prels.length:Int):=by omega
   have hj0:(0:Int)<=(rels.length:Int):=by omega
   obtain ⟨g1,o1,t1,rfl,hc1,ht1⟩:=(H1.out.keep MW.out (by simp)).relAt rels.length hlt
   have hty:=HMM.out.types _ (List.getElem_mem hlt)
   have HY:Hid (prels[rels.length]?=some prels[rels.length]):=Hxq (List.getElem?_eq_getElem hlt)
   dsimp only at hc1 ht1
   generalize prels[rels.length]=y at *
   obtain ⟨nm,tys,ln,cl⟩:=y
   obtain ⟨ya1,yc1,rfl⟩:=ht1.lit
   dsimp only at hty
   have HT:=Lib.hid ht1
   have p0:=hc1 0 (.string nm) rfl;have p1:=hc1 1 (.slice ya1 tys.length yc1) rfl;have p2:=hc1 2 (.int .i64 ln) rfl;have p3:=hc1 3 (.int .i64 cl) rfl
   rw [Nat.add_zero] at p0
   clear hc1 ht1
   go_upto_region 7 with fail
   have n1:=(Mod.refl [] wr).alloc (Obj.cells #[.string nm,.slice ya1 tys.length yc1,.int .i64 ln,.int .i64 cl] 70)
   have x1:=heap_alloc_new wr (Obj.cells #[.string nm,.slice ya1 tys.length yc1,.int .i64 ln,.int .i64 cl] 70)
   generalize wr.alloc (Obj.cells #[.string nm,.slice ya1 tys.length yc1,.int .i64 ln,.int .i64 cl] 70)=wa at *
   have hza:=lt_of_block x1
   have S1:=Hxq (rows_src Tryz.underlying68 intC_size (by omega) intC_one (HT.out.keep n1 (by simp)))
   have X0:=Lib.hid x1;have NA:=Lib.hid n1
   clear n1 x1 p0 p1 p2 p3 HT e0
   generalize hpx:wr.heap.size=px at *
   have x1:=cell_at X0.out 1
   simp only [List.getElem?_toArray,List.getElem?_cons_zero,List.getElem?_cons_succ] at x1
   go_wp2_with (at_builtin;refine wpList_append_src _ rfl _ _ 68 68 rfl 3 iI (.int .i64 0) 1 8 Tryz.underlying68 hI0 hI1 hI2 hI3 rfl (.slice none 0 0) 0 [] rfl (World.ownsRow_nil _ _ _ _) _ tys.length (rowCells intC tys) rfl S1.out (by unfold maxLen;omega) (by omega) ?_)
   intro v2 w2 hown2 hm2 hf2 hn2
   (try rw [Nat.zero_add] at hown2);(try rw [List.nil_append] at hown2)
   obtain ⟨ya3,yc3,rfl⟩:=owns_slice hown2
   have M2:=Hxq (show Mod [] wa w2 from hm2)
   have R2:=Hxq (RowT.of_owns (base:=0) (F:=fun k=>wa.heap.size<=k) intC_size hown2 (fun k hk=>by
    rcases hf2 k hk with hh | hh
    ·simp [fp] at hh
    ·exact hh))
   clear hown2 hm2 hf2 hn2 x1 S1
   have X2:=Hxq (M2.out.at X0.out (by simp))
   have x1:=cell_at X2.out 1
   simp only [List.getElem?_toArray,List.getElem?_cons_zero,List.getElem?_cons_succ] at x1
   have fA:∀ j,w2.frozen? ⟨px,j,none⟩=false:=fun j=>free_at X2.out j
   go_upto_region 9 with fail
   have X3:Hid ((w2.setCell ⟨px,1,none⟩ (.slice ya3 tys.length yc3)).heap[px]?=some (.cells #[.string nm,.slice ya3 tys.length yc3,.int .i64 ln,.int .i64 cl] 70 (0,0))):=Hxq (setCs_heap [.slice ya3 tys.length yc3] 1 [.string nm,.slice ya1 tys.length yc1,.int .i64 ln,.int .i64 cl] w2 X2.out)
   have Q3:Hid (Mod [px] w2 (w2.setCell ⟨px,1,none⟩ (.slice ya3 tys.length yc3))):=Hxq (setCs_mod px [.slice ya3 tys.length yc3] 1 w2)
   generalize w2.setCell ⟨px,1,none⟩ (.slice ya3 tys.length yc3)=q3 at *
   have R3:=Hxq (R2.out.keep Q3.out (fun s hs=>by rw [Msq] at hs;omega))
   have MQ:Hid (Mod [] wr q3):=Hxq ((NA.out.trans M2.out (by simp)).trans (S:=[]) Q3.out (fun s hs=>.inr (by rw [Msq] at hs;omega)))
   clear fA x1 X2 R2 M2 Q3 X0
   have P3:=Hxq (P0.out.keep (MQ.out.mono (by simp)))
   have hbx:=lt_of_block BX.out
   have hlR:=Hxq (fun k hk=>fp_lt P0.out.rowR k hk)
   have FB:Hid (∀ wX,wX=q3.alloc (Obj.cells #[.string nm,.slice ya3 tys.length yc3,.int .i64 ln,.int .i64 cl] 70)->PIT w0 b pb rels [] wX va vc none 0/\RelT (fun k=>wa.heap.size<=k) wX (⟨nm,tys,ln,cl⟩,.slice ya3 tys.length yc3)/\Src Tryz.prog 4 22 (.slice (some ⟨q3.heap.size,0,none⟩) 1 1) 1 (csR (⟨nm,tys,ln,cl⟩,.slice ya3 tys.length yc3)).toList wX/\Mod [] wr wX/\wX.cell? ⟨pb,0,none⟩=some (.slice va rels.length vc)):=Hxq (fun wX e=>by
    subst e
    have mA:=(Mod.refl [] q3).alloc (Obj.cells #[.string nm,.slice ya3 tys.length yc3,.int .i64 ln,.int .i64 cl] 70)
    have hrb:RelT (fun k=>wa.heap.size<=k) q3 (⟨nm,tys,ln,cl⟩,.slice ya3 tys.length yc3):=R3.out
    exact ⟨P3.out.keep (mA.mono (by simp)),hrb.keep mA (by simp),src_one (cs:=csR (⟨nm,tys,ln,cl⟩,.slice ya3 tys.length yc3)) Tryz.underlying22 (heap_alloc_new q3 _) rfl (csR_one hrb.rb),MQ.out.trans mA (by simp),cell_at ((P3.out.keep (mA.mono (by simp))).box) 0⟩)
   have x0:=cell_at X3.out 0;have x1:=cell_at X3.out 1;have x2:=cell_at X3.out 2;have x3:=cell_at X3.out 3
   simp only [List.getElem?_toArray,List.getElem?_cons_zero,List.getElem?_cons_succ] at x0 x1 x2 x3
   have e0:=cell_at P3.out.box 0
   simp only [List.getElem?_toArray,List.getElem?_cons_zero,List.getElem?_cons_succ] at e0
   go_wp2_with (at_builtin;refine wpList_append_src _ rfl _ _ 22 22 rfl 70 iR (.agg #[.string ⟨#[]⟩,.slice none 0 0,.int .i64 0,.int .i64 0]) 4 56 Tryz.underlying22 hR0 hR1 hR2 hR3 rfl (.slice va rels.length vc) rels.length (rowCells csR rels) rfl (FB.out _ rfl).1.rowR _ 1 (csR (⟨nm,tys,ln,cl⟩,.slice ya3 tys.length yc3)).toList rfl (FB.out _ rfl).2.2.1 (by unfold maxLen;omega) (by omega) ?_)
   intro v' w5 hown5 hm5 hf5 hn5
   obtain ⟨va5,vc5,rfl⟩:=owns_slice hown5
   obtain ⟨PX,LX,SX,MX,CX⟩:=FB.out _ rfl
   have hpx2:pb<wa.heap.size:=by omega
   have G5:=Hxq (PX.growR (p:=(⟨nm,tys,ln,cl⟩,.slice ya3 tys.length yc3)) hm5 LX hpx2 (fun k hk=>by have:=hlR.out k hk;omega) (by simp [fp]) hown5 (fun k hk=>by
    rcases hf5 k hk with hh | hh
    ·exact .inl hh
    ·exact .inr (by simpa using hh)))
   have hna:pb∉fp (.slice va rels.length vc):=fun hk=>(PX.newR pb hk).2 rfl
   have hnb:b∉fp (.slice va rels.length vc):=fun hk=>by have:=(PX.newR b hk).1;omega
   have q5:w5.cell? ⟨pb,0,none⟩=some (.slice va rels.length vc):=hm5.cell (p:=⟨pb,0,none⟩) CX hna
   have f5:w5.frozen? ⟨pb,0,none⟩=false:=free_at (hm5.at PX.box hna) 0
   have B5:=Hxq (((Mod.refl [pb] w5).setCell (p:=⟨pb,0,none⟩) (.inl (by simp)) (.slice va5 (rels.length+1) vc5)).at (hm5.at (MX.at XB.out (by simp)) hnb) (by simp;omega))
   clear hown5 hm5 hf5 hn5 PX LX SX MX CX FB e0 x0 x1 x2 x3 y0 X3 R3 P3 MQ
   go_wp2_with fail
   generalize w5.setCell ⟨pb,0,none⟩ (.slice va5 (rels.length+1) vc5)=w8 at *
   go_roundw
   case rel =>
    refine ⟨rels++[(⟨nm,tys,ln,cl⟩,.slice ya3 tys.length yc3)],va5,vc5,by rw [List.length_append];go_num,?_,by simp;omega,by simpa using G5.out,B5.out⟩
    rw [List.map_append,HMP.out,show ∀ z:RelU,(rels++[z]).length=rels.length+1 from fun z=>by simp,List.take_add_one,HY.out];rfl
   case measure=>simp [intOf];omega
  ·have hjI:¬ (rels.length:Int)<(prels.length:Int):=by omega
   have HAE:Hid (rels.length=prels.length):=Hxq (by omega)
   have HRL:Hid (rels.map (·.1)=prels):=Hxq (by rw [HMP.out,HAE.out,List.take_length])
   have PBX:=Lib.hid P0.out.box
   clear e0
   go_wp2_with fail
   clear y0
   obtain ⟨wo,rfl⟩:∃ wo:World,wo=wr:=⟨_,rfl⟩
   go_loopw [7] (fun iv wr=>∃ (rus:List RulU) (ua:Option Addr) (uc:Nat),iv=.int .i64 (rus.length:Nat)/\rus.map (·.1)=prules.take rus.length/\rus.length<=prules.length/\PIT w0 b pb rels rus wr va vc ua uc/\wr.heap[b]?=some (.cells #[.slice a1 prels.length c1,.slice b1 prules.length d1] 25 (0,0))) (fun iv _=>prules.length - (intOf iv).toNat)
   case atStart=>exact ⟨[],none,0,rfl,by simp,by simp,P0.out,XB.out⟩
   case round =>
    obtain ⟨rus,ua,uc,rfl,hmap,hle2,hP,hbx⟩:=hrel
    have MV:=Hxq ((M0.out.mono (T:=[b]) (by simp)).trans hP.mod (by simp))
    have P1:=Lib.hid hP;have HMQ:=Lib.hid hmap;have XC:=Lib.hid hbx;have BX1:=Lib.hid hP.box
    have y1:=cell_at XC.out 1
    simp only [List.getElem?_toArray,List.getElem?_cons_zero,List.getElem?_cons_succ] at y1
    clear hP hmap hbx
    by_cases hlt:rus.length<prules.length
    ·have hjI:(rus.length:Int)<(prules.length:Int):=by omega
     have hj0:(0:Int)<=(rus.length:Int):=by omega
     obtain ⟨g1,o1,t1,s1,rfl,hc1,ht1,hb1⟩:=H1.out.rulAt rus.length hlt
     have hq1:=HMM.out.terms _ (List.getElem_mem hlt)
     have hq2:=HMM.out.body _ (List.getElem_mem hlt)
     have hq3:=HMM.out.deep _ (List.getElem_mem hlt)
     have HY:Hid (prules[rus.length]?=some prules[rus.length]):=Hxq (List.getElem?_eq_getElem hlt)
     dsimp only at hc1 ht1 hb1
     generalize prules[rus.length]=y at *
     obtain ⟨⟨rel,ts⟩,body,ln,cl⟩:=y
     obtain ⟨ta1,tc1,rfl⟩:=ht1.lit
     obtain ⟨ba1,bc1,rfl⟩:=hb1.lit
     dsimp only at hq1 hq2 hq3
     have p0:=hc1 0 (.string rel) rfl;have p1:=hc1 1 (.slice ta1 ts.length tc1) rfl;have p2:=hc1 2 (.slice ba1 body.length bc1) rfl;have p3:=hc1 3 (.int .i64 ln) rfl;have p4:=hc1 4 (.int .i64 cl) rfl
     rw [Nat.add_zero] at p0
     have hg1:g1<w.heap.size:=by simpa using World.block_lt_of_cell? w _ p0
     have hw0:=M0.out.size
     have hwb0:b<w0.heap.size:=by omega
     have hpb0:=P1.out.pbn
     obtain ⟨T,hT⟩:∃ T:List Nat,T=pb :: fp (.slice ua rus.length uc):=⟨_,rfl⟩
     have hTn:∀ k∈T,w0.heap.size<=k:=by
      intro k hk
      rw [hT] at hk
      rcases List.mem_cons.1 hk with rfl | hk
      ·exact hpb0
      ·exact (P1.out.newU k hk).1
     have hTb:b∉T:=fun hk=>by have:=hTn b hk;omega
     have hTg:g1∉T:=fun hk=>by have:=hTn g1 hk;omega
     have hgb:g1∉[b]:=by simp;omega
     have P0':=Hxq (MV.out.cell p0 hgb);have P1':=Hxq (MV.out.cell p1 hgb);have P2':=Hxq (MV.out.cell p2 hgb);have P3':=Hxq (MV.out.cell p3 hgb);have P4':=Hxq (MV.out.cell p4 hgb)
     have ZB:Hid (wr.cell? ⟨b,1,none⟩=some (.slice (some ⟨g1,o1,none⟩) prules.length d1)):=Hxq (cell_at XC.out 1)
     have HF1:Hid (∀ w',Mod T wr w'->Mod (b :: T) w w'):=Hxq (fun w' hm=>(MV.out.mono (T:=b :: T) (by simp)).trans hm (fun t ht=>.inl (List.mem_cons_of_mem _ ht)))
     have HFS:∀ s∈b :: T,¬ s<b:=fun s hs=>by
      rcases List.mem_cons.1 hs with rfl | hs
      ·omega
      ·have:=hTn s hs;omega
     have HCA:Hid (∀ w',Mod T wr w'->Calls Tryz.prog 26 #[.agg #[.string rel,.slice ta1 ts.length tc1]] w' (CpAT ⟨rel,ts⟩ w')):=Hxq (fun w' hm=>copyAtom_T ⟨rel,ts⟩ hq1 _ w' (ht1.keep (HF1.out w' hm) HFS))
     have HCB:Hid (∀ w',Mod T wr w'->Calls Tryz.prog 27 #[.slice ba1 body.length bc1] w' (CpBT body w')):=Hxq (fun w' hm=>copyLits_T body hq2 hq3 _ w' (hb1.keep (HF1.out w' hm) HFS))
     clear hc1 ht1 hb1 p0 p1 p2 p3 p4 HFS
     go_wp2_with fail
     have hpw:=lt_of_block BX1.out
     have hlR:=Hxq (fun k hk=>fp_lt P1.out.rowR k hk)
     have hlU:=Hxq (fun k hk=>fp_lt P1.out.rowU k hk)
     have N0:Hid (Mod [] wr wr.drew):=Hxq (Mod.refl [] wr).drew
     refine wp_region_held_drew (S:=(fun w':World=>Mod T wr w')) (by kernel_rfl) (by (try dsimp only);exact (Mod.refl T wr).drew) (fun hHeld=>?_)
     refine Tkq 0 (v:=?_) (by assumption) ?_ ?_ ?_
     rotate_left 1
     ·refine .inl ⟨by rfl,?_⟩;intro w hSw;have s1:=hSw.cell ZB.out hTb;have p0:=hSw.cell P0'.out hTg;have p1:=hSw.cell P1'.out hTg;have p2:=hSw.cell P2'.out hTg;have p3:=hSw.cell P3'.out hTg;have p4:=hSw.cell P4'.out hTg;clear hSw;go_simp
      all_goals with_reducible rfl
     ·exact fun _ _ _ h=>h
     try simp only [Act.put,Lq1,Lq2,Lq3]
     refine Tkq 2 (v:=?_) (by assumption) ?_ ?_ ?_
     rotate_left 1
     ·refine .inl ⟨by rfl,?_⟩;intro w hSw;have s1:=hSw.cell ZB.out hTb;have p0:=hSw.cell P0'.out hTg;have p1:=hSw.cell P1'.out hTg;have p2:=hSw.cell P2'.out hTg;have p3:=hSw.cell P3'.out hTg;have p4:=hSw.cell P4'.out hTg;clear hSw;go_simp
      all_goals with_reducible rfl
     ·exact fun _ _ _ h=>h
     try simp only [Act.put,Lq1,Lq2,Lq3]
     refine Tkq 3 (v:=?_) (by assumption) ?_ ?_ ?_
     rotate_left 1
     ·refine .inl ⟨by rfl,?_⟩;intro w hSw;have s1:=hSw.cell ZB.out hTb;have p0:=hSw.cell P0'.out hTg;have p1:=hSw.cell P1'.out hTg;have p2:=hSw.cell P2'.out hTg;have p3:=hSw.cell P3'.out hTg;have p4:=hSw.cell P4'.out hTg;clear hSw;go_simp
      all_goals with_reducible rfl
     ·exact fun _ _ _ h=>h
     try simp only [Act.put,Lq1,Lq2,Lq3]
     refine Tkq 4 (v:=?_) (by assumption) ?_ ?_ ?_
     rotate_left 1
     ·refine .inl ⟨by rfl,?_⟩;intro w hSw;have s1:=hSw.cell ZB.out hTb;have p0:=hSw.cell P0'.out hTg;have p1:=hSw.cell P1'.out hTg;have p2:=hSw.cell P2'.out hTg;have p3:=hSw.cell P3'.out hTg;have p4:=hSw.cell P4'.out hTg;clear hSw;go_simp
      all_goals with_reducible rfl
     ·exact fun _ _ _ h=>h
     try simp only [Act.put,Lq1,Lq2,Lq3]
     refine Tkq 5 (v:=?_) (by assumption) ?_ ?_ ?_
     rotate_left 1
     ·refine .inl ⟨by rfl,?_⟩;intro w hSw;have s1:=hSw.cell ZB.out hTb;have p0:=hSw.cell P0'.out hTg;have p1:=hSw.cell P1'.out hTg;have p2:=hSw.cell P2'.out hTg;have p3:=hSw.cell P3'.out hTg;have p4:=hSw.cell P4'.out hTg;clear hSw;go_simp
      all_goals with_reducible rfl
     ·exact fun _ _ _ h=>h
     try simp only [Act.put,Lq1,Lq2,Lq3]
     refine Tkq 6 (v:=?_) (by assumption) ?_ ?_ ?_
     rotate_left 1
     ·refine .inl ⟨by rfl,?_⟩;intro w hSw;have s1:=hSw.cell ZB.out hTb;have p0:=hSw.cell P0'.out hTg;have p1:=hSw.cell P1'.out hTg;have p2:=hSw.cell P2'.out hTg;have p3:=hSw.cell P3'.out hTg;have p4:=hSw.cell P4'.out hTg;clear hSw;go_simp
      all_goals with_reducible rfl
     ·exact fun _ _ _ h=>h
     try simp only [Act.put,Lq1,Lq2,Lq3]
     refine Tkq 7 (v:=?_) (by assumption) ?_ ?_ ?_
     rotate_left 1
     ·refine .inl ⟨by rfl,?_⟩;intro w hSw;have s1:=hSw.cell ZB.out hTb;have p0:=hSw.cell P0'.out hTg;have p1:=hSw.cell P1'.out hTg;have p2:=hSw.cell P2'.out hTg;have p3:=hSw.cell P3'.out hTg;have p4:=hSw.cell P4'.out hTg;clear hSw;go_simp
      all_goals with_reducible rfl
     ·exact fun _ _ _ h=>h
     try simp only [Act.put,Lq1,Lq2,Lq3]
     refine Tkq 9 (v:=?_) (by assumption) ?_ ?_ ?_
     rotate_left 1
     ·refine .inl ⟨by rfl,?_⟩;intro w hSw;have s1:=hSw.cell ZB.out hTb;have p0:=hSw.cell P0'.out hTg;have p1:=hSw.cell P1'.out hTg;have p2:=hSw.cell P2'.out hTg;have p3:=hSw.cell P3'.out hTg;have p4:=hSw.cell P4'.out hTg;clear hSw;go_simp
      all_goals with_reducible rfl
     ·exact fun _ _ _ h=>h
     try simp only [Act.put,Lq1,Lq2,Lq3]
     refine Tkq 10 (v:=?_) (by assumption) ?_ ?_ ?_
     rotate_left 1
     ·refine .inl ⟨by rfl,?_⟩;intro w hSw;have s1:=hSw.cell ZB.out hTb;have p0:=hSw.cell P0'.out hTg;have p1:=hSw.cell P1'.out hTg;have p2:=hSw.cell P2'.out hTg;have p3:=hSw.cell P3'.out hTg;have p4:=hSw.cell P4'.out hTg;clear hSw;go_simp
      all_goals with_reducible rfl
     ·exact fun _ _ _ h=>h
     try simp only [Act.put,Lq1,Lq2,Lq3]
     refine Tkq 11 (v:=?_) (by assumption) ?_ ?_ ?_
     rotate_left 1
     ·refine .inl ⟨by rfl,?_⟩;intro w hSw;have s1:=hSw.cell ZB.out hTb;have p0:=hSw.cell P0'.out hTg;have p1:=hSw.cell P1'.out hTg;have p2:=hSw.cell P2'.out hTg;have p3:=hSw.cell P3'.out hTg;have p4:=hSw.cell P4'.out hTg;clear hSw;go_simp
      all_goals with_reducible rfl
     ·exact fun _ _ _ h=>h
     try simp only [Act.put,Lq1,Lq2,Lq3]
     refine Tkq 12 (v:=?_) (by assumption) ?_ ?_ ?_
     rotate_left 1
     ·refine .inl ⟨by rfl,?_⟩;intro w hSw;have s1:=hSw.cell ZB.out hTb;have p0:=hSw.cell P0'.out hTg;have p1:=hSw.cell P1'.out hTg;have p2:=hSw.cell P2'.out hTg;have p3:=hSw.cell P3'.out hTg;have p4:=hSw.cell P4'.out hTg;clear hSw;go_simp
      all_goals with_reducible rfl
     ·exact fun _ _ _ h=>h
     try simp only [Act.put,Lq1,Lq2,Lq3]
     refine Tkq 13 (v:=?_) (by assumption) ?_ ?_ ?_
     rotate_left 1
     ·refine .inl ⟨by rfl,?_⟩;intro w hSw;have s1:=hSw.cell ZB.out hTb;have p0:=hSw.cell P0'.out hTg;have p1:=hSw.cell P1'.out hTg;have p2:=hSw.cell P2'.out hTg;have p3:=hSw.cell P3'.out hTg;have p4:=hSw.cell P4'.out hTg;clear hSw;go_simp
      all_goals with_reducible rfl
     ·exact fun _ _ _ h=>h
     try simp only [Act.put,Lq1,Lq2,Lq3]
     refine Tkq 14 (v:=?_) (by assumption) ?_ ?_ ?_
     rotate_left 1
     ·refine .inl ⟨by rfl,?_⟩;intro w hSw;have s1:=hSw.cell ZB.out hTb;have p0:=hSw.cell P0'.out hTg;have p1:=hSw.cell P1'.out hTg;have p2:=hSw.cell P2'.out hTg;have p3:=hSw.cell P3'.out hTg;have p4:=hSw.cell P4'.out hTg;clear hSw;go_simp
      all_goals with_reducible rfl
     ·exact fun _ _ _ h=>h
     try simp only [Act.put,Lq1,Lq2,Lq3]
     refine Tkq 16 (v:=?_) (by assumption) ?_ ?_ ?_
     rotate_left 1
     ·refine .inl ⟨by rfl,?_⟩;intro w hSw;have s1:=hSw.cell ZB.out hTb;have p0:=hSw.cell P0'.out hTg;have p1:=hSw.cell P1'.out hTg;have p2:=hSw.cell P2'.out hTg;have p3:=hSw.cell P3'.out hTg;have p4:=hSw.cell P4'.out hTg;clear hSw;go_simp
      all_goals with_reducible rfl
     ·exact fun _ _ _ h=>h
     try simp only [Act.put,Lq1,Lq2,Lq3]
     refine Tkq 17 (v:=?_) (by assumption) ?_ ?_ ?_
     rotate_left 1
     ·refine .inl ⟨by rfl,?_⟩;intro w hSw;have s1:=hSw.cell ZB.out hTb;have p0:=hSw.cell P0'.out hTg;have p1:=hSw.cell P1'.out hTg;have p2:=hSw.cell P2'.out hTg;have p3:=hSw.cell P3'.out hTg;have p4:=hSw.cell P4'.out hTg;clear hSw;go_simp
      all_goals with_reducible rfl
     ·exact fun _ _ _ h=>h
     try simp only [Act.put,Lq1,Lq2,Lq3]
     refine Tkq 18 (v:=?_) (by assumption) ?_ ?_ ?_
     rotate_left 1
     ·refine .inl ⟨by rfl,?_⟩;intro w hSw;have s1:=hSw.cell ZB.out hTb;have p0:=hSw.cell P0'.out hTg;have p1:=hSw.cell P1'.out hTg;have p2:=hSw.cell P2'.out hTg;have p3:=hSw.cell P3'.out hTg;have p4:=hSw.cell P4'.out hTg;clear hSw;go_simp
      all_goals with_reducible rfl
     ·exact fun _ _ _ h=>h
     try simp only [Act.put,Lq1,Lq2,Lq3]
     refine Tkq 19 (v:=?_) (by assumption) ?_ ?_ ?_
     rotate_left 1
     ·refine .inl ⟨by rfl,?_⟩;intro w hSw;have s1:=hSw.cell ZB.out hTb;have p0:=hSw.cell P0'.out hTg;have p1:=hSw.cell P1'.out hTg;have p2:=hSw.cell P2'.out hTg;have p3:=hSw.cell P3'.out hTg;have p4:=hSw.cell P4'.out hTg;clear hSw;go_simp
      all_goals with_reducible rfl
     ·exact fun _ _ _ h=>h
     try simp only [Act.put,Lq1,Lq2,Lq3]
     refine Tkq 20 (v:=?_) (by assumption) ?_ ?_ ?_
     rotate_left 1
     ·refine .inl ⟨by rfl,?_⟩;intro w hSw;have s1:=hSw.cell ZB.out hTb;have p0:=hSw.cell P0'.out hTg;have p1:=hSw.cell P1'.out hTg;have p2:=hSw.cell P2'.out hTg;have p3:=hSw.cell P3'.out hTg;have p4:=hSw.cell P4'.out hTg;clear hSw;go_simp
      all_goals with_reducible rfl
     ·exact fun _ _ _ h=>h
     try simp only [Act.put,Lq1,Lq2,Lq3]
     refine Tkq 21 (v:=?_) (by assumption) ?_ ?_ ?_
     rotate_left 1
     ·refine .inl ⟨by rfl,?_⟩;intro w hSw;have s1:=hSw.cell ZB.out hTb;have p0:=hSw.cell P0'.out hTg;have p1:=hSw.cell P1'.out hTg;have p2:=hSw.cell P2'.out hTg;have p3:=hSw.cell P3'.out hTg;have p4:=hSw.cell P4'.out hTg;clear hSw;go_simp
      all_goals with_reducible rfl
     ·exact fun _ _ _ h=>h
     try simp only [Act.put,Lq1,Lq2,Lq3]
     refine wpAnyH_ready (rs:=[1,8]) (by kernel_rfl) (by simp) ?_
     refine AllReadyH.cons (o:=?_) ?_ ?_ ?_
     rotate_left 1
     ·(simp only [Gq1,Gq2,Gq3])<;>rfl
     ·intro K hK
      have e1:wr.drew.cell? ⟨pb,1,none⟩=some (.slice ua rus.length uc):=N0.out.cell (p:=⟨pb,1,none⟩) (cell_at BX1.out 1) (by simp)
      go_simp
      refine hK.out _ _ (by (try dsimp only);exact N0.out.mono (by simp)) (fun hHeld=>?_)
      clear hK K
      try simp only [Act.put,Lq1,Lq2,Lq3]
      clear e1
      refine wpAnyH_ready (rs:=[8]) (by kernel_rfl) (by simp) ?_
      refine AllReadyH.cons (o:=?_) ?_ ?_ AllReadyH.nil
      rotate_left 1
      ·(simp only [Gq1,Gq2,Gq3])<;>rfl
      intro K hK
      go_simp
      refine (HCA.out _ (N0.out.mono (by simp))).mono ?_
      rintro e3 v1 ⟨u1,rfl,r1,m1⟩
      obtain ⟨ta3,tc3,rfl⟩:=r1.lit
      have N1:=Hxq (N0.out.trans m1 (by simp))
      have R1:=Hxq (r1.mono (F':=fun k=>wr.heap.size<=k) (fun k hk _=>Nat.le_trans (N0.out.size) hk))
      clear m1 r1
      refine hK.out _ _ (by (try dsimp only);exact N1.out.mono (by simp)) (fun hHeld=>?_)
      clear hK K
      try simp only [Act.put,Lq1,Lq2,Lq3]
      refine wpAnyH_ready (rs:=[15]) (by kernel_rfl) (by simp) ?_
      refine AllReadyH.cons (o:=?_) ?_ ?_ AllReadyH.nil
      rotate_left 1
      ·(simp only [Gq1,Gq2,Gq3])<;>rfl
      intro K hK
      go_simp
      refine (HCB.out _ (N1.out.mono (by simp))).mono ?_
      rintro e4 v2 ⟨bacc,ba3,bc3,rfl,bm,r2,m2⟩
      have N2:=Hxq (N1.out.trans m2 (by simp))
      have R2:Hid (BT (fun k=>wr.heap.size<=k) v2 body (.slice ba3 bacc.length bc3)):=Hxq (bm ▸ (BT.of_gi r2).mono (fun k hk _=>Nat.le_trans (N1.out.size) hk))
      have R1:=Hxq (R1.out.keep m2 (by simp))
      have BL3:Hid (bacc.length=body.length):=Hxq (by rw [<-bm];simp)
      clear m2 r2 bm
      refine hK.out _ _ (by (try dsimp only);exact N2.out.mono (by simp)) (fun hHeld=>?_)
      clear hK K
      try simp only [Act.put,Lq1,Lq2,Lq3]
      refine Tkq 22 (v:=?_) (by assumption) ?_ ?_ ?_
      rotate_left 1
      ·refine .inl ⟨by rfl,?_⟩;intro w hSw;have s1:=hSw.cell ZB.out hTb;have p0:=hSw.cell P0'.out hTg;have p1:=hSw.cell P1'.out hTg;have p2:=hSw.cell P2'.out hTg;have p3:=hSw.cell P3'.out hTg;have p4:=hSw.cell P4'.out hTg;clear hSw;go_simp
       all_goals with_reducible rfl
      ·exact fun _ _ _ h=>h
      try simp only [Act.put,Lq1,Lq2,Lq3]
      refine wpAnyH_ready (rs:=[23]) (by kernel_rfl) (by simp) ?_
      refine AllReadyH.cons (o:=?_) ?_ ?_ AllReadyH.nil
      rotate_left 1
      ·(simp only [Gq1,Gq2,Gq3])<;>rfl
      intro K hK
      go_simp
      have N3:Hid (Mod [] wr (v2.alloc (Obj.cells #[.string rel,.slice ta3 ts.length tc3,.slice ba3 bacc.length bc3,.int .i64 ln,.int .i64 cl] 63))):=Hxq (N2.out.alloc _)
      refine hK.out _ _ (by (try dsimp only);exact N3.out.mono (by simp)) (fun hHeld=>?_)
      clear hK K
      try simp only [Act.put,Lq1,Lq2,Lq3]
      refine wpAnyH_ready (rs:=[24]) (by kernel_rfl) (by simp) ?_
      refine AllReadyH.cons (o:=?_) ?_ ?_ AllReadyH.nil
      rotate_left 1
      ·(simp only [Gq1,Gq2,Gq3])<;>rfl
      intro K hK
      have PX:=P1.out.keep (N3.out.mono (T:=[b]) (by simp))
      have hru:RulT (fun k=>wr.heap.size<=k) v2 (⟨⟨rel,ts⟩,body,ln,cl⟩,.slice ta3 ts.length tc3,.slice ba3 bacc.length bc3):=⟨R1.out,R2.out⟩
      have LX:=hru.keep ((Mod.refl [] v2).alloc (Obj.cells #[.string rel,.slice ta3 ts.length tc3,.slice ba3 bacc.length bc3,.int .i64 ln,.int .i64 cl] 63)) (by simp)
      have SX:Src Tryz.prog 5 23 (.slice (some ⟨v2.heap.size,0,none⟩) 1 1) 1 (csU (⟨⟨rel,ts⟩,body,ln,cl⟩,.slice ta3 ts.length tc3,.slice ba3 bacc.length bc3)).toList (v2.alloc (Obj.cells #[.string rel,.slice ta3 ts.length tc3,.slice ba3 bacc.length bc3,.int .i64 ln,.int .i64 cl] 63)):=src_one (cs:=csU (⟨⟨rel,ts⟩,body,ln,cl⟩,.slice ta3 ts.length tc3,.slice ba3 bacc.length bc3)) Tryz.underlying23 (heap_alloc_new v2 _) rfl (csU_one hru.rb)
      have PXH:=Lib.hid PX;have LXH:=Lib.hid LX;have SXH:=Lib.hid SX
      clear PX LX SX hru
      refine step_append_src _ rfl _ _ 23 23 rfl 63 iU (.agg #[.string ⟨#[]⟩,.slice none 0 0,.slice none 0 0,.int .i64 0,.int .i64 0]) 5 80 Tryz.underlying23 hU0 hU1 hU2 hU3 rfl (.slice ua rus.length uc) rus.length (rowCells csU rus) rfl PXH.out.rowU _ 1 (csU (⟨⟨rel,ts⟩,body,ln,cl⟩,.slice ta3 ts.length tc3,.slice ba3 bacc.length bc3)).toList rfl SXH.out (by unfold maxLen;omega) (by omega) ?_
      intro v5 w5 hown5 hm5 hf5
      obtain ⟨ua5,uc5,rfl⟩:=owns_slice hown5
      have hna:pb∉fp (.slice ua rus.length uc):=fun hk=>(PXH.out.newU pb hk).2 rfl
      have hnb:b∉fp (.slice ua rus.length uc):=fun hk=>by have:=(PXH.out.newU b hk).1;omega
      have G5:=Hxq (PXH.out.growU (p:=(⟨⟨rel,ts⟩,body,ln,cl⟩,.slice ta3 ts.length tc3,.slice ba3 bacc.length bc3)) hm5 LXH.out hpw (fun k hk=>hlU.out k hk) (fun k hk=>hlR.out k hk) hown5 hf5)
      have q5:w5.cell? ⟨pb,1,none⟩=some (.slice ua rus.length uc):=hm5.cell (p:=⟨pb,1,none⟩) (cell_at PXH.out.box 1) hna
      have f5:w5.frozen? ⟨pb,1,none⟩=false:=free_at (hm5.at PXH.out.box hna) 1
      have B5:=Hxq (((Mod.refl [pb] w5).setCell (p:=⟨pb,1,none⟩) (.inl (by simp)) (.slice ua5 (rus.length+1) uc5)).at (hm5.at (N3.out.at XC.out (by simp)) hnb) (by simp;omega))
      have MT5:=Hxq ((N3.out.mono (T:=T) (by simp)).trans hm5 (fun t ht=>.inl (by rw [hT];exact List.mem_cons_of_mem _ ht)))
      have MT6:=Hxq (MT5.out.setCell (p:=⟨pb,1,none⟩) (.inl (by rw [hT];simp)) (.slice ua5 (rus.length+1) uc5))
      clear hown5 hm5 hf5 PXH LXH SXH R1 R2
      refine hK.out _ _ (by (try dsimp only);exact MT5.out) (fun hHeld=>?_)
      clear hK K
      try simp only [Act.put,Lq1,Lq2,Lq3]
      refine Tkq 25 (v:=?_) (by assumption) ?_ ?_ ?_
      rotate_left 1
      ·refine .inl ⟨by rfl,?_⟩;intro w hSw;have s1:=hSw.cell ZB.out hTb;have p0:=hSw.cell P0'.out hTg;have p1:=hSw.cell P1'.out hTg;have p2:=hSw.cell P2'.out hTg;have p3:=hSw.cell P3'.out hTg;have p4:=hSw.cell P4'.out hTg;clear hSw;go_simp
       all_goals with_reducible rfl
      ·exact fun _ _ _ h=>h
      try simp only [Act.put,Lq1,Lq2,Lq3]
      refine wpAnyH_ready (rs:=[26]) (by kernel_rfl) (by simp) ?_
      refine AllReadyH.cons (o:=?_) ?_ ?_ AllReadyH.nil
      rotate_left 1
      ·(simp only [Gq1,Gq2,Gq3])<;>rfl
      intro K hK
      go_simp
      refine hK.out _ _ (by (try dsimp only);exact MT6.out) (fun hHeld=>?_)
      clear hK K
      try simp only [Act.put,Lq1,Lq2,Lq3]
      refine wpAnyH_done (by kernel_rfl) ?_ _
      clear q5 f5 hna hnb MT5 MT6 HCA HCB HF1
      go_wp2_with fail
      generalize w5.setCell ⟨pb,1,none⟩ (.slice ua5 (rus.length+1) uc5)=w8 at *
      go_roundw
      case rel =>
       refine ⟨rus++[(⟨⟨rel,ts⟩,body,ln,cl⟩,.slice ta3 ts.length tc3,.slice ba3 bacc.length bc3)],ua5,uc5,by rw [List.length_append];go_num,?_,by simp;omega,by simpa using G5.out,B5.out⟩
       rw [List.map_append,HMQ.out,show ∀ z:RulU,(rus++[z]).length=rus.length+1 from fun z=>by simp,List.take_add_one,HY.out];rfl
      case measure=>simp [intOf];omega
     refine AllReadyH.cons (o:=?_) ?_ ?_ AllReadyH.nil
     rotate_left 1
     ·(simp only [Gq1,Gq2,Gq3])<;>rfl
     intro K hK
     go_simp
     refine (HCA.out _ (N0.out.mono (by simp))).mono ?_
     rintro e3 v1 ⟨u1,rfl,r1,m1⟩
     obtain ⟨ta3,tc3,rfl⟩:=r1.lit
     have N1:=Hxq (N0.out.trans m1 (by simp))
     have R1:=Hxq (r1.mono (F':=fun k=>wr.heap.size<=k) (fun k hk _=>Nat.le_trans (N0.out.size) hk))
     clear m1 r1
     refine hK.out _ _ (by (try dsimp only);exact N1.out.mono (by simp)) (fun hHeld=>?_)
     clear hK K
     try simp only [Act.put,Lq1,Lq2,Lq3]
     refine wpAnyH_ready (rs:=[1,15]) (by kernel_rfl) (by simp) ?_
     refine AllReadyH.cons (o:=?_) ?_ ?_ ?_
     rotate_left 1
     ·(simp only [Gq1,Gq2,Gq3])<;>rfl
     ·intro K hK
      have e1:v1.cell? ⟨pb,1,none⟩=some (.slice ua rus.length uc):=N1.out.cell (p:=⟨pb,1,none⟩) (cell_at BX1.out 1) (by simp)
      go_simp
      refine hK.out _ _ (by (try dsimp only);exact N1.out.mono (by simp)) (fun hHeld=>?_)
      clear hK K
      try simp only [Act.put,Lq1,Lq2,Lq3]
      clear e1
      refine wpAnyH_ready (rs:=[15]) (by kernel_rfl) (by simp) ?_
      refine AllReadyH.cons (o:=?_) ?_ ?_ AllReadyH.nil
      rotate_left 1
      ·(simp only [Gq1,Gq2,Gq3])<;>rfl
      intro K hK
      go_simp
      refine (HCB.out _ (N1.out.mono (by simp))).mono ?_
      rintro e4 v2 ⟨bacc,ba3,bc3,rfl,bm,r2,m2⟩
      have N2:=Hxq (N1.out.trans m2 (by simp))
      have R2:Hid (BT (fun k=>wr.heap.size<=k) v2 body (.slice ba3 bacc.length bc3)):=Hxq (bm ▸ (BT.of_gi r2).mono (fun k hk _=>Nat.le_trans (N1.out.size) hk))
      have R1:=Hxq (R1.out.keep m2 (by simp))
      have BL3:Hid (bacc.length=body.length):=Hxq (by rw [<-bm];simp)
      clear m2 r2 bm
      refine hK.out _ _ (by (try dsimp only);exact N2.out.mono (by simp)) (fun hHeld=>?_)
      clear hK K
      try simp only [Act.put,Lq1,Lq2,Lq3]
      refine Tkq 22 (v:=?_) (by assumption) ?_ ?_ ?_
      rotate_left 1
      ·refine .inl ⟨by rfl,?_⟩;intro w hSw;have s1:=hSw.cell ZB.out hTb;have p0:=hSw.cell P0'.out hTg;have p1:=hSw.cell P1'.out hTg;have p2:=hSw.cell P2'.out hTg;have p3:=hSw.cell P3'.out hTg;have p4:=hSw.cell P4'.out hTg;clear hSw;go_simp
       all_goals with_reducible rfl
      ·exact fun _ _ _ h=>h
      try simp only [Act.put,Lq1,Lq2,Lq3]
      refine wpAnyH_ready (rs:=[23]) (by kernel_rfl) (by simp) ?_
      refine AllReadyH.cons (o:=?_) ?_ ?_ AllReadyH.nil
      rotate_left 1
      ·(simp only [Gq1,Gq2,Gq3])<;>rfl
      intro K hK
      go_simp
      have N3:Hid (Mod [] wr (v2.alloc (Obj.cells #[.string rel,.slice ta3 ts.length tc3,.slice ba3 bacc.length bc3,.int .i64 ln,.int .i64 cl] 63))):=Hxq (N2.out.alloc _)
      refine hK.out _ _ (by (try dsimp only);exact N3.out.mono (by simp)) (fun hHeld=>?_)
      clear hK K
      try simp only [Act.put,Lq1,Lq2,Lq3]
      refine wpAnyH_ready (rs:=[24]) (by kernel_rfl) (by simp) ?_
      refine AllReadyH.cons (o:=?_) ?_ ?_ AllReadyH.nil
      rotate_left 1
      ·(simp only [Gq1,Gq2,Gq3])<;>rfl
      intro K hK
      have PX:=P1.out.keep (N3.out.mono (T:=[b]) (by simp))
      have hru:RulT (fun k=>wr.heap.size<=k) v2 (⟨⟨rel,ts⟩,body,ln,cl⟩,.slice ta3 ts.length tc3,.slice ba3 bacc.length bc3):=⟨R1.out,R2.out⟩
      have LX:=hru.keep ((Mod.refl [] v2).alloc (Obj.cells #[.string rel,.slice ta3 ts.length tc3,.slice ba3 bacc.length bc3,.int .i64 ln,.int .i64 cl] 63)) (by simp)
      have SX:Src Tryz.prog 5 23 (.slice (some ⟨v2.heap.size,0,none⟩) 1 1) 1 (csU (⟨⟨rel,ts⟩,body,ln,cl⟩,.slice ta3 ts.length tc3,.slice ba3 bacc.length bc3)).toList (v2.alloc (Obj.cells #[.string rel,.slice ta3 ts.length tc3,.slice ba3 bacc.length bc3,.int .i64 ln,.int .i64 cl] 63)):=src_one (cs:=csU (⟨⟨rel,ts⟩,body,ln,cl⟩,.slice ta3 ts.length tc3,.slice ba3 bacc.length bc3)) Tryz.underlying23 (heap_alloc_new v2 _) rfl (csU_one hru.rb)
      have PXH:=Lib.hid PX;have LXH:=Lib.hid LX;have SXH:=Lib.hid SX
      clear PX LX SX hru
      refine step_append_src _ rfl _ _ 23 23 rfl 63 iU (.agg #[.string ⟨#[]⟩,.slice none 0 0,.slice none 0 0,.int .i64 0,.int .i64 0]) 5 80 Tryz.underlying23 hU0 hU1 hU2 hU3 rfl (.slice ua rus.length uc) rus.length (rowCells csU rus) rfl PXH.out.rowU _ 1 (csU (⟨⟨rel,ts⟩,body,ln,cl⟩,.slice ta3 ts.length tc3,.slice ba3 bacc.length bc3)).toList rfl SXH.out (by unfold maxLen;omega) (by omega) ?_
      intro v5 w5 hown5 hm5 hf5
      obtain ⟨ua5,uc5,rfl⟩:=owns_slice hown5
      have hna:pb∉fp (.slice ua rus.length uc):=fun hk=>(PXH.out.newU pb hk).2 rfl
      have hnb:b∉fp (.slice ua rus.length uc):=fun hk=>by have:=(PXH.out.newU b hk).1;omega
      have G5:=Hxq (PXH.out.growU (p:=(⟨⟨rel,ts⟩,body,ln,cl⟩,.slice ta3 ts.length tc3,.slice ba3 bacc.length bc3)) hm5 LXH.out hpw (fun k hk=>hlU.out k hk) (fun k hk=>hlR.out k hk) hown5 hf5)
      have q5:w5.cell? ⟨pb,1,none⟩=some (.slice ua rus.length uc):=hm5.cell (p:=⟨pb,1,none⟩) (cell_at PXH.out.box 1) hna
      have f5:w5.frozen? ⟨pb,1,none⟩=false:=free_at (hm5.at PXH.out.box hna) 1
      have B5:=Hxq (((Mod.refl [pb] w5).setCell (p:=⟨pb,1,none⟩) (.inl (by simp)) (.slice ua5 (rus.length+1) uc5)).at (hm5.at (N3.out.at XC.out (by simp)) hnb) (by simp;omega))
      have MT5:=Hxq ((N3.out.mono (T:=T) (by simp)).trans hm5 (fun t ht=>.inl (by rw [hT];exact List.mem_cons_of_mem _ ht)))
      have MT6:=Hxq (MT5.out.setCell (p:=⟨pb,1,none⟩) (.inl (by rw [hT];simp)) (.slice ua5 (rus.length+1) uc5))
      clear hown5 hm5 hf5 PXH LXH SXH R1 R2
      refine hK.out _ _ (by (try dsimp only);exact MT5.out) (fun hHeld=>?_)
      clear hK K
      try simp only [Act.put,Lq1,Lq2,Lq3]
      refine Tkq 25 (v:=?_) (by assumption) ?_ ?_ ?_
      rotate_left 1
      ·refine .inl ⟨by rfl,?_⟩;intro w hSw;have s1:=hSw.cell ZB.out hTb;have p0:=hSw.cell P0'.out hTg;have p1:=hSw.cell P1'.out hTg;have p2:=hSw.cell P2'.out hTg;have p3:=hSw.cell P3'.out hTg;have p4:=hSw.cell P4'.out hTg;clear hSw;go_simp
       all_goals with_reducible rfl
      ·exact fun _ _ _ h=>h
      try simp only [Act.put,Lq1,Lq2,Lq3]
      refine wpAnyH_ready (rs:=[26]) (by kernel_rfl) (by simp) ?_
      refine AllReadyH.cons (o:=?_) ?_ ?_ AllReadyH.nil
      rotate_left 1
      ·(simp only [Gq1,Gq2,Gq3])<;>rfl
      intro K hK
      go_simp
      refine hK.out _ _ (by (try dsimp only);exact MT6.out) (fun hHeld=>?_)
      clear hK K
      try simp only [Act.put,Lq1,Lq2,Lq3]
      refine wpAnyH_done (by kernel_rfl) ?_ _
      clear q5 f5 hna hnb MT5 MT6 HCA HCB HF1
      go_wp2_with fail
      generalize w5.setCell ⟨pb,1,none⟩ (.slice ua5 (rus.length+1) uc5)=w8 at *
      go_roundw
      case rel =>
       refine ⟨rus++[(⟨⟨rel,ts⟩,body,ln,cl⟩,.slice ta3 ts.length tc3,.slice ba3 bacc.length bc3)],ua5,uc5,by rw [List.length_append];go_num,?_,by simp;omega,by simpa using G5.out,B5.out⟩
       rw [List.map_append,HMQ.out,show ∀ z:RulU,(rus++[z]).length=rus.length+1 from fun z=>by simp,List.take_add_one,HY.out];rfl
      case measure=>simp [intOf];omega
     refine AllReadyH.cons (o:=?_) ?_ ?_ AllReadyH.nil
     rotate_left 1
     ·(simp only [Gq1,Gq2,Gq3])<;>rfl
     intro K hK
     go_simp
     refine (HCB.out _ (N1.out.mono (by simp))).mono ?_
     rintro e4 v2 ⟨bacc,ba3,bc3,rfl,bm,r2,m2⟩
     have N2:=Hxq (N1.out.trans m2 (by simp))
     have R2:Hid (BT (fun k=>wr.heap.size<=k) v2 body (.slice ba3 bacc.length bc3)):=Hxq (bm ▸ (BT.of_gi r2).mono (fun k hk _=>Nat.le_trans (N1.out.size) hk))
     have R1:=Hxq (R1.out.keep m2 (by simp))
     have BL3:Hid (bacc.length=body.length):=Hxq (by rw [<-bm];simp)
     clear m2 r2 bm
     refine hK.out _ _ (by (try dsimp only);exact N2.out.mono (by simp)) (fun hHeld=>?_)
     clear hK K
     try simp only [Act.put,Lq1,Lq2,Lq3]
     refine Tkq 22 (v:=?_) (by assumption) ?_ ?_ ?_
     rotate_left 1
     ·refine .inl ⟨by rfl,?_⟩;intro w hSw;have s1:=hSw.cell ZB.out hTb;have p0:=hSw.cell P0'.out hTg;have p1:=hSw.cell P1'.out hTg;have p2:=hSw.cell P2'.out hTg;have p3:=hSw.cell P3'.out hTg;have p4:=hSw.cell P4'.out hTg;clear hSw;go_simp
      all_goals with_reducible rfl
     ·exact fun _ _ _ h=>h
     try simp only [Act.put,Lq1,Lq2,Lq3]
     refine wpAnyH_ready (rs:=[1,23]) (by kernel_rfl) (by simp) ?_
     refine AllReadyH.cons (o:=?_) ?_ ?_ ?_
     rotate_left 1
     ·(simp only [Gq1,Gq2,Gq3])<;>rfl
     ·intro K hK
      have e1:v2.cell? ⟨pb,1,none⟩=some (.slice ua rus.length uc):=N2.out.cell (p:=⟨pb,1,none⟩) (cell_at BX1.out 1) (by simp)
      go_simp
      refine hK.out _ _ (by (try dsimp only);exact N2.out.mono (by simp)) (fun hHeld=>?_)
      clear hK K
      try simp only [Act.put,Lq1,Lq2,Lq3]
      clear e1
      refine wpAnyH_ready (rs:=[23]) (by kernel_rfl) (by simp) ?_
      refine AllReadyH.cons (o:=?_) ?_ ?_ AllReadyH.nil
      rotate_left 1
      ·(simp only [Gq1,Gq2,Gq3])<;>rfl
      intro K hK
      go_simp
      have N3:Hid (Mod [] wr (v2.alloc (Obj.cells #[.string rel,.slice ta3 ts.length tc3,.slice ba3 bacc.length bc3,.int .i64 ln,.int .i64 cl] 63))):=Hxq (N2.out.alloc _)
      refine hK.out _ _ (by (try dsimp only);exact N3.out.mono (by simp)) (fun hHeld=>?_)
      clear hK K
      try simp only [Act.put,Lq1,Lq2,Lq3]
      refine wpAnyH_ready (rs:=[24]) (by kernel_rfl) (by simp) ?_
      refine AllReadyH.cons (o:=?_) ?_ ?_ AllReadyH.nil
      rotate_left 1
      ·(simp only [Gq1,Gq2,Gq3])<;>rfl
      intro K hK
      have PX:=P1.out.keep (N3.out.mono (T:=[b]) (by simp))
      have hru:RulT (fun k=>wr.heap.size<=k) v2 (⟨⟨rel,ts⟩,body,ln,cl⟩,.slice ta3 ts.length tc3,.slice ba3 bacc.length bc3):=⟨R1.out,R2.out⟩
      have LX:=hru.keep ((Mod.refl [] v2).alloc (Obj.cells #[.string rel,.slice ta3 ts.length tc3,.slice ba3 bacc.length bc3,.int .i64 ln,.int .i64 cl] 63)) (by simp)
      have SX:Src Tryz.prog 5 23 (.slice (some ⟨v2.heap.size,0,none⟩) 1 1) 1 (csU (⟨⟨rel,ts⟩,body,ln,cl⟩,.slice ta3 ts.length tc3,.slice ba3 bacc.length bc3)).toList (v2.alloc (Obj.cells #[.string rel,.slice ta3 ts.length tc3,.slice ba3 bacc.length bc3,.int .i64 ln,.int .i64 cl] 63)):=src_one (cs:=csU (⟨⟨rel,ts⟩,body,ln,cl⟩,.slice ta3 ts.length tc3,.slice ba3 bacc.length bc3)) Tryz.underlying23 (heap_alloc_new v2 _) rfl (csU_one hru.rb)
      have PXH:=Lib.hid PX;have LXH:=Lib.hid LX;have SXH:=Lib.hid SX
      clear PX LX SX hru
      refine step_append_src _ rfl _ _ 23 23 rfl 63 iU (.agg #[.string ⟨#[]⟩,.slice none 0 0,.slice none 0 0,.int .i64 0,.int .i64 0]) 5 80 Tryz.underlying23 hU0 hU1 hU2 hU3 rfl (.slice ua rus.length uc) rus.length (rowCells csU rus) rfl PXH.out.rowU _ 1 (csU (⟨⟨rel,ts⟩,body,ln,cl⟩,.slice ta3 ts.length tc3,.slice ba3 bacc.length bc3)).toList rfl SXH.out (by unfold maxLen;omega) (by omega) ?_
      intro v5 w5 hown5 hm5 hf5
      obtain ⟨ua5,uc5,rfl⟩:=owns_slice hown5
      have hna:pb∉fp (.slice ua rus.length uc):=fun hk=>(PXH.out.newU pb hk).2 rfl
      have hnb:b∉fp (.slice ua rus.length uc):=fun hk=>by have:=(PXH.out.newU b hk).1;omega
      have G5:=Hxq (PXH.out.growU (p:=(⟨⟨rel,ts⟩,body,ln,cl⟩,.slice ta3 ts.length tc3,.slice ba3 bacc.length bc3)) hm5 LXH.out hpw (fun k hk=>hlU.out k hk) (fun k hk=>hlR.out k hk) hown5 hf5)
      have q5:w5.cell? ⟨pb,1,none⟩=some (.slice ua rus.length uc):=hm5.cell (p:=⟨pb,1,none⟩) (cell_at PXH.out.box 1) hna
      have f5:w5.frozen? ⟨pb,1,none⟩=false:=free_at (hm5.at PXH.out.box hna) 1
      have B5:=Hxq (((Mod.refl [pb] w5).setCell (p:=⟨pb,1,none⟩) (.inl (by simp)) (.slice ua5 (rus.length+1) uc5)).at (hm5.at (N3.out.at XC.out (by simp)) hnb) (by simp;omega))
      have MT5:=Hxq ((N3.out.mono (T:=T) (by simp)).trans hm5 (fun t ht=>.inl (by rw [hT];exact List.mem_cons_of_mem _ ht)))
      have MT6:=Hxq (MT5.out.setCell (p:=⟨pb,1,none⟩) (.inl (by rw [hT];simp)) (.slice ua5 (rus.length+1) uc5))
      clear hown5 hm5 hf5 PXH LXH SXH R1 R2
      refine hK.out _ _ (by (try dsimp only);exact MT5.out) (fun hHeld=>?_)
      clear hK K
      try simp only [Act.put,Lq1,Lq2,Lq3]
      refine Tkq 25 (v:=?_) (by assumption) ?_ ?_ ?_
      rotate_left 1
      ·refine .inl ⟨by rfl,?_⟩;intro w hSw;have s1:=hSw.cell ZB.out hTb;have p0:=hSw.cell P0'.out hTg;have p1:=hSw.cell P1'.out hTg;have p2:=hSw.cell P2'.out hTg;have p3:=hSw.cell P3'.out hTg;have p4:=hSw.cell P4'.out hTg;clear hSw;go_simp
       all_goals with_reducible rfl
      ·exact fun _ _ _ h=>h
      try simp only [Act.put,Lq1,Lq2,Lq3]
      refine wpAnyH_ready (rs:=[26]) (by kernel_rfl) (by simp) ?_
      refine AllReadyH.cons (o:=?_) ?_ ?_ AllReadyH.nil
      rotate_left 1
      ·(simp only [Gq1,Gq2,Gq3])<;>rfl
      intro K hK
      go_simp
      refine hK.out _ _ (by (try dsimp only);exact MT6.out) (fun hHeld=>?_)
      clear hK K
      try simp only [Act.put,Lq1,Lq2,Lq3]
      refine wpAnyH_done (by kernel_rfl) ?_ _
      clear q5 f5 hna hnb MT5 MT6 HCA HCB HF1
      go_wp2_with fail
      generalize w5.setCell ⟨pb,1,none⟩ (.slice ua5 (rus.length+1) uc5)=w8 at *
      go_roundw
      case rel =>
       refine ⟨rus++[(⟨⟨rel,ts⟩,body,ln,cl⟩,.slice ta3 ts.length tc3,.slice ba3 bacc.length bc3)],ua5,uc5,by rw [List.length_append];go_num,?_,by simp;omega,by simpa using G5.out,B5.out⟩
       rw [List.map_append,HMQ.out,show ∀ z:RulU,(rus++[z]).length=rus.length+1 from fun z=>by simp,List.take_add_one,HY.out];rfl
      case measure=>simp [intOf];omega
     refine AllReadyH.cons (o:=?_) ?_ ?_ AllReadyH.nil
     rotate_left 1
     ·(simp only [Gq1,Gq2,Gq3])<;>rfl
     intro K hK
     go_simp
     have N3:Hid (Mod [] wr (v2.alloc (Obj.cells #[.string rel,.slice ta3 ts.length tc3,.slice ba3 bacc.length bc3,.int .i64 ln,.int .i64 cl] 63))):=Hxq (N2.out.alloc _)
     refine hK.out _ _ (by (try dsimp only);exact N3.out.mono (by simp)) (fun hHeld=>?_)
     clear hK K
     try simp only [Act.put,Lq1,Lq2,Lq3]
     refine wpAnyH_ready (rs:=[1]) (by kernel_rfl) (by simp) ?_
     refine AllReadyH.cons (o:=?_) ?_ ?_ AllReadyH.nil
     rotate_left 1
     ·(simp only [Gq1,Gq2,Gq3])<;>rfl
     intro K hK
     have e1:(v2.alloc (Obj.cells #[.string rel,.slice ta3 ts.length tc3,.slice ba3 bacc.length bc3,.int .i64 ln,.int .i64 cl] 63)).cell? ⟨pb,1,none⟩=some (.slice ua rus.length uc):=N3.out.cell (p:=⟨pb,1,none⟩) (cell_at BX1.out 1) (by simp)
     go_simp
     refine hK.out _ _ (by (try dsimp only);exact N3.out.mono (by simp)) (fun hHeld=>?_)
     clear hK K
     try simp only [Act.put,Lq1,Lq2,Lq3]
     clear e1
     refine wpAnyH_ready (rs:=[24]) (by kernel_rfl) (by simp) ?_
     refine AllReadyH.cons (o:=?_) ?_ ?_ AllReadyH.nil
     rotate_left 1
     ·(simp only [Gq1,Gq2,Gq3])<;>rfl
     intro K hK
     have PX:=P1.out.keep (N3.out.mono (T:=[b]) (by simp))
     have hru:RulT (fun k=>wr.heap.size<=k) v2 (⟨⟨rel,ts⟩,body,ln,cl⟩,.slice ta3 ts.length tc3,.slice ba3 bacc.length bc3):=⟨R1.out,R2.out⟩
     have LX:=hru.keep ((Mod.refl [] v2).alloc (Obj.cells #[.string rel,.slice ta3 ts.length tc3,.slice ba3 bacc.length bc3,.int .i64 ln,.int .i64 cl] 63)) (by simp)
     have SX:Src Tryz.prog 5 23 (.slice (some ⟨v2.heap.size,0,none⟩) 1 1) 1 (csU (⟨⟨rel,ts⟩,body,ln,cl⟩,.slice ta3 ts.length tc3,.slice ba3 bacc.length bc3)).toList (v2.alloc (Obj.cells #[.string rel,.slice ta3 ts.length tc3,.slice ba3 bacc.length bc3,.int .i64 ln,.int .i64 cl] 63)):=src_one (cs:=csU (⟨⟨rel,ts⟩,body,ln,cl⟩,.slice ta3 ts.length tc3,.slice ba3 bacc.length bc3)) Tryz.underlying23 (heap_alloc_new v2 _) rfl (csU_one hru.rb)
     have PXH:=Lib.hid PX;have LXH:=Lib.hid LX;have SXH:=Lib.hid SX
     clear PX LX SX hru
     refine step_append_src _ rfl _ _ 23 23 rfl 63 iU (.agg #[.string ⟨#[]⟩,.slice none 0 0,.slice none 0 0,.int .i64 0,.int .i64 0]) 5 80 Tryz.underlying23 hU0 hU1 hU2 hU3 rfl (.slice ua rus.length uc) rus.length (rowCells csU rus) rfl PXH.out.rowU _ 1 (csU (⟨⟨rel,ts⟩,body,ln,cl⟩,.slice ta3 ts.length tc3,.slice ba3 bacc.length bc3)).toList rfl SXH.out (by unfold maxLen;omega) (by omega) ?_
     intro v5 w5 hown5 hm5 hf5
     obtain ⟨ua5,uc5,rfl⟩:=owns_slice hown5
     have hna:pb∉fp (.slice ua rus.length uc):=fun hk=>(PXH.out.newU pb hk).2 rfl
     have hnb:b∉fp (.slice ua rus.length uc):=fun hk=>by have:=(PXH.out.newU b hk).1;omega
     have G5:=Hxq (PXH.out.growU (p:=(⟨⟨rel,ts⟩,body,ln,cl⟩,.slice ta3 ts.length tc3,.slice ba3 bacc.length bc3)) hm5 LXH.out hpw (fun k hk=>hlU.out k hk) (fun k hk=>hlR.out k hk) hown5 hf5)
     have q5:w5.cell? ⟨pb,1,none⟩=some (.slice ua rus.length uc):=hm5.cell (p:=⟨pb,1,none⟩) (cell_at PXH.out.box 1) hna
     have f5:w5.frozen? ⟨pb,1,none⟩=false:=free_at (hm5.at PXH.out.box hna) 1
     have B5:=Hxq (((Mod.refl [pb] w5).setCell (p:=⟨pb,1,none⟩) (.inl (by simp)) (.slice ua5 (rus.length+1) uc5)).at (hm5.at (N3.out.at XC.out (by simp)) hnb) (by simp;omega))
     have MT5:=Hxq ((N3.out.mono (T:=T) (by simp)).trans hm5 (fun t ht=>.inl (by rw [hT];exact List.mem_cons_of_mem _ ht)))
     have MT6:=Hxq (MT5.out.setCell (p:=⟨pb,1,none⟩) (.inl (by rw [hT];simp)) (.slice ua5 (rus.length+1) uc5))
     clear hown5 hm5 hf5 PXH LXH SXH R1 R2
     refine hK.out _ _ (by (try dsimp only);exact MT5.out) (fun hHeld=>?_)
     clear hK K
     try simp only [Act.put,Lq1,Lq2,Lq3]
     refine Tkq 25 (v:=?_) (by assumption) ?_ ?_ ?_
     rotate_left 1
     ·refine .inl ⟨by rfl,?_⟩;intro w hSw;have s1:=hSw.cell ZB.out hTb;have p0:=hSw.cell P0'.out hTg;have p1:=hSw.cell P1'.out hTg;have p2:=hSw.cell P2'.out hTg;have p3:=hSw.cell P3'.out hTg;have p4:=hSw.cell P4'.out hTg;clear hSw;go_simp
      all_goals with_reducible rfl
     ·exact fun _ _ _ h=>h
     try simp only [Act.put,Lq1,Lq2,Lq3]
     refine wpAnyH_ready (rs:=[26]) (by kernel_rfl) (by simp) ?_
     refine AllReadyH.cons (o:=?_) ?_ ?_ AllReadyH.nil
     rotate_left 1
     ·(simp only [Gq1,Gq2,Gq3])<;>rfl
     intro K hK
     go_simp
     refine hK.out _ _ (by (try dsimp only);exact MT6.out) (fun hHeld=>?_)
     clear hK K
     try simp only [Act.put,Lq1,Lq2,Lq3]
     refine wpAnyH_done (by kernel_rfl) ?_ _
     clear q5 f5 hna hnb MT5 MT6 HCA HCB HF1
     go_wp2_with fail
     generalize w5.setCell ⟨pb,1,none⟩ (.slice ua5 (rus.length+1) uc5)=w8 at *
     go_roundw
     case rel =>
      refine ⟨rus++[(⟨⟨rel,ts⟩,body,ln,cl⟩,.slice ta3 ts.length tc3,.slice ba3 bacc.length bc3)],ua5,uc5,by rw [List.length_append];go_num,?_,by simp;omega,by simpa using G5.out,B5.out⟩
      rw [List.map_append,HMQ.out,show ∀ z:RulU,(rus++[z]).length=rus.length+1 from fun z=>by simp,List.take_add_one,HY.out];rfl
     case measure=>simp [intOf];omega
    ·have hjI:¬ (rus.length:Int)<(prules.length:Int):=by omega
     have HAE2:Hid (rus.length=prules.length):=Hxq (by omega)
     have HRU:Hid (rus.map (·.1)=prules):=Hxq (by rw [HMQ.out,HAE2.out,List.take_length])
     have hw0:=M0.out.size
     have hb1:=lt_of_block E1.out
     have ER:=Hxq (P1.out.mod.at E1.out (by simp))
     have x0:=cell_at BX1.out 0;have x1:=cell_at BX1.out 1;have z0:=cell_at ER.out 0;have z1:=cell_at ER.out 1
     simp only [List.getElem?_toArray,List.getElem?_cons_zero,List.getElem?_cons_succ] at x0 x1 z0 z1
     have fA:∀ j,wr.frozen? ⟨b+1,j,none⟩=false:=fun j=>free_at ER.out j
     go_wp2_with fail
     have mR:=setCs_mod (b+1) [.slice va rels.length vc,.slice ua rus.length uc] 0 wr
     refine bodyPost_ret (results_cell_row rfl _ _ _ _ _ _ _ rfl (setCs_row (vs:=[.slice va rels.length vc,.slice ua rus.length uc]) ER.out rfl) Tryz.underlying25 rfl (by kernel_rfl)) rfl ⟨rels,rus,va,vc,ua,uc,rfl,by rw [HRL.out,HRU.out],?_⟩
     have hS:∀ s∈[b+1],¬ PF w0 pb (.slice va rels.length vc) (.slice ua rus.length uc) s:=fun s hs hh=>by
      rw [Msq] at hs;subst hs;have:=hh.1;omega
     refine ⟨mR.owns P1.out.rowR (fun k hk hs=>?_),mR.owns P1.out.rowU (fun k hk hs=>?_),fun k hk=>?_,fun k hk=>?_,P1.out.dis,fun q hq=>?_,fun q hq=>?_,?_⟩
     ·rw [Msq] at hs;have:=(P1.out.newR k hk).1;omega
     ·rw [Msq] at hs;have:=(P1.out.newU k hk).1;omega
     ·have:=(P1.out.newR k hk).1;omega
     ·have:=(P1.out.newU k hk).1;omega
     ·exact ((P1.out.subR q hq).keep mR hS).mono (fun k hk _=>⟨by have:=hk.1;omega,hk.2.2.1,hk.2.2.2⟩)
     ·exact ((P1.out.subU q hq).keep mR hS).mono (fun k hk _=>⟨by have:=hk.1;omega,hk.2.2.1,hk.2.2.2⟩)
     ·exact (M0.out.trans (S:=[]) P1.out.mod (fun s hs=>.inr (by rw [Msq] at hs;omega))).trans mR (fun s hs=>.inr (by rw [Msq] at hs;omega))
end Go.Proofs.YtohnmnfhmbmoaaaGreatDoor
