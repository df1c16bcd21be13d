/- THE TEXTS MERGED: VtPlay7 VtPlay8. -/
import Derived.Test.YtdablillhbfgkaaDoorKT12
namespace Go.Proofs.YtdablillhbfgkaaDoor
open Go.RowKit Go.Maps Go.Shelf
set_option linter.unusedVariables false
set_option linter.unusedSimpArgs false
set_option maxRecDepth 100000
set_option maxHeartbeats 8000000 in
theorem play7_0 (w0:World) (wb M:Nat) (cs:Array Value) (sv:Nat->SV) (hd:Value) (of:Nat) (n:Int) (v:Va.Val) (hv:VIn v) (hM:∀ k,k<2->(sv k).l.length<=M) (hM2:M<=4398046511102) (w:World) (hW:Wo w0 w wb cs sv hd of) :
  Calls Tryd.prog 8 #[.pointer (some ⟨wb,0,none⟩),.agg #[.bool false,.int .i64 7,.int .i64 n,.int .i64 v.k,.int .i64 v.n,.string (Lx.ofS v.s)]] w (PlayR w0 wb M):=by
 have mA:=(Mod.refl [] w).alloc (Obj.cells #[.bool false,.int .i64 7,.int .i64 n,.int .i64 v.k,.int .i64 v.n,.string (Lx.ofS v.s)] 38)
 have eA:=heap_alloc_new w (Obj.cells #[.bool false,.int .i64 7,.int .i64 n,.int .i64 v.k,.int .i64 v.n,.string (Lx.ofS v.s)] 38)
 obtain ⟨R,hR⟩:∃ R,R=PlayR w0 wb M:=⟨_,rfl⟩
 rw [<-hR]
 have HR:=Lib.hid hR;have HW:=Lib.hid hW
 have hnil:=seq2_nil
 clear hR hW
 go_enter Tryd.func8,Tryd.ntmps8
 go_upto_region 2 with fail
 generalize w.alloc (Obj.cells _ 38)=x0 at *
 generalize hb3:w.heap.size=b3 at *
 have W0:=Hxq (HW.out.past mA);have MA:=Lib.hid mA;have EA:=Lib.hid eA
 clear mA
 have d:=fun j=>cell_at eA j
 have d0:=d 0;have d1:=d 1;have d2:=d 2;have d3:=d 3;have d4:=d 4;have d5:=d 5
 simp only [List.getElem?_toArray,List.getElem?_cons_zero,List.getElem?_cons_succ] at d0 d1 d2 d3 d4 d5
 clear d eA
 have P:=Hxq (W0.out.pl 0 (by omega))
 have cP:x0.cell? ⟨wb,0,none⟩=some (.pointer (some ⟨(sv 0).p,0,none⟩)):=(cell_at P.out.blk 0).trans P.out.c0
 have cX:x0.cell? ⟨wb,2,none⟩=some (sv 0).x:=(cell_at P.out.blk 2).trans P.out.c2
 have cH:x0.cell? ⟨wb,4,none⟩=some hd:=(cell_at P.out.blk 4).trans W0.out.c4
 have cO:x0.cell? ⟨wb,5,none⟩=some (.int .i64 (of:Nat)):=(cell_at P.out.blk 5).trans W0.out.c5
 have hlM:=hM 0 (by omega)
 have HX:(sv 0).x=.slice (sv 0).xa (sv 0).l.length (sv 0).xc:=rfl
 have hwj:IntKind.i64.wrap 1=1:=by rfl
 go_upto_region 24 with fail
 refine tl_region (fun wS=>Mod [] x0 wS) [0,1,2,5,6,7,8] (by kernel_rfl) ?_
 have hHeld:Mod [] x0 x0.drew:=(Mod.refl [] x0).drew
 try simp only [Act.put,Lq1,Lq2,Lq3]
 generalize x0.drew=wd2 at *
 refine TlAny.pure 0 (v:=?_) ?_ ?_ ?_
 rotate_left 1
 ·refine Or.inl ⟨by rfl,?_⟩
  intro wS _
  go_simp
  all_goals with_reducible rfl
 ·exact fun _ _ _ h=>h
 try simp only [Act.put,Lq1,Lq2,Lq3]
 refine TlAny.pure 5 (v:=?_) ?_ ?_ ?_
 rotate_left 1
 ·refine Or.inl ⟨by rfl,?_⟩
  intro wS _
  go_simp
  all_goals with_reducible rfl
 ·exact fun _ _ _ h=>h
 try simp only [Act.put,Lq1,Lq2,Lq3]
 refine TlAny.pure 6 (v:=?_) ?_ ?_ ?_
 rotate_left 1
 ·refine Or.inl ⟨by rfl,?_⟩
  intro wS _
  go_simp
  all_goals with_reducible rfl
 ·exact fun _ _ _ h=>h
 try simp only [Act.put,Lq1,Lq2,Lq3]
 refine TlAny.pure 1 (v:=?_) ?_ ?_ ?_
 rotate_left 1
 ·refine Or.inl ⟨by rfl,?_⟩
  intro wS _
  go_simp
  all_goals with_reducible rfl
 ·exact fun _ _ _ h=>h
 try simp only [Act.put,Lq1,Lq2,Lq3]
 refine TlAny.pure 2 (v:=?_) ?_ ?_ ?_
 rotate_left 1
 ·refine Or.inl ⟨by rfl,?_⟩
  intro wS _
  go_simp
  all_goals with_reducible rfl
 ·exact fun _ _ _ h=>h
 try simp only [Act.put,Lq1,Lq2,Lq3]
 refine TlAny.take 3 (v:=?_) hHeld ?_ ?_ ?_
 rotate_left 1
 ·refine Or.inl ⟨by rfl,?_⟩
  intro wS hSw
  replace hSw:Mod [] x0 wS:=hSw
  clear hSw
  go_simp
  all_goals with_reducible rfl
 ·exact fun _ _ _ h=>h
 try simp only [Act.put,Lq1,Lq2,Lq3]
 refine TlAny.one 4 ?_
 intro K hK
 go_simp
 refine Calls.mono (copy_any (sv 0).p (sv 0).bm (sv 0).D (sv 0).va (sv 0).vc (sv 0).l (by omega) wd2 (P.out.side.keep hHeld (by simp)).tab) ?_
 rintro e2 w2 ⟨p',bm',va',vc',rfl,hT,hp',hbm',hva',hm2⟩
 have hsd:=hHeld.size
 replace hHeld:=hHeld.trans hm2 (by simp)
 clear hm2
 refine hK.out _ _ (fun _=>hHeld) ?_
 clear hK K
 try simp only [Act.put,Lq1,Lq2,Lq3]
 refine TlAny.pure 7 (v:=?_) ?_ ?_ ?_
 rotate_left 1
 ·refine Or.inl ⟨by rfl,?_⟩
  intro wS _
  go_simp
  all_goals with_reducible rfl
 ·exact fun _ _ _ h=>h
 try simp only [Act.put,Lq1,Lq2,Lq3]
 have W2:=Hxq (W0.out.past hHeld)
 have W2M:=Hxq (hHeld.mono (T:=[wb]) (by simp))
 have hPb:=(W2.out.pl 0 (by omega)).blk
 have qJ:∃ u,w2.cell? ⟨wb,1,none⟩=some u:=⟨_,(cell_at hPb 1).trans (W2.out.pl 1 (by omega)).c0⟩
 obtain ⟨uJ,qJ⟩:=qJ
 have fz:=fun j=>free_at hPb j
 refine TlAny.one 8 ?_
 intro K hK
 go_simp
 refine hK.out _ _ (fun hN=>absurd hN (by decide)) ?_
 clear hK K
 try simp only [Act.put,Lq1,Lq2,Lq3]
 refine TlAny.fin ?_
 have hm9:=(Mod.refl [wb] w2).setCell (p:=⟨wb,1,none⟩) (.inl (by simp)) (.pointer (some ⟨p',0,none⟩))
 have h9:=setCell_at hPb 1 (.pointer (some ⟨p',0,none⟩))
 have z9:(w2.setCell ⟨wb,1,none⟩ (.pointer (some ⟨p',0,none⟩))).heap.size=w2.heap.size:=by simp [World.setCell]
 have hwl:=lt_of_block (W0.out.pl 0 (by omega)).blk
 have hzx:=hHeld.size
 have hpl:=lt_of_block hT.at_
 have hbl:=hT.map.lt
 have hvl:=fun j hj=>fp_lt hT.row j hj
 have T3:=Hxq (hT.keep hm9 (by simp;omega) (by simp;omega) (fun j hj hs=>by rw [Msq] at hs;have:=hva' j hj;omega))
 have P3:=Hxq ((W2.out.pl 0 (by omega)).side.keep hm9 (fun j hj hs=>by rw [Msq] at hs;subst hs;exact (W2.out.pl 0 (by omega)).nin hj))
 have M3:=Lib.hid hm9
 have B3:=Lib.hid h9
 have HS9:=Hxq (fun (i:Nat) (hi:i<2)=>(W2.out.pl i hi).c2)
 clear hT hHeld qJ hPb fz hm9 h9
 generalize w2.setCell ⟨wb,1,none⟩ (.pointer (some ⟨p',0,none⟩))=w3 at *
 have cX:=(cell_at B3.out 2).trans ((Array.getElem?_setIfInBounds_ne (by omega)).trans (HS9.out 0 (by omega)))
 rw [HX] at cX
 obtain ⟨iV,hV0,hV1,hV2,hV3⟩:=info_valT
 go_upto_region 25 with fail
 refine tl_region (fun wS=>Mod [] w3 wS) [0,1,2,10,11,12,13] (by kernel_rfl) ?_
 have hHeld:Mod [] w3 w3.drew:=(Mod.refl [] w3).drew
 try simp only [Act.put,Lq1,Lq2,Lq3]
 generalize w3.drew=wd4 at *
 refine TlAny.pure 0 (v:=?_) ?_ ?_ ?_
 rotate_left 1
 ·refine Or.inl ⟨by rfl,?_⟩
  intro wS _
  go_simp
  all_goals with_reducible rfl
 ·exact fun _ _ _ h=>h
 try simp only [Act.put,Lq1,Lq2,Lq3]
 refine TlAny.pure 10 (v:=?_) ?_ ?_ ?_
 rotate_left 1
 ·refine Or.inl ⟨by rfl,?_⟩
  intro wS _
  go_simp
  all_goals with_reducible rfl
 ·exact fun _ _ _ h=>h
 try simp only [Act.put,Lq1,Lq2,Lq3]
 refine TlAny.pure 11 (v:=?_) ?_ ?_ ?_
 rotate_left 1
 ·refine Or.inl ⟨by rfl,?_⟩
  intro wS _
  go_simp
  all_goals with_reducible rfl
 ·exact fun _ _ _ h=>h
 try simp only [Act.put,Lq1,Lq2,Lq3]
 refine TlAny.pure 1 (v:=?_) ?_ ?_ ?_
 rotate_left 1
 ·refine Or.inl ⟨by rfl,?_⟩
  intro wS _
  go_simp
  all_goals with_reducible rfl
 ·exact fun _ _ _ h=>h
 try simp only [Act.put,Lq1,Lq2,Lq3]
 refine TlAny.pure 2 (v:=?_) ?_ ?_ ?_
 rotate_left 1
 ·refine Or.inl ⟨by rfl,?_⟩
  intro wS _
  go_simp
  all_goals with_reducible rfl
 ·exact fun _ _ _ h=>h
 try simp only [Act.put,Lq1,Lq2,Lq3]
 refine TlAny.take 3 (v:=?_) hHeld ?_ ?_ ?_
 rotate_left 1
 ·refine Or.inl ⟨by rfl,?_⟩
  intro wS hSw
  replace hSw:Mod [] w3 wS:=hSw
  clear hSw
  go_simp
  all_goals with_reducible rfl
 ·exact fun _ _ _ h=>h
 try simp only [Act.put,Lq1,Lq2,Lq3]
 refine TlAny.take 4 (v:=?_) hHeld ?_ ?_ ?_
 rotate_left 1
 ·refine Or.inl ⟨by rfl,?_⟩
  intro wS hSw
  replace hSw:Mod [] w3 wS:=hSw
  clear hSw
  go_simp
  all_goals with_reducible rfl
 ·exact fun _ _ _ h=>h
 try simp only [Act.put,Lq1,Lq2,Lq3]
 refine TlAny.take 5 (v:=?_) hHeld ?_ ?_ ?_
 rotate_left 1
 ·refine Or.inl ⟨by rfl,?_⟩
  intro wS hSw
  replace hSw:Mod [] w3 wS:=hSw
  clear hSw
  go_simp
  all_goals with_reducible rfl
 ·exact fun _ _ _ h=>h
 try simp only [Act.put,Lq1,Lq2,Lq3]
 refine TlAny.take 6 (v:=?_) hHeld ?_ ?_ ?_
 rotate_left 1
 ·refine Or.inl ⟨by rfl,?_⟩
  intro wS hSw
  replace hSw:Mod [] w3 wS:=hSw
  clear hSw
  go_simp
  all_goals with_reducible rfl
 ·exact fun _ _ _ h=>h
 try simp only [Act.put,Lq1,Lq2,Lq3]
 refine TlAny.take 7 (v:=?_) hHeld ?_ ?_ ?_
 rotate_left 1
 ·refine Or.inl ⟨by rfl,?_⟩
  intro wS hSw
  replace hSw:Mod [] w3 wS:=hSw
  clear hSw
  go_simp
  all_goals with_reducible rfl
 ·exact fun _ _ _ h=>h
 try simp only [Act.put,Lq1,Lq2,Lq3]
 refine TlAny.take 8 (v:=?_) hHeld ?_ ?_ ?_
 rotate_left 1
 ·refine Or.inl ⟨by rfl,?_⟩
  intro wS hSw
  replace hSw:Mod [] w3 wS:=hSw
  have p:=hSw.cell cX (by simp)
  clear hSw
  go_simp
  all_goals with_reducible rfl
 ·exact fun _ _ _ h=>h
 try simp only [Act.put,Lq1,Lq2,Lq3]
 refine TlAny.one 9 ?_
 intro K hK
 refine step_append_src _ rfl _ _ 30 30 rfl 28 iV (.agg (valV Va.zero)) 3 32 Tryd.underlying30 hV0 hV1 hV2 hV3 rfl (.slice none 0 0) 0 [] rfl (World.ownsRow_nil _ _ _ _) _ (sv 0).l.length (rowVals (sv 0).l) rfl (src_vals (P3.out.keep hHeld (by simp)).vrow) (by unfold maxLen;omega) (by omega) ?_
 intro v5 w5 hown5 hm5 hf5
 rw [Nat.zero_add] at hown5
 obtain ⟨ua,uc,rfl⟩:=owns_slice hown5
 have hsd4:=hHeld.size
 replace hHeld:=hHeld.trans hm5 (by simp [fp])
 refine hK.out _ _ (fun _=>hHeld) ?_
 clear hK K
 try simp only [Act.put,Lq1,Lq2,Lq3]
 refine TlAny.pure 12 (v:=?_) ?_ ?_ ?_
 rotate_left 1
 ·refine Or.inl ⟨by rfl,?_⟩
  intro wS _
  go_simp
  all_goals with_reducible rfl
 ·exact fun _ _ _ h=>h
 try simp only [Act.put,Lq1,Lq2,Lq3]
 have B5:=hHeld.at B3.out (by simp)
 have qX:∃ u,w5.cell? ⟨wb,3,none⟩=some u:=⟨_,(cell_at B5 3).trans ((Array.getElem?_setIfInBounds_ne (by omega)).trans (HS9.out 1 (by omega)))⟩
 obtain ⟨uX,qX⟩:=qX
 have fz:=fun j=>free_at B5 j
 refine TlAny.one 13 ?_
 intro K hK
 go_simp
 refine hK.out _ _ (fun hN=>absurd hN (by decide)) ?_
 clear hK K
 try simp only [Act.put,Lq1,Lq2,Lq3]
 refine TlAny.fin ?_
 have hm9:=(Mod.refl [wb] w5).setCell (p:=⟨wb,3,none⟩) (.inl (by simp)) (.slice ua (sv 0).l.length uc)
 have h9:=setCell_at B5 3 (.slice ua (sv 0).l.length uc)
 have hnu:∀ j∈fp (.slice ua (sv 0).l.length uc),w3.heap.size<=j:=fun j hj=>by have h2:=hf5 j (by simpa using hj);simp [fp] at h2;omega
 have MA3:=Hxq (((M3.out).trans (hHeld.mono (T:=[wb]) (by simp)) (by simp)).trans hm9 (by simp))
 have SD:=Hxq (show Side (w5.setCell ⟨wb,3,none⟩ (.slice ua (sv 0).l.length uc)) ⟨p',bm',(sv 0).D,va',vc',ua,uc,(sv 0).l⟩ from ⟨(T3.out.keep hHeld (by simp) (by simp) (by simp)).keep hm9 (by simp;omega) (by simp;omega) (fun j hj hs=>by rw [Msq] at hs;have:=hva' j hj;omega),hm9.owns hown5 (fun j hj hs=>by rw [Msq] at hs;have:=hnu j hj;omega),fun j hj hx=>by
  have hx2:=hnu j hx
  rcases List.mem_cons.1 hj with e | hj
  ·dsimp only at e;omega
  ·rcases List.mem_cons.1 hj with e | hj
   ·dsimp only at e;omega
   ·have:=hvl j hj;omega⟩)
 have SF:=Hxq (show ∀ b∈(⟨p',bm',(sv 0).D,va',vc',ua,uc,(sv 0).l⟩:SV).F,x0.heap.size<=b from fun b hb=>by
  rcases List.mem_append.1 hb with hb | hb
  ·rcases List.mem_cons.1 hb with e | hb
   ·dsimp only at e;omega
   ·rcases List.mem_cons.1 hb with e | hb
    ·dsimp only at e;omega
    ·have:=hva' b hb;omega
  ·have:=hnu b hb;omega)
 have MX:Hid (Mod [wb] x0 (w5.setCell ⟨wb,3,none⟩ (.slice ua (sv 0).l.length uc))):=Hxq (W2M.out.trans MA3.out (by simp))
 have B9:=Lib.hid h9
 clear hown5 hm5 hf5 hHeld B5 qX fz hm9 h9 hnu
 generalize w5.setCell ⟨wb,3,none⟩ (.slice ua (sv 0).l.length uc)=w6 at *
 have hsz:=W0.out.sz
 have g4:w6.cell? ⟨wb,4,none⟩=some hd:=(cell_at B9.out 4).trans ((Array.getElem?_setIfInBounds_ne (by omega)).trans ((Array.getElem?_setIfInBounds_ne (by omega)).trans W0.out.c4))
 have g5:w6.cell? ⟨wb,5,none⟩=some (.int .i64 (of:Nat)):=(cell_at B9.out 5).trans ((Array.getElem?_setIfInBounds_ne (by omega)).trans ((Array.getElem?_setIfInBounds_ne (by omega)).trans W0.out.c5))
 have gJ:w6.cell? ⟨wb,1,none⟩=some (.pointer (some ⟨p',0,none⟩)):=(cell_at B9.out 1).trans ((Array.getElem?_setIfInBounds_ne (by omega)).trans (by simp [hsz]))
 have fz:=fun j=>free_at B9.out j
 obtain ⟨cs',hcs⟩:∃ cs':Array Value,cs'=(cs.setIfInBounds 1 (.pointer (some ⟨p',0,none⟩))).setIfInBounds 3 (.slice ua (sv 0).l.length uc):=⟨_,rfl⟩
 have HFIN:=Hxq (fun (hd':Value) (cs2:Array Value) (W':World) (hm:Mod [wb] w6 W') (hw:W'.heap[wb]?=some (.cells cs2 35 (0,0))) (hz:cs2.size=7) (hc:∀ i,i≠4->cs2[i]?=cs'[i]?) (h4:cs2[4]?=some hd') (hh:hd'=.nilFunc\/(hd'=hd/\of≠1)) =>
  W0.out.copy (W':=W') (cs':=cs2) (hd':=hd') 1 (by omega) ⟨p',bm',(sv 0).D,va',vc',ua,uc,(sv 0).l⟩ (SD.out.keep hm (fun j hj hs=>by rw [Msq] at hs;have:=SF.out j hj;omega)) SF.out (MX.out.trans hm (by simp)) hw hz
   ((hc 1 (by omega)).trans (by rw [hcs,Array.getElem?_setIfInBounds_ne (by omega)];simp [hsz])) ((hc 3 (by omega)).trans (by rw [hcs];simp [hsz,SV.x]))
   (fun i hi hn=>⟨(hc i (by omega)).trans (by rw [hcs,Array.getElem?_setIfInBounds_ne (by omega),Array.getElem?_setIfInBounds_ne (by omega)]),(hc (2+i) (by omega)).trans (by rw [hcs,Array.getElem?_setIfInBounds_ne (by omega),Array.getElem?_setIfInBounds_ne (by omega)])⟩)
   h4 ((hc 5 (by omega)).trans (by rw [hcs,Array.getElem?_setIfInBounds_ne (by omega),Array.getElem?_setIfInBounds_ne (by omega)])) hh)
 have HLE:=Hxq (show ∀ k,k<2->((fun i=>if i=1 then (⟨p',bm',(sv 0).D,va',vc',ua,uc,(sv 0).l⟩:SV) else sv i) k).l.length<=M+1 from fun k hk=>by
  by_cases e:k=1
  ·simp only [if_pos e];omega
  ·simp only [if_neg e];have:=hM k hk;omega)
 have h64:cs'[4]?=some hd:=by rw [hcs,Array.getElem?_setIfInBounds_ne (by omega),Array.getElem?_setIfInBounds_ne (by omega)];exact W0.out.c4
 have hsz':cs'.size=7:=by rw [hcs];simp [hsz]
 rw [<-hcs] at B9
 rcases W0.out.held with rfl | ⟨q,rfl,hbox,hqw,hqF⟩
 ·have hnn:=seq2_neq_nil
  have HH:=Hxq (HFIN.out _ cs' w6 (Mod.refl _ _) B9.out hsz' (fun i _=>rfl) h64 (.inl rfl))
  clear HFIN
  go_wp2_with fail
  rw [HR.out]
  exact ⟨rfl,_,_,_,_,HH.out,HLE.out⟩
 ·have hnn:=seq2_neq
  by_cases hof:of=1
  ·subst hof
   have hm9:=(Mod.refl [wb] w6).setCell (p:=⟨wb,4,none⟩) (.inl (by simp)) .nilFunc
   have h9:=setCell_at B9.out 4 .nilFunc
   have HH:=Hxq (HFIN.out _ _ _ hm9 h9 (by simp [hsz']) (fun i hi=>Array.getElem?_setIfInBounds_ne (by omega)) (by simp [hsz']) (.inl rfl))
   clear HFIN hm9 h9 hbox hqF
   unfold tabF at *
   go_wp2_with fail
   rw [HR.out]
   exact ⟨rfl,_,_,_,_,HH.out,HLE.out⟩
  ·have hofI:¬ (of:Int)=1:=by omega
   have HH:=Hxq (HFIN.out _ cs' w6 (Mod.refl _ _) B9.out hsz' (fun i _=>rfl) h64 (.inr ⟨rfl,hof⟩))
   clear HFIN hbox hqF
   unfold tabF at *
   go_wp2_with fail
   rw [HR.out]
   exact ⟨rfl,_,_,_,_,HH.out,HLE.out⟩
set_option maxHeartbeats 8000000 in
theorem play7_1 (w0:World) (wb M:Nat) (cs:Array Value) (sv:Nat->SV) (hd:Value) (of:Nat) (n:Int) (v:Va.Val) (hv:VIn v) (hM:∀ k,k<2->(sv k).l.length<=M) (hM2:M<=4398046511102) (w:World) (hW:Wo w0 w wb cs sv hd of) :
  Calls Tryd.prog 8 #[.pointer (some ⟨wb,0,none⟩),.agg #[.bool true,.int .i64 7,.int .i64 n,.int .i64 v.k,.int .i64 v.n,.string (Lx.ofS v.s)]] w (PlayR w0 wb M):=by
 have mA:=(Mod.refl [] w).alloc (Obj.cells #[.bool true,.int .i64 7,.int .i64 n,.int .i64 v.k,.int .i64 v.n,.string (Lx.ofS v.s)] 38)
 have eA:=heap_alloc_new w (Obj.cells #[.bool true,.int .i64 7,.int .i64 n,.int .i64 v.k,.int .i64 v.n,.string (Lx.ofS v.s)] 38)
 obtain ⟨R,hR⟩:∃ R,R=PlayR w0 wb M:=⟨_,rfl⟩
 rw [<-hR]
 have HR:=Lib.hid hR;have HW:=Lib.hid hW
 have hnil:=seq2_nil
 clear hR hW
 go_enter Tryd.func8,Tryd.ntmps8
 go_upto_region 2 with fail
 generalize w.alloc (Obj.cells _ 38)=x0 at *
 generalize hb3:w.heap.size=b3 at *
 have W0:=Hxq (HW.out.past mA);have MA:=Lib.hid mA;have EA:=Lib.hid eA
 clear mA
 have d:=fun j=>cell_at eA j
 have d0:=d 0;have d1:=d 1;have d2:=d 2;have d3:=d 3;have d4:=d 4;have d5:=d 5
 simp only [List.getElem?_toArray,List.getElem?_cons_zero,List.getElem?_cons_succ] at d0 d1 d2 d3 d4 d5
 clear d eA
 have P:=Hxq (W0.out.pl 1 (by omega))
 have cP:x0.cell? ⟨wb,1,none⟩=some (.pointer (some ⟨(sv 1).p,0,none⟩)):=(cell_at P.out.blk 1).trans P.out.c0
 have cX:x0.cell? ⟨wb,3,none⟩=some (sv 1).x:=(cell_at P.out.blk 3).trans P.out.c2
 have cH:x0.cell? ⟨wb,4,none⟩=some hd:=(cell_at P.out.blk 4).trans W0.out.c4
 have cO:x0.cell? ⟨wb,5,none⟩=some (.int .i64 (of:Nat)):=(cell_at P.out.blk 5).trans W0.out.c5
 have hlM:=hM 1 (by omega)
 have HX:(sv 1).x=.slice (sv 1).xa (sv 1).l.length (sv 1).xc:=rfl
 have hwj:IntKind.i64.wrap 0=0:=by rfl
 go_upto_region 24 with fail
 refine tl_region (fun wS=>Mod [] x0 wS) [0,1,2,5,6,7,8] (by kernel_rfl) ?_
 have hHeld:Mod [] x0 x0.drew:=(Mod.refl [] x0).drew
 try simp only [Act.put,Lq1,Lq2,Lq3]
 generalize x0.drew=wd2 at *
 refine TlAny.pure 0 (v:=?_) ?_ ?_ ?_
 rotate_left 1
 ·refine Or.inl ⟨by rfl,?_⟩
  intro wS _
  go_simp
  all_goals with_reducible rfl
 ·exact fun _ _ _ h=>h
 try simp only [Act.put,Lq1,Lq2,Lq3]
 refine TlAny.pure 5 (v:=?_) ?_ ?_ ?_
 rotate_left 1
 ·refine Or.inl ⟨by rfl,?_⟩
  intro wS _
  go_simp
  all_goals with_reducible rfl
 ·exact fun _ _ _ h=>h
 try simp only [Act.put,Lq1,Lq2,Lq3]
 refine TlAny.pure 6 (v:=?_) ?_ ?_ ?_
 rotate_left 1
 ·refine Or.inl ⟨by rfl,?_⟩
  intro wS _
  go_simp
  all_goals with_reducible rfl
 ·exact fun _ _ _ h=>h
 try simp only [Act.put,Lq1,Lq2,Lq3]
 refine TlAny.pure 1 (v:=?_) ?_ ?_ ?_
 rotate_left 1
 ·refine Or.inl ⟨by rfl,?_⟩
  intro wS _
  go_simp
  all_goals with_reducible rfl
 ·exact fun _ _ _ h=>h
 try simp only [Act.put,Lq1,Lq2,Lq3]
 refine TlAny.pure 2 (v:=?_) ?_ ?_ ?_
 rotate_left 1
 ·refine Or.inl ⟨by rfl,?_⟩
  intro wS _
  go_simp
  all_goals with_reducible rfl
 ·exact fun _ _ _ h=>h
 try simp only [Act.put,Lq1,Lq2,Lq3]
 refine TlAny.take 3 (v:=?_) hHeld ?_ ?_ ?_
 rotate_left 1
 ·refine Or.inl ⟨by rfl,?_⟩
  intro wS hSw
  replace hSw:Mod [] x0 wS:=hSw
  clear hSw
  go_simp
  all_goals with_reducible rfl
 ·exact fun _ _ _ h=>h
 try simp only [Act.put,Lq1,Lq2,Lq3]
 refine TlAny.one 4 ?_
 intro K hK
 go_simp
 refine Calls.mono (copy_any (sv 1).p (sv 1).bm (sv 1).D (sv 1).va (sv 1).vc (sv 1).l (by omega) wd2 (P.out.side.keep hHeld (by simp)).tab) ?_
 rintro e2 w2 ⟨p',bm',va',vc',rfl,hT,hp',hbm',hva',hm2⟩
 have hsd:=hHeld.size
 replace hHeld:=hHeld.trans hm2 (by simp)
 clear hm2
 refine hK.out _ _ (fun _=>hHeld) ?_
 clear hK K
 try simp only [Act.put,Lq1,Lq2,Lq3]
 refine TlAny.pure 7 (v:=?_) ?_ ?_ ?_
 rotate_left 1
 ·refine Or.inl ⟨by rfl,?_⟩
  intro wS _
  go_simp
  all_goals with_reducible rfl
 ·exact fun _ _ _ h=>h
 try simp only [Act.put,Lq1,Lq2,Lq3]
 have W2:=Hxq (W0.out.past hHeld)
 have W2M:=Hxq (hHeld.mono (T:=[wb]) (by simp))
 have hPb:=(W2.out.pl 0 (by omega)).blk
 have qJ:∃ u,w2.cell? ⟨wb,0,none⟩=some u:=⟨_,(cell_at hPb 0).trans (W2.out.pl 0 (by omega)).c0⟩
 obtain ⟨uJ,qJ⟩:=qJ
 have fz:=fun j=>free_at hPb j
 refine TlAny.one 8 ?_
 intro K hK
 go_simp
 refine hK.out _ _ (fun hN=>absurd hN (by decide)) ?_
 clear hK K
 try simp only [Act.put,Lq1,Lq2,Lq3]
 refine TlAny.fin ?_
 have hm9:=(Mod.refl [wb] w2).setCell (p:=⟨wb,0,none⟩) (.inl (by simp)) (.pointer (some ⟨p',0,none⟩))
 have h9:=setCell_at hPb 0 (.pointer (some ⟨p',0,none⟩))
 have z9:(w2.setCell ⟨wb,0,none⟩ (.pointer (some ⟨p',0,none⟩))).heap.size=w2.heap.size:=by simp [World.setCell]
 have hwl:=lt_of_block (W0.out.pl 0 (by omega)).blk
 have hzx:=hHeld.size
 have hpl:=lt_of_block hT.at_
 have hbl:=hT.map.lt
 have hvl:=fun j hj=>fp_lt hT.row j hj
 have T3:=Hxq (hT.keep hm9 (by simp;omega) (by simp;omega) (fun j hj hs=>by rw [Msq] at hs;have:=hva' j hj;omega))
 have P3:=Hxq ((W2.out.pl 1 (by omega)).side.keep hm9 (fun j hj hs=>by rw [Msq] at hs;subst hs;exact (W2.out.pl 1 (by omega)).nin hj))
 have M3:=Lib.hid hm9
 have B3:=Lib.hid h9
 have HS9:=Hxq (fun (i:Nat) (hi:i<2)=>(W2.out.pl i hi).c2)
 clear hT hHeld qJ hPb fz hm9 h9
 generalize w2.setCell ⟨wb,0,none⟩ (.pointer (some ⟨p',0,none⟩))=w3 at *
 have cX:=(cell_at B3.out 3).trans ((Array.getElem?_setIfInBounds_ne (by omega)).trans (HS9.out 1 (by omega)))
 rw [HX] at cX
 obtain ⟨iV,hV0,hV1,hV2,hV3⟩:=info_valT
 go_upto_region 25 with fail
 refine tl_region (fun wS=>Mod [] w3 wS) [0,1,2,10,11,12,13] (by kernel_rfl) ?_
 have hHeld:Mod [] w3 w3.drew:=(Mod.refl [] w3).drew
 try simp only [Act.put,Lq1,Lq2,Lq3]
 generalize w3.drew=wd4 at *
 refine TlAny.pure 0 (v:=?_) ?_ ?_ ?_
 rotate_left 1
 ·refine Or.inl ⟨by rfl,?_⟩
  intro wS _
  go_simp
  all_goals with_reducible rfl
 ·exact fun _ _ _ h=>h
 try simp only [Act.put,Lq1,Lq2,Lq3]
 refine TlAny.pure 10 (v:=?_) ?_ ?_ ?_
 rotate_left 1
 ·refine Or.inl ⟨by rfl,?_⟩
  intro wS _
  go_simp
  all_goals with_reducible rfl
 ·exact fun _ _ _ h=>h
 try simp only [Act.put,Lq1,Lq2,Lq3]
 refine TlAny.pure 11 (v:=?_) ?_ ?_ ?_
 rotate_left 1
 ·refine Or.inl ⟨by rfl,?_⟩
  intro wS _
  go_simp
  all_goals with_reducible rfl
 ·exact fun _ _ _ h=>h
 try simp only [Act.put,Lq1,Lq2,Lq3]
 refine TlAny.pure 1 (v:=?_) ?_ ?_ ?_
 rotate_left 1
 ·refine Or.inl ⟨by rfl,?_⟩
  intro wS _
  go_simp
  all_goals with_reducible rfl
 ·exact fun _ _ _ h=>h
 try simp only [Act.put,Lq1,Lq2,Lq3]
 refine TlAny.pure 2 (v:=?_) ?_ ?_ ?_
 rotate_left 1
 ·refine Or.inl ⟨by rfl,?_⟩
  intro wS _
  go_simp
  all_goals with_reducible rfl
 ·exact fun _ _ _ h=>h
 try simp only [Act.put,Lq1,Lq2,Lq3]
 refine TlAny.take 3 (v:=?_) hHeld ?_ ?_ ?_
 rotate_left 1
 ·refine Or.inl ⟨by rfl,?_⟩
  intro wS hSw
  replace hSw:Mod [] w3 wS:=hSw
  clear hSw
  go_simp
  all_goals with_reducible rfl
 ·exact fun _ _ _ h=>h
 try simp only [Act.put,Lq1,Lq2,Lq3]
 refine TlAny.take 4 (v:=?_) hHeld ?_ ?_ ?_
 rotate_left 1
 ·refine Or.inl ⟨by rfl,?_⟩
  intro wS hSw
  replace hSw:Mod [] w3 wS:=hSw
  clear hSw
  go_simp
  all_goals with_reducible rfl
 ·exact fun _ _ _ h=>h
 try simp only [Act.put,Lq1,Lq2,Lq3]
 refine TlAny.take 5 (v:=?_) hHeld ?_ ?_ ?_
 rotate_left 1
 ·refine Or.inl ⟨by rfl,?_⟩
  intro wS hSw
  replace hSw:Mod [] w3 wS:=hSw
  clear hSw
  go_simp
  all_goals with_reducible rfl
 ·exact fun _ _ _ h=>h
 try simp only [Act.put,Lq1,Lq2,Lq3]
 refine TlAny.take 6 (v:=?_) hHeld ?_ ?_ ?_
 rotate_left 1
 ·refine Or.inl ⟨by rfl,?_⟩
  intro wS hSw
  replace hSw:Mod [] w3 wS:=hSw
  clear hSw
  go_simp
  all_goals with_reducible rfl
 ·exact fun _ _ _ h=>h
 try simp only [Act.put,Lq1,Lq2,Lq3]
 refine TlAny.take 7 (v:=?_) hHeld ?_ ?_ ?_
 rotate_left 1
 ·refine Or.inl ⟨by rfl,?_⟩
  intro wS hSw
  replace hSw:Mod [] w3 wS:=hSw
  clear hSw
  go_simp
  all_goals with_reducible rfl
 ·exact fun _ _ _ h=>h
 try simp only [Act.put,Lq1,Lq2,Lq3]
 refine TlAny.take 8 (v:=?_) hHeld ?_ ?_ ?_
 rotate_left 1
 ·refine Or.inl ⟨by rfl,?_⟩
  intro wS hSw
  replace hSw:Mod [] w3 wS:=hSw
  have p:=hSw.cell cX (by simp)
  clear hSw
  go_simp
  all_goals with_reducible rfl
 ·exact fun _ _ _ h=>h
 try simp only [Act.put,Lq1,Lq2,Lq3]
 refine TlAny.one 9 ?_
 intro K hK
 refine step_append_src _ rfl _ _ 30 30 rfl 28 iV (.agg (valV Va.zero)) 3 32 Tryd.underlying30 hV0 hV1 hV2 hV3 rfl (.slice none 0 0) 0 [] rfl (World.ownsRow_nil _ _ _ _) _ (sv 1).l.length (rowVals (sv 1).l) rfl (src_vals (P3.out.keep hHeld (by simp)).vrow) (by unfold maxLen;omega) (by omega) ?_
 intro v5 w5 hown5 hm5 hf5
 rw [Nat.zero_add] at hown5
 obtain ⟨ua,uc,rfl⟩:=owns_slice hown5
 have hsd4:=hHeld.size
 replace hHeld:=hHeld.trans hm5 (by simp [fp])
 refine hK.out _ _ (fun _=>hHeld) ?_
 clear hK K
 try simp only [Act.put,Lq1,Lq2,Lq3]
 refine TlAny.pure 12 (v:=?_) ?_ ?_ ?_
 rotate_left 1
 ·refine Or.inl ⟨by rfl,?_⟩
  intro wS _
  go_simp
  all_goals with_reducible rfl
 ·exact fun _ _ _ h=>h
 try simp only [Act.put,Lq1,Lq2,Lq3]
 have B5:=hHeld.at B3.out (by simp)
 have qX:∃ u,w5.cell? ⟨wb,2,none⟩=some u:=⟨_,(cell_at B5 2).trans ((Array.getElem?_setIfInBounds_ne (by omega)).trans (HS9.out 0 (by omega)))⟩
 obtain ⟨uX,qX⟩:=qX
 have fz:=fun j=>free_at B5 j
 refine TlAny.one 13 ?_
 intro K hK
 go_simp
 refine hK.out _ _ (fun hN=>absurd hN (by decide)) ?_
 clear hK K
 try simp only [Act.put,Lq1,Lq2,Lq3]
 refine TlAny.fin ?_
 have hm9:=(Mod.refl [wb] w5).setCell (p:=⟨wb,2,none⟩) (.inl (by simp)) (.slice ua (sv 1).l.length uc)
 have h9:=setCell_at B5 2 (.slice ua (sv 1).l.length uc)
 have hnu:∀ j∈fp (.slice ua (sv 1).l.length uc),w3.heap.size<=j:=fun j hj=>by have h2:=hf5 j (by simpa using hj);simp [fp] at h2;omega
 have MA3:=Hxq (((M3.out).trans (hHeld.mono (T:=[wb]) (by simp)) (by simp)).trans hm9 (by simp))
 have SD:=Hxq (show Side (w5.setCell ⟨wb,2,none⟩ (.slice ua (sv 1).l.length uc)) ⟨p',bm',(sv 1).D,va',vc',ua,uc,(sv 1).l⟩ from ⟨(T3.out.keep hHeld (by simp) (by simp) (by simp)).keep hm9 (by simp;omega) (by simp;omega) (fun j hj hs=>by rw [Msq] at hs;have:=hva' j hj;omega),hm9.owns hown5 (fun j hj hs=>by rw [Msq] at hs;have:=hnu j hj;omega),fun j hj hx=>by
  have hx2:=hnu j hx
  rcases List.mem_cons.1 hj with e | hj
  ·dsimp only at e;omega
  ·rcases List.mem_cons.1 hj with e | hj
   ·dsimp only at e;omega
   ·have:=hvl j hj;omega⟩)
 have SF:=Hxq (show ∀ b∈(⟨p',bm',(sv 1).D,va',vc',ua,uc,(sv 1).l⟩:SV).F,x0.heap.size<=b from fun b hb=>by
  rcases List.mem_append.1 hb with hb | hb
  ·rcases List.mem_cons.1 hb with e | hb
   ·dsimp only at e;omega
   ·rcases List.mem_cons.1 hb with e | hb
    ·dsimp only at e;omega
    ·have:=hva' b hb;omega
  ·have:=hnu b hb;omega)
 have MX:Hid (Mod [wb] x0 (w5.setCell ⟨wb,2,none⟩ (.slice ua (sv 1).l.length uc))):=Hxq (W2M.out.trans MA3.out (by simp))
 have B9:=Lib.hid h9
 clear hown5 hm5 hf5 hHeld B5 qX fz hm9 h9 hnu
 generalize w5.setCell ⟨wb,2,none⟩ (.slice ua (sv 1).l.length uc)=w6 at *
 have hsz:=W0.out.sz
 have g4:w6.cell? ⟨wb,4,none⟩=some hd:=(cell_at B9.out 4).trans ((Array.getElem?_setIfInBounds_ne (by omega)).trans ((Array.getElem?_setIfInBounds_ne (by omega)).trans W0.out.c4))
 have g5:w6.cell? ⟨wb,5,none⟩=some (.int .i64 (of:Nat)):=(cell_at B9.out 5).trans ((Array.getElem?_setIfInBounds_ne (by omega)).trans ((Array.getElem?_setIfInBounds_ne (by omega)).trans W0.out.c5))
 have gJ:w6.cell? ⟨wb,0,none⟩=some (.pointer (some ⟨p',0,none⟩)):=(cell_at B9.out 0).trans ((Array.getElem?_setIfInBounds_ne (by omega)).trans (by simp [hsz]))
 have fz:=fun j=>free_at B9.out j
 obtain ⟨cs',hcs⟩:∃ cs':Array Value,cs'=(cs.setIfInBounds 0 (.pointer (some ⟨p',0,none⟩))).setIfInBounds 2 (.slice ua (sv 1).l.length uc):=⟨_,rfl⟩
 have HFIN:=Hxq (fun (hd':Value) (cs2:Array Value) (W':World) (hm:Mod [wb] w6 W') (hw:W'.heap[wb]?=some (.cells cs2 35 (0,0))) (hz:cs2.size=7) (hc:∀ i,i≠4->cs2[i]?=cs'[i]?) (h4:cs2[4]?=some hd') (hh:hd'=.nilFunc\/(hd'=hd/\of≠0)) =>
  W0.out.copy (W':=W') (cs':=cs2) (hd':=hd') 0 (by omega) ⟨p',bm',(sv 1).D,va',vc',ua,uc,(sv 1).l⟩ (SD.out.keep hm (fun j hj hs=>by rw [Msq] at hs;have:=SF.out j hj;omega)) SF.out (MX.out.trans hm (by simp)) hw hz
   ((hc 0 (by omega)).trans (by rw [hcs,Array.getElem?_setIfInBounds_ne (by omega)];simp [hsz])) ((hc 2 (by omega)).trans (by rw [hcs];simp [hsz,SV.x]))
   (fun i hi hn=>⟨(hc i (by omega)).trans (by rw [hcs,Array.getElem?_setIfInBounds_ne (by omega),Array.getElem?_setIfInBounds_ne (by omega)]),(hc (2+i) (by omega)).trans (by rw [hcs,Array.getElem?_setIfInBounds_ne (by omega),Array.getElem?_setIfInBounds_ne (by omega)])⟩)
   h4 ((hc 5 (by omega)).trans (by rw [hcs,Array.getElem?_setIfInBounds_ne (by omega),Array.getElem?_setIfInBounds_ne (by omega)])) hh)
 have HLE:=Hxq (show ∀ k,k<2->((fun i=>if i=0 then (⟨p',bm',(sv 1).D,va',vc',ua,uc,(sv 1).l⟩:SV) else sv i) k).l.length<=M+1 from fun k hk=>by
  by_cases e:k=0
  ·simp only [if_pos e];omega
  ·simp only [if_neg e];have:=hM k hk;omega)
 have h64:cs'[4]?=some hd:=by rw [hcs,Array.getElem?_setIfInBounds_ne (by omega),Array.getElem?_setIfInBounds_ne (by omega)];exact W0.out.c4
 have hsz':cs'.size=7:=by rw [hcs];simp [hsz]
 rw [<-hcs] at B9
 rcases W0.out.held with rfl | ⟨q,rfl,hbox,hqw,hqF⟩
 ·have hnn:=seq2_neq_nil
  have HH:=Hxq (HFIN.out _ cs' w6 (Mod.refl _ _) B9.out hsz' (fun i _=>rfl) h64 (.inl rfl))
  clear HFIN
  go_wp2_with fail
  rw [HR.out]
  exact ⟨rfl,_,_,_,_,HH.out,HLE.out⟩
 ·have hnn:=seq2_neq
  by_cases hof:of=0
  ·subst hof
   have hm9:=(Mod.refl [wb] w6).setCell (p:=⟨wb,4,none⟩) (.inl (by simp)) .nilFunc
   have h9:=setCell_at B9.out 4 .nilFunc
   have HH:=Hxq (HFIN.out _ _ _ hm9 h9 (by simp [hsz']) (fun i hi=>Array.getElem?_setIfInBounds_ne (by omega)) (by simp [hsz']) (.inl rfl))
   clear HFIN hm9 h9 hbox hqF
   unfold tabF at *
   go_wp2_with fail
   rw [HR.out]
   exact ⟨rfl,_,_,_,_,HH.out,HLE.out⟩
  ·have hofI:¬ (of:Int)=0:=by omega
   have HH:=Hxq (HFIN.out _ cs' w6 (Mod.refl _ _) B9.out hsz' (fun i _=>rfl) h64 (.inr ⟨rfl,hof⟩))
   clear HFIN hbox hqF
   unfold tabF at *
   go_wp2_with fail
   rw [HR.out]
   exact ⟨rfl,_,_,_,_,HH.out,HLE.out⟩
set_option maxHeartbeats 8000000 in
theorem play8_0 (w0:World) (wb M:Nat) (cs:Array Value) (sv:Nat->SV) (hd:Value) (of:Nat) (n:Int) (v:Va.Val) (hv:VIn v) (hM:∀ k,k<2->(sv k).l.length<=M) (hM2:M<=4398046511102) (w:World) (hW:Wo w0 w wb cs sv hd of) :
  Calls Tryd.prog 8 #[.pointer (some ⟨wb,0,none⟩),.agg #[.bool false,.int .i64 8,.int .i64 n,.int .i64 v.k,.int .i64 v.n,.string (Lx.ofS v.s)]] w (PlayR w0 wb M):=by
 have mA:=(Mod.refl [] w).alloc (Obj.cells #[.bool false,.int .i64 8,.int .i64 n,.int .i64 v.k,.int .i64 v.n,.string (Lx.ofS v.s)] 38)
 have eA:=heap_alloc_new w (Obj.cells #[.bool false,.int .i64 8,.int .i64 n,.int .i64 v.k,.int .i64 v.n,.string (Lx.ofS v.s)] 38)
 obtain ⟨R,hR⟩:∃ R,R=PlayR w0 wb M:=⟨_,rfl⟩
 rw [<-hR]
 have HR:=Lib.hid hR;have HW:=Lib.hid hW
 have hnil:=seq2_nil
 clear hR hW
 go_enter Tryd.func8,Tryd.ntmps8
 go_upto_region 2 with fail
 generalize w.alloc (Obj.cells _ 38)=x0 at *
 generalize hb3:w.heap.size=b3 at *
 have W0:=Hxq (HW.out.past mA);have MA:=Lib.hid mA;have EA:=Lib.hid eA
 clear mA
 have d:=fun j=>cell_at eA j
 have d0:=d 0;have d1:=d 1;have d2:=d 2;have d3:=d 3;have d4:=d 4;have d5:=d 5
 simp only [List.getElem?_toArray,List.getElem?_cons_zero,List.getElem?_cons_succ] at d0 d1 d2 d3 d4 d5
 clear d eA
 have P:=Hxq (W0.out.pl 0 (by omega))
 have cP:x0.cell? ⟨wb,0,none⟩=some (.pointer (some ⟨(sv 0).p,0,none⟩)):=(cell_at P.out.blk 0).trans P.out.c0
 have cX:x0.cell? ⟨wb,2,none⟩=some (sv 0).x:=(cell_at P.out.blk 2).trans P.out.c2
 have cH:x0.cell? ⟨wb,4,none⟩=some hd:=(cell_at P.out.blk 4).trans W0.out.c4
 have cO:x0.cell? ⟨wb,5,none⟩=some (.int .i64 (of:Nat)):=(cell_at P.out.blk 5).trans W0.out.c5
 have hlM:=hM 0 (by omega)
 have hpp:(Value.pointer (some ⟨(sv 0).p,0,none⟩)).cells=#[Value.pointer (some ⟨(sv 0).p,0,none⟩)]:=rfl
 have hnn:=seq2_neq
 go_wp2_with fail
 refine Calls.mono (all_any (.pointer (some ⟨(sv 0).p,0,none⟩)) x0 rfl hpp) ?_
 rintro e2 w2 ⟨rfl,hbox,hm2⟩
 have W2:=Hxq (W0.out.past hm2)
 have hPb:=(W2.out.pl 0 (by omega)).blk
 have hsz:=W2.out.sz
 have q4:w2.cell? ⟨wb,4,none⟩=some hd:=(cell_at hPb 4).trans W2.out.c4
 have q5:w2.cell? ⟨wb,5,none⟩=some (.int .i64 (of:Nat)):=(cell_at hPb 5).trans W2.out.c5
 have fz:=fun j=>free_at hPb j
 have hm9:=(Mod.refl [wb] w2).setCell (p:=⟨wb,4,none⟩) (.inl (by simp)) (tabF x0.heap.size)
 have h9:=setCell_at hPb 4 (tabF x0.heap.size)
 have hm10:=hm9.setCell (p:=⟨wb,5,none⟩) (.inl (by simp)) (.int .i64 ((0:Nat):Int))
 have h10:=setCell_at h9 5 (.int .i64 ((0:Nat):Int))
 have hwl:=lt_of_block (W0.out.pl 0 (by omega)).blk
 have hW3:=W2.out.take 0 x0.heap.size (by omega) hbox (by omega) (fun i hi hs=>by have:=(W0.out.pl i hi).side.lt _ hs;omega) hm10 h10
 have HW3:=Lib.hid hW3
 have HC:=Hxq (cell_at h9 4)
 clear hPb hm2 hm9 h9 hm10 h10 hW3 hbox
 unfold tabF at *
 go_wp2_with fail
 rw [HR.out]
 exact ⟨rfl,_,_,_,_,HW3.out,fun k hk=>by have:=hM k hk;omega⟩
set_option maxHeartbeats 8000000 in
theorem play8_1 (w0:World) (wb M:Nat) (cs:Array Value) (sv:Nat->SV) (hd:Value) (of:Nat) (n:Int) (v:Va.Val) (hv:VIn v) (hM:∀ k,k<2->(sv k).l.length<=M) (hM2:M<=4398046511102) (w:World) (hW:Wo w0 w wb cs sv hd of) :
  Calls Tryd.prog 8 #[.pointer (some ⟨wb,0,none⟩),.agg #[.bool true,.int .i64 8,.int .i64 n,.int .i64 v.k,.int .i64 v.n,.string (Lx.ofS v.s)]] w (PlayR w0 wb M):=by
 have mA:=(Mod.refl [] w).alloc (Obj.cells #[.bool true,.int .i64 8,.int .i64 n,.int .i64 v.k,.int .i64 v.n,.string (Lx.ofS v.s)] 38)
 have eA:=heap_alloc_new w (Obj.cells #[.bool true,.int .i64 8,.int .i64 n,.int .i64 v.k,.int .i64 v.n,.string (Lx.ofS v.s)] 38)
 obtain ⟨R,hR⟩:∃ R,R=PlayR w0 wb M:=⟨_,rfl⟩
 rw [<-hR]
 have HR:=Lib.hid hR;have HW:=Lib.hid hW
 have hnil:=seq2_nil
 clear hR hW
 go_enter Tryd.func8,Tryd.ntmps8
 go_upto_region 2 with fail
 generalize w.alloc (Obj.cells _ 38)=x0 at *
 generalize hb3:w.heap.size=b3 at *
 have W0:=Hxq (HW.out.past mA);have MA:=Lib.hid mA;have EA:=Lib.hid eA
 clear mA
 have d:=fun j=>cell_at eA j
 have d0:=d 0;have d1:=d 1;have d2:=d 2;have d3:=d 3;have d4:=d 4;have d5:=d 5
 simp only [List.getElem?_toArray,List.getElem?_cons_zero,List.getElem?_cons_succ] at d0 d1 d2 d3 d4 d5
 clear d eA
 have P:=Hxq (W0.out.pl 1 (by omega))
 have cP:x0.cell? ⟨wb,1,none⟩=some (.pointer (some ⟨(sv 1).p,0,none⟩)):=(cell_at P.out.blk 1).trans P.out.c0
 have cX:x0.cell? ⟨wb,3,none⟩=some (sv 1).x:=(cell_at P.out.blk 3).trans P.out.c2
 have cH:x0.cell? ⟨wb,4,none⟩=some hd:=(cell_at P.out.blk 4).trans W0.out.c4
 have cO:x0.cell? ⟨wb,5,none⟩=some (.int .i64 (of:Nat)):=(cell_at P.out.blk 5).trans W0.out.c5
 have hlM:=hM 1 (by omega)
 have hpp:(Value.pointer (some ⟨(sv 1).p,0,none⟩)).cells=#[Value.pointer (some ⟨(sv 1).p,0,none⟩)]:=rfl
 have hnn:=seq2_neq
 go_wp2_with fail
 refine Calls.mono (all_any (.pointer (some ⟨(sv 1).p,0,none⟩)) x0 rfl hpp) ?_
 rintro e2 w2 ⟨rfl,hbox,hm2⟩
 have W2:=Hxq (W0.out.past hm2)
 have hPb:=(W2.out.pl 0 (by omega)).blk
 have hsz:=W2.out.sz
 have q4:w2.cell? ⟨wb,4,none⟩=some hd:=(cell_at hPb 4).trans W2.out.c4
 have q5:w2.cell? ⟨wb,5,none⟩=some (.int .i64 (of:Nat)):=(cell_at hPb 5).trans W2.out.c5
 have fz:=fun j=>free_at hPb j
 have hm9:=(Mod.refl [wb] w2).setCell (p:=⟨wb,4,none⟩) (.inl (by simp)) (tabF x0.heap.size)
 have h9:=setCell_at hPb 4 (tabF x0.heap.size)
 have hm10:=hm9.setCell (p:=⟨wb,5,none⟩) (.inl (by simp)) (.int .i64 ((1:Nat):Int))
 have h10:=setCell_at h9 5 (.int .i64 ((1:Nat):Int))
 have hwl:=lt_of_block (W0.out.pl 0 (by omega)).blk
 have hW3:=W2.out.take 1 x0.heap.size (by omega) hbox (by omega) (fun i hi hs=>by have:=(W0.out.pl i hi).side.lt _ hs;omega) hm10 h10
 have HW3:=Lib.hid hW3
 have HC:=Hxq (cell_at h9 4)
 clear hPb hm2 hm9 h9 hm10 h10 hW3 hbox
 unfold tabF at *
 go_wp2_with fail
 rw [HR.out]
 exact ⟨rfl,_,_,_,_,HW3.out,fun k hk=>by have:=hM k hk;omega⟩
end Go.Proofs.YtdablillhbfgkaaDoor
