/- THE TEXTS MERGED: RpProg. -/
import Derived.Test.YtppigckioalhhaaGreatDoorRKS1
import Derived.Test.YtppigckioalhhaaGreatDoorRKS45
import Derived.Test.YtppigckioalhhaaGreatDoorRKS46
import Derived.BigQuiet
namespace Go.Proofs.YtppigckioalhhaaGreatDoorR
open Go.RowKit
set_option linter.unusedVariables false
set_option linter.unusedSimpArgs false
set_option maxRecDepth 100000
theorem build0_P (w:World):(Instr.build 26 #[]).run Tryz.prog w=.ok (.agg #[Value.slice none 0 0,Value.slice none 0 0]) w:=run_build w 26 _ _ (by kernel_rfl)
theorem badR_cells {x:Value} (h:badR x):∃ C:Array Value,x=.agg C/\C.size=4/\C.toList.all (·.oneCell')=true:=by
 obtain ⟨s,a,n,c,l,k,rfl⟩:=h
 exact ⟨_,rfl,rfl,rfl⟩
set_option maxHeartbeats 32000000 in
theorem rentProgram_any (s:ByteArray) (hs:s.size<=140737488355328) (w:World) :
  Calls Tryz.prog 11 #[.string s] w (AllRes (Sy.whole (Sy.envOf (Cod.str s)) (Sy.prog (Sy.envOf (Cod.str s)))) (valP w.heap.size) (.agg #[Value.slice none 0 0,Value.slice none 0 0]) w):=by
 obtain ⟨iR,hR,hR0,hR1,hR2⟩:=info_parts Tryz.infoRel
 obtain ⟨iU,hU,hU0,hU1,hU2⟩:=info_parts Tryz.infoRul
 have m0:=((Mod.refl [] w).alloc (Obj.cells #[Value.slice none 0 0,Value.slice none 0 0] 26)).alloc (Obj.cells #[Value.int IntKind.i64 0,Value.int IntKind.i64 0,Value.int IntKind.i64 0] 31)
 have e0:=two_a w #[Value.slice none 0 0,Value.slice none 0 0] #[Value.int IntKind.i64 0,Value.int IntKind.i64 0,Value.int IntKind.i64 0] 26 31
 have e1:=two_b w #[Value.slice none 0 0,Value.slice none 0 0] #[Value.int IntKind.i64 0,Value.int IntKind.i64 0,Value.int IntKind.i64 0] 26 31
 have HBg:=Hxq (fun w=>rbegin_any s hs w)
 have hk:=envK s
 have HWh:=Hxq (nz_whole1 (v:=Sy.envOf (Cod.str s)) (one:=Sy.prog (Sy.envOf (Cod.str s))))
 have HQ0:Hid (Sy.prog (Sy.envOf (Cod.str s)) 0=Sy.progF (Sy.envOf (Cod.str s)) ((Sy.envOf (Cod.str s)).ws.length+1) ⟨[],[]⟩ 0):=Lib.hid rfl
 generalize Sy.envOf (Cod.str s)=v at *
 have hv:=hk.ok
 have hlen:=hv.len
 generalize Sy.whole v (Sy.prog v)=q at *
 generalize Sy.prog v 0=q0 at *
 go_enter Tryz.func11,Tryz.ntmps11
 go_upto_region 1 with fail
 have zA:((w.alloc (Obj.cells #[Value.slice none 0 0,Value.slice none 0 0] 26)).alloc (Obj.cells #[Value.int IntKind.i64 0,Value.int IntKind.i64 0,Value.int IntKind.i64 0] 31)).heap.size=w.heap.size+2:=by simp
 generalize (w.alloc (Obj.cells _ 26)).alloc (Obj.cells _ 31)=w0 at *
 have E0:=Lib.hid e0;have E1:=Lib.hid e1;have M0:=Lib.hid m0
 clear e0 e1 m0
 go_wp2_with fail
 refine (HBg.out w0).mono ?_
 rintro e1 w1 ⟨b,ra,rc,L,rfl,h1,hb0,hnw,h42,m1⟩
 have A1:=Hxq (m1.at E0.out (by simp));have B1:=Hxq (m1.at E1.out (by simp));have M1:=Hxq (M0.out.trans m1 (by simp));have H1:=Lib.hid h1
 have hz1:=m1.size
 have hnb:w.heap.size∉[b]:=by simp;omega
 have hnb1:w.heap.size+1∉[b]:=by simp;omega
 have HLo:=Lib.hid h1.low
 have hbl:=h1.lt
 have HTk:=Hxq (fun j w h hj=>rtake_any b ra rc L v j [46] { data:=#[46] } w h hv hj rfl (by decide))
 have HIs:=Hxq (fun j w h hj=>ris_any b ra rc L v j nf0 [114,101,108,97,116,105,111,110] { data:=#[114,101,108,97,116,105,111,110] } w h hv hj rfl (by decide))
 have mB:=(Mod.refl [] w1).alloc (Obj.cells #[Value.slice none 0 0,Value.slice none 0 0] 26)
 have bB:=heap_alloc_new w1 (Obj.cells #[Value.slice none 0 0,Value.slice none 0 0] 26)
 have HB:=Hxq (h1.past mB (by simp))
 have PB:Hid (PI w1 b w1.heap.size [] [] (w1.alloc (Obj.cells #[Value.slice none 0 0,Value.slice none 0 0] 26)) none 0 none 0):=Lib.hid
  ⟨bB,World.ownsRow_nil _ _ _ _,World.ownsRow_nil _ _ _ _,by simp [fp],by simp [fp],by simp [fp],by simp,by simp,Nat.le_refl _,by omega,mB.mono (by simp)⟩
 clear h1 m1 HBg hnw mB bB
 go_upto_region 3 with fail
 generalize hpb:w1.heap.size=pb at PB ⊢
 clear hpb
 generalize w1.alloc (Obj.cells _ 26)=wB at *
 go_loopg [] (v.ws.length+1) (fun gk wr=>∃ (j:Nat) (rels:List RelU) (rus:List RulU) (va:Option Addr) (vc:Nat) (ua:Option Addr) (uc:Nat),PI w1 b pb rels rus wr va vc ua uc/\RpP wr b ra rc L v j nf0/\j<=v.ws.length/\v.ws.length+1<=gk+j/\rels.length<=j/\rus.length<=j/\q0=Sy.progF v gk ⟨rels.map (·.1),rus.map (·.1)⟩ j)
 case atStart=>exact ⟨0,[],[],none,0,none,0,PB.out,HB.out,by omega,by omega,by simp,by simp,HQ0.out⟩
 case round =>
  obtain ⟨j,rels,rus,va,vc,ua,uc,hP,hr,hj,hgk,hl1,hl2,hq⟩:=hrel
  obtain ⟨g',rfl⟩:∃ g',gk=g'+1:=⟨gk - 1,by omega⟩
  rw [progF_eq] at hq
  obtain ⟨c0,c1,c2,c3,c4,c5,c6,c7,c8,c9,fz⟩:=hr.cells
  have P0:=Lib.hid hP;have H0:=Lib.hid hr;have HQ2:=Lib.hid hq
  clear hP hr hq HQ0 PB HB
  by_cases hlt:j<v.ws.length
  ·have hI:(j:Int)<(v.ws.length:Int):=by omega
   have HQ3:Hid (q0=if Sy.sign (v.tk j) [114,101,108,97,116,105,111,110]=true then (Sy.relation v (j+1)).bind fun x j=>(Sy.must v [46] j).bind fun _ j=>Sy.progF v g' ⟨rels.map (·.1)++[x],rus.map (·.1)⟩ j
    else (Sy.rule v j).bind fun x j=>(Sy.must v [46] j).bind fun _ j=>Sy.progF v g' ⟨rels.map (·.1),rus.map (·.1)++[x]⟩ j):=Hxq (by rw [HQ2.out,if_pos hlt])
   clear HQ2
   go_wp2_with fail
   go_quiet (fail)
   have mq:Mod [] wr (wr.drewN nq):=(Mod.refl [] wr).drewN nq
   have HI:=Hxq (HIs.out j (wr.drewN nq) (H0.out.past mq (by simp)) (by omega))
   generalize Sy.sign (v.tk j) [114,101,108,97,116,105,111,110]=rs at *
   go_wp2_with fail
   refine HI.out.mono ?_
   rintro e5 w5 ⟨rfl,m5⟩
   have P5:=Hxq ((P0.out.keep (mq.mono (by simp))).keep (m5.mono (by simp)));have H5:=Hxq ((H0.out.past mq (by simp)).past m5 (by simp))
   clear mq m5 c0 c1 c2 c3 c4 c5 c6 c7 c8 c9 fz P0 H0 HI
   cases rs
   ·clear hI
    have HC:=Hxq (rrule_any b ra rc L v j w5 H5.out hk (by omega))
    have hadv:=Sy.adv_rule v j
    have HQ4:Hid (q0=(Sy.rule v j).bind fun x j=>(Sy.must v [46] j).bind fun _ j=>Sy.progF v g' ⟨rels.map (·.1),rus.map (·.1)++[x]⟩ j):=Lib.hid HQ3.out
    clear HQ3
    have hbx:=lt_of_block P5.out.box
    have hlR:=Hxq (fun k hk=>fp_lt P5.out.rowR k hk)
    have hlU:=Hxq (fun k hk=>fp_lt P5.out.rowU k hk)
    generalize Sy.rule v j=pr at *
    cases pr with
    | err g =>
     have hq:q=.err g:=by rw [HWh.out,HQ4.out];rfl
     clear HWh HQ4 hadv
     subst hq
     go_wp2_with fail
     refine HC.out.mono ?_
     rintro e6 w6 ⟨x6,rfl,hx6,⟨jj,h6⟩,m6⟩
     obtain ⟨C,rfl,hC,hO⟩:=badU_cells hx6
     have hone:∀ u∈C.toList,u.oneCell'=true:=by rw [List.all_eq_true] at hO;exact hO
     clear hx6
     have HSZ:=Hxq (size_of sizeU hC);have HO:=Lib.hid hO;have HC4:=Hxq (show (#[.string ⟨#[]⟩,.slice none 0 0,.slice none 0 0,.int .i64 0,.int .i64 0]:Array Value).size=C.size by rw [hC];rfl);have HCi:=Hxq (show C.size=iU.size by rw [hC,hU1])
     have mD:=(Mod.refl [] w6).alloc (Obj.cells C 55)
     have eD:=heap_alloc_new w6 (Obj.cells C 55)
     have P7:=Hxq ((P5.out.keep m6).keep (mD.mono (by simp)));have H7:=Hxq (h6.past mD (by simp));have D7:=Lib.hid eD
     have FB:Hid (∀ wX,wX=(w6.alloc (Obj.cells C 55)).alloc (Obj.cells C 55)->PI w1 b pb rels rus wX va vc ua uc/\Src Tryz.prog 5 24 (.slice (some ⟨(w6.alloc (Obj.cells C 55)).heap.size,0,none⟩) 1 1) 1 (C).toList wX/\RpP wX b ra rc L v jj g):=Hxq (fun wX e=>by
      subst e
      have mE:=(Mod.refl [] (w6.alloc (Obj.cells C 55))).alloc (Obj.cells C 55)
      exact ⟨P7.out.keep (mE.mono (by simp)),src_one (cs:=C) Tryz.underlying24 (heap_alloc_new _ _) hC hone,H7.out.past mE (by simp)⟩)
     clear h6 m6 mD eD hO hC hone
     go_upto_region 10 with (refine wpList_store_new rfl 55 _ _ rfl w6 w6.heap.size C #[.string ⟨#[]⟩,.slice none 0 0,.slice none 0 0,.int .i64 0,.int .i64 0] 55 rfl rfl rfl rfl HSZ.out HC4.out HO.out ?_)
     generalize w6.alloc (Obj.cells C 55)=w7 at *
     have q7:=cell_at P7.out.box 1
     simp only [List.getElem?_toArray,List.getElem?_cons_zero,List.getElem?_cons_succ] at q7
     go_wp2_with (first | refine wpList_load_row rfl 55 _ rfl w6.heap.size C 55 (0,0) rfl D7.out _ Tryz.underlying55 rfl HSZ.out ?_ | refine wpList_slice_one rfl 24 55 _ rfl C iU (.agg #[.string ⟨#[]⟩,.slice none 0 0,.slice none 0 0,.int .i64 0,.int .i64 0]) rfl Tryz.underlying24 hU hU0 HCi.out (by rw [hU1];omega) (by rw [hU1];omega) ?_ | (at_builtin;refine wpList_append_src _ rfl _ _ 24 24 rfl 55 iU (.agg #[.string ⟨#[]⟩,.slice none 0 0,.slice none 0 0,.int .i64 0,.int .i64 0]) 5 80 Tryz.underlying24 hU hU0 hU1 hU2 rfl (.slice ua rus.length uc) rus.length (rowCells csU rus) rfl (FB.out _ rfl).1.rowU _ 1 (C).toList rfl (FB.out _ rfl).2.1 (by unfold maxLen;omega) (by omega) ?_))
     intro v' w8 hown8 hm8 hf8 hn8
     obtain ⟨va8,vc8,rfl⟩:=owns_slice hown8
     obtain ⟨PX, SX,HX⟩:=FB.out _ rfl
     have hna:pb∉fp (.slice ua rus.length uc):=fun hh=>(PX.newU pb hh).2 rfl
     have q8:w8.cell? ⟨pb,1,none⟩=some (.slice ua rus.length uc):=hm8.cell (p:=⟨pb,1,none⟩) (cell_at PX.box 1) hna
     have f8:w8.frozen? ⟨pb,1,none⟩=false:=free_at (hm8.at PX.box hna) 1
     have MR:=Hxq ((hm8.mono (T:=pb :: fp (.slice ua rus.length uc)) (fun t ht=>.inl (List.mem_cons_of_mem _ ht))).setCell (p:=⟨pb,1,none⟩) (.inl (by simp)) (.slice va8 (rus.length+1) vc8))
     have hge:∀ t∈pb :: fp (.slice ua rus.length uc),w1.heap.size<=t:=fun t ht=>by
      rcases List.mem_cons.1 ht with rfl | ht
      ·exact PX.pbn
      ·exact (PX.newU t ht).1
     have H9:=Hxq (HX.new HLo.out MR.out hge)
     have M9:=Hxq (PX.mod.trans MR.out (fun t ht=>.inr (hge t ht)))
     clear hown8 hm8 hf8 hn8 hna hge PX  SX HX FB D7 HC4 HCi HO HSZ P7 H7 MR q7
     go_upto_region 11 with fail
     generalize w8.setCell ⟨pb,1,none⟩ (.slice va8 (rus.length+1) vc8)=w9 at *
     clear q8 f8
     go_upto_region 13 with fail
     have A9:=Hxq (M9.out.at A1.out hnb);have B9:=Hxq (M9.out.at B1.out hnb1)
     have Q7:=Hxq (show w9.cell? ⟨b,7,none⟩=some (.int .i64 (g.1:Nat)) from cell_at H9.out.at_ 7);have Q8:=Hxq (show w9.cell? ⟨b,8,none⟩=some (.int .i64 (g.2.1:Nat)) from cell_at H9.out.at_ 8);have Q9:=Hxq (show w9.cell? ⟨b,9,none⟩=some (.int .i64 (g.2.2:Nat)) from cell_at H9.out.at_ 9)
     refine wp_region_held_drew (S:=(fun w':World=>Mod [w.heap.size,w.heap.size+1] w9 w')) (by kernel_rfl) (by (try dsimp only);exact (Mod.refl [w.heap.size,w.heap.size+1] w9).drew) (fun hHeld=>?_)
     refine wpAnyH_take (i:=0) (oi:=?_) (v:=.agg #[Value.slice none 0 0,Value.slice none 0 0]) ?_ ?_ ?_ ?_ ?_ ?_ (by assumption) ?_
     rotate_left 1
     ·(simp only [Gq1,Gq2,Gq3])<;>rfl
     ·kernel_rfl
     ·kernel_rfl
     ·kernel_rfl
     rotate_left 1
     ·exact yieldsIf_built (by rfl) 26 rfl _ build0_P
     rotate_left 1
     ·exact fun _ _ _ h=>h
     try simp only [Act.put,Lq1,Lq2,Lq3]
     refine Tkq 1 (v:=?_) (by assumption) ?_ ?_ ?_
     rotate_left 1
     ·refine .inl ⟨by rfl,?_⟩;intro w hSw;have c7:=hSw.cell Q7.out (by simp;omega);have c8:=hSw.cell Q8.out (by simp;omega);have c9:=hSw.cell Q9.out (by simp;omega);clear hSw;go_simp
      all_goals with_reducible rfl
     ·exact fun _ _ _ h=>h
     try simp only [Act.put,Lq1,Lq2,Lq3]
     refine Tkq 2 (v:=?_) (by assumption) ?_ ?_ ?_
     rotate_left 1
     ·refine .inl ⟨by rfl,?_⟩;intro w hSw;have c7:=hSw.cell Q7.out (by simp;omega);have c8:=hSw.cell Q8.out (by simp;omega);have c9:=hSw.cell Q9.out (by simp;omega);clear hSw;go_simp
      all_goals with_reducible rfl
     ·exact fun _ _ _ h=>h
     try simp only [Act.put,Lq1,Lq2,Lq3]
     refine Tkq 3 (v:=?_) (by assumption) ?_ ?_ ?_
     rotate_left 1
     ·refine .inl ⟨by rfl,?_⟩;intro w hSw;have c7:=hSw.cell Q7.out (by simp;omega);have c8:=hSw.cell Q8.out (by simp;omega);have c9:=hSw.cell Q9.out (by simp;omega);clear hSw;go_simp
      all_goals with_reducible rfl
     ·exact fun _ _ _ h=>h
     try simp only [Act.put,Lq1,Lq2,Lq3]
     refine Tkq 4 (v:=?_) (by assumption) ?_ ?_ ?_
     rotate_left 1
     ·refine .inl ⟨by rfl,?_⟩;intro w hSw;have c7:=hSw.cell Q7.out (by simp;omega);have c8:=hSw.cell Q8.out (by simp;omega);have c9:=hSw.cell Q9.out (by simp;omega);clear hSw;go_simp
      all_goals with_reducible rfl
     ·exact fun _ _ _ h=>h
     try simp only [Act.put,Lq1,Lq2,Lq3]
     have mR:=Mod.setRow w9.drew w.heap.size #[Value.slice none 0 0,Value.slice none 0 0]
     have mR2:=Mod.setRow (w9.drew.setRow w.heap.size #[Value.slice none 0 0,Value.slice none 0 0]) (w.heap.size+1) #[.int .i64 (g.1:Nat),.int .i64 (g.2.1:Nat),.int .i64 (g.2.2:Nat)]
     have N5:=Hxq ((Mod.refl [w.heap.size,w.heap.size+1] w9).drew.trans (mR.mono (T:=[w.heap.size,w.heap.size+1]) (by simp)) (by simp))
     have N6:=Hxq (N5.out.trans (mR2.mono (T:=[w.heap.size,w.heap.size+1]) (by simp)) (by simp))
     refine wpAnyH_ready (rs:=[5]) (by kernel_rfl) (by simp) ?_
     refine AllReadyH.cons (o:=?_) ?_ ?_ AllReadyH.nil
     rotate_left 1
     ·(simp only [Gq1,Gq2,Gq3])<;>rfl
     intro K hK
     refine (if_pos (by rfl)).mpr ?_
     refine wp_store_row 26 _ _ rfl w.heap.size #[Value.slice none 0 0,Value.slice none 0 0] rfl rfl 26 _ (drew_cells A9.out) sizeP rfl (by rw [<-Array.all_toList];rfl) ?_
     refine hK.out _ _ (by (try dsimp only);exact N5.out) (fun hHeld=>?_)
     clear hK K
     try simp only [Act.put,Lq1,Lq2,Lq3]
     refine wpAnyH_ready (rs:=[6]) (by kernel_rfl) (by simp) ?_
     refine AllReadyH.cons (o:=?_) ?_ ?_ AllReadyH.nil
     rotate_left 1
     ·(simp only [Gq1,Gq2,Gq3])<;>rfl
     intro K hK
     refine (if_pos (by rfl)).mpr ?_
     refine wp_store_row 31 _ _ rfl (w.heap.size+1) #[.int .i64 (g.1:Nat),.int .i64 (g.2.1:Nat),.int .i64 (g.2.2:Nat)] rfl rfl 31 _ ((setRow_other w9.drew w.heap.size (w.heap.size+1) #[Value.slice none 0 0,Value.slice none 0 0] (by omega)).trans (drew_cells B9.out)) sizeFlt rfl (by rw [<-Array.all_toList];rfl) ?_
     refine hK.out _ _ (by (try dsimp only);exact N6.out) (fun hHeld=>?_)
     clear hK K
     try simp only [Act.put,Lq1,Lq2,Lq3]
     refine wpAnyH_done (by kernel_rfl) ?_ _
     have a6:=setRow_heap w9.drew w.heap.size _ #[Value.slice none 0 0,Value.slice none 0 0] 26 _ (drew_cells A9.out)
     have a7:=mR2.at a6 (by simp)
     have b7:=setRow_heap (w9.drew.setRow w.heap.size #[Value.slice none 0 0,Value.slice none 0 0]) (w.heap.size+1) _ #[.int .i64 (g.1:Nat),.int .i64 (g.2.1:Nat),.int .i64 (g.2.2:Nat)] 31 _ ((setRow_other w9.drew w.heap.size (w.heap.size+1) #[Value.slice none 0 0,Value.slice none 0 0] (by omega)).trans (drew_cells B9.out))
     go_wp2_with fail
     refine bodyPost_ret (res_pair rfl _ _ w.heap.size (w.heap.size+1) #[Value.slice none 0 0,Value.slice none 0 0] #[.int .i64 (g.1:Nat),.int .i64 (g.2.1:Nat),.int .i64 (g.2.2:Nat)] rfl rfl (run_loadVar_row (P:=Tryz.prog) _ _ _ _ _ _ _ a7 Tryz.underlying26 rfl sizeP) (run_loadVar_row (P:=Tryz.prog) _ _ _ _ _ _ _ b7 Tryz.underlying31 rfl sizeFlt)) rfl ⟨rfl,((M1.out.trans (S:=[]) M9.out (fun t ht=>by rw [Msq] at ht;exact .inr (by omega))).drew.trans mR (fun t ht=>?_)).trans mR2 (fun t ht=>?_)⟩
     ·rw [Msq] at ht;exact .inr (by omega)
     ·rw [Msq] at ht;exact .inr (by omega)
    | ok a n =>
     have hn:=hadv a n (by omega) rfl
     have HQ5:Hid (q0=(Sy.must v [46] n).bind fun _ j=>Sy.progF v g' ⟨rels.map (·.1),rus.map (·.1)++[a]⟩ j):=Lib.hid HQ4.out
     clear HQ4 hadv
     go_wp2_with fail
     refine HC.out.mono ?_
     rintro e6 w6 ⟨x6,rfl,⟨u3,t3,rfl,hb3,hc3⟩,h6,m6⟩
     obtain ⟨C,hCe⟩:∃ C,ruV a u3 t3=C:=⟨_,rfl⟩
     have hC:C.size=5:=by rw [<-hCe];rfl
     have hone:∀ u∈C.toList,u.oneCell'=true:=by rw [<-hCe];exact csU_one (p:=(a,u3,t3)) (w:=w6) ⟨hb3,hc3⟩
     have hO:C.toList.all (·.oneCell')=true:=by rw [List.all_eq_true];exact hone
     rw [hCe]
     have HSZ:=Hxq (size_of sizeU hC);have HO:=Lib.hid hO;have HC4:=Hxq (show (#[.string ⟨#[]⟩,.slice none 0 0,.slice none 0 0,.int .i64 0,.int .i64 0]:Array Value).size=C.size by rw [hC];rfl);have HCi:=Hxq (show C.size=iU.size by rw [hC,hU1])
     have mD:=(Mod.refl [] w6).alloc (Obj.cells C 55)
     have eD:=heap_alloc_new w6 (Obj.cells C 55)
     have P7:=Hxq ((P5.out.keep m6).keep (mD.mono (by simp)));have H7:=Hxq (h6.past mD (by simp));have D7:=Lib.hid eD
     have FB:Hid (∀ wX,wX=(w6.alloc (Obj.cells C 55)).alloc (Obj.cells C 55)->PI w1 b pb rels rus wX va vc ua uc/\RulB (fun k=>w5.heap.size<=k) wX (a,u3,t3)/\Src Tryz.prog 5 24 (.slice (some ⟨(w6.alloc (Obj.cells C 55)).heap.size,0,none⟩) 1 1) 1 (ruV a u3 t3).toList wX/\RpP wX b ra rc L v n nf0):=Hxq (fun wX e=>by
      subst e
      have mE:=(Mod.refl [] (w6.alloc (Obj.cells C 55))).alloc (Obj.cells C 55)
      refine ⟨P7.out.keep (mE.mono (by simp)),(RulB.keep (p:=(a,u3,t3)) (w:=w6) ⟨hb3,hc3⟩ mD (by simp)).keep mE (by simp),?_,H7.out.past mE (by simp)⟩
      rw [hCe]
      exact src_one (cs:=C) Tryz.underlying24 (heap_alloc_new _ _) hC hone)
     clear h6 m6 mD eD hO hC hone hCe hb3 hc3
     go_upto_region 10 with (refine wpList_store_new rfl 55 _ _ rfl w6 w6.heap.size C #[.string ⟨#[]⟩,.slice none 0 0,.slice none 0 0,.int .i64 0,.int .i64 0] 55 rfl rfl rfl rfl HSZ.out HC4.out HO.out ?_)
     generalize w6.alloc (Obj.cells C 55)=w7 at *
     have q7:=cell_at P7.out.box 1
     simp only [List.getElem?_toArray,List.getElem?_cons_zero,List.getElem?_cons_succ] at q7
     go_wp2_with (first | refine wpList_load_row rfl 55 _ rfl w6.heap.size C 55 (0,0) rfl D7.out _ Tryz.underlying55 rfl HSZ.out ?_ | refine wpList_slice_one rfl 24 55 _ rfl C iU (.agg #[.string ⟨#[]⟩,.slice none 0 0,.slice none 0 0,.int .i64 0,.int .i64 0]) rfl Tryz.underlying24 hU hU0 HCi.out (by rw [hU1];omega) (by rw [hU1];omega) ?_ | (at_builtin;refine wpList_append_src _ rfl _ _ 24 24 rfl 55 iU (.agg #[.string ⟨#[]⟩,.slice none 0 0,.slice none 0 0,.int .i64 0,.int .i64 0]) 5 80 Tryz.underlying24 hU hU0 hU1 hU2 rfl (.slice ua rus.length uc) rus.length (rowCells csU rus) rfl (FB.out _ rfl).1.rowU _ 1 (ruV a u3 t3).toList rfl (FB.out _ rfl).2.2.1 (by unfold maxLen;omega) (by omega) ?_))
     intro v' w8 hown8 hm8 hf8 hn8
     obtain ⟨va8,vc8,rfl⟩:=owns_slice hown8
     obtain ⟨PX,LX,SX,HX⟩:=FB.out _ rfl
     have hna:pb∉fp (.slice ua rus.length uc):=fun hh=>(PX.newU pb hh).2 rfl
     have q8:w8.cell? ⟨pb,1,none⟩=some (.slice ua rus.length uc):=hm8.cell (p:=⟨pb,1,none⟩) (cell_at PX.box 1) hna
     have f8:w8.frozen? ⟨pb,1,none⟩=false:=free_at (hm8.at PX.box hna) 1
     have MR:=Hxq ((hm8.mono (T:=pb :: fp (.slice ua rus.length uc)) (fun t ht=>.inl (List.mem_cons_of_mem _ ht))).setCell (p:=⟨pb,1,none⟩) (.inl (by simp)) (.slice va8 (rus.length+1) vc8))
     have hge:∀ t∈pb :: fp (.slice ua rus.length uc),w1.heap.size<=t:=fun t ht=>by
      rcases List.mem_cons.1 ht with rfl | ht
      ·exact PX.pbn
      ·exact (PX.newU t ht).1
     have H9:=Hxq (HX.new HLo.out MR.out hge)
     have G9:=Hxq (PX.growU (p:=(a,u3,t3)) hm8 LX hbx hlU.out hlR.out hown8 (fun k hh=>by
      rcases hf8 k hh with hh | hh
      ·exact .inl hh
      ·exact .inr (by simpa using hh)))
     clear hown8 hm8 hf8 hn8 hna hge PX LX SX HX FB D7 HC4 HCi HO HSZ P7 H7 MR q7
     go_upto_region 11 with fail
     generalize w8.setCell ⟨pb,1,none⟩ (.slice va8 (rus.length+1) vc8)=w9 at *
     clear q8 f8
     have HTK:=Hxq (HTk.out n w9 H9.out (by omega))
     have hm1:∀ u n2,Sy.must v [46] n=.ok u n2->n2=n+1:=fun u n2 hm=>by
      unfold Sy.must at hm
      split at hm
      ·cases hm;rfl
      ·cases hm
     have hadvU:=Sy.adv_must v [46] n
     generalize Sy.must v [46] n=pm at *
     cases pm with
     | err g =>
      have hq:q=.err g:=by rw [HWh.out,HQ5.out];rfl
      clear HWh HQ5 hm1 hadvU
      subst hq
      go_wp2_with fail
      refine HTK.out.mono ?_
      rintro e10 w10 ⟨rfl,⟨jj,h10⟩,m10⟩
      have H10:=Lib.hid h10;have M10:=Hxq (G9.out.mod.trans m10 (by simp))
      clear h10 m10 HTK G9 H9
      go_upto_region 13 with fail
      have A10:=Hxq (M10.out.at A1.out hnb);have B10:=Hxq (M10.out.at B1.out hnb1)
      have Q7:=Hxq (show w10.cell? ⟨b,7,none⟩=some (.int .i64 (g.1:Nat)) from cell_at H10.out.at_ 7);have Q8:=Hxq (show w10.cell? ⟨b,8,none⟩=some (.int .i64 (g.2.1:Nat)) from cell_at H10.out.at_ 8);have Q9:=Hxq (show w10.cell? ⟨b,9,none⟩=some (.int .i64 (g.2.2:Nat)) from cell_at H10.out.at_ 9)
      refine wp_region_held_drew (S:=(fun w':World=>Mod [w.heap.size,w.heap.size+1] w10 w')) (by kernel_rfl) (by (try dsimp only);exact (Mod.refl [w.heap.size,w.heap.size+1] w10).drew) (fun hHeld=>?_)
      refine wpAnyH_take (i:=0) (oi:=?_) (v:=.agg #[Value.slice none 0 0,Value.slice none 0 0]) ?_ ?_ ?_ ?_ ?_ ?_ (by assumption) ?_
      rotate_left 1
      ·(simp only [Gq1,Gq2,Gq3])<;>rfl
      ·kernel_rfl
      ·kernel_rfl
      ·kernel_rfl
      rotate_left 1
      ·exact yieldsIf_built (by rfl) 26 rfl _ build0_P
      rotate_left 1
      ·exact fun _ _ _ h=>h
      try simp only [Act.put,Lq1,Lq2,Lq3]
      refine Tkq 1 (v:=?_) (by assumption) ?_ ?_ ?_
      rotate_left 1
      ·refine .inl ⟨by rfl,?_⟩;intro w hSw;have c7:=hSw.cell Q7.out (by simp;omega);have c8:=hSw.cell Q8.out (by simp;omega);have c9:=hSw.cell Q9.out (by simp;omega);clear hSw;go_simp
       all_goals with_reducible rfl
      ·exact fun _ _ _ h=>h
      try simp only [Act.put,Lq1,Lq2,Lq3]
      refine Tkq 2 (v:=?_) (by assumption) ?_ ?_ ?_
      rotate_left 1
      ·refine .inl ⟨by rfl,?_⟩;intro w hSw;have c7:=hSw.cell Q7.out (by simp;omega);have c8:=hSw.cell Q8.out (by simp;omega);have c9:=hSw.cell Q9.out (by simp;omega);clear hSw;go_simp
       all_goals with_reducible rfl
      ·exact fun _ _ _ h=>h
      try simp only [Act.put,Lq1,Lq2,Lq3]
      refine Tkq 3 (v:=?_) (by assumption) ?_ ?_ ?_
      rotate_left 1
      ·refine .inl ⟨by rfl,?_⟩;intro w hSw;have c7:=hSw.cell Q7.out (by simp;omega);have c8:=hSw.cell Q8.out (by simp;omega);have c9:=hSw.cell Q9.out (by simp;omega);clear hSw;go_simp
       all_goals with_reducible rfl
      ·exact fun _ _ _ h=>h
      try simp only [Act.put,Lq1,Lq2,Lq3]
      refine Tkq 4 (v:=?_) (by assumption) ?_ ?_ ?_
      rotate_left 1
      ·refine .inl ⟨by rfl,?_⟩;intro w hSw;have c7:=hSw.cell Q7.out (by simp;omega);have c8:=hSw.cell Q8.out (by simp;omega);have c9:=hSw.cell Q9.out (by simp;omega);clear hSw;go_simp
       all_goals with_reducible rfl
      ·exact fun _ _ _ h=>h
      try simp only [Act.put,Lq1,Lq2,Lq3]
      have mR:=Mod.setRow w10.drew w.heap.size #[Value.slice none 0 0,Value.slice none 0 0]
      have mR2:=Mod.setRow (w10.drew.setRow w.heap.size #[Value.slice none 0 0,Value.slice none 0 0]) (w.heap.size+1) #[.int .i64 (g.1:Nat),.int .i64 (g.2.1:Nat),.int .i64 (g.2.2:Nat)]
      have N5:=Hxq ((Mod.refl [w.heap.size,w.heap.size+1] w10).drew.trans (mR.mono (T:=[w.heap.size,w.heap.size+1]) (by simp)) (by simp))
      have N6:=Hxq (N5.out.trans (mR2.mono (T:=[w.heap.size,w.heap.size+1]) (by simp)) (by simp))
      refine wpAnyH_ready (rs:=[5]) (by kernel_rfl) (by simp) ?_
      refine AllReadyH.cons (o:=?_) ?_ ?_ AllReadyH.nil
      rotate_left 1
      ·(simp only [Gq1,Gq2,Gq3])<;>rfl
      intro K hK
      refine (if_pos (by rfl)).mpr ?_
      refine wp_store_row 26 _ _ rfl w.heap.size #[Value.slice none 0 0,Value.slice none 0 0] rfl rfl 26 _ (drew_cells A10.out) sizeP rfl (by rw [<-Array.all_toList];rfl) ?_
      refine hK.out _ _ (by (try dsimp only);exact N5.out) (fun hHeld=>?_)
      clear hK K
      try simp only [Act.put,Lq1,Lq2,Lq3]
      refine wpAnyH_ready (rs:=[6]) (by kernel_rfl) (by simp) ?_
      refine AllReadyH.cons (o:=?_) ?_ ?_ AllReadyH.nil
      rotate_left 1
      ·(simp only [Gq1,Gq2,Gq3])<;>rfl
      intro K hK
      refine (if_pos (by rfl)).mpr ?_
      refine wp_store_row 31 _ _ rfl (w.heap.size+1) #[.int .i64 (g.1:Nat),.int .i64 (g.2.1:Nat),.int .i64 (g.2.2:Nat)] rfl rfl 31 _ ((setRow_other w10.drew w.heap.size (w.heap.size+1) #[Value.slice none 0 0,Value.slice none 0 0] (by omega)).trans (drew_cells B10.out)) sizeFlt rfl (by rw [<-Array.all_toList];rfl) ?_
      refine hK.out _ _ (by (try dsimp only);exact N6.out) (fun hHeld=>?_)
      clear hK K
      try simp only [Act.put,Lq1,Lq2,Lq3]
      refine wpAnyH_done (by kernel_rfl) ?_ _
      have a6:=setRow_heap w10.drew w.heap.size _ #[Value.slice none 0 0,Value.slice none 0 0] 26 _ (drew_cells A10.out)
      have a7:=mR2.at a6 (by simp)
      have b7:=setRow_heap (w10.drew.setRow w.heap.size #[Value.slice none 0 0,Value.slice none 0 0]) (w.heap.size+1) _ #[.int .i64 (g.1:Nat),.int .i64 (g.2.1:Nat),.int .i64 (g.2.2:Nat)] 31 _ ((setRow_other w10.drew w.heap.size (w.heap.size+1) #[Value.slice none 0 0,Value.slice none 0 0] (by omega)).trans (drew_cells B10.out))
      go_wp2_with fail
      refine bodyPost_ret (res_pair rfl _ _ w.heap.size (w.heap.size+1) #[Value.slice none 0 0,Value.slice none 0 0] #[.int .i64 (g.1:Nat),.int .i64 (g.2.1:Nat),.int .i64 (g.2.2:Nat)] rfl rfl (run_loadVar_row (P:=Tryz.prog) _ _ _ _ _ _ _ a7 Tryz.underlying26 rfl sizeP) (run_loadVar_row (P:=Tryz.prog) _ _ _ _ _ _ _ b7 Tryz.underlying31 rfl sizeFlt)) rfl ⟨rfl,((M1.out.trans (S:=[]) M10.out (fun t ht=>by rw [Msq] at ht;exact .inr (by omega))).drew.trans mR (fun t ht=>?_)).trans mR2 (fun t ht=>?_)⟩
      ·rw [Msq] at ht;exact .inr (by omega)
      ·rw [Msq] at ht;exact .inr (by omega)
     | ok uu n2 =>
      have hn2:=hm1 uu n2 rfl
      have hn3:=hadvU uu n2 hn.2 rfl
      have HQ6:=Lib.hid HQ5.out
      clear HQ5 hm1 hadvU
      go_wp2_with fail
      refine HTK.out.mono ?_
      rintro e10 w10 ⟨rfl,h10,m10⟩
      have H10:=Lib.hid h10;have P10:=Hxq (G9.out.keep m10)
      clear h10 m10 HTK G9 H9
      go_wp2_with fail
      go_roundg g'
      case measure=>omega
      case rel=>exact ⟨n2,rels,(rus++[(a,u3,t3)]),va,vc,va8,vc8,P10.out,H10.out,hn3.2,by omega,by first | omega | (simp;omega),by first | omega | (simp;omega),by rw [HQ6.out];simp [Sy.PR.bind]⟩
   ·clear hI
    have HC:=Hxq (rrelation_any b ra rc L v j w5 H5.out hk hlt)
    have hadv:=Sy.adv_relation v (j+1)
    have HQ4:Hid (q0=(Sy.relation v (j+1)).bind fun x j=>(Sy.must v [46] j).bind fun _ j=>Sy.progF v g' ⟨rels.map (·.1)++[x],rus.map (·.1)⟩ j):=Lib.hid HQ3.out
    clear HQ3
    have hbx:=lt_of_block P5.out.box
    have hlR:=Hxq (fun k hk=>fp_lt P5.out.rowR k hk)
    have hlU:=Hxq (fun k hk=>fp_lt P5.out.rowU k hk)
    generalize Sy.relation v (j+1)=pr at *
    cases pr with
    | err g =>
     have hq:q=.err g:=by rw [HWh.out,HQ4.out];rfl
     clear HWh HQ4 hadv
     subst hq
     go_wp2_with fail
     refine HC.out.mono ?_
     rintro e6 w6 ⟨x6,rfl,hx6,⟨jj,h6⟩,m6⟩
     obtain ⟨C,rfl,hC,hO⟩:=badR_cells hx6
     have hone:∀ u∈C.toList,u.oneCell'=true:=by rw [List.all_eq_true] at hO;exact hO
     clear hx6
     have HSZ:=Hxq (size_of Tryz.sizeRe hC);have HO:=Lib.hid hO;have HC4:=Hxq (show (#[.string ⟨#[]⟩,.slice none 0 0,.int .i64 0,.int .i64 0]:Array Value).size=C.size by rw [hC];rfl);have HCi:=Hxq (show C.size=iR.size by rw [hC,hR1])
     have mD:=(Mod.refl [] w6).alloc (Obj.cells C 81)
     have eD:=heap_alloc_new w6 (Obj.cells C 81)
     have P7:=Hxq ((P5.out.keep m6).keep (mD.mono (by simp)));have H7:=Hxq (h6.past mD (by simp));have D7:=Lib.hid eD
     have FB:Hid (∀ wX,wX=(w6.alloc (Obj.cells C 81)).alloc (Obj.cells C 81)->PI w1 b pb rels rus wX va vc ua uc/\Src Tryz.prog 4 23 (.slice (some ⟨(w6.alloc (Obj.cells C 81)).heap.size,0,none⟩) 1 1) 1 (C).toList wX/\RpP wX b ra rc L v jj g):=Hxq (fun wX e=>by
      subst e
      have mE:=(Mod.refl [] (w6.alloc (Obj.cells C 81))).alloc (Obj.cells C 81)
      exact ⟨P7.out.keep (mE.mono (by simp)),src_one (cs:=C) Tryz.underlying23 (heap_alloc_new _ _) hC hone,H7.out.past mE (by simp)⟩)
     clear h6 m6 mD eD hO hC hone
     go_upto_region 7 with (refine wpList_store_new rfl 81 _ _ rfl w6 w6.heap.size C #[.string ⟨#[]⟩,.slice none 0 0,.int .i64 0,.int .i64 0] 81 rfl rfl rfl rfl HSZ.out HC4.out HO.out ?_)
     generalize w6.alloc (Obj.cells C 81)=w7 at *
     have q7:=cell_at P7.out.box 0
     simp only [List.getElem?_toArray,List.getElem?_cons_zero,List.getElem?_cons_succ] at q7
     go_wp2_with (first | refine wpList_load_row rfl 81 _ rfl w6.heap.size C 81 (0,0) rfl D7.out _ Tryz.underlying81 rfl HSZ.out ?_ | refine wpList_slice_one rfl 23 81 _ rfl C iR (.agg #[.string ⟨#[]⟩,.slice none 0 0,.int .i64 0,.int .i64 0]) rfl Tryz.underlying23 hR hR0 HCi.out (by rw [hR1];omega) (by rw [hR1];omega) ?_ | (at_builtin;refine wpList_append_src _ rfl _ _ 23 23 rfl 81 iR (.agg #[.string ⟨#[]⟩,.slice none 0 0,.int .i64 0,.int .i64 0]) 4 56 Tryz.underlying23 hR hR0 hR1 hR2 rfl (.slice va rels.length vc) rels.length (rowCells csR rels) rfl (FB.out _ rfl).1.rowR _ 1 (C).toList rfl (FB.out _ rfl).2.1 (by unfold maxLen;omega) (by omega) ?_))
     intro v' w8 hown8 hm8 hf8 hn8
     obtain ⟨va8,vc8,rfl⟩:=owns_slice hown8
     obtain ⟨PX, SX,HX⟩:=FB.out _ rfl
     have hna:pb∉fp (.slice va rels.length vc):=fun hh=>(PX.newR pb hh).2 rfl
     have q8:w8.cell? ⟨pb,0,none⟩=some (.slice va rels.length vc):=hm8.cell (p:=⟨pb,0,none⟩) (cell_at PX.box 0) hna
     have f8:w8.frozen? ⟨pb,0,none⟩=false:=free_at (hm8.at PX.box hna) 0
     have MR:=Hxq ((hm8.mono (T:=pb :: fp (.slice va rels.length vc)) (fun t ht=>.inl (List.mem_cons_of_mem _ ht))).setCell (p:=⟨pb,0,none⟩) (.inl (by simp)) (.slice va8 (rels.length+1) vc8))
     have hge:∀ t∈pb :: fp (.slice va rels.length vc),w1.heap.size<=t:=fun t ht=>by
      rcases List.mem_cons.1 ht with rfl | ht
      ·exact PX.pbn
      ·exact (PX.newR t ht).1
     have H9:=Hxq (HX.new HLo.out MR.out hge)
     have M9:=Hxq (PX.mod.trans MR.out (fun t ht=>.inr (hge t ht)))
     clear hown8 hm8 hf8 hn8 hna hge PX  SX HX FB D7 HC4 HCi HO HSZ P7 H7 MR q7
     go_upto_region 8 with fail
     generalize w8.setCell ⟨pb,0,none⟩ (.slice va8 (rels.length+1) vc8)=w9 at *
     clear q8 f8
     go_upto_region 13 with fail
     have A9:=Hxq (M9.out.at A1.out hnb);have B9:=Hxq (M9.out.at B1.out hnb1)
     have Q7:=Hxq (show w9.cell? ⟨b,7,none⟩=some (.int .i64 (g.1:Nat)) from cell_at H9.out.at_ 7);have Q8:=Hxq (show w9.cell? ⟨b,8,none⟩=some (.int .i64 (g.2.1:Nat)) from cell_at H9.out.at_ 8);have Q9:=Hxq (show w9.cell? ⟨b,9,none⟩=some (.int .i64 (g.2.2:Nat)) from cell_at H9.out.at_ 9)
     refine wp_region_held_drew (S:=(fun w':World=>Mod [w.heap.size,w.heap.size+1] w9 w')) (by kernel_rfl) (by (try dsimp only);exact (Mod.refl [w.heap.size,w.heap.size+1] w9).drew) (fun hHeld=>?_)
     refine wpAnyH_take (i:=0) (oi:=?_) (v:=.agg #[Value.slice none 0 0,Value.slice none 0 0]) ?_ ?_ ?_ ?_ ?_ ?_ (by assumption) ?_
     rotate_left 1
     ·(simp only [Gq1,Gq2,Gq3])<;>rfl
     ·kernel_rfl
     ·kernel_rfl
     ·kernel_rfl
     rotate_left 1
     ·exact yieldsIf_built (by rfl) 26 rfl _ build0_P
     rotate_left 1
     ·exact fun _ _ _ h=>h
     try simp only [Act.put,Lq1,Lq2,Lq3]
     refine Tkq 1 (v:=?_) (by assumption) ?_ ?_ ?_
     rotate_left 1
     ·refine .inl ⟨by rfl,?_⟩;intro w hSw;have c7:=hSw.cell Q7.out (by simp;omega);have c8:=hSw.cell Q8.out (by simp;omega);have c9:=hSw.cell Q9.out (by simp;omega);clear hSw;go_simp
      all_goals with_reducible rfl
     ·exact fun _ _ _ h=>h
     try simp only [Act.put,Lq1,Lq2,Lq3]
     refine Tkq 2 (v:=?_) (by assumption) ?_ ?_ ?_
     rotate_left 1
     ·refine .inl ⟨by rfl,?_⟩;intro w hSw;have c7:=hSw.cell Q7.out (by simp;omega);have c8:=hSw.cell Q8.out (by simp;omega);have c9:=hSw.cell Q9.out (by simp;omega);clear hSw;go_simp
      all_goals with_reducible rfl
     ·exact fun _ _ _ h=>h
     try simp only [Act.put,Lq1,Lq2,Lq3]
     refine Tkq 3 (v:=?_) (by assumption) ?_ ?_ ?_
     rotate_left 1
     ·refine .inl ⟨by rfl,?_⟩;intro w hSw;have c7:=hSw.cell Q7.out (by simp;omega);have c8:=hSw.cell Q8.out (by simp;omega);have c9:=hSw.cell Q9.out (by simp;omega);clear hSw;go_simp
      all_goals with_reducible rfl
     ·exact fun _ _ _ h=>h
     try simp only [Act.put,Lq1,Lq2,Lq3]
     refine Tkq 4 (v:=?_) (by assumption) ?_ ?_ ?_
     rotate_left 1
     ·refine .inl ⟨by rfl,?_⟩;intro w hSw;have c7:=hSw.cell Q7.out (by simp;omega);have c8:=hSw.cell Q8.out (by simp;omega);have c9:=hSw.cell Q9.out (by simp;omega);clear hSw;go_simp
      all_goals with_reducible rfl
     ·exact fun _ _ _ h=>h
     try simp only [Act.put,Lq1,Lq2,Lq3]
     have mR:=Mod.setRow w9.drew w.heap.size #[Value.slice none 0 0,Value.slice none 0 0]
     have mR2:=Mod.setRow (w9.drew.setRow w.heap.size #[Value.slice none 0 0,Value.slice none 0 0]) (w.heap.size+1) #[.int .i64 (g.1:Nat),.int .i64 (g.2.1:Nat),.int .i64 (g.2.2:Nat)]
     have N5:=Hxq ((Mod.refl [w.heap.size,w.heap.size+1] w9).drew.trans (mR.mono (T:=[w.heap.size,w.heap.size+1]) (by simp)) (by simp))
     have N6:=Hxq (N5.out.trans (mR2.mono (T:=[w.heap.size,w.heap.size+1]) (by simp)) (by simp))
     refine wpAnyH_ready (rs:=[5]) (by kernel_rfl) (by simp) ?_
     refine AllReadyH.cons (o:=?_) ?_ ?_ AllReadyH.nil
     rotate_left 1
     ·(simp only [Gq1,Gq2,Gq3])<;>rfl
     intro K hK
     refine (if_pos (by rfl)).mpr ?_
     refine wp_store_row 26 _ _ rfl w.heap.size #[Value.slice none 0 0,Value.slice none 0 0] rfl rfl 26 _ (drew_cells A9.out) sizeP rfl (by rw [<-Array.all_toList];rfl) ?_
     refine hK.out _ _ (by (try dsimp only);exact N5.out) (fun hHeld=>?_)
     clear hK K
     try simp only [Act.put,Lq1,Lq2,Lq3]
     refine wpAnyH_ready (rs:=[6]) (by kernel_rfl) (by simp) ?_
     refine AllReadyH.cons (o:=?_) ?_ ?_ AllReadyH.nil
     rotate_left 1
     ·(simp only [Gq1,Gq2,Gq3])<;>rfl
     intro K hK
     refine (if_pos (by rfl)).mpr ?_
     refine wp_store_row 31 _ _ rfl (w.heap.size+1) #[.int .i64 (g.1:Nat),.int .i64 (g.2.1:Nat),.int .i64 (g.2.2:Nat)] rfl rfl 31 _ ((setRow_other w9.drew w.heap.size (w.heap.size+1) #[Value.slice none 0 0,Value.slice none 0 0] (by omega)).trans (drew_cells B9.out)) sizeFlt rfl (by rw [<-Array.all_toList];rfl) ?_
     refine hK.out _ _ (by (try dsimp only);exact N6.out) (fun hHeld=>?_)
     clear hK K
     try simp only [Act.put,Lq1,Lq2,Lq3]
     refine wpAnyH_done (by kernel_rfl) ?_ _
     have a6:=setRow_heap w9.drew w.heap.size _ #[Value.slice none 0 0,Value.slice none 0 0] 26 _ (drew_cells A9.out)
     have a7:=mR2.at a6 (by simp)
     have b7:=setRow_heap (w9.drew.setRow w.heap.size #[Value.slice none 0 0,Value.slice none 0 0]) (w.heap.size+1) _ #[.int .i64 (g.1:Nat),.int .i64 (g.2.1:Nat),.int .i64 (g.2.2:Nat)] 31 _ ((setRow_other w9.drew w.heap.size (w.heap.size+1) #[Value.slice none 0 0,Value.slice none 0 0] (by omega)).trans (drew_cells B9.out))
     go_wp2_with fail
     refine bodyPost_ret (res_pair rfl _ _ w.heap.size (w.heap.size+1) #[Value.slice none 0 0,Value.slice none 0 0] #[.int .i64 (g.1:Nat),.int .i64 (g.2.1:Nat),.int .i64 (g.2.2:Nat)] rfl rfl (run_loadVar_row (P:=Tryz.prog) _ _ _ _ _ _ _ a7 Tryz.underlying26 rfl sizeP) (run_loadVar_row (P:=Tryz.prog) _ _ _ _ _ _ _ b7 Tryz.underlying31 rfl sizeFlt)) rfl ⟨rfl,((M1.out.trans (S:=[]) M9.out (fun t ht=>by rw [Msq] at ht;exact .inr (by omega))).drew.trans mR (fun t ht=>?_)).trans mR2 (fun t ht=>?_)⟩
     ·rw [Msq] at ht;exact .inr (by omega)
     ·rw [Msq] at ht;exact .inr (by omega)
    | ok a n =>
     have hn:=hadv a n (by omega) rfl
     have HQ5:Hid (q0=(Sy.must v [46] n).bind fun _ j=>Sy.progF v g' ⟨rels.map (·.1)++[a],rus.map (·.1)⟩ j):=Lib.hid HQ4.out
     clear HQ4 hadv
     go_wp2_with fail
     refine HC.out.mono ?_
     rintro e6 w6 ⟨x6,rfl,⟨u3,rfl,hb3⟩,h6,m6⟩
     obtain ⟨C,hCe⟩:∃ C,reV a u3=C:=⟨_,rfl⟩
     have hC:C.size=4:=by rw [<-hCe];rfl
     have hone:∀ u∈C.toList,u.oneCell'=true:=by rw [<-hCe];exact csR_one (p:=(a,u3)) (w:=w6) hb3
     have hO:C.toList.all (·.oneCell')=true:=by rw [List.all_eq_true];exact hone
     rw [hCe]
     have HSZ:=Hxq (size_of Tryz.sizeRe hC);have HO:=Lib.hid hO;have HC4:=Hxq (show (#[.string ⟨#[]⟩,.slice none 0 0,.int .i64 0,.int .i64 0]:Array Value).size=C.size by rw [hC];rfl);have HCi:=Hxq (show C.size=iR.size by rw [hC,hR1])
     have mD:=(Mod.refl [] w6).alloc (Obj.cells C 81)
     have eD:=heap_alloc_new w6 (Obj.cells C 81)
     have P7:=Hxq ((P5.out.keep m6).keep (mD.mono (by simp)));have H7:=Hxq (h6.past mD (by simp));have D7:=Lib.hid eD
     have FB:Hid (∀ wX,wX=(w6.alloc (Obj.cells C 81)).alloc (Obj.cells C 81)->PI w1 b pb rels rus wX va vc ua uc/\RelB (fun k=>w5.heap.size<=k) wX (a,u3)/\Src Tryz.prog 4 23 (.slice (some ⟨(w6.alloc (Obj.cells C 81)).heap.size,0,none⟩) 1 1) 1 (reV a u3).toList wX/\RpP wX b ra rc L v n nf0):=Hxq (fun wX e=>by
      subst e
      have mE:=(Mod.refl [] (w6.alloc (Obj.cells C 81))).alloc (Obj.cells C 81)
      refine ⟨P7.out.keep (mE.mono (by simp)),(RelB.keep (p:=(a,u3)) (w:=w6) hb3 mD (by simp)).keep mE (by simp),?_,H7.out.past mE (by simp)⟩
      rw [hCe]
      exact src_one (cs:=C) Tryz.underlying23 (heap_alloc_new _ _) hC hone)
     clear h6 m6 mD eD hO hC hone hCe hb3
     go_upto_region 7 with (refine wpList_store_new rfl 81 _ _ rfl w6 w6.heap.size C #[.string ⟨#[]⟩,.slice none 0 0,.int .i64 0,.int .i64 0] 81 rfl rfl rfl rfl HSZ.out HC4.out HO.out ?_)
     generalize w6.alloc (Obj.cells C 81)=w7 at *
     have q7:=cell_at P7.out.box 0
     simp only [List.getElem?_toArray,List.getElem?_cons_zero,List.getElem?_cons_succ] at q7
     go_wp2_with (first | refine wpList_load_row rfl 81 _ rfl w6.heap.size C 81 (0,0) rfl D7.out _ Tryz.underlying81 rfl HSZ.out ?_ | refine wpList_slice_one rfl 23 81 _ rfl C iR (.agg #[.string ⟨#[]⟩,.slice none 0 0,.int .i64 0,.int .i64 0]) rfl Tryz.underlying23 hR hR0 HCi.out (by rw [hR1];omega) (by rw [hR1];omega) ?_ | (at_builtin;refine wpList_append_src _ rfl _ _ 23 23 rfl 81 iR (.agg #[.string ⟨#[]⟩,.slice none 0 0,.int .i64 0,.int .i64 0]) 4 56 Tryz.underlying23 hR hR0 hR1 hR2 rfl (.slice va rels.length vc) rels.length (rowCells csR rels) rfl (FB.out _ rfl).1.rowR _ 1 (reV a u3).toList rfl (FB.out _ rfl).2.2.1 (by unfold maxLen;omega) (by omega) ?_))
     intro v' w8 hown8 hm8 hf8 hn8
     obtain ⟨va8,vc8,rfl⟩:=owns_slice hown8
     obtain ⟨PX,LX,SX,HX⟩:=FB.out _ rfl
     have hna:pb∉fp (.slice va rels.length vc):=fun hh=>(PX.newR pb hh).2 rfl
     have q8:w8.cell? ⟨pb,0,none⟩=some (.slice va rels.length vc):=hm8.cell (p:=⟨pb,0,none⟩) (cell_at PX.box 0) hna
     have f8:w8.frozen? ⟨pb,0,none⟩=false:=free_at (hm8.at PX.box hna) 0
     have MR:=Hxq ((hm8.mono (T:=pb :: fp (.slice va rels.length vc)) (fun t ht=>.inl (List.mem_cons_of_mem _ ht))).setCell (p:=⟨pb,0,none⟩) (.inl (by simp)) (.slice va8 (rels.length+1) vc8))
     have hge:∀ t∈pb :: fp (.slice va rels.length vc),w1.heap.size<=t:=fun t ht=>by
      rcases List.mem_cons.1 ht with rfl | ht
      ·exact PX.pbn
      ·exact (PX.newR t ht).1
     have H9:=Hxq (HX.new HLo.out MR.out hge)
     have G9:=Hxq (PX.growR (p:=(a,u3)) hm8 LX hbx hlR.out hlU.out hown8 (fun k hh=>by
      rcases hf8 k hh with hh | hh
      ·exact .inl hh
      ·exact .inr (by simpa using hh)))
     clear hown8 hm8 hf8 hn8 hna hge PX LX SX HX FB D7 HC4 HCi HO HSZ P7 H7 MR q7
     go_upto_region 8 with fail
     generalize w8.setCell ⟨pb,0,none⟩ (.slice va8 (rels.length+1) vc8)=w9 at *
     clear q8 f8
     have HTK:=Hxq (HTk.out n w9 H9.out (by omega))
     have hm1:∀ u n2,Sy.must v [46] n=.ok u n2->n2=n+1:=fun u n2 hm=>by
      unfold Sy.must at hm
      split at hm
      ·cases hm;rfl
      ·cases hm
     have hadvU:=Sy.adv_must v [46] n
     generalize Sy.must v [46] n=pm at *
     cases pm with
     | err g =>
      have hq:q=.err g:=by rw [HWh.out,HQ5.out];rfl
      clear HWh HQ5 hm1 hadvU
      subst hq
      go_wp2_with fail
      refine HTK.out.mono ?_
      rintro e10 w10 ⟨rfl,⟨jj,h10⟩,m10⟩
      have H10:=Lib.hid h10;have M10:=Hxq (G9.out.mod.trans m10 (by simp))
      clear h10 m10 HTK G9 H9
      go_upto_region 13 with fail
      have A10:=Hxq (M10.out.at A1.out hnb);have B10:=Hxq (M10.out.at B1.out hnb1)
      have Q7:=Hxq (show w10.cell? ⟨b,7,none⟩=some (.int .i64 (g.1:Nat)) from cell_at H10.out.at_ 7);have Q8:=Hxq (show w10.cell? ⟨b,8,none⟩=some (.int .i64 (g.2.1:Nat)) from cell_at H10.out.at_ 8);have Q9:=Hxq (show w10.cell? ⟨b,9,none⟩=some (.int .i64 (g.2.2:Nat)) from cell_at H10.out.at_ 9)
      refine wp_region_held_drew (S:=(fun w':World=>Mod [w.heap.size,w.heap.size+1] w10 w')) (by kernel_rfl) (by (try dsimp only);exact (Mod.refl [w.heap.size,w.heap.size+1] w10).drew) (fun hHeld=>?_)
      refine wpAnyH_take (i:=0) (oi:=?_) (v:=.agg #[Value.slice none 0 0,Value.slice none 0 0]) ?_ ?_ ?_ ?_ ?_ ?_ (by assumption) ?_
      rotate_left 1
      ·(simp only [Gq1,Gq2,Gq3])<;>rfl
      ·kernel_rfl
      ·kernel_rfl
      ·kernel_rfl
      rotate_left 1
      ·exact yieldsIf_built (by rfl) 26 rfl _ build0_P
      rotate_left 1
      ·exact fun _ _ _ h=>h
      try simp only [Act.put,Lq1,Lq2,Lq3]
      refine Tkq 1 (v:=?_) (by assumption) ?_ ?_ ?_
      rotate_left 1
      ·refine .inl ⟨by rfl,?_⟩;intro w hSw;have c7:=hSw.cell Q7.out (by simp;omega);have c8:=hSw.cell Q8.out (by simp;omega);have c9:=hSw.cell Q9.out (by simp;omega);clear hSw;go_simp
       all_goals with_reducible rfl
      ·exact fun _ _ _ h=>h
      try simp only [Act.put,Lq1,Lq2,Lq3]
      refine Tkq 2 (v:=?_) (by assumption) ?_ ?_ ?_
      rotate_left 1
      ·refine .inl ⟨by rfl,?_⟩;intro w hSw;have c7:=hSw.cell Q7.out (by simp;omega);have c8:=hSw.cell Q8.out (by simp;omega);have c9:=hSw.cell Q9.out (by simp;omega);clear hSw;go_simp
       all_goals with_reducible rfl
      ·exact fun _ _ _ h=>h
      try simp only [Act.put,Lq1,Lq2,Lq3]
      refine Tkq 3 (v:=?_) (by assumption) ?_ ?_ ?_
      rotate_left 1
      ·refine .inl ⟨by rfl,?_⟩;intro w hSw;have c7:=hSw.cell Q7.out (by simp;omega);have c8:=hSw.cell Q8.out (by simp;omega);have c9:=hSw.cell Q9.out (by simp;omega);clear hSw;go_simp
       all_goals with_reducible rfl
      ·exact fun _ _ _ h=>h
      try simp only [Act.put,Lq1,Lq2,Lq3]
      refine Tkq 4 (v:=?_) (by assumption) ?_ ?_ ?_
      rotate_left 1
      ·refine .inl ⟨by rfl,?_⟩;intro w hSw;have c7:=hSw.cell Q7.out (by simp;omega);have c8:=hSw.cell Q8.out (by simp;omega);have c9:=hSw.cell Q9.out (by simp;omega);clear hSw;go_simp
       all_goals with_reducible rfl
      ·exact fun _ _ _ h=>h
      try simp only [Act.put,Lq1,Lq2,Lq3]
      have mR:=Mod.setRow w10.drew w.heap.size #[Value.slice none 0 0,Value.slice none 0 0]
      have mR2:=Mod.setRow (w10.drew.setRow w.heap.size #[Value.slice none 0 0,Value.slice none 0 0]) (w.heap.size+1) #[.int .i64 (g.1:Nat),.int .i64 (g.2.1:Nat),.int .i64 (g.2.2:Nat)]
      have N5:=Hxq ((Mod.refl [w.heap.size,w.heap.size+1] w10).drew.trans (mR.mono (T:=[w.heap.size,w.heap.size+1]) (by simp)) (by simp))
      have N6:=Hxq (N5.out.trans (mR2.mono (T:=[w.heap.size,w.heap.size+1]) (by simp)) (by simp))
      refine wpAnyH_ready (rs:=[5]) (by kernel_rfl) (by simp) ?_
      refine AllReadyH.cons (o:=?_) ?_ ?_ AllReadyH.nil
      rotate_left 1
      ·(simp only [Gq1,Gq2,Gq3])<;>rfl
      intro K hK
      refine (if_pos (by rfl)).mpr ?_
      refine wp_store_row 26 _ _ rfl w.heap.size #[Value.slice none 0 0,Value.slice none 0 0] rfl rfl 26 _ (drew_cells A10.out) sizeP rfl (by rw [<-Array.all_toList];rfl) ?_
      refine hK.out _ _ (by (try dsimp only);exact N5.out) (fun hHeld=>?_)
      clear hK K
      try simp only [Act.put,Lq1,Lq2,Lq3]
      refine wpAnyH_ready (rs:=[6]) (by kernel_rfl) (by simp) ?_
      refine AllReadyH.cons (o:=?_) ?_ ?_ AllReadyH.nil
      rotate_left 1
      ·(simp only [Gq1,Gq2,Gq3])<;>rfl
      intro K hK
      refine (if_pos (by rfl)).mpr ?_
      refine wp_store_row 31 _ _ rfl (w.heap.size+1) #[.int .i64 (g.1:Nat),.int .i64 (g.2.1:Nat),.int .i64 (g.2.2:Nat)] rfl rfl 31 _ ((setRow_other w10.drew w.heap.size (w.heap.size+1) #[Value.slice none 0 0,Value.slice none 0 0] (by omega)).trans (drew_cells B10.out)) sizeFlt rfl (by rw [<-Array.all_toList];rfl) ?_
      refine hK.out _ _ (by (try dsimp only);exact N6.out) (fun hHeld=>?_)
      clear hK K
      try simp only [Act.put,Lq1,Lq2,Lq3]
      refine wpAnyH_done (by kernel_rfl) ?_ _
      have a6:=setRow_heap w10.drew w.heap.size _ #[Value.slice none 0 0,Value.slice none 0 0] 26 _ (drew_cells A10.out)
      have a7:=mR2.at a6 (by simp)
      have b7:=setRow_heap (w10.drew.setRow w.heap.size #[Value.slice none 0 0,Value.slice none 0 0]) (w.heap.size+1) _ #[.int .i64 (g.1:Nat),.int .i64 (g.2.1:Nat),.int .i64 (g.2.2:Nat)] 31 _ ((setRow_other w10.drew w.heap.size (w.heap.size+1) #[Value.slice none 0 0,Value.slice none 0 0] (by omega)).trans (drew_cells B10.out))
      go_wp2_with fail
      refine bodyPost_ret (res_pair rfl _ _ w.heap.size (w.heap.size+1) #[Value.slice none 0 0,Value.slice none 0 0] #[.int .i64 (g.1:Nat),.int .i64 (g.2.1:Nat),.int .i64 (g.2.2:Nat)] rfl rfl (run_loadVar_row (P:=Tryz.prog) _ _ _ _ _ _ _ a7 Tryz.underlying26 rfl sizeP) (run_loadVar_row (P:=Tryz.prog) _ _ _ _ _ _ _ b7 Tryz.underlying31 rfl sizeFlt)) rfl ⟨rfl,((M1.out.trans (S:=[]) M10.out (fun t ht=>by rw [Msq] at ht;exact .inr (by omega))).drew.trans mR (fun t ht=>?_)).trans mR2 (fun t ht=>?_)⟩
      ·rw [Msq] at ht;exact .inr (by omega)
      ·rw [Msq] at ht;exact .inr (by omega)
     | ok uu n2 =>
      have hn2:=hm1 uu n2 rfl
      have hn3:=hadvU uu n2 hn.2 rfl
      have HQ6:=Lib.hid HQ5.out
      clear HQ5 hm1 hadvU
      go_wp2_with fail
      refine HTK.out.mono ?_
      rintro e10 w10 ⟨rfl,h10,m10⟩
      have H10:=Lib.hid h10;have P10:=Hxq (G9.out.keep m10)
      clear h10 m10 HTK G9 H9
      go_wp2_with fail
      go_roundg g'
      case measure=>omega
      case rel=>exact ⟨n2,(rels++[(a,u3)]),rus,va8,vc8,ua,uc,P10.out,H10.out,hn3.2,by omega,by first | omega | (simp;omega),by first | omega | (simp;omega),by rw [HQ6.out];simp [Sy.PR.bind]⟩
  ·have hI:¬ (j:Int)<(v.ws.length:Int):=by omega
   have hq:q0=.ok ⟨rels.map (·.1),rus.map (·.1)⟩ j:=by rw [HQ2.out,if_neg hlt]
   have HQ:Hid (q=if j<v.ws.length\/v.last.1≠42 then .err (v.give 40 j) else .ok ⟨rels.map (·.1),rus.map (·.1)⟩ j):=Hxq (by rw [HWh.out,hq];rfl)
   clear HQ2 HWh hq
   go_wp2_with fail
   go_quiet (fail)
   have mq:Mod [] wr (wr.drewN nq):=(Mod.refl [] wr).drewN nq
   have P6:=Hxq (P0.out.keep (mq.mono (by simp)));have H6:=Hxq (H0.out.past mq (by simp))
   generalize wr.drewN nq=w6 at *
   clear mq c0 c1 c2 c3 c4 c5 c6 c7 c8 c9 fz P0 H0
   go_wp2_with fail
   refine (rwhole_any b ra rc L v j w6 H6.out hv (by omega) h42).mono ?_
   rintro e9 w9 ⟨m9,h9⟩
   have P9:=Hxq (P6.out.keep m9)
   by_cases hc:j<v.ws.length\/v.last.1≠42
   ·rw [if_pos hc] at h9
    obtain ⟨rfl,h9⟩:=h9
    obtain ⟨g,hg⟩:∃ g,v.give 40 j=g:=⟨_,rfl⟩
    have hq:q=.err g:=by rw [HQ.out,if_pos hc,hg]
    subst hq
    rw [hg] at h9
    have H9:=Lib.hid h9;have M9:=Lib.hid P9.out.mod
    clear h9 m9 hg HQ hc P9 P6 H6
    go_upto_region 15 with fail
    have A9:=Hxq (M9.out.at A1.out hnb);have B9:=Hxq (M9.out.at B1.out hnb1)
    have Q7:=Hxq (show w9.cell? ⟨b,7,none⟩=some (.int .i64 (g.1:Nat)) from cell_at H9.out.at_ 7);have Q8:=Hxq (show w9.cell? ⟨b,8,none⟩=some (.int .i64 (g.2.1:Nat)) from cell_at H9.out.at_ 8);have Q9:=Hxq (show w9.cell? ⟨b,9,none⟩=some (.int .i64 (g.2.2:Nat)) from cell_at H9.out.at_ 9)
    refine wp_region_held_drew (S:=(fun w':World=>Mod [w.heap.size,w.heap.size+1] w9 w')) (by kernel_rfl) (by (try dsimp only);exact (Mod.refl [w.heap.size,w.heap.size+1] w9).drew) (fun hHeld=>?_)
    refine wpAnyH_take (i:=0) (oi:=?_) (v:=.agg #[Value.slice none 0 0,Value.slice none 0 0]) ?_ ?_ ?_ ?_ ?_ ?_ (by assumption) ?_
    rotate_left 1
    ·(simp only [Gq1,Gq2,Gq3])<;>rfl
    ·kernel_rfl
    ·kernel_rfl
    ·kernel_rfl
    rotate_left 1
    ·exact yieldsIf_built (by rfl) 26 rfl _ build0_P
    rotate_left 1
    ·exact fun _ _ _ h=>h
    try simp only [Act.put,Lq1,Lq2,Lq3]
    refine Tkq 1 (v:=?_) (by assumption) ?_ ?_ ?_
    rotate_left 1
    ·refine .inl ⟨by rfl,?_⟩;intro w hSw;have c7:=hSw.cell Q7.out (by simp;omega);have c8:=hSw.cell Q8.out (by simp;omega);have c9:=hSw.cell Q9.out (by simp;omega);clear hSw;go_simp
     all_goals with_reducible rfl
    ·exact fun _ _ _ h=>h
    try simp only [Act.put,Lq1,Lq2,Lq3]
    refine Tkq 2 (v:=?_) (by assumption) ?_ ?_ ?_
    rotate_left 1
    ·refine .inl ⟨by rfl,?_⟩;intro w hSw;have c7:=hSw.cell Q7.out (by simp;omega);have c8:=hSw.cell Q8.out (by simp;omega);have c9:=hSw.cell Q9.out (by simp;omega);clear hSw;go_simp
     all_goals with_reducible rfl
    ·exact fun _ _ _ h=>h
    try simp only [Act.put,Lq1,Lq2,Lq3]
    refine Tkq 3 (v:=?_) (by assumption) ?_ ?_ ?_
    rotate_left 1
    ·refine .inl ⟨by rfl,?_⟩;intro w hSw;have c7:=hSw.cell Q7.out (by simp;omega);have c8:=hSw.cell Q8.out (by simp;omega);have c9:=hSw.cell Q9.out (by simp;omega);clear hSw;go_simp
     all_goals with_reducible rfl
    ·exact fun _ _ _ h=>h
    try simp only [Act.put,Lq1,Lq2,Lq3]
    refine Tkq 4 (v:=?_) (by assumption) ?_ ?_ ?_
    rotate_left 1
    ·refine .inl ⟨by rfl,?_⟩;intro w hSw;have c7:=hSw.cell Q7.out (by simp;omega);have c8:=hSw.cell Q8.out (by simp;omega);have c9:=hSw.cell Q9.out (by simp;omega);clear hSw;go_simp
     all_goals with_reducible rfl
    ·exact fun _ _ _ h=>h
    try simp only [Act.put,Lq1,Lq2,Lq3]
    have mR:=Mod.setRow w9.drew w.heap.size #[Value.slice none 0 0,Value.slice none 0 0]
    have mR2:=Mod.setRow (w9.drew.setRow w.heap.size #[Value.slice none 0 0,Value.slice none 0 0]) (w.heap.size+1) #[.int .i64 (g.1:Nat),.int .i64 (g.2.1:Nat),.int .i64 (g.2.2:Nat)]
    have N5:=Hxq ((Mod.refl [w.heap.size,w.heap.size+1] w9).drew.trans (mR.mono (T:=[w.heap.size,w.heap.size+1]) (by simp)) (by simp))
    have N6:=Hxq (N5.out.trans (mR2.mono (T:=[w.heap.size,w.heap.size+1]) (by simp)) (by simp))
    refine wpAnyH_ready (rs:=[5]) (by kernel_rfl) (by simp) ?_
    refine AllReadyH.cons (o:=?_) ?_ ?_ AllReadyH.nil
    rotate_left 1
    ·(simp only [Gq1,Gq2,Gq3])<;>rfl
    intro K hK
    refine (if_pos (by rfl)).mpr ?_
    refine wp_store_row 26 _ _ rfl w.heap.size #[Value.slice none 0 0,Value.slice none 0 0] rfl rfl 26 _ (drew_cells A9.out) sizeP rfl (by rw [<-Array.all_toList];rfl) ?_
    refine hK.out _ _ (by (try dsimp only);exact N5.out) (fun hHeld=>?_)
    clear hK K
    try simp only [Act.put,Lq1,Lq2,Lq3]
    refine wpAnyH_ready (rs:=[6]) (by kernel_rfl) (by simp) ?_
    refine AllReadyH.cons (o:=?_) ?_ ?_ AllReadyH.nil
    rotate_left 1
    ·(simp only [Gq1,Gq2,Gq3])<;>rfl
    intro K hK
    refine (if_pos (by rfl)).mpr ?_
    refine wp_store_row 31 _ _ rfl (w.heap.size+1) #[.int .i64 (g.1:Nat),.int .i64 (g.2.1:Nat),.int .i64 (g.2.2:Nat)] rfl rfl 31 _ ((setRow_other w9.drew w.heap.size (w.heap.size+1) #[Value.slice none 0 0,Value.slice none 0 0] (by omega)).trans (drew_cells B9.out)) sizeFlt rfl (by rw [<-Array.all_toList];rfl) ?_
    refine hK.out _ _ (by (try dsimp only);exact N6.out) (fun hHeld=>?_)
    clear hK K
    try simp only [Act.put,Lq1,Lq2,Lq3]
    refine wpAnyH_done (by kernel_rfl) ?_ _
    have a6:=setRow_heap w9.drew w.heap.size _ #[Value.slice none 0 0,Value.slice none 0 0] 26 _ (drew_cells A9.out)
    have a7:=mR2.at a6 (by simp)
    have b7:=setRow_heap (w9.drew.setRow w.heap.size #[Value.slice none 0 0,Value.slice none 0 0]) (w.heap.size+1) _ #[.int .i64 (g.1:Nat),.int .i64 (g.2.1:Nat),.int .i64 (g.2.2:Nat)] 31 _ ((setRow_other w9.drew w.heap.size (w.heap.size+1) #[Value.slice none 0 0,Value.slice none 0 0] (by omega)).trans (drew_cells B9.out))
    go_wp2_with fail
    refine bodyPost_ret (res_pair rfl _ _ w.heap.size (w.heap.size+1) #[Value.slice none 0 0,Value.slice none 0 0] #[.int .i64 (g.1:Nat),.int .i64 (g.2.1:Nat),.int .i64 (g.2.2:Nat)] rfl rfl (run_loadVar_row (P:=Tryz.prog) _ _ _ _ _ _ _ a7 Tryz.underlying26 rfl sizeP) (run_loadVar_row (P:=Tryz.prog) _ _ _ _ _ _ _ b7 Tryz.underlying31 rfl sizeFlt)) rfl ⟨rfl,((M1.out.trans (S:=[]) M9.out (fun t ht=>by rw [Msq] at ht;exact .inr (by omega))).drew.trans mR (fun t ht=>?_)).trans mR2 (fun t ht=>?_)⟩
    ·rw [Msq] at ht;exact .inr (by omega)
    ·rw [Msq] at ht;exact .inr (by omega)
   ·rw [if_neg hc] at h9
    obtain ⟨rfl,h9⟩:=h9
    have hq:q=.ok ⟨rels.map (·.1),rus.map (·.1)⟩ j:=by rw [HQ.out,if_neg hc]
    subst hq
    have A9:=Hxq (P9.out.mod.at A1.out hnb);have B9:=Hxq (P9.out.mod.at B1.out hnb1)
    have M9:=Hxq (M1.out.trans (S:=[]) P9.out.mod (fun t ht=>by rw [Msq] at ht;exact .inr (by omega)))
    have D9:=Lib.hid P9.out.box
    have hlpb:=P9.out.pbn
    have V9:Hid (valP (w.heap.size+2) ⟨rels.map (·.1),rus.map (·.1)⟩ w9 (.agg #[.slice va rels.length vc,.slice ua rus.length uc])):=Lib.hid ⟨rels,rus,_,_,rfl,rfl,(RowB.of_owns (F:=fun k=>w1.heap.size<=k) csR_size P9.out.rowR (fun k hk=>(P9.out.newR k hk).1)).mono (fun k hk _=>by omega),(RowB.of_owns (F:=fun k=>w1.heap.size<=k) csU_size P9.out.rowU (fun k hk=>(P9.out.newU k hk).1)).mono (fun k hk _=>by omega),fun p hp=>(P9.out.subR p hp).mono (fun k hk _=>by have:=hk.1;omega),fun p hp=>(P9.out.subU p hp).mono (fun k hk _=>by have:=hk.1;omega)⟩
    clear h9 m9 HQ hc P9 P6 H6
    have HC2:=Hxq (show (#[.slice va rels.length vc,.slice ua rus.length uc]:Array Value).size=2 from rfl)
    have HO:=Hxq (show (#[.slice va rels.length vc,.slice ua rus.length uc]:Array Value).toList.all (·.oneCell')=true from rfl)
    generalize hCC:(#[.slice va rels.length vc,.slice ua rus.length uc]:Array Value)=C at *
    have HSZ:=Hxq (size_of sizeP HC2.out);have HOL:=Hxq (show (#[Value.slice none 0 0,Value.slice none 0 0]:Array Value).size=C.size by rw [HC2.out];rfl)
    go_wp2_with (first | refine wpList_load_row rfl 26 _ rfl pb C 26 (0,0) rfl D9.out _ Tryz.underlying26 rfl HSZ.out ?_ | refine wpList_store_at rfl 26 _ _ rfl w.heap.size C _ 26 rfl rfl A9.out HSZ.out HOL.out HO.out ?_ | refine wpList_store_at rfl 31 _ _ rfl (w.heap.size+1) #[.int .i64 0,.int .i64 0,.int .i64 0] _ 31 rfl rfl ((setRow_other w9 w.heap.size (w.heap.size+1) C (by omega)).trans B9.out) sizeFlt rfl rfl ?_)
    have mR:=Mod.setRow w9 w.heap.size C
    have mR2:=Mod.setRow (w9.setRow w.heap.size C) (w.heap.size+1) #[.int .i64 0,.int .i64 0,.int .i64 0]
    have a6:=setRow_heap w9 w.heap.size _ C 26 _ A9.out
    have a7:=mR2.at a6 (by simp)
    have b7:=setRow_heap (w9.setRow w.heap.size C) (w.heap.size+1) _ #[.int .i64 0,.int .i64 0,.int .i64 0] 31 _ ((setRow_other w9 w.heap.size (w.heap.size+1) C (by omega)).trans B9.out)
    refine bodyPost_ret (res_pair rfl _ _ w.heap.size (w.heap.size+1) C #[.int .i64 0,.int .i64 0,.int .i64 0] rfl rfl (run_loadVar_row (P:=Tryz.prog) _ _ _ _ _ _ _ a7 Tryz.underlying26 rfl HSZ.out) (run_loadVar_row (P:=Tryz.prog) _ _ _ _ _ _ _ b7 Tryz.underlying31 rfl sizeFlt)) rfl ⟨C,rfl,valP_keep (valP_keep (m:=w.heap.size+2) V9.out mR (fun s hs=>by rw [Msq] at hs;omega) (Nat.le_refl _)) mR2 (fun s hs=>by rw [Msq] at hs;omega) (by omega),(M9.out.trans mR (fun t ht=>?_)).trans mR2 (fun t ht=>?_)⟩
    ·rw [Msq] at ht;exact .inr (by omega)
    ·rw [Msq] at ht;exact .inr (by omega)
end Go.Proofs.YtppigckioalhhaaGreatDoorR
