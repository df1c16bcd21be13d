/- THE TEXTS MERGED: RpEnt. -/
import Derived.Test.YtppigckioalhhaaGreatDoorRKT1
import Derived.Test.YtppigckioalhhaaGreatDoorRKT30
import Derived.Test.YtppigckioalhhaaGreatDoorRKT34
import Derived.Test.YtppigckioalhhaaGreatDoorRKT20
namespace Go.Proofs.YtppigckioalhhaaGreatDoorR
open Go.RowKit
set_option linter.unusedVariables false
set_option linter.unusedSimpArgs false
set_option maxRecDepth 100000
theorem envK (s:ByteArray):EnvK (Sy.envOf (Cod.str s)):=⟨envOk s,Sy.env_k _⟩
theorem yieldsIf_built {P:Program} {ops:Array Oper} {S:World->Prop} {o:Oper} {a:Act} (hw:Region.wanted o (yielded ops a.tmps)=true) (t:TypeId) (ho:o.op=.build t #[]) (cells:Array Value) (hc:∀ w,(Instr.build t #[]).run P w=.ok (.agg cells) w):YieldsIf P ops S o (.agg cells) a :=
 .inl ⟨hw,fun w _=>by
  unfold execOp
  simp only [ho,Sem.run_bind,List.map_toArray,List.map_nil,hc,Result.andThen_ok]
  first | rfl | simp⟩
theorem badA_cells {x:Value} (h:badA x):∃ C:Array Value,x=.agg C/\C.size=2/\C.toList.all (·.oneCell')=true:=by
 obtain ⟨s,a,n,c,rfl⟩:=h
 exact ⟨_,rfl,rfl,rfl⟩
theorem badU_cells {x:Value} (h:badU x):∃ C:Array Value,x=.agg C/\C.size=5/\C.toList.all (·.oneCell')=true:=by
 obtain ⟨s,a,n,c,a2,n2,c2,l,k,rfl⟩:=h
 exact ⟨_,rfl,rfl,rfl⟩
theorem nz_whole1 {α:Type} {v:Sy.Env} {one:Nat->Sy.PR α}:Sy.whole v one=(one 0).bind fun a i=>if i<v.ws.length\/v.last.1≠42 then .err (v.give 40 i) else .ok a i:=rfl
theorem build0_Atom (w:World):(Instr.build 40 #[]).run Tryz.prog w=.ok (.agg #[Value.string ⟨#[]⟩,Value.slice none 0 0]) w:=run_build w 40 _ _ (by kernel_rfl)
set_option maxHeartbeats 16000000 in
theorem rentAtom_any (s:ByteArray) (hs:s.size<=140737488355328) (w:World) :
  Calls Tryz.prog 21 #[.string s] w (AllRes (Sy.whole (Sy.envOf (Cod.str s)) (Sy.atom (Sy.envOf (Cod.str s)))) (valA w.heap.size) (.agg #[Value.string ⟨#[]⟩,Value.slice none 0 0]) w):=by
 have m0:=((Mod.refl [] w).alloc (Obj.cells #[Value.string ⟨#[]⟩,Value.slice none 0 0] 40)).alloc (Obj.cells #[Value.int IntKind.i64 0,Value.int IntKind.i64 0,Value.int IntKind.i64 0] 31)
 have e0:=two_a w #[Value.string ⟨#[]⟩,Value.slice none 0 0] #[Value.int IntKind.i64 0,Value.int IntKind.i64 0,Value.int IntKind.i64 0] 40 31
 have e1:=two_b w #[Value.string ⟨#[]⟩,Value.slice none 0 0] #[Value.int IntKind.i64 0,Value.int IntKind.i64 0,Value.int IntKind.i64 0] 40 31
 have HBg:=Hxq (fun w=>rbegin_any s hs w)
 have hk:=envK s
 have HWh:=Hxq (nz_whole1 (v:=Sy.envOf (Cod.str s)) (one:=Sy.atom (Sy.envOf (Cod.str s))))
 have HAd:=Hxq (Sy.adv_atom (Sy.envOf (Cod.str s)) 0)
 generalize Sy.envOf (Cod.str s)=v at *
 have hv:=hk.ok
 have hlen:=hv.len
 go_enter Tryz.func21,Tryz.ntmps21
 go_upto_region 1 with fail
 have zA:((w.alloc (Obj.cells #[Value.string ⟨#[]⟩,Value.slice none 0 0] 40)).alloc (Obj.cells #[Value.int IntKind.i64 0,Value.int IntKind.i64 0,Value.int IntKind.i64 0] 31)).heap.size=w.heap.size+2:=by simp
 generalize (w.alloc (Obj.cells _ 40)).alloc (Obj.cells _ 31)=w0 at *
 have E0:=Lib.hid e0;have E1:=Lib.hid e1;have M0:=Lib.hid m0
 clear e0 e1 m0
 go_wp2_with fail
 refine (HBg.out w0).mono ?_
 rintro e1 w1 ⟨b,ra,rc,L,rfl,h1,hb0,hnw,h42,m1⟩
 have A1:=Hxq (m1.at E0.out (by simp));have B1:=Hxq (m1.at E1.out (by simp));have M1:=Hxq (M0.out.trans m1 (by simp));have H1:=Lib.hid h1
 have hz1:=m1.size
 have hnb:w.heap.size∉[b]:=by simp;omega
 have hnb1:w.heap.size+1∉[b]:=by simp;omega
 have HNW:=Lib.hid hnw
 have HC:=Hxq (ratom_any b ra rc L v false 0 w1 h1 hk (Nat.zero_le _))
 rw [Sy.atomB_false] at HC
 clear h1 m1 HBg hnw
 generalize Sy.whole v (Sy.atom v)=q at *
 generalize Sy.atom v 0=q1 at *
 cases q1 with
 | err g =>
  have hq:q=.err g:=HWh.out
  subst hq
  clear HWh HAd
  go_wp2_with fail
  refine HC.out.mono ?_
  rintro e2 w2 ⟨x2,rfl,hx2,⟨jj,h2⟩,m2⟩
  obtain ⟨C,rfl,hC,hO⟩:=badA_cells hx2
  have mD:=(Mod.refl [] w2).alloc (Obj.cells C 40)
  have A3:=Hxq (mD.at (m2.at A1.out hnb) (by have:=lt_of_block (m2.at A1.out hnb);simp));have B3:=Hxq (mD.at (m2.at B1.out hnb1) (by have:=lt_of_block (m2.at B1.out hnb1);simp));have H3:=Hxq (h2.past mD (by simp));have M3:=Hxq ((M1.out.trans (S:=[]) m2 (fun t ht=>by rw [Msq] at ht;exact .inr (by omega))).trans mD (by simp))
  have HSZ:=Hxq (size_of sizeA hC);have HO:=Lib.hid hO;have HOL:=Hxq (show (#[Value.string ⟨#[]⟩,Value.slice none 0 0]:Array Value).size=C.size by rw [hC];rfl)
  clear h2 m2 mD hx2 hC hO
  go_upto_region 3 with (refine wpList_store_new rfl 40 _ _ rfl w2 w2.heap.size C #[Value.string ⟨#[]⟩,Value.slice none 0 0] 40 rfl rfl rfl rfl HSZ.out HOL.out HO.out ?_)
  generalize w2.alloc (Obj.cells C 40)=w3 at *
  go_wp2_with fail
  refine (rwhole_false b ra rc L v jj g w3 H3.out).mono ?_
  rintro e4 w4 ⟨rfl,h4,m4⟩
  have A4:=Hxq (m4.at A3.out (by simp));have B4:=Hxq (m4.at B3.out (by simp));have H4:=Lib.hid h4;have M4:=Hxq (M3.out.trans m4 (by simp))
  clear h4 m4 A3 B3 H3 M3
  go_upto_region 4 with fail
  have Q7:=Hxq (show w4.cell? ⟨b,7,none⟩=some (.int .i64 (g.1:Nat)) from cell_at H4.out.at_ 7);have Q8:=Hxq (show w4.cell? ⟨b,8,none⟩=some (.int .i64 (g.2.1:Nat)) from cell_at H4.out.at_ 8);have Q9:=Hxq (show w4.cell? ⟨b,9,none⟩=some (.int .i64 (g.2.2:Nat)) from cell_at H4.out.at_ 9)
  refine wp_region_held_drew (S:=(fun w':World=>Mod [w.heap.size,w.heap.size+1] w4 w')) (by kernel_rfl) (by (try dsimp only);exact (Mod.refl [w.heap.size,w.heap.size+1] w4).drew) (fun hHeld=>?_)
  refine wpAnyH_take (i:=0) (oi:=?_) (v:=.agg #[Value.string ⟨#[]⟩,Value.slice none 0 0]) ?_ ?_ ?_ ?_ ?_ ?_ (by assumption) ?_
  rotate_left 1
  ·(simp only [Gq1,Gq2,Gq3])<;>rfl
  ·kernel_rfl
  ·kernel_rfl
  ·kernel_rfl
  rotate_left 1
  ·exact yieldsIf_built (by rfl) 40 rfl _ build0_Atom
  rotate_left 1
  ·exact fun _ _ _ h=>h
  try simp only [Act.put,Lq1,Lq2,Lq3]
  refine Tkq 1 (v:=?_) (by assumption) ?_ ?_ ?_
  rotate_left 1
  ·refine .inl ⟨by rfl,?_⟩;intro w hSw;have c7:=hSw.cell Q7.out (by simp;omega);have c8:=hSw.cell Q8.out (by simp;omega);have c9:=hSw.cell Q9.out (by simp;omega);clear hSw;go_simp
   all_goals with_reducible rfl
  ·exact fun _ _ _ h=>h
  try simp only [Act.put,Lq1,Lq2,Lq3]
  refine Tkq 2 (v:=?_) (by assumption) ?_ ?_ ?_
  rotate_left 1
  ·refine .inl ⟨by rfl,?_⟩;intro w hSw;have c7:=hSw.cell Q7.out (by simp;omega);have c8:=hSw.cell Q8.out (by simp;omega);have c9:=hSw.cell Q9.out (by simp;omega);clear hSw;go_simp
   all_goals with_reducible rfl
  ·exact fun _ _ _ h=>h
  try simp only [Act.put,Lq1,Lq2,Lq3]
  refine Tkq 3 (v:=?_) (by assumption) ?_ ?_ ?_
  rotate_left 1
  ·refine .inl ⟨by rfl,?_⟩;intro w hSw;have c7:=hSw.cell Q7.out (by simp;omega);have c8:=hSw.cell Q8.out (by simp;omega);have c9:=hSw.cell Q9.out (by simp;omega);clear hSw;go_simp
   all_goals with_reducible rfl
  ·exact fun _ _ _ h=>h
  try simp only [Act.put,Lq1,Lq2,Lq3]
  refine Tkq 4 (v:=?_) (by assumption) ?_ ?_ ?_
  rotate_left 1
  ·refine .inl ⟨by rfl,?_⟩;intro w hSw;have c7:=hSw.cell Q7.out (by simp;omega);have c8:=hSw.cell Q8.out (by simp;omega);have c9:=hSw.cell Q9.out (by simp;omega);clear hSw;go_simp
   all_goals with_reducible rfl
  ·exact fun _ _ _ h=>h
  try simp only [Act.put,Lq1,Lq2,Lq3]
  have mR:=Mod.setRow w4.drew w.heap.size #[Value.string ⟨#[]⟩,Value.slice none 0 0]
  have mR2:=Mod.setRow (w4.drew.setRow w.heap.size #[Value.string ⟨#[]⟩,Value.slice none 0 0]) (w.heap.size+1) #[.int .i64 (g.1:Nat),.int .i64 (g.2.1:Nat),.int .i64 (g.2.2:Nat)]
  have N5:=Hxq ((Mod.refl [w.heap.size,w.heap.size+1] w4).drew.trans (mR.mono (T:=[w.heap.size,w.heap.size+1]) (by simp)) (by simp))
  have N6:=Hxq (N5.out.trans (mR2.mono (T:=[w.heap.size,w.heap.size+1]) (by simp)) (by simp))
  refine wpAnyH_ready (rs:=[5]) (by kernel_rfl) (by simp) ?_
  refine AllReadyH.cons (o:=?_) ?_ ?_ AllReadyH.nil
  rotate_left 1
  ·(simp only [Gq1,Gq2,Gq3])<;>rfl
  intro K hK
  refine (if_pos (by rfl)).mpr ?_
  refine wp_store_row 40 _ _ rfl w.heap.size #[Value.string ⟨#[]⟩,Value.slice none 0 0] rfl rfl 40 _ (drew_cells A4.out) sizeA rfl (by rw [<-Array.all_toList];rfl) ?_
  refine hK.out _ _ (by (try dsimp only);exact N5.out) (fun hHeld=>?_)
  clear hK K
  try simp only [Act.put,Lq1,Lq2,Lq3]
  refine wpAnyH_ready (rs:=[6]) (by kernel_rfl) (by simp) ?_
  refine AllReadyH.cons (o:=?_) ?_ ?_ AllReadyH.nil
  rotate_left 1
  ·(simp only [Gq1,Gq2,Gq3])<;>rfl
  intro K hK
  refine (if_pos (by rfl)).mpr ?_
  refine wp_store_row 31 _ _ rfl (w.heap.size+1) #[.int .i64 (g.1:Nat),.int .i64 (g.2.1:Nat),.int .i64 (g.2.2:Nat)] rfl rfl 31 _ ((setRow_other w4.drew w.heap.size (w.heap.size+1) #[Value.string ⟨#[]⟩,Value.slice none 0 0] (by omega)).trans (drew_cells B4.out)) sizeFlt rfl (by rw [<-Array.all_toList];rfl) ?_
  refine hK.out _ _ (by (try dsimp only);exact N6.out) (fun hHeld=>?_)
  clear hK K
  try simp only [Act.put,Lq1,Lq2,Lq3]
  refine wpAnyH_done (by kernel_rfl) ?_ _
  have a6:=setRow_heap w4.drew w.heap.size _ #[Value.string ⟨#[]⟩,Value.slice none 0 0] 40 _ (drew_cells A4.out)
  have a7:=mR2.at a6 (by simp)
  have b7:=setRow_heap (w4.drew.setRow w.heap.size #[Value.string ⟨#[]⟩,Value.slice none 0 0]) (w.heap.size+1) _ #[.int .i64 (g.1:Nat),.int .i64 (g.2.1:Nat),.int .i64 (g.2.2:Nat)] 31 _ ((setRow_other w4.drew w.heap.size (w.heap.size+1) #[Value.string ⟨#[]⟩,Value.slice none 0 0] (by omega)).trans (drew_cells B4.out))
  go_wp2_with fail
  refine bodyPost_ret (res_pair rfl _ _ w.heap.size (w.heap.size+1) #[Value.string ⟨#[]⟩,Value.slice none 0 0] #[.int .i64 (g.1:Nat),.int .i64 (g.2.1:Nat),.int .i64 (g.2.2:Nat)] rfl rfl (run_loadVar_row (P:=Tryz.prog) _ _ _ _ _ _ _ a7 Tryz.underlying40 rfl sizeA) (run_loadVar_row (P:=Tryz.prog) _ _ _ _ _ _ _ b7 Tryz.underlying31 rfl sizeFlt)) rfl ⟨rfl,(M4.out.drew.trans mR (fun t ht=>?_)).trans mR2 (fun t ht=>?_)⟩
  ·rw [Msq] at ht;exact .inr (by omega)
  ·rw [Msq] at ht;exact .inr (by omega)
 | ok a i =>
  have hi:=(HAd.out a i (Nat.zero_le _) rfl).2
  have HQ:Hid (q=if i<v.ws.length\/v.last.1≠42 then .err (v.give 40 i) else .ok a i):=Lib.hid HWh.out
  clear HWh HAd
  go_wp2_with fail
  refine HC.out.mono ?_
  rintro e2 w2 ⟨x2,rfl,hval,h2,m2⟩
  obtain ⟨C,rfl⟩:∃ C,x2=.agg C:=by obtain ⟨u,rfl,-⟩:=hval;exact ⟨_,rfl⟩
  obtain ⟨hC,hO⟩:=valA_cells hval
  have mD:=(Mod.refl [] w2).alloc (Obj.cells C 40)
  have eD:=heap_alloc_new w2 (Obj.cells C 40)
  have A3:=Hxq (mD.at (m2.at A1.out hnb) (by have:=lt_of_block (m2.at A1.out hnb);simp));have B3:=Hxq (mD.at (m2.at B1.out hnb1) (by have:=lt_of_block (m2.at B1.out hnb1);simp));have H3:=Hxq (h2.past mD (by simp));have M3:=Hxq ((M1.out.trans (S:=[]) m2 (fun t ht=>by rw [Msq] at ht;exact .inr (by omega))).trans mD (by simp));have D3:=Lib.hid eD
  have V3:=Hxq (valA_keep (m:=w1.heap.size) hval mD (by simp) (Nat.le_refl _))
  have hz2:=m2.size
  have HSZ:=Hxq (size_of sizeA hC);have HO:=Lib.hid hO;have HOL:=Hxq (show (#[Value.string ⟨#[]⟩,Value.slice none 0 0]:Array Value).size=C.size by rw [hC];rfl)
  clear h2 m2 mD hval hC hO eD
  go_upto_region 3 with (refine wpList_store_new rfl 40 _ _ rfl w2 w2.heap.size C #[Value.string ⟨#[]⟩,Value.slice none 0 0] 40 rfl rfl rfl rfl HSZ.out HOL.out HO.out ?_)
  generalize w2.alloc (Obj.cells C 40)=w3 at *
  go_wp2_with fail
  refine (rwhole_any b ra rc L v i w3 H3.out hv (by omega) h42).mono ?_
  rintro e4 w4 ⟨m4,h4⟩
  by_cases hc:i<v.ws.length\/v.last.1≠42
  ·rw [if_pos hc] at h4
   obtain ⟨rfl,h4⟩:=h4
   obtain ⟨g,hg⟩:∃ g,v.give 40 i=g:=⟨_,rfl⟩
   have hq:q=.err g:=by rw [HQ.out,if_pos hc,hg]
   subst hq
   rw [hg] at h4
   have A4:=Hxq (m4.at A3.out hnb);have B4:=Hxq (m4.at B3.out hnb1);have H4:=Lib.hid h4;have M4:=Hxq (M3.out.trans (S:=[]) m4 (fun t ht=>by rw [Msq] at ht;exact .inr (by omega)))
   clear h4 m4 A3 B3 H3 M3 hg HQ hc
   go_upto_region 4 with fail
   have Q7:=Hxq (show w4.cell? ⟨b,7,none⟩=some (.int .i64 (g.1:Nat)) from cell_at H4.out.at_ 7);have Q8:=Hxq (show w4.cell? ⟨b,8,none⟩=some (.int .i64 (g.2.1:Nat)) from cell_at H4.out.at_ 8);have Q9:=Hxq (show w4.cell? ⟨b,9,none⟩=some (.int .i64 (g.2.2:Nat)) from cell_at H4.out.at_ 9)
   refine wp_region_held_drew (S:=(fun w':World=>Mod [w.heap.size,w.heap.size+1] w4 w')) (by kernel_rfl) (by (try dsimp only);exact (Mod.refl [w.heap.size,w.heap.size+1] w4).drew) (fun hHeld=>?_)
   refine wpAnyH_take (i:=0) (oi:=?_) (v:=.agg #[Value.string ⟨#[]⟩,Value.slice none 0 0]) ?_ ?_ ?_ ?_ ?_ ?_ (by assumption) ?_
   rotate_left 1
   ·(simp only [Gq1,Gq2,Gq3])<;>rfl
   ·kernel_rfl
   ·kernel_rfl
   ·kernel_rfl
   rotate_left 1
   ·exact yieldsIf_built (by rfl) 40 rfl _ build0_Atom
   rotate_left 1
   ·exact fun _ _ _ h=>h
   try simp only [Act.put,Lq1,Lq2,Lq3]
   refine Tkq 1 (v:=?_) (by assumption) ?_ ?_ ?_
   rotate_left 1
   ·refine .inl ⟨by rfl,?_⟩;intro w hSw;have c7:=hSw.cell Q7.out (by simp;omega);have c8:=hSw.cell Q8.out (by simp;omega);have c9:=hSw.cell Q9.out (by simp;omega);clear hSw;go_simp
    all_goals with_reducible rfl
   ·exact fun _ _ _ h=>h
   try simp only [Act.put,Lq1,Lq2,Lq3]
   refine Tkq 2 (v:=?_) (by assumption) ?_ ?_ ?_
   rotate_left 1
   ·refine .inl ⟨by rfl,?_⟩;intro w hSw;have c7:=hSw.cell Q7.out (by simp;omega);have c8:=hSw.cell Q8.out (by simp;omega);have c9:=hSw.cell Q9.out (by simp;omega);clear hSw;go_simp
    all_goals with_reducible rfl
   ·exact fun _ _ _ h=>h
   try simp only [Act.put,Lq1,Lq2,Lq3]
   refine Tkq 3 (v:=?_) (by assumption) ?_ ?_ ?_
   rotate_left 1
   ·refine .inl ⟨by rfl,?_⟩;intro w hSw;have c7:=hSw.cell Q7.out (by simp;omega);have c8:=hSw.cell Q8.out (by simp;omega);have c9:=hSw.cell Q9.out (by simp;omega);clear hSw;go_simp
    all_goals with_reducible rfl
   ·exact fun _ _ _ h=>h
   try simp only [Act.put,Lq1,Lq2,Lq3]
   refine Tkq 4 (v:=?_) (by assumption) ?_ ?_ ?_
   rotate_left 1
   ·refine .inl ⟨by rfl,?_⟩;intro w hSw;have c7:=hSw.cell Q7.out (by simp;omega);have c8:=hSw.cell Q8.out (by simp;omega);have c9:=hSw.cell Q9.out (by simp;omega);clear hSw;go_simp
    all_goals with_reducible rfl
   ·exact fun _ _ _ h=>h
   try simp only [Act.put,Lq1,Lq2,Lq3]
   have mR:=Mod.setRow w4.drew w.heap.size #[Value.string ⟨#[]⟩,Value.slice none 0 0]
   have mR2:=Mod.setRow (w4.drew.setRow w.heap.size #[Value.string ⟨#[]⟩,Value.slice none 0 0]) (w.heap.size+1) #[.int .i64 (g.1:Nat),.int .i64 (g.2.1:Nat),.int .i64 (g.2.2:Nat)]
   have N5:=Hxq ((Mod.refl [w.heap.size,w.heap.size+1] w4).drew.trans (mR.mono (T:=[w.heap.size,w.heap.size+1]) (by simp)) (by simp))
   have N6:=Hxq (N5.out.trans (mR2.mono (T:=[w.heap.size,w.heap.size+1]) (by simp)) (by simp))
   refine wpAnyH_ready (rs:=[5]) (by kernel_rfl) (by simp) ?_
   refine AllReadyH.cons (o:=?_) ?_ ?_ AllReadyH.nil
   rotate_left 1
   ·(simp only [Gq1,Gq2,Gq3])<;>rfl
   intro K hK
   refine (if_pos (by rfl)).mpr ?_
   refine wp_store_row 40 _ _ rfl w.heap.size #[Value.string ⟨#[]⟩,Value.slice none 0 0] rfl rfl 40 _ (drew_cells A4.out) sizeA rfl (by rw [<-Array.all_toList];rfl) ?_
   refine hK.out _ _ (by (try dsimp only);exact N5.out) (fun hHeld=>?_)
   clear hK K
   try simp only [Act.put,Lq1,Lq2,Lq3]
   refine wpAnyH_ready (rs:=[6]) (by kernel_rfl) (by simp) ?_
   refine AllReadyH.cons (o:=?_) ?_ ?_ AllReadyH.nil
   rotate_left 1
   ·(simp only [Gq1,Gq2,Gq3])<;>rfl
   intro K hK
   refine (if_pos (by rfl)).mpr ?_
   refine wp_store_row 31 _ _ rfl (w.heap.size+1) #[.int .i64 (g.1:Nat),.int .i64 (g.2.1:Nat),.int .i64 (g.2.2:Nat)] rfl rfl 31 _ ((setRow_other w4.drew w.heap.size (w.heap.size+1) #[Value.string ⟨#[]⟩,Value.slice none 0 0] (by omega)).trans (drew_cells B4.out)) sizeFlt rfl (by rw [<-Array.all_toList];rfl) ?_
   refine hK.out _ _ (by (try dsimp only);exact N6.out) (fun hHeld=>?_)
   clear hK K
   try simp only [Act.put,Lq1,Lq2,Lq3]
   refine wpAnyH_done (by kernel_rfl) ?_ _
   have a6:=setRow_heap w4.drew w.heap.size _ #[Value.string ⟨#[]⟩,Value.slice none 0 0] 40 _ (drew_cells A4.out)
   have a7:=mR2.at a6 (by simp)
   have b7:=setRow_heap (w4.drew.setRow w.heap.size #[Value.string ⟨#[]⟩,Value.slice none 0 0]) (w.heap.size+1) _ #[.int .i64 (g.1:Nat),.int .i64 (g.2.1:Nat),.int .i64 (g.2.2:Nat)] 31 _ ((setRow_other w4.drew w.heap.size (w.heap.size+1) #[Value.string ⟨#[]⟩,Value.slice none 0 0] (by omega)).trans (drew_cells B4.out))
   go_wp2_with fail
   refine bodyPost_ret (res_pair rfl _ _ w.heap.size (w.heap.size+1) #[Value.string ⟨#[]⟩,Value.slice none 0 0] #[.int .i64 (g.1:Nat),.int .i64 (g.2.1:Nat),.int .i64 (g.2.2:Nat)] rfl rfl (run_loadVar_row (P:=Tryz.prog) _ _ _ _ _ _ _ a7 Tryz.underlying40 rfl sizeA) (run_loadVar_row (P:=Tryz.prog) _ _ _ _ _ _ _ b7 Tryz.underlying31 rfl sizeFlt)) rfl ⟨rfl,(M4.out.drew.trans mR (fun t ht=>?_)).trans mR2 (fun t ht=>?_)⟩
   ·rw [Msq] at ht;exact .inr (by omega)
   ·rw [Msq] at ht;exact .inr (by omega)
  ·rw [if_neg hc] at h4
   obtain ⟨rfl,h4⟩:=h4
   have hq:q=.ok a i:=by rw [HQ.out,if_neg hc]
   subst hq
   have hDb:w2.heap.size∉[b]:=by have:=H3.out.lt;have hb2:=H1.out.lt;simp;omega
   have A4:=Hxq (m4.at A3.out hnb);have B4:=Hxq (m4.at B3.out hnb1);have M4:=Hxq (M3.out.trans (S:=[]) m4 (fun t ht=>by rw [Msq] at ht;exact .inr (by omega)));have D4:=Hxq (m4.at D3.out hDb)
   have V4:=Hxq (valA_keep (m:=w.heap.size+2) V3.out m4 (fun s hs=>by have:=H1.out.lt;rw [Msq] at hs;omega) (by omega))
   clear h4 m4 A3 B3 H3 M3 D3 HQ hc
   go_wp2_with (first | refine wpList_load_row rfl 40 _ rfl w2.heap.size C 40 (0,0) rfl D4.out _ Tryz.underlying40 rfl HSZ.out ?_ | refine wpList_store_at rfl 40 _ _ rfl w.heap.size C _ 40 rfl rfl A4.out HSZ.out HOL.out HO.out ?_ | refine wpList_store_at rfl 31 _ _ rfl (w.heap.size+1) #[.int .i64 0,.int .i64 0,.int .i64 0] _ 31 rfl rfl ((setRow_other w4 w.heap.size (w.heap.size+1) C (by omega)).trans B4.out) sizeFlt rfl rfl ?_)
   have mR:=Mod.setRow w4 w.heap.size C
   have mR2:=Mod.setRow (w4.setRow w.heap.size C) (w.heap.size+1) #[.int .i64 0,.int .i64 0,.int .i64 0]
   have a6:=setRow_heap w4 w.heap.size _ C 40 _ A4.out
   have a7:=mR2.at a6 (by simp)
   have b7:=setRow_heap (w4.setRow w.heap.size C) (w.heap.size+1) _ #[.int .i64 0,.int .i64 0,.int .i64 0] 31 _ ((setRow_other w4 w.heap.size (w.heap.size+1) C (by omega)).trans B4.out)
   refine bodyPost_ret (res_pair rfl _ _ w.heap.size (w.heap.size+1) C #[.int .i64 0,.int .i64 0,.int .i64 0] rfl rfl (run_loadVar_row (P:=Tryz.prog) _ _ _ _ _ _ _ a7 Tryz.underlying40 rfl HSZ.out) (run_loadVar_row (P:=Tryz.prog) _ _ _ _ _ _ _ b7 Tryz.underlying31 rfl sizeFlt)) rfl ⟨C,rfl,valA_keep (valA_keep (m:=w.heap.size+2) V4.out mR (fun s hs=>by rw [Msq] at hs;omega) (Nat.le_refl _)) mR2 (fun s hs=>by rw [Msq] at hs;omega) (by omega),(M4.out.trans mR (fun t ht=>?_)).trans mR2 (fun t ht=>?_)⟩
   ·rw [Msq] at ht;exact .inr (by omega)
   ·rw [Msq] at ht;exact .inr (by omega)
theorem build0_Rule (w:World):(Instr.build 55 #[]).run Tryz.prog w=.ok (.agg #[Value.string ⟨#[]⟩,Value.slice none 0 0,Value.slice none 0 0,Value.int .i64 0,Value.int .i64 0]) w:=run_build w 55 _ _ (by kernel_rfl)
set_option maxHeartbeats 16000000 in
theorem rentRule_any (s:ByteArray) (hs:s.size<=140737488355328) (w:World) :
  Calls Tryz.prog 16 #[.string s] w (AllRes (Sy.whole (Sy.envOf (Cod.str s)) (Sy.rule (Sy.envOf (Cod.str s)))) (valR w.heap.size) (.agg #[Value.string ⟨#[]⟩,Value.slice none 0 0,Value.slice none 0 0,Value.int .i64 0,Value.int .i64 0]) w):=by
 have m0:=((Mod.refl [] w).alloc (Obj.cells #[Value.string ⟨#[]⟩,Value.slice none 0 0,Value.slice none 0 0,Value.int .i64 0,Value.int .i64 0] 55)).alloc (Obj.cells #[Value.int IntKind.i64 0,Value.int IntKind.i64 0,Value.int IntKind.i64 0] 31)
 have e0:=two_a w #[Value.string ⟨#[]⟩,Value.slice none 0 0,Value.slice none 0 0,Value.int .i64 0,Value.int .i64 0] #[Value.int IntKind.i64 0,Value.int IntKind.i64 0,Value.int IntKind.i64 0] 55 31
 have e1:=two_b w #[Value.string ⟨#[]⟩,Value.slice none 0 0,Value.slice none 0 0,Value.int .i64 0,Value.int .i64 0] #[Value.int IntKind.i64 0,Value.int IntKind.i64 0,Value.int IntKind.i64 0] 55 31
 have HBg:=Hxq (fun w=>rbegin_any s hs w)
 have hk:=envK s
 have HWh:=Hxq (nz_whole1 (v:=Sy.envOf (Cod.str s)) (one:=Sy.rule (Sy.envOf (Cod.str s))))
 have HAd:=Hxq (Sy.adv_rule (Sy.envOf (Cod.str s)) 0)
 generalize Sy.envOf (Cod.str s)=v at *
 have hv:=hk.ok
 have hlen:=hv.len
 go_enter Tryz.func16,Tryz.ntmps16
 go_upto_region 1 with fail
 have zA:((w.alloc (Obj.cells #[Value.string ⟨#[]⟩,Value.slice none 0 0,Value.slice none 0 0,Value.int .i64 0,Value.int .i64 0] 55)).alloc (Obj.cells #[Value.int IntKind.i64 0,Value.int IntKind.i64 0,Value.int IntKind.i64 0] 31)).heap.size=w.heap.size+2:=by simp
 generalize (w.alloc (Obj.cells _ 55)).alloc (Obj.cells _ 31)=w0 at *
 have E0:=Lib.hid e0;have E1:=Lib.hid e1;have M0:=Lib.hid m0
 clear e0 e1 m0
 go_wp2_with fail
 refine (HBg.out w0).mono ?_
 rintro e1 w1 ⟨b,ra,rc,L,rfl,h1,hb0,hnw,h42,m1⟩
 have A1:=Hxq (m1.at E0.out (by simp));have B1:=Hxq (m1.at E1.out (by simp));have M1:=Hxq (M0.out.trans m1 (by simp));have H1:=Lib.hid h1
 have hz1:=m1.size
 have hnb:w.heap.size∉[b]:=by simp;omega
 have hnb1:w.heap.size+1∉[b]:=by simp;omega
 have HNW:=Lib.hid hnw
 have HC:=Hxq (rrule_any b ra rc L v 0 w1 h1 hk (Nat.zero_le _))
 clear h1 m1 HBg hnw
 generalize Sy.whole v (Sy.rule v)=q at *
 generalize Sy.rule v 0=q1 at *
 cases q1 with
 | err g =>
  have hq:q=.err g:=HWh.out
  subst hq
  clear HWh HAd
  go_wp2_with fail
  refine HC.out.mono ?_
  rintro e2 w2 ⟨x2,rfl,hx2,⟨jj,h2⟩,m2⟩
  obtain ⟨C,rfl,hC,hO⟩:=badU_cells hx2
  have mD:=(Mod.refl [] w2).alloc (Obj.cells C 55)
  have A3:=Hxq (mD.at (m2.at A1.out hnb) (by have:=lt_of_block (m2.at A1.out hnb);simp));have B3:=Hxq (mD.at (m2.at B1.out hnb1) (by have:=lt_of_block (m2.at B1.out hnb1);simp));have H3:=Hxq (h2.past mD (by simp));have M3:=Hxq ((M1.out.trans (S:=[]) m2 (fun t ht=>by rw [Msq] at ht;exact .inr (by omega))).trans mD (by simp))
  have HSZ:=Hxq (size_of sizeU hC);have HO:=Lib.hid hO;have HOL:=Hxq (show (#[Value.string ⟨#[]⟩,Value.slice none 0 0,Value.slice none 0 0,Value.int .i64 0,Value.int .i64 0]:Array Value).size=C.size by rw [hC];rfl)
  clear h2 m2 mD hx2 hC hO
  go_upto_region 3 with (refine wpList_store_new rfl 55 _ _ rfl w2 w2.heap.size C #[Value.string ⟨#[]⟩,Value.slice none 0 0,Value.slice none 0 0,Value.int .i64 0,Value.int .i64 0] 55 rfl rfl rfl rfl HSZ.out HOL.out HO.out ?_)
  generalize w2.alloc (Obj.cells C 55)=w3 at *
  go_wp2_with fail
  refine (rwhole_false b ra rc L v jj g w3 H3.out).mono ?_
  rintro e4 w4 ⟨rfl,h4,m4⟩
  have A4:=Hxq (m4.at A3.out (by simp));have B4:=Hxq (m4.at B3.out (by simp));have H4:=Lib.hid h4;have M4:=Hxq (M3.out.trans m4 (by simp))
  clear h4 m4 A3 B3 H3 M3
  go_upto_region 4 with fail
  have Q7:=Hxq (show w4.cell? ⟨b,7,none⟩=some (.int .i64 (g.1:Nat)) from cell_at H4.out.at_ 7);have Q8:=Hxq (show w4.cell? ⟨b,8,none⟩=some (.int .i64 (g.2.1:Nat)) from cell_at H4.out.at_ 8);have Q9:=Hxq (show w4.cell? ⟨b,9,none⟩=some (.int .i64 (g.2.2:Nat)) from cell_at H4.out.at_ 9)
  refine wp_region_held_drew (S:=(fun w':World=>Mod [w.heap.size,w.heap.size+1] w4 w')) (by kernel_rfl) (by (try dsimp only);exact (Mod.refl [w.heap.size,w.heap.size+1] w4).drew) (fun hHeld=>?_)
  refine wpAnyH_take (i:=0) (oi:=?_) (v:=.agg #[Value.string ⟨#[]⟩,Value.slice none 0 0,Value.slice none 0 0,Value.int .i64 0,Value.int .i64 0]) ?_ ?_ ?_ ?_ ?_ ?_ (by assumption) ?_
  rotate_left 1
  ·(simp only [Gq1,Gq2,Gq3])<;>rfl
  ·kernel_rfl
  ·kernel_rfl
  ·kernel_rfl
  rotate_left 1
  ·exact yieldsIf_built (by rfl) 55 rfl _ build0_Rule
  rotate_left 1
  ·exact fun _ _ _ h=>h
  try simp only [Act.put,Lq1,Lq2,Lq3]
  refine Tkq 1 (v:=?_) (by assumption) ?_ ?_ ?_
  rotate_left 1
  ·refine .inl ⟨by rfl,?_⟩;intro w hSw;have c7:=hSw.cell Q7.out (by simp;omega);have c8:=hSw.cell Q8.out (by simp;omega);have c9:=hSw.cell Q9.out (by simp;omega);clear hSw;go_simp
   all_goals with_reducible rfl
  ·exact fun _ _ _ h=>h
  try simp only [Act.put,Lq1,Lq2,Lq3]
  refine Tkq 2 (v:=?_) (by assumption) ?_ ?_ ?_
  rotate_left 1
  ·refine .inl ⟨by rfl,?_⟩;intro w hSw;have c7:=hSw.cell Q7.out (by simp;omega);have c8:=hSw.cell Q8.out (by simp;omega);have c9:=hSw.cell Q9.out (by simp;omega);clear hSw;go_simp
   all_goals with_reducible rfl
  ·exact fun _ _ _ h=>h
  try simp only [Act.put,Lq1,Lq2,Lq3]
  refine Tkq 3 (v:=?_) (by assumption) ?_ ?_ ?_
  rotate_left 1
  ·refine .inl ⟨by rfl,?_⟩;intro w hSw;have c7:=hSw.cell Q7.out (by simp;omega);have c8:=hSw.cell Q8.out (by simp;omega);have c9:=hSw.cell Q9.out (by simp;omega);clear hSw;go_simp
   all_goals with_reducible rfl
  ·exact fun _ _ _ h=>h
  try simp only [Act.put,Lq1,Lq2,Lq3]
  refine Tkq 4 (v:=?_) (by assumption) ?_ ?_ ?_
  rotate_left 1
  ·refine .inl ⟨by rfl,?_⟩;intro w hSw;have c7:=hSw.cell Q7.out (by simp;omega);have c8:=hSw.cell Q8.out (by simp;omega);have c9:=hSw.cell Q9.out (by simp;omega);clear hSw;go_simp
   all_goals with_reducible rfl
  ·exact fun _ _ _ h=>h
  try simp only [Act.put,Lq1,Lq2,Lq3]
  have mR:=Mod.setRow w4.drew w.heap.size #[Value.string ⟨#[]⟩,Value.slice none 0 0,Value.slice none 0 0,Value.int .i64 0,Value.int .i64 0]
  have mR2:=Mod.setRow (w4.drew.setRow w.heap.size #[Value.string ⟨#[]⟩,Value.slice none 0 0,Value.slice none 0 0,Value.int .i64 0,Value.int .i64 0]) (w.heap.size+1) #[.int .i64 (g.1:Nat),.int .i64 (g.2.1:Nat),.int .i64 (g.2.2:Nat)]
  have N5:=Hxq ((Mod.refl [w.heap.size,w.heap.size+1] w4).drew.trans (mR.mono (T:=[w.heap.size,w.heap.size+1]) (by simp)) (by simp))
  have N6:=Hxq (N5.out.trans (mR2.mono (T:=[w.heap.size,w.heap.size+1]) (by simp)) (by simp))
  refine wpAnyH_ready (rs:=[5]) (by kernel_rfl) (by simp) ?_
  refine AllReadyH.cons (o:=?_) ?_ ?_ AllReadyH.nil
  rotate_left 1
  ·(simp only [Gq1,Gq2,Gq3])<;>rfl
  intro K hK
  refine (if_pos (by rfl)).mpr ?_
  refine wp_store_row 55 _ _ rfl w.heap.size #[Value.string ⟨#[]⟩,Value.slice none 0 0,Value.slice none 0 0,Value.int .i64 0,Value.int .i64 0] rfl rfl 55 _ (drew_cells A4.out) sizeU rfl (by rw [<-Array.all_toList];rfl) ?_
  refine hK.out _ _ (by (try dsimp only);exact N5.out) (fun hHeld=>?_)
  clear hK K
  try simp only [Act.put,Lq1,Lq2,Lq3]
  refine wpAnyH_ready (rs:=[6]) (by kernel_rfl) (by simp) ?_
  refine AllReadyH.cons (o:=?_) ?_ ?_ AllReadyH.nil
  rotate_left 1
  ·(simp only [Gq1,Gq2,Gq3])<;>rfl
  intro K hK
  refine (if_pos (by rfl)).mpr ?_
  refine wp_store_row 31 _ _ rfl (w.heap.size+1) #[.int .i64 (g.1:Nat),.int .i64 (g.2.1:Nat),.int .i64 (g.2.2:Nat)] rfl rfl 31 _ ((setRow_other w4.drew w.heap.size (w.heap.size+1) #[Value.string ⟨#[]⟩,Value.slice none 0 0,Value.slice none 0 0,Value.int .i64 0,Value.int .i64 0] (by omega)).trans (drew_cells B4.out)) sizeFlt rfl (by rw [<-Array.all_toList];rfl) ?_
  refine hK.out _ _ (by (try dsimp only);exact N6.out) (fun hHeld=>?_)
  clear hK K
  try simp only [Act.put,Lq1,Lq2,Lq3]
  refine wpAnyH_done (by kernel_rfl) ?_ _
  have a6:=setRow_heap w4.drew w.heap.size _ #[Value.string ⟨#[]⟩,Value.slice none 0 0,Value.slice none 0 0,Value.int .i64 0,Value.int .i64 0] 55 _ (drew_cells A4.out)
  have a7:=mR2.at a6 (by simp)
  have b7:=setRow_heap (w4.drew.setRow w.heap.size #[Value.string ⟨#[]⟩,Value.slice none 0 0,Value.slice none 0 0,Value.int .i64 0,Value.int .i64 0]) (w.heap.size+1) _ #[.int .i64 (g.1:Nat),.int .i64 (g.2.1:Nat),.int .i64 (g.2.2:Nat)] 31 _ ((setRow_other w4.drew w.heap.size (w.heap.size+1) #[Value.string ⟨#[]⟩,Value.slice none 0 0,Value.slice none 0 0,Value.int .i64 0,Value.int .i64 0] (by omega)).trans (drew_cells B4.out))
  go_wp2_with fail
  refine bodyPost_ret (res_pair rfl _ _ w.heap.size (w.heap.size+1) #[Value.string ⟨#[]⟩,Value.slice none 0 0,Value.slice none 0 0,Value.int .i64 0,Value.int .i64 0] #[.int .i64 (g.1:Nat),.int .i64 (g.2.1:Nat),.int .i64 (g.2.2:Nat)] rfl rfl (run_loadVar_row (P:=Tryz.prog) _ _ _ _ _ _ _ a7 Tryz.underlying55 rfl sizeU) (run_loadVar_row (P:=Tryz.prog) _ _ _ _ _ _ _ b7 Tryz.underlying31 rfl sizeFlt)) rfl ⟨rfl,(M4.out.drew.trans mR (fun t ht=>?_)).trans mR2 (fun t ht=>?_)⟩
  ·rw [Msq] at ht;exact .inr (by omega)
  ·rw [Msq] at ht;exact .inr (by omega)
 | ok a i =>
  have hi:=(HAd.out a i (Nat.zero_le _) rfl).2
  have HQ:Hid (q=if i<v.ws.length\/v.last.1≠42 then .err (v.give 40 i) else .ok a i):=Lib.hid HWh.out
  clear HWh HAd
  go_wp2_with fail
  refine HC.out.mono ?_
  rintro e2 w2 ⟨x2,rfl,hval,h2,m2⟩
  obtain ⟨C,rfl⟩:∃ C,x2=.agg C:=by obtain ⟨u,u2,rfl,-⟩:=hval;exact ⟨_,rfl⟩
  obtain ⟨hC,hO⟩:=valU_cells hval
  have mD:=(Mod.refl [] w2).alloc (Obj.cells C 55)
  have eD:=heap_alloc_new w2 (Obj.cells C 55)
  have A3:=Hxq (mD.at (m2.at A1.out hnb) (by have:=lt_of_block (m2.at A1.out hnb);simp));have B3:=Hxq (mD.at (m2.at B1.out hnb1) (by have:=lt_of_block (m2.at B1.out hnb1);simp));have H3:=Hxq (h2.past mD (by simp));have M3:=Hxq ((M1.out.trans (S:=[]) m2 (fun t ht=>by rw [Msq] at ht;exact .inr (by omega))).trans mD (by simp));have D3:=Lib.hid eD
  have V3:=Hxq (valU_keep (m:=w1.heap.size) hval mD (by simp) (Nat.le_refl _))
  have hz2:=m2.size
  have HSZ:=Hxq (size_of sizeU hC);have HO:=Lib.hid hO;have HOL:=Hxq (show (#[Value.string ⟨#[]⟩,Value.slice none 0 0,Value.slice none 0 0,Value.int .i64 0,Value.int .i64 0]:Array Value).size=C.size by rw [hC];rfl)
  clear h2 m2 mD hval hC hO eD
  go_upto_region 3 with (refine wpList_store_new rfl 55 _ _ rfl w2 w2.heap.size C #[Value.string ⟨#[]⟩,Value.slice none 0 0,Value.slice none 0 0,Value.int .i64 0,Value.int .i64 0] 55 rfl rfl rfl rfl HSZ.out HOL.out HO.out ?_)
  generalize w2.alloc (Obj.cells C 55)=w3 at *
  go_wp2_with fail
  refine (rwhole_any b ra rc L v i w3 H3.out hv (by omega) h42).mono ?_
  rintro e4 w4 ⟨m4,h4⟩
  by_cases hc:i<v.ws.length\/v.last.1≠42
  ·rw [if_pos hc] at h4
   obtain ⟨rfl,h4⟩:=h4
   obtain ⟨g,hg⟩:∃ g,v.give 40 i=g:=⟨_,rfl⟩
   have hq:q=.err g:=by rw [HQ.out,if_pos hc,hg]
   subst hq
   rw [hg] at h4
   have A4:=Hxq (m4.at A3.out hnb);have B4:=Hxq (m4.at B3.out hnb1);have H4:=Lib.hid h4;have M4:=Hxq (M3.out.trans (S:=[]) m4 (fun t ht=>by rw [Msq] at ht;exact .inr (by omega)))
   clear h4 m4 A3 B3 H3 M3 hg HQ hc
   go_upto_region 4 with fail
   have Q7:=Hxq (show w4.cell? ⟨b,7,none⟩=some (.int .i64 (g.1:Nat)) from cell_at H4.out.at_ 7);have Q8:=Hxq (show w4.cell? ⟨b,8,none⟩=some (.int .i64 (g.2.1:Nat)) from cell_at H4.out.at_ 8);have Q9:=Hxq (show w4.cell? ⟨b,9,none⟩=some (.int .i64 (g.2.2:Nat)) from cell_at H4.out.at_ 9)
   refine wp_region_held_drew (S:=(fun w':World=>Mod [w.heap.size,w.heap.size+1] w4 w')) (by kernel_rfl) (by (try dsimp only);exact (Mod.refl [w.heap.size,w.heap.size+1] w4).drew) (fun hHeld=>?_)
   refine wpAnyH_take (i:=0) (oi:=?_) (v:=.agg #[Value.string ⟨#[]⟩,Value.slice none 0 0,Value.slice none 0 0,Value.int .i64 0,Value.int .i64 0]) ?_ ?_ ?_ ?_ ?_ ?_ (by assumption) ?_
   rotate_left 1
   ·(simp only [Gq1,Gq2,Gq3])<;>rfl
   ·kernel_rfl
   ·kernel_rfl
   ·kernel_rfl
   rotate_left 1
   ·exact yieldsIf_built (by rfl) 55 rfl _ build0_Rule
   rotate_left 1
   ·exact fun _ _ _ h=>h
   try simp only [Act.put,Lq1,Lq2,Lq3]
   refine Tkq 1 (v:=?_) (by assumption) ?_ ?_ ?_
   rotate_left 1
   ·refine .inl ⟨by rfl,?_⟩;intro w hSw;have c7:=hSw.cell Q7.out (by simp;omega);have c8:=hSw.cell Q8.out (by simp;omega);have c9:=hSw.cell Q9.out (by simp;omega);clear hSw;go_simp
    all_goals with_reducible rfl
   ·exact fun _ _ _ h=>h
   try simp only [Act.put,Lq1,Lq2,Lq3]
   refine Tkq 2 (v:=?_) (by assumption) ?_ ?_ ?_
   rotate_left 1
   ·refine .inl ⟨by rfl,?_⟩;intro w hSw;have c7:=hSw.cell Q7.out (by simp;omega);have c8:=hSw.cell Q8.out (by simp;omega);have c9:=hSw.cell Q9.out (by simp;omega);clear hSw;go_simp
    all_goals with_reducible rfl
   ·exact fun _ _ _ h=>h
   try simp only [Act.put,Lq1,Lq2,Lq3]
   refine Tkq 3 (v:=?_) (by assumption) ?_ ?_ ?_
   rotate_left 1
   ·refine .inl ⟨by rfl,?_⟩;intro w hSw;have c7:=hSw.cell Q7.out (by simp;omega);have c8:=hSw.cell Q8.out (by simp;omega);have c9:=hSw.cell Q9.out (by simp;omega);clear hSw;go_simp
    all_goals with_reducible rfl
   ·exact fun _ _ _ h=>h
   try simp only [Act.put,Lq1,Lq2,Lq3]
   refine Tkq 4 (v:=?_) (by assumption) ?_ ?_ ?_
   rotate_left 1
   ·refine .inl ⟨by rfl,?_⟩;intro w hSw;have c7:=hSw.cell Q7.out (by simp;omega);have c8:=hSw.cell Q8.out (by simp;omega);have c9:=hSw.cell Q9.out (by simp;omega);clear hSw;go_simp
    all_goals with_reducible rfl
   ·exact fun _ _ _ h=>h
   try simp only [Act.put,Lq1,Lq2,Lq3]
   have mR:=Mod.setRow w4.drew w.heap.size #[Value.string ⟨#[]⟩,Value.slice none 0 0,Value.slice none 0 0,Value.int .i64 0,Value.int .i64 0]
   have mR2:=Mod.setRow (w4.drew.setRow w.heap.size #[Value.string ⟨#[]⟩,Value.slice none 0 0,Value.slice none 0 0,Value.int .i64 0,Value.int .i64 0]) (w.heap.size+1) #[.int .i64 (g.1:Nat),.int .i64 (g.2.1:Nat),.int .i64 (g.2.2:Nat)]
   have N5:=Hxq ((Mod.refl [w.heap.size,w.heap.size+1] w4).drew.trans (mR.mono (T:=[w.heap.size,w.heap.size+1]) (by simp)) (by simp))
   have N6:=Hxq (N5.out.trans (mR2.mono (T:=[w.heap.size,w.heap.size+1]) (by simp)) (by simp))
   refine wpAnyH_ready (rs:=[5]) (by kernel_rfl) (by simp) ?_
   refine AllReadyH.cons (o:=?_) ?_ ?_ AllReadyH.nil
   rotate_left 1
   ·(simp only [Gq1,Gq2,Gq3])<;>rfl
   intro K hK
   refine (if_pos (by rfl)).mpr ?_
   refine wp_store_row 55 _ _ rfl w.heap.size #[Value.string ⟨#[]⟩,Value.slice none 0 0,Value.slice none 0 0,Value.int .i64 0,Value.int .i64 0] rfl rfl 55 _ (drew_cells A4.out) sizeU rfl (by rw [<-Array.all_toList];rfl) ?_
   refine hK.out _ _ (by (try dsimp only);exact N5.out) (fun hHeld=>?_)
   clear hK K
   try simp only [Act.put,Lq1,Lq2,Lq3]
   refine wpAnyH_ready (rs:=[6]) (by kernel_rfl) (by simp) ?_
   refine AllReadyH.cons (o:=?_) ?_ ?_ AllReadyH.nil
   rotate_left 1
   ·(simp only [Gq1,Gq2,Gq3])<;>rfl
   intro K hK
   refine (if_pos (by rfl)).mpr ?_
   refine wp_store_row 31 _ _ rfl (w.heap.size+1) #[.int .i64 (g.1:Nat),.int .i64 (g.2.1:Nat),.int .i64 (g.2.2:Nat)] rfl rfl 31 _ ((setRow_other w4.drew w.heap.size (w.heap.size+1) #[Value.string ⟨#[]⟩,Value.slice none 0 0,Value.slice none 0 0,Value.int .i64 0,Value.int .i64 0] (by omega)).trans (drew_cells B4.out)) sizeFlt rfl (by rw [<-Array.all_toList];rfl) ?_
   refine hK.out _ _ (by (try dsimp only);exact N6.out) (fun hHeld=>?_)
   clear hK K
   try simp only [Act.put,Lq1,Lq2,Lq3]
   refine wpAnyH_done (by kernel_rfl) ?_ _
   have a6:=setRow_heap w4.drew w.heap.size _ #[Value.string ⟨#[]⟩,Value.slice none 0 0,Value.slice none 0 0,Value.int .i64 0,Value.int .i64 0] 55 _ (drew_cells A4.out)
   have a7:=mR2.at a6 (by simp)
   have b7:=setRow_heap (w4.drew.setRow w.heap.size #[Value.string ⟨#[]⟩,Value.slice none 0 0,Value.slice none 0 0,Value.int .i64 0,Value.int .i64 0]) (w.heap.size+1) _ #[.int .i64 (g.1:Nat),.int .i64 (g.2.1:Nat),.int .i64 (g.2.2:Nat)] 31 _ ((setRow_other w4.drew w.heap.size (w.heap.size+1) #[Value.string ⟨#[]⟩,Value.slice none 0 0,Value.slice none 0 0,Value.int .i64 0,Value.int .i64 0] (by omega)).trans (drew_cells B4.out))
   go_wp2_with fail
   refine bodyPost_ret (res_pair rfl _ _ w.heap.size (w.heap.size+1) #[Value.string ⟨#[]⟩,Value.slice none 0 0,Value.slice none 0 0,Value.int .i64 0,Value.int .i64 0] #[.int .i64 (g.1:Nat),.int .i64 (g.2.1:Nat),.int .i64 (g.2.2:Nat)] rfl rfl (run_loadVar_row (P:=Tryz.prog) _ _ _ _ _ _ _ a7 Tryz.underlying55 rfl sizeU) (run_loadVar_row (P:=Tryz.prog) _ _ _ _ _ _ _ b7 Tryz.underlying31 rfl sizeFlt)) rfl ⟨rfl,(M4.out.drew.trans mR (fun t ht=>?_)).trans mR2 (fun t ht=>?_)⟩
   ·rw [Msq] at ht;exact .inr (by omega)
   ·rw [Msq] at ht;exact .inr (by omega)
  ·rw [if_neg hc] at h4
   obtain ⟨rfl,h4⟩:=h4
   have hq:q=.ok a i:=by rw [HQ.out,if_neg hc]
   subst hq
   have hDb:w2.heap.size∉[b]:=by have:=H3.out.lt;have hb2:=H1.out.lt;simp;omega
   have A4:=Hxq (m4.at A3.out hnb);have B4:=Hxq (m4.at B3.out hnb1);have M4:=Hxq (M3.out.trans (S:=[]) m4 (fun t ht=>by rw [Msq] at ht;exact .inr (by omega)));have D4:=Hxq (m4.at D3.out hDb)
   have V4:=Hxq (valU_keep (m:=w.heap.size+2) V3.out m4 (fun s hs=>by have:=H1.out.lt;rw [Msq] at hs;omega) (by omega))
   clear h4 m4 A3 B3 H3 M3 D3 HQ hc
   go_wp2_with (first | refine wpList_load_row rfl 55 _ rfl w2.heap.size C 55 (0,0) rfl D4.out _ Tryz.underlying55 rfl HSZ.out ?_ | refine wpList_store_at rfl 55 _ _ rfl w.heap.size C _ 55 rfl rfl A4.out HSZ.out HOL.out HO.out ?_ | refine wpList_store_at rfl 31 _ _ rfl (w.heap.size+1) #[.int .i64 0,.int .i64 0,.int .i64 0] _ 31 rfl rfl ((setRow_other w4 w.heap.size (w.heap.size+1) C (by omega)).trans B4.out) sizeFlt rfl rfl ?_)
   have mR:=Mod.setRow w4 w.heap.size C
   have mR2:=Mod.setRow (w4.setRow w.heap.size C) (w.heap.size+1) #[.int .i64 0,.int .i64 0,.int .i64 0]
   have a6:=setRow_heap w4 w.heap.size _ C 55 _ A4.out
   have a7:=mR2.at a6 (by simp)
   have b7:=setRow_heap (w4.setRow w.heap.size C) (w.heap.size+1) _ #[.int .i64 0,.int .i64 0,.int .i64 0] 31 _ ((setRow_other w4 w.heap.size (w.heap.size+1) C (by omega)).trans B4.out)
   refine bodyPost_ret (res_pair rfl _ _ w.heap.size (w.heap.size+1) C #[.int .i64 0,.int .i64 0,.int .i64 0] rfl rfl (run_loadVar_row (P:=Tryz.prog) _ _ _ _ _ _ _ a7 Tryz.underlying55 rfl HSZ.out) (run_loadVar_row (P:=Tryz.prog) _ _ _ _ _ _ _ b7 Tryz.underlying31 rfl sizeFlt)) rfl ⟨C,rfl,valU_keep (valU_keep (m:=w.heap.size+2) V4.out mR (fun s hs=>by rw [Msq] at hs;omega) (Nat.le_refl _)) mR2 (fun s hs=>by rw [Msq] at hs;omega) (by omega),(M4.out.trans mR (fun t ht=>?_)).trans mR2 (fun t ht=>?_)⟩
   ·rw [Msq] at ht;exact .inr (by omega)
   ·rw [Msq] at ht;exact .inr (by omega)
theorem build0_Literal (w:World):(Instr.build 50 #[]).run Tryz.prog w=.ok (.agg #[Value.int .i64 0,Value.string ⟨#[]⟩,Value.slice none 0 0,Value.int .i64 0,Value.int .i64 0,Value.string ⟨#[]⟩,Value.int .i64 0,Value.int .i64 0,Value.string ⟨#[]⟩,Value.int .i64 0,Value.slice none 0 0,Value.int .i64 0,Value.string ⟨#[]⟩,Value.int .i64 0,Value.int .i64 0,Value.string ⟨#[]⟩,Value.int .i64 0,Value.slice none 0 0,Value.int .i64 0,Value.string ⟨#[]⟩,Value.int .i64 0,Value.string ⟨#[]⟩,Value.int .i64 0,Value.int .i64 0,Value.string ⟨#[]⟩,Value.int .i64 0,Value.slice none 0 0,Value.slice none 0 0,Value.int .i64 0,Value.int .i64 0]) w:=run_build w 50 _ _ (by kernel_rfl)
set_option maxHeartbeats 16000000 in
theorem rentLiteral_any (s:ByteArray) (hs:s.size<=140737488355328) (w:World) :
  Calls Tryz.prog 17 #[.string s] w (AllRes (Sy.whole (Sy.envOf (Cod.str s)) (Sy.lit (Sy.envOf (Cod.str s)) 0)) (valL w.heap.size) (.agg #[Value.int .i64 0,Value.string ⟨#[]⟩,Value.slice none 0 0,Value.int .i64 0,Value.int .i64 0,Value.string ⟨#[]⟩,Value.int .i64 0,Value.int .i64 0,Value.string ⟨#[]⟩,Value.int .i64 0,Value.slice none 0 0,Value.int .i64 0,Value.string ⟨#[]⟩,Value.int .i64 0,Value.int .i64 0,Value.string ⟨#[]⟩,Value.int .i64 0,Value.slice none 0 0,Value.int .i64 0,Value.string ⟨#[]⟩,Value.int .i64 0,Value.string ⟨#[]⟩,Value.int .i64 0,Value.int .i64 0,Value.string ⟨#[]⟩,Value.int .i64 0,Value.slice none 0 0,Value.slice none 0 0,Value.int .i64 0,Value.int .i64 0]) w):=by
 have m0:=((Mod.refl [] w).alloc (Obj.cells #[Value.int .i64 0,Value.string ⟨#[]⟩,Value.slice none 0 0,Value.int .i64 0,Value.int .i64 0,Value.string ⟨#[]⟩,Value.int .i64 0,Value.int .i64 0,Value.string ⟨#[]⟩,Value.int .i64 0,Value.slice none 0 0,Value.int .i64 0,Value.string ⟨#[]⟩,Value.int .i64 0,Value.int .i64 0,Value.string ⟨#[]⟩,Value.int .i64 0,Value.slice none 0 0,Value.int .i64 0,Value.string ⟨#[]⟩,Value.int .i64 0,Value.string ⟨#[]⟩,Value.int .i64 0,Value.int .i64 0,Value.string ⟨#[]⟩,Value.int .i64 0,Value.slice none 0 0,Value.slice none 0 0,Value.int .i64 0,Value.int .i64 0] 50)).alloc (Obj.cells #[Value.int IntKind.i64 0,Value.int IntKind.i64 0,Value.int IntKind.i64 0] 31)
 have e0:=two_a w #[Value.int .i64 0,Value.string ⟨#[]⟩,Value.slice none 0 0,Value.int .i64 0,Value.int .i64 0,Value.string ⟨#[]⟩,Value.int .i64 0,Value.int .i64 0,Value.string ⟨#[]⟩,Value.int .i64 0,Value.slice none 0 0,Value.int .i64 0,Value.string ⟨#[]⟩,Value.int .i64 0,Value.int .i64 0,Value.string ⟨#[]⟩,Value.int .i64 0,Value.slice none 0 0,Value.int .i64 0,Value.string ⟨#[]⟩,Value.int .i64 0,Value.string ⟨#[]⟩,Value.int .i64 0,Value.int .i64 0,Value.string ⟨#[]⟩,Value.int .i64 0,Value.slice none 0 0,Value.slice none 0 0,Value.int .i64 0,Value.int .i64 0] #[Value.int IntKind.i64 0,Value.int IntKind.i64 0,Value.int IntKind.i64 0] 50 31
 have e1:=two_b w #[Value.int .i64 0,Value.string ⟨#[]⟩,Value.slice none 0 0,Value.int .i64 0,Value.int .i64 0,Value.string ⟨#[]⟩,Value.int .i64 0,Value.int .i64 0,Value.string ⟨#[]⟩,Value.int .i64 0,Value.slice none 0 0,Value.int .i64 0,Value.string ⟨#[]⟩,Value.int .i64 0,Value.int .i64 0,Value.string ⟨#[]⟩,Value.int .i64 0,Value.slice none 0 0,Value.int .i64 0,Value.string ⟨#[]⟩,Value.int .i64 0,Value.string ⟨#[]⟩,Value.int .i64 0,Value.int .i64 0,Value.string ⟨#[]⟩,Value.int .i64 0,Value.slice none 0 0,Value.slice none 0 0,Value.int .i64 0,Value.int .i64 0] #[Value.int IntKind.i64 0,Value.int IntKind.i64 0,Value.int IntKind.i64 0] 50 31
 have HBg:=Hxq (fun w=>rbegin_any s hs w)
 have hk:=envK s
 have HWh:=Hxq (nz_whole1 (v:=Sy.envOf (Cod.str s)) (one:=Sy.lit (Sy.envOf (Cod.str s)) 0))
 have HAd:=Hxq (Sy.adv_lit (Sy.envOf (Cod.str s)) 0 0)
 generalize Sy.envOf (Cod.str s)=v at *
 have hv:=hk.ok
 have hlen:=hv.len
 go_enter Tryz.func17,Tryz.ntmps17
 go_upto_region 1 with fail
 have zA:((w.alloc (Obj.cells #[Value.int .i64 0,Value.string ⟨#[]⟩,Value.slice none 0 0,Value.int .i64 0,Value.int .i64 0,Value.string ⟨#[]⟩,Value.int .i64 0,Value.int .i64 0,Value.string ⟨#[]⟩,Value.int .i64 0,Value.slice none 0 0,Value.int .i64 0,Value.string ⟨#[]⟩,Value.int .i64 0,Value.int .i64 0,Value.string ⟨#[]⟩,Value.int .i64 0,Value.slice none 0 0,Value.int .i64 0,Value.string ⟨#[]⟩,Value.int .i64 0,Value.string ⟨#[]⟩,Value.int .i64 0,Value.int .i64 0,Value.string ⟨#[]⟩,Value.int .i64 0,Value.slice none 0 0,Value.slice none 0 0,Value.int .i64 0,Value.int .i64 0] 50)).alloc (Obj.cells #[Value.int IntKind.i64 0,Value.int IntKind.i64 0,Value.int IntKind.i64 0] 31)).heap.size=w.heap.size+2:=by simp
 generalize (w.alloc (Obj.cells _ 50)).alloc (Obj.cells _ 31)=w0 at *
 have E0:=Lib.hid e0;have E1:=Lib.hid e1;have M0:=Lib.hid m0
 clear e0 e1 m0
 go_wp2_with fail
 refine (HBg.out w0).mono ?_
 rintro e1 w1 ⟨b,ra,rc,L,rfl,h1,hb0,hnw,h42,m1⟩
 have A1:=Hxq (m1.at E0.out (by simp));have B1:=Hxq (m1.at E1.out (by simp));have M1:=Hxq (M0.out.trans m1 (by simp));have H1:=Lib.hid h1
 have hz1:=m1.size
 have hnb:w.heap.size∉[b]:=by simp;omega
 have hnb1:w.heap.size+1∉[b]:=by simp;omega
 have HNW:=Lib.hid hnw
 have HC:=Hxq (rlit_any b ra rc L v 0 w1 h1 hk (Nat.zero_le _))
 clear h1 m1 HBg hnw
 generalize Sy.whole v (Sy.lit v 0)=q at *
 generalize Sy.lit v 0 0=q1 at *
 cases q1 with
 | err g =>
  have hq:q=.err g:=HWh.out
  subst hq
  clear HWh HAd
  go_wp2_with fail
  refine HC.out.mono ?_
  rintro e2 w2 ⟨x2,rfl,hx2,⟨jj,h2⟩,m2⟩
  obtain ⟨C,rfl,hC,hO⟩:=id hx2
  have mD:=(Mod.refl [] w2).alloc (Obj.cells C 50)
  have A3:=Hxq (mD.at (m2.at A1.out hnb) (by have:=lt_of_block (m2.at A1.out hnb);simp));have B3:=Hxq (mD.at (m2.at B1.out hnb1) (by have:=lt_of_block (m2.at B1.out hnb1);simp));have H3:=Hxq (h2.past mD (by simp));have M3:=Hxq ((M1.out.trans (S:=[]) m2 (fun t ht=>by rw [Msq] at ht;exact .inr (by omega))).trans mD (by simp))
  have HSZ:=Hxq (size_of sizeL hC);have HO:=Lib.hid hO;have HOL:=Hxq (show (#[Value.int .i64 0,Value.string ⟨#[]⟩,Value.slice none 0 0,Value.int .i64 0,Value.int .i64 0,Value.string ⟨#[]⟩,Value.int .i64 0,Value.int .i64 0,Value.string ⟨#[]⟩,Value.int .i64 0,Value.slice none 0 0,Value.int .i64 0,Value.string ⟨#[]⟩,Value.int .i64 0,Value.int .i64 0,Value.string ⟨#[]⟩,Value.int .i64 0,Value.slice none 0 0,Value.int .i64 0,Value.string ⟨#[]⟩,Value.int .i64 0,Value.string ⟨#[]⟩,Value.int .i64 0,Value.int .i64 0,Value.string ⟨#[]⟩,Value.int .i64 0,Value.slice none 0 0,Value.slice none 0 0,Value.int .i64 0,Value.int .i64 0]:Array Value).size=C.size by rw [hC];rfl)
  clear h2 m2 mD hx2 hC hO
  go_upto_region 3 with (refine wpList_store_new rfl 50 _ _ rfl w2 w2.heap.size C #[Value.int .i64 0,Value.string ⟨#[]⟩,Value.slice none 0 0,Value.int .i64 0,Value.int .i64 0,Value.string ⟨#[]⟩,Value.int .i64 0,Value.int .i64 0,Value.string ⟨#[]⟩,Value.int .i64 0,Value.slice none 0 0,Value.int .i64 0,Value.string ⟨#[]⟩,Value.int .i64 0,Value.int .i64 0,Value.string ⟨#[]⟩,Value.int .i64 0,Value.slice none 0 0,Value.int .i64 0,Value.string ⟨#[]⟩,Value.int .i64 0,Value.string ⟨#[]⟩,Value.int .i64 0,Value.int .i64 0,Value.string ⟨#[]⟩,Value.int .i64 0,Value.slice none 0 0,Value.slice none 0 0,Value.int .i64 0,Value.int .i64 0] 50 rfl rfl rfl rfl HSZ.out HOL.out HO.out ?_)
  generalize w2.alloc (Obj.cells C 50)=w3 at *
  go_wp2_with fail
  refine (rwhole_false b ra rc L v jj g w3 H3.out).mono ?_
  rintro e4 w4 ⟨rfl,h4,m4⟩
  have A4:=Hxq (m4.at A3.out (by simp));have B4:=Hxq (m4.at B3.out (by simp));have H4:=Lib.hid h4;have M4:=Hxq (M3.out.trans m4 (by simp))
  clear h4 m4 A3 B3 H3 M3
  go_upto_region 4 with fail
  have Q7:=Hxq (show w4.cell? ⟨b,7,none⟩=some (.int .i64 (g.1:Nat)) from cell_at H4.out.at_ 7);have Q8:=Hxq (show w4.cell? ⟨b,8,none⟩=some (.int .i64 (g.2.1:Nat)) from cell_at H4.out.at_ 8);have Q9:=Hxq (show w4.cell? ⟨b,9,none⟩=some (.int .i64 (g.2.2:Nat)) from cell_at H4.out.at_ 9)
  refine wp_region_held_drew (S:=(fun w':World=>Mod [w.heap.size,w.heap.size+1] w4 w')) (by kernel_rfl) (by (try dsimp only);exact (Mod.refl [w.heap.size,w.heap.size+1] w4).drew) (fun hHeld=>?_)
  refine wpAnyH_take (i:=0) (oi:=?_) (v:=.agg #[Value.int .i64 0,Value.string ⟨#[]⟩,Value.slice none 0 0,Value.int .i64 0,Value.int .i64 0,Value.string ⟨#[]⟩,Value.int .i64 0,Value.int .i64 0,Value.string ⟨#[]⟩,Value.int .i64 0,Value.slice none 0 0,Value.int .i64 0,Value.string ⟨#[]⟩,Value.int .i64 0,Value.int .i64 0,Value.string ⟨#[]⟩,Value.int .i64 0,Value.slice none 0 0,Value.int .i64 0,Value.string ⟨#[]⟩,Value.int .i64 0,Value.string ⟨#[]⟩,Value.int .i64 0,Value.int .i64 0,Value.string ⟨#[]⟩,Value.int .i64 0,Value.slice none 0 0,Value.slice none 0 0,Value.int .i64 0,Value.int .i64 0]) ?_ ?_ ?_ ?_ ?_ ?_ (by assumption) ?_
  rotate_left 1
  ·(simp only [Gq1,Gq2,Gq3])<;>rfl
  ·kernel_rfl
  ·kernel_rfl
  ·kernel_rfl
  rotate_left 1
  ·exact yieldsIf_built (by rfl) 50 rfl _ build0_Literal
  rotate_left 1
  ·exact fun _ _ _ h=>h
  try simp only [Act.put,Lq1,Lq2,Lq3]
  refine Tkq 1 (v:=?_) (by assumption) ?_ ?_ ?_
  rotate_left 1
  ·refine .inl ⟨by rfl,?_⟩;intro w hSw;have c7:=hSw.cell Q7.out (by simp;omega);have c8:=hSw.cell Q8.out (by simp;omega);have c9:=hSw.cell Q9.out (by simp;omega);clear hSw;go_simp
   all_goals with_reducible rfl
  ·exact fun _ _ _ h=>h
  try simp only [Act.put,Lq1,Lq2,Lq3]
  refine Tkq 2 (v:=?_) (by assumption) ?_ ?_ ?_
  rotate_left 1
  ·refine .inl ⟨by rfl,?_⟩;intro w hSw;have c7:=hSw.cell Q7.out (by simp;omega);have c8:=hSw.cell Q8.out (by simp;omega);have c9:=hSw.cell Q9.out (by simp;omega);clear hSw;go_simp
   all_goals with_reducible rfl
  ·exact fun _ _ _ h=>h
  try simp only [Act.put,Lq1,Lq2,Lq3]
  refine Tkq 3 (v:=?_) (by assumption) ?_ ?_ ?_
  rotate_left 1
  ·refine .inl ⟨by rfl,?_⟩;intro w hSw;have c7:=hSw.cell Q7.out (by simp;omega);have c8:=hSw.cell Q8.out (by simp;omega);have c9:=hSw.cell Q9.out (by simp;omega);clear hSw;go_simp
   all_goals with_reducible rfl
  ·exact fun _ _ _ h=>h
  try simp only [Act.put,Lq1,Lq2,Lq3]
  refine Tkq 4 (v:=?_) (by assumption) ?_ ?_ ?_
  rotate_left 1
  ·refine .inl ⟨by rfl,?_⟩;intro w hSw;have c7:=hSw.cell Q7.out (by simp;omega);have c8:=hSw.cell Q8.out (by simp;omega);have c9:=hSw.cell Q9.out (by simp;omega);clear hSw;go_simp
   all_goals with_reducible rfl
  ·exact fun _ _ _ h=>h
  try simp only [Act.put,Lq1,Lq2,Lq3]
  have mR:=Mod.setRow w4.drew w.heap.size #[Value.int .i64 0,Value.string ⟨#[]⟩,Value.slice none 0 0,Value.int .i64 0,Value.int .i64 0,Value.string ⟨#[]⟩,Value.int .i64 0,Value.int .i64 0,Value.string ⟨#[]⟩,Value.int .i64 0,Value.slice none 0 0,Value.int .i64 0,Value.string ⟨#[]⟩,Value.int .i64 0,Value.int .i64 0,Value.string ⟨#[]⟩,Value.int .i64 0,Value.slice none 0 0,Value.int .i64 0,Value.string ⟨#[]⟩,Value.int .i64 0,Value.string ⟨#[]⟩,Value.int .i64 0,Value.int .i64 0,Value.string ⟨#[]⟩,Value.int .i64 0,Value.slice none 0 0,Value.slice none 0 0,Value.int .i64 0,Value.int .i64 0]
  have mR2:=Mod.setRow (w4.drew.setRow w.heap.size #[Value.int .i64 0,Value.string ⟨#[]⟩,Value.slice none 0 0,Value.int .i64 0,Value.int .i64 0,Value.string ⟨#[]⟩,Value.int .i64 0,Value.int .i64 0,Value.string ⟨#[]⟩,Value.int .i64 0,Value.slice none 0 0,Value.int .i64 0,Value.string ⟨#[]⟩,Value.int .i64 0,Value.int .i64 0,Value.string ⟨#[]⟩,Value.int .i64 0,Value.slice none 0 0,Value.int .i64 0,Value.string ⟨#[]⟩,Value.int .i64 0,Value.string ⟨#[]⟩,Value.int .i64 0,Value.int .i64 0,Value.string ⟨#[]⟩,Value.int .i64 0,Value.slice none 0 0,Value.slice none 0 0,Value.int .i64 0,Value.int .i64 0]) (w.heap.size+1) #[.int .i64 (g.1:Nat),.int .i64 (g.2.1:Nat),.int .i64 (g.2.2:Nat)]
  have N5:=Hxq ((Mod.refl [w.heap.size,w.heap.size+1] w4).drew.trans (mR.mono (T:=[w.heap.size,w.heap.size+1]) (by simp)) (by simp))
  have N6:=Hxq (N5.out.trans (mR2.mono (T:=[w.heap.size,w.heap.size+1]) (by simp)) (by simp))
  refine wpAnyH_ready (rs:=[5]) (by kernel_rfl) (by simp) ?_
  refine AllReadyH.cons (o:=?_) ?_ ?_ AllReadyH.nil
  rotate_left 1
  ·(simp only [Gq1,Gq2,Gq3])<;>rfl
  intro K hK
  refine (if_pos (by rfl)).mpr ?_
  refine wp_store_row 50 _ _ rfl w.heap.size #[Value.int .i64 0,Value.string ⟨#[]⟩,Value.slice none 0 0,Value.int .i64 0,Value.int .i64 0,Value.string ⟨#[]⟩,Value.int .i64 0,Value.int .i64 0,Value.string ⟨#[]⟩,Value.int .i64 0,Value.slice none 0 0,Value.int .i64 0,Value.string ⟨#[]⟩,Value.int .i64 0,Value.int .i64 0,Value.string ⟨#[]⟩,Value.int .i64 0,Value.slice none 0 0,Value.int .i64 0,Value.string ⟨#[]⟩,Value.int .i64 0,Value.string ⟨#[]⟩,Value.int .i64 0,Value.int .i64 0,Value.string ⟨#[]⟩,Value.int .i64 0,Value.slice none 0 0,Value.slice none 0 0,Value.int .i64 0,Value.int .i64 0] rfl rfl 50 _ (drew_cells A4.out) sizeL rfl (by rw [<-Array.all_toList];rfl) ?_
  refine hK.out _ _ (by (try dsimp only);exact N5.out) (fun hHeld=>?_)
  clear hK K
  try simp only [Act.put,Lq1,Lq2,Lq3]
  refine wpAnyH_ready (rs:=[6]) (by kernel_rfl) (by simp) ?_
  refine AllReadyH.cons (o:=?_) ?_ ?_ AllReadyH.nil
  rotate_left 1
  ·(simp only [Gq1,Gq2,Gq3])<;>rfl
  intro K hK
  refine (if_pos (by rfl)).mpr ?_
  refine wp_store_row 31 _ _ rfl (w.heap.size+1) #[.int .i64 (g.1:Nat),.int .i64 (g.2.1:Nat),.int .i64 (g.2.2:Nat)] rfl rfl 31 _ ((setRow_other w4.drew w.heap.size (w.heap.size+1) #[Value.int .i64 0,Value.string ⟨#[]⟩,Value.slice none 0 0,Value.int .i64 0,Value.int .i64 0,Value.string ⟨#[]⟩,Value.int .i64 0,Value.int .i64 0,Value.string ⟨#[]⟩,Value.int .i64 0,Value.slice none 0 0,Value.int .i64 0,Value.string ⟨#[]⟩,Value.int .i64 0,Value.int .i64 0,Value.string ⟨#[]⟩,Value.int .i64 0,Value.slice none 0 0,Value.int .i64 0,Value.string ⟨#[]⟩,Value.int .i64 0,Value.string ⟨#[]⟩,Value.int .i64 0,Value.int .i64 0,Value.string ⟨#[]⟩,Value.int .i64 0,Value.slice none 0 0,Value.slice none 0 0,Value.int .i64 0,Value.int .i64 0] (by omega)).trans (drew_cells B4.out)) sizeFlt rfl (by rw [<-Array.all_toList];rfl) ?_
  refine hK.out _ _ (by (try dsimp only);exact N6.out) (fun hHeld=>?_)
  clear hK K
  try simp only [Act.put,Lq1,Lq2,Lq3]
  refine wpAnyH_done (by kernel_rfl) ?_ _
  have a6:=setRow_heap w4.drew w.heap.size _ #[Value.int .i64 0,Value.string ⟨#[]⟩,Value.slice none 0 0,Value.int .i64 0,Value.int .i64 0,Value.string ⟨#[]⟩,Value.int .i64 0,Value.int .i64 0,Value.string ⟨#[]⟩,Value.int .i64 0,Value.slice none 0 0,Value.int .i64 0,Value.string ⟨#[]⟩,Value.int .i64 0,Value.int .i64 0,Value.string ⟨#[]⟩,Value.int .i64 0,Value.slice none 0 0,Value.int .i64 0,Value.string ⟨#[]⟩,Value.int .i64 0,Value.string ⟨#[]⟩,Value.int .i64 0,Value.int .i64 0,Value.string ⟨#[]⟩,Value.int .i64 0,Value.slice none 0 0,Value.slice none 0 0,Value.int .i64 0,Value.int .i64 0] 50 _ (drew_cells A4.out)
  have a7:=mR2.at a6 (by simp)
  have b7:=setRow_heap (w4.drew.setRow w.heap.size #[Value.int .i64 0,Value.string ⟨#[]⟩,Value.slice none 0 0,Value.int .i64 0,Value.int .i64 0,Value.string ⟨#[]⟩,Value.int .i64 0,Value.int .i64 0,Value.string ⟨#[]⟩,Value.int .i64 0,Value.slice none 0 0,Value.int .i64 0,Value.string ⟨#[]⟩,Value.int .i64 0,Value.int .i64 0,Value.string ⟨#[]⟩,Value.int .i64 0,Value.slice none 0 0,Value.int .i64 0,Value.string ⟨#[]⟩,Value.int .i64 0,Value.string ⟨#[]⟩,Value.int .i64 0,Value.int .i64 0,Value.string ⟨#[]⟩,Value.int .i64 0,Value.slice none 0 0,Value.slice none 0 0,Value.int .i64 0,Value.int .i64 0]) (w.heap.size+1) _ #[.int .i64 (g.1:Nat),.int .i64 (g.2.1:Nat),.int .i64 (g.2.2:Nat)] 31 _ ((setRow_other w4.drew w.heap.size (w.heap.size+1) #[Value.int .i64 0,Value.string ⟨#[]⟩,Value.slice none 0 0,Value.int .i64 0,Value.int .i64 0,Value.string ⟨#[]⟩,Value.int .i64 0,Value.int .i64 0,Value.string ⟨#[]⟩,Value.int .i64 0,Value.slice none 0 0,Value.int .i64 0,Value.string ⟨#[]⟩,Value.int .i64 0,Value.int .i64 0,Value.string ⟨#[]⟩,Value.int .i64 0,Value.slice none 0 0,Value.int .i64 0,Value.string ⟨#[]⟩,Value.int .i64 0,Value.string ⟨#[]⟩,Value.int .i64 0,Value.int .i64 0,Value.string ⟨#[]⟩,Value.int .i64 0,Value.slice none 0 0,Value.slice none 0 0,Value.int .i64 0,Value.int .i64 0] (by omega)).trans (drew_cells B4.out))
  go_wp2_with fail
  refine bodyPost_ret (res_pair rfl _ _ w.heap.size (w.heap.size+1) #[Value.int .i64 0,Value.string ⟨#[]⟩,Value.slice none 0 0,Value.int .i64 0,Value.int .i64 0,Value.string ⟨#[]⟩,Value.int .i64 0,Value.int .i64 0,Value.string ⟨#[]⟩,Value.int .i64 0,Value.slice none 0 0,Value.int .i64 0,Value.string ⟨#[]⟩,Value.int .i64 0,Value.int .i64 0,Value.string ⟨#[]⟩,Value.int .i64 0,Value.slice none 0 0,Value.int .i64 0,Value.string ⟨#[]⟩,Value.int .i64 0,Value.string ⟨#[]⟩,Value.int .i64 0,Value.int .i64 0,Value.string ⟨#[]⟩,Value.int .i64 0,Value.slice none 0 0,Value.slice none 0 0,Value.int .i64 0,Value.int .i64 0] #[.int .i64 (g.1:Nat),.int .i64 (g.2.1:Nat),.int .i64 (g.2.2:Nat)] rfl rfl (run_loadVar_row (P:=Tryz.prog) _ _ _ _ _ _ _ a7 Tryz.underlying50 rfl sizeL) (run_loadVar_row (P:=Tryz.prog) _ _ _ _ _ _ _ b7 Tryz.underlying31 rfl sizeFlt)) rfl ⟨rfl,(M4.out.drew.trans mR (fun t ht=>?_)).trans mR2 (fun t ht=>?_)⟩
  ·rw [Msq] at ht;exact .inr (by omega)
  ·rw [Msq] at ht;exact .inr (by omega)
 | ok a i =>
  have hi:=(HAd.out a i (Nat.zero_le _) rfl).2
  have HQ:Hid (q=if i<v.ws.length\/v.last.1≠42 then .err (v.give 40 i) else .ok a i):=Lib.hid HWh.out
  clear HWh HAd
  go_wp2_with fail
  refine HC.out.mono ?_
  rintro e2 w2 ⟨x2,rfl,hval,h2,m2⟩
  obtain ⟨C,rfl⟩:∃ C,x2=.agg C:=by obtain ⟨u,rfl,-⟩:=hval;exact ⟨_,rfl⟩
  obtain ⟨hC,hO⟩:=valL_cells hval
  have mD:=(Mod.refl [] w2).alloc (Obj.cells C 50)
  have eD:=heap_alloc_new w2 (Obj.cells C 50)
  have A3:=Hxq (mD.at (m2.at A1.out hnb) (by have:=lt_of_block (m2.at A1.out hnb);simp));have B3:=Hxq (mD.at (m2.at B1.out hnb1) (by have:=lt_of_block (m2.at B1.out hnb1);simp));have H3:=Hxq (h2.past mD (by simp));have M3:=Hxq ((M1.out.trans (S:=[]) m2 (fun t ht=>by rw [Msq] at ht;exact .inr (by omega))).trans mD (by simp));have D3:=Lib.hid eD
  have V3:=Hxq (valL_keep (m:=w1.heap.size) hval mD (by simp) (Nat.le_refl _))
  have hz2:=m2.size
  have HSZ:=Hxq (size_of sizeL hC);have HO:=Lib.hid hO;have HOL:=Hxq (show (#[Value.int .i64 0,Value.string ⟨#[]⟩,Value.slice none 0 0,Value.int .i64 0,Value.int .i64 0,Value.string ⟨#[]⟩,Value.int .i64 0,Value.int .i64 0,Value.string ⟨#[]⟩,Value.int .i64 0,Value.slice none 0 0,Value.int .i64 0,Value.string ⟨#[]⟩,Value.int .i64 0,Value.int .i64 0,Value.string ⟨#[]⟩,Value.int .i64 0,Value.slice none 0 0,Value.int .i64 0,Value.string ⟨#[]⟩,Value.int .i64 0,Value.string ⟨#[]⟩,Value.int .i64 0,Value.int .i64 0,Value.string ⟨#[]⟩,Value.int .i64 0,Value.slice none 0 0,Value.slice none 0 0,Value.int .i64 0,Value.int .i64 0]:Array Value).size=C.size by rw [hC];rfl)
  clear h2 m2 mD hval hC hO eD
  go_upto_region 3 with (refine wpList_store_new rfl 50 _ _ rfl w2 w2.heap.size C #[Value.int .i64 0,Value.string ⟨#[]⟩,Value.slice none 0 0,Value.int .i64 0,Value.int .i64 0,Value.string ⟨#[]⟩,Value.int .i64 0,Value.int .i64 0,Value.string ⟨#[]⟩,Value.int .i64 0,Value.slice none 0 0,Value.int .i64 0,Value.string ⟨#[]⟩,Value.int .i64 0,Value.int .i64 0,Value.string ⟨#[]⟩,Value.int .i64 0,Value.slice none 0 0,Value.int .i64 0,Value.string ⟨#[]⟩,Value.int .i64 0,Value.string ⟨#[]⟩,Value.int .i64 0,Value.int .i64 0,Value.string ⟨#[]⟩,Value.int .i64 0,Value.slice none 0 0,Value.slice none 0 0,Value.int .i64 0,Value.int .i64 0] 50 rfl rfl rfl rfl HSZ.out HOL.out HO.out ?_)
  generalize w2.alloc (Obj.cells C 50)=w3 at *
  go_wp2_with fail
  refine (rwhole_any b ra rc L v i w3 H3.out hv (by omega) h42).mono ?_
  rintro e4 w4 ⟨m4,h4⟩
  by_cases hc:i<v.ws.length\/v.last.1≠42
  ·rw [if_pos hc] at h4
   obtain ⟨rfl,h4⟩:=h4
   obtain ⟨g,hg⟩:∃ g,v.give 40 i=g:=⟨_,rfl⟩
   have hq:q=.err g:=by rw [HQ.out,if_pos hc,hg]
   subst hq
   rw [hg] at h4
   have A4:=Hxq (m4.at A3.out hnb);have B4:=Hxq (m4.at B3.out hnb1);have H4:=Lib.hid h4;have M4:=Hxq (M3.out.trans (S:=[]) m4 (fun t ht=>by rw [Msq] at ht;exact .inr (by omega)))
   clear h4 m4 A3 B3 H3 M3 hg HQ hc
   go_upto_region 4 with fail
   have Q7:=Hxq (show w4.cell? ⟨b,7,none⟩=some (.int .i64 (g.1:Nat)) from cell_at H4.out.at_ 7);have Q8:=Hxq (show w4.cell? ⟨b,8,none⟩=some (.int .i64 (g.2.1:Nat)) from cell_at H4.out.at_ 8);have Q9:=Hxq (show w4.cell? ⟨b,9,none⟩=some (.int .i64 (g.2.2:Nat)) from cell_at H4.out.at_ 9)
   refine wp_region_held_drew (S:=(fun w':World=>Mod [w.heap.size,w.heap.size+1] w4 w')) (by kernel_rfl) (by (try dsimp only);exact (Mod.refl [w.heap.size,w.heap.size+1] w4).drew) (fun hHeld=>?_)
   refine wpAnyH_take (i:=0) (oi:=?_) (v:=.agg #[Value.int .i64 0,Value.string ⟨#[]⟩,Value.slice none 0 0,Value.int .i64 0,Value.int .i64 0,Value.string ⟨#[]⟩,Value.int .i64 0,Value.int .i64 0,Value.string ⟨#[]⟩,Value.int .i64 0,Value.slice none 0 0,Value.int .i64 0,Value.string ⟨#[]⟩,Value.int .i64 0,Value.int .i64 0,Value.string ⟨#[]⟩,Value.int .i64 0,Value.slice none 0 0,Value.int .i64 0,Value.string ⟨#[]⟩,Value.int .i64 0,Value.string ⟨#[]⟩,Value.int .i64 0,Value.int .i64 0,Value.string ⟨#[]⟩,Value.int .i64 0,Value.slice none 0 0,Value.slice none 0 0,Value.int .i64 0,Value.int .i64 0]) ?_ ?_ ?_ ?_ ?_ ?_ (by assumption) ?_
   rotate_left 1
   ·(simp only [Gq1,Gq2,Gq3])<;>rfl
   ·kernel_rfl
   ·kernel_rfl
   ·kernel_rfl
   rotate_left 1
   ·exact yieldsIf_built (by rfl) 50 rfl _ build0_Literal
   rotate_left 1
   ·exact fun _ _ _ h=>h
   try simp only [Act.put,Lq1,Lq2,Lq3]
   refine Tkq 1 (v:=?_) (by assumption) ?_ ?_ ?_
   rotate_left 1
   ·refine .inl ⟨by rfl,?_⟩;intro w hSw;have c7:=hSw.cell Q7.out (by simp;omega);have c8:=hSw.cell Q8.out (by simp;omega);have c9:=hSw.cell Q9.out (by simp;omega);clear hSw;go_simp
    all_goals with_reducible rfl
   ·exact fun _ _ _ h=>h
   try simp only [Act.put,Lq1,Lq2,Lq3]
   refine Tkq 2 (v:=?_) (by assumption) ?_ ?_ ?_
   rotate_left 1
   ·refine .inl ⟨by rfl,?_⟩;intro w hSw;have c7:=hSw.cell Q7.out (by simp;omega);have c8:=hSw.cell Q8.out (by simp;omega);have c9:=hSw.cell Q9.out (by simp;omega);clear hSw;go_simp
    all_goals with_reducible rfl
   ·exact fun _ _ _ h=>h
   try simp only [Act.put,Lq1,Lq2,Lq3]
   refine Tkq 3 (v:=?_) (by assumption) ?_ ?_ ?_
   rotate_left 1
   ·refine .inl ⟨by rfl,?_⟩;intro w hSw;have c7:=hSw.cell Q7.out (by simp;omega);have c8:=hSw.cell Q8.out (by simp;omega);have c9:=hSw.cell Q9.out (by simp;omega);clear hSw;go_simp
    all_goals with_reducible rfl
   ·exact fun _ _ _ h=>h
   try simp only [Act.put,Lq1,Lq2,Lq3]
   refine Tkq 4 (v:=?_) (by assumption) ?_ ?_ ?_
   rotate_left 1
   ·refine .inl ⟨by rfl,?_⟩;intro w hSw;have c7:=hSw.cell Q7.out (by simp;omega);have c8:=hSw.cell Q8.out (by simp;omega);have c9:=hSw.cell Q9.out (by simp;omega);clear hSw;go_simp
    all_goals with_reducible rfl
   ·exact fun _ _ _ h=>h
   try simp only [Act.put,Lq1,Lq2,Lq3]
   have mR:=Mod.setRow w4.drew w.heap.size #[Value.int .i64 0,Value.string ⟨#[]⟩,Value.slice none 0 0,Value.int .i64 0,Value.int .i64 0,Value.string ⟨#[]⟩,Value.int .i64 0,Value.int .i64 0,Value.string ⟨#[]⟩,Value.int .i64 0,Value.slice none 0 0,Value.int .i64 0,Value.string ⟨#[]⟩,Value.int .i64 0,Value.int .i64 0,Value.string ⟨#[]⟩,Value.int .i64 0,Value.slice none 0 0,Value.int .i64 0,Value.string ⟨#[]⟩,Value.int .i64 0,Value.string ⟨#[]⟩,Value.int .i64 0,Value.int .i64 0,Value.string ⟨#[]⟩,Value.int .i64 0,Value.slice none 0 0,Value.slice none 0 0,Value.int .i64 0,Value.int .i64 0]
   have mR2:=Mod.setRow (w4.drew.setRow w.heap.size #[Value.int .i64 0,Value.string ⟨#[]⟩,Value.slice none 0 0,Value.int .i64 0,Value.int .i64 0,Value.string ⟨#[]⟩,Value.int .i64 0,Value.int .i64 0,Value.string ⟨#[]⟩,Value.int .i64 0,Value.slice none 0 0,Value.int .i64 0,Value.string ⟨#[]⟩,Value.int .i64 0,Value.int .i64 0,Value.string ⟨#[]⟩,Value.int .i64 0,Value.slice none 0 0,Value.int .i64 0,Value.string ⟨#[]⟩,Value.int .i64 0,Value.string ⟨#[]⟩,Value.int .i64 0,Value.int .i64 0,Value.string ⟨#[]⟩,Value.int .i64 0,Value.slice none 0 0,Value.slice none 0 0,Value.int .i64 0,Value.int .i64 0]) (w.heap.size+1) #[.int .i64 (g.1:Nat),.int .i64 (g.2.1:Nat),.int .i64 (g.2.2:Nat)]
   have N5:=Hxq ((Mod.refl [w.heap.size,w.heap.size+1] w4).drew.trans (mR.mono (T:=[w.heap.size,w.heap.size+1]) (by simp)) (by simp))
   have N6:=Hxq (N5.out.trans (mR2.mono (T:=[w.heap.size,w.heap.size+1]) (by simp)) (by simp))
   refine wpAnyH_ready (rs:=[5]) (by kernel_rfl) (by simp) ?_
   refine AllReadyH.cons (o:=?_) ?_ ?_ AllReadyH.nil
   rotate_left 1
   ·(simp only [Gq1,Gq2,Gq3])<;>rfl
   intro K hK
   refine (if_pos (by rfl)).mpr ?_
   refine wp_store_row 50 _ _ rfl w.heap.size #[Value.int .i64 0,Value.string ⟨#[]⟩,Value.slice none 0 0,Value.int .i64 0,Value.int .i64 0,Value.string ⟨#[]⟩,Value.int .i64 0,Value.int .i64 0,Value.string ⟨#[]⟩,Value.int .i64 0,Value.slice none 0 0,Value.int .i64 0,Value.string ⟨#[]⟩,Value.int .i64 0,Value.int .i64 0,Value.string ⟨#[]⟩,Value.int .i64 0,Value.slice none 0 0,Value.int .i64 0,Value.string ⟨#[]⟩,Value.int .i64 0,Value.string ⟨#[]⟩,Value.int .i64 0,Value.int .i64 0,Value.string ⟨#[]⟩,Value.int .i64 0,Value.slice none 0 0,Value.slice none 0 0,Value.int .i64 0,Value.int .i64 0] rfl rfl 50 _ (drew_cells A4.out) sizeL rfl (by rw [<-Array.all_toList];rfl) ?_
   refine hK.out _ _ (by (try dsimp only);exact N5.out) (fun hHeld=>?_)
   clear hK K
   try simp only [Act.put,Lq1,Lq2,Lq3]
   refine wpAnyH_ready (rs:=[6]) (by kernel_rfl) (by simp) ?_
   refine AllReadyH.cons (o:=?_) ?_ ?_ AllReadyH.nil
   rotate_left 1
   ·(simp only [Gq1,Gq2,Gq3])<;>rfl
   intro K hK
   refine (if_pos (by rfl)).mpr ?_
   refine wp_store_row 31 _ _ rfl (w.heap.size+1) #[.int .i64 (g.1:Nat),.int .i64 (g.2.1:Nat),.int .i64 (g.2.2:Nat)] rfl rfl 31 _ ((setRow_other w4.drew w.heap.size (w.heap.size+1) #[Value.int .i64 0,Value.string ⟨#[]⟩,Value.slice none 0 0,Value.int .i64 0,Value.int .i64 0,Value.string ⟨#[]⟩,Value.int .i64 0,Value.int .i64 0,Value.string ⟨#[]⟩,Value.int .i64 0,Value.slice none 0 0,Value.int .i64 0,Value.string ⟨#[]⟩,Value.int .i64 0,Value.int .i64 0,Value.string ⟨#[]⟩,Value.int .i64 0,Value.slice none 0 0,Value.int .i64 0,Value.string ⟨#[]⟩,Value.int .i64 0,Value.string ⟨#[]⟩,Value.int .i64 0,Value.int .i64 0,Value.string ⟨#[]⟩,Value.int .i64 0,Value.slice none 0 0,Value.slice none 0 0,Value.int .i64 0,Value.int .i64 0] (by omega)).trans (drew_cells B4.out)) sizeFlt rfl (by rw [<-Array.all_toList];rfl) ?_
   refine hK.out _ _ (by (try dsimp only);exact N6.out) (fun hHeld=>?_)
   clear hK K
   try simp only [Act.put,Lq1,Lq2,Lq3]
   refine wpAnyH_done (by kernel_rfl) ?_ _
   have a6:=setRow_heap w4.drew w.heap.size _ #[Value.int .i64 0,Value.string ⟨#[]⟩,Value.slice none 0 0,Value.int .i64 0,Value.int .i64 0,Value.string ⟨#[]⟩,Value.int .i64 0,Value.int .i64 0,Value.string ⟨#[]⟩,Value.int .i64 0,Value.slice none 0 0,Value.int .i64 0,Value.string ⟨#[]⟩,Value.int .i64 0,Value.int .i64 0,Value.string ⟨#[]⟩,Value.int .i64 0,Value.slice none 0 0,Value.int .i64 0,Value.string ⟨#[]⟩,Value.int .i64 0,Value.string ⟨#[]⟩,Value.int .i64 0,Value.int .i64 0,Value.string ⟨#[]⟩,Value.int .i64 0,Value.slice none 0 0,Value.slice none 0 0,Value.int .i64 0,Value.int .i64 0] 50 _ (drew_cells A4.out)
   have a7:=mR2.at a6 (by simp)
   have b7:=setRow_heap (w4.drew.setRow w.heap.size #[Value.int .i64 0,Value.string ⟨#[]⟩,Value.slice none 0 0,Value.int .i64 0,Value.int .i64 0,Value.string ⟨#[]⟩,Value.int .i64 0,Value.int .i64 0,Value.string ⟨#[]⟩,Value.int .i64 0,Value.slice none 0 0,Value.int .i64 0,Value.string ⟨#[]⟩,Value.int .i64 0,Value.int .i64 0,Value.string ⟨#[]⟩,Value.int .i64 0,Value.slice none 0 0,Value.int .i64 0,Value.string ⟨#[]⟩,Value.int .i64 0,Value.string ⟨#[]⟩,Value.int .i64 0,Value.int .i64 0,Value.string ⟨#[]⟩,Value.int .i64 0,Value.slice none 0 0,Value.slice none 0 0,Value.int .i64 0,Value.int .i64 0]) (w.heap.size+1) _ #[.int .i64 (g.1:Nat),.int .i64 (g.2.1:Nat),.int .i64 (g.2.2:Nat)] 31 _ ((setRow_other w4.drew w.heap.size (w.heap.size+1) #[Value.int .i64 0,Value.string ⟨#[]⟩,Value.slice none 0 0,Value.int .i64 0,Value.int .i64 0,Value.string ⟨#[]⟩,Value.int .i64 0,Value.int .i64 0,Value.string ⟨#[]⟩,Value.int .i64 0,Value.slice none 0 0,Value.int .i64 0,Value.string ⟨#[]⟩,Value.int .i64 0,Value.int .i64 0,Value.string ⟨#[]⟩,Value.int .i64 0,Value.slice none 0 0,Value.int .i64 0,Value.string ⟨#[]⟩,Value.int .i64 0,Value.string ⟨#[]⟩,Value.int .i64 0,Value.int .i64 0,Value.string ⟨#[]⟩,Value.int .i64 0,Value.slice none 0 0,Value.slice none 0 0,Value.int .i64 0,Value.int .i64 0] (by omega)).trans (drew_cells B4.out))
   go_wp2_with fail
   refine bodyPost_ret (res_pair rfl _ _ w.heap.size (w.heap.size+1) #[Value.int .i64 0,Value.string ⟨#[]⟩,Value.slice none 0 0,Value.int .i64 0,Value.int .i64 0,Value.string ⟨#[]⟩,Value.int .i64 0,Value.int .i64 0,Value.string ⟨#[]⟩,Value.int .i64 0,Value.slice none 0 0,Value.int .i64 0,Value.string ⟨#[]⟩,Value.int .i64 0,Value.int .i64 0,Value.string ⟨#[]⟩,Value.int .i64 0,Value.slice none 0 0,Value.int .i64 0,Value.string ⟨#[]⟩,Value.int .i64 0,Value.string ⟨#[]⟩,Value.int .i64 0,Value.int .i64 0,Value.string ⟨#[]⟩,Value.int .i64 0,Value.slice none 0 0,Value.slice none 0 0,Value.int .i64 0,Value.int .i64 0] #[.int .i64 (g.1:Nat),.int .i64 (g.2.1:Nat),.int .i64 (g.2.2:Nat)] rfl rfl (run_loadVar_row (P:=Tryz.prog) _ _ _ _ _ _ _ a7 Tryz.underlying50 rfl sizeL) (run_loadVar_row (P:=Tryz.prog) _ _ _ _ _ _ _ b7 Tryz.underlying31 rfl sizeFlt)) rfl ⟨rfl,(M4.out.drew.trans mR (fun t ht=>?_)).trans mR2 (fun t ht=>?_)⟩
   ·rw [Msq] at ht;exact .inr (by omega)
   ·rw [Msq] at ht;exact .inr (by omega)
  ·rw [if_neg hc] at h4
   obtain ⟨rfl,h4⟩:=h4
   have hq:q=.ok a i:=by rw [HQ.out,if_neg hc]
   subst hq
   have hDb:w2.heap.size∉[b]:=by have:=H3.out.lt;have hb2:=H1.out.lt;simp;omega
   have A4:=Hxq (m4.at A3.out hnb);have B4:=Hxq (m4.at B3.out hnb1);have M4:=Hxq (M3.out.trans (S:=[]) m4 (fun t ht=>by rw [Msq] at ht;exact .inr (by omega)));have D4:=Hxq (m4.at D3.out hDb)
   have V4:=Hxq (valL_keep (m:=w.heap.size+2) V3.out m4 (fun s hs=>by have:=H1.out.lt;rw [Msq] at hs;omega) (by omega))
   clear h4 m4 A3 B3 H3 M3 D3 HQ hc
   go_wp2_with (first | refine wpList_load_row rfl 50 _ rfl w2.heap.size C 50 (0,0) rfl D4.out _ Tryz.underlying50 rfl HSZ.out ?_ | refine wpList_store_at rfl 50 _ _ rfl w.heap.size C _ 50 rfl rfl A4.out HSZ.out HOL.out HO.out ?_ | refine wpList_store_at rfl 31 _ _ rfl (w.heap.size+1) #[.int .i64 0,.int .i64 0,.int .i64 0] _ 31 rfl rfl ((setRow_other w4 w.heap.size (w.heap.size+1) C (by omega)).trans B4.out) sizeFlt rfl rfl ?_)
   have mR:=Mod.setRow w4 w.heap.size C
   have mR2:=Mod.setRow (w4.setRow w.heap.size C) (w.heap.size+1) #[.int .i64 0,.int .i64 0,.int .i64 0]
   have a6:=setRow_heap w4 w.heap.size _ C 50 _ A4.out
   have a7:=mR2.at a6 (by simp)
   have b7:=setRow_heap (w4.setRow w.heap.size C) (w.heap.size+1) _ #[.int .i64 0,.int .i64 0,.int .i64 0] 31 _ ((setRow_other w4 w.heap.size (w.heap.size+1) C (by omega)).trans B4.out)
   refine bodyPost_ret (res_pair rfl _ _ w.heap.size (w.heap.size+1) C #[.int .i64 0,.int .i64 0,.int .i64 0] rfl rfl (run_loadVar_row (P:=Tryz.prog) _ _ _ _ _ _ _ a7 Tryz.underlying50 rfl HSZ.out) (run_loadVar_row (P:=Tryz.prog) _ _ _ _ _ _ _ b7 Tryz.underlying31 rfl sizeFlt)) rfl ⟨C,rfl,valL_keep (valL_keep (m:=w.heap.size+2) V4.out mR (fun s hs=>by rw [Msq] at hs;omega) (Nat.le_refl _)) mR2 (fun s hs=>by rw [Msq] at hs;omega) (by omega),(M4.out.trans mR (fun t ht=>?_)).trans mR2 (fun t ht=>?_)⟩
   ·rw [Msq] at ht;exact .inr (by omega)
   ·rw [Msq] at ht;exact .inr (by omega)
end Go.Proofs.YtppigckioalhhaaGreatDoorR
