/- THE TEXTS MERGED: VtPlay5 VtPlay6. -/
import Derived.Test.YtdablillhbfgkaaDoorKT12
namespace Go.Proofs.YtdablillhbfgkaaDoor
open Go.RowKit Go.Maps Go.Shelf
set_option linter.unusedVariables false
set_option linter.unusedSimpArgs false
set_option maxRecDepth 100000
set_option maxHeartbeats 8000000 in
theorem play5_0 (w0:World) (wb M:Nat) (cs:Array Value) (sv:Nat->SV) (hd:Value) (of:Nat) (n:Int) (v:Va.Val) (hv:VIn v) (hM:∀ k,k<2->(sv k).l.length<=M) (hM2:M<=4398046511102) (w:World) (hW:Wo w0 w wb cs sv hd of) :
  Calls Tryd.prog 8 #[.pointer (some ⟨wb,0,none⟩),.agg #[.bool false,.int .i64 5,.int .i64 n,.int .i64 v.k,.int .i64 v.n,.string (Lx.ofS v.s)]] w (PlayR w0 wb M):=by
 have mA:=(Mod.refl [] w).alloc (Obj.cells #[.bool false,.int .i64 5,.int .i64 n,.int .i64 v.k,.int .i64 v.n,.string (Lx.ofS v.s)] 38)
 have eA:=heap_alloc_new w (Obj.cells #[.bool false,.int .i64 5,.int .i64 n,.int .i64 v.k,.int .i64 v.n,.string (Lx.ofS v.s)] 38)
 obtain ⟨R,hR⟩:∃ R,R=PlayR w0 wb M:=⟨_,rfl⟩
 rw [<-hR]
 have HR:=Lib.hid hR;have HW:=Lib.hid hW
 have hnil:=seq2_nil
 clear hR hW
 go_enter Tryd.func8,Tryd.ntmps8
 go_upto_region 2 with fail
 generalize w.alloc (Obj.cells _ 38)=x0 at *
 generalize hb3:w.heap.size=b3 at *
 have W0:=Hxq (HW.out.past mA);have MA:=Lib.hid mA;have EA:=Lib.hid eA
 clear mA
 have d:=fun j=>cell_at eA j
 have d0:=d 0;have d1:=d 1;have d2:=d 2;have d3:=d 3;have d4:=d 4;have d5:=d 5
 simp only [List.getElem?_toArray,List.getElem?_cons_zero,List.getElem?_cons_succ] at d0 d1 d2 d3 d4 d5
 clear d eA
 have P:=Hxq (W0.out.pl 0 (by omega))
 have cP:x0.cell? ⟨wb,0,none⟩=some (.pointer (some ⟨(sv 0).p,0,none⟩)):=(cell_at P.out.blk 0).trans P.out.c0
 have cX:x0.cell? ⟨wb,2,none⟩=some (sv 0).x:=(cell_at P.out.blk 2).trans P.out.c2
 have cH:x0.cell? ⟨wb,4,none⟩=some hd:=(cell_at P.out.blk 4).trans W0.out.c4
 have cO:x0.cell? ⟨wb,5,none⟩=some (.int .i64 (of:Nat)):=(cell_at P.out.blk 5).trans W0.out.c5
 have hlM:=hM 0 (by omega)
 have hpp:(Value.pointer (some ⟨(sv 0).p,0,none⟩)).cells=#[Value.pointer (some ⟨(sv 0).p,0,none⟩)]:=rfl
 go_upto_region 20 with fail
 refine tl_region (fun wS=>Mod [] x0 wS) [] (by kernel_rfl) ?_
 have hHeld:Mod [] x0 x0.drew:=(Mod.refl [] x0).drew
 try simp only [Act.put,Lq1,Lq2,Lq3]
 generalize x0.drew=wd2 at *
 refine TlAny.take 0 (v:=?_) hHeld ?_ ?_ ?_
 rotate_left 1
 ·refine Or.inl ⟨by rfl,?_⟩
  intro wS hSw
  replace hSw:Mod [] x0 wS:=hSw
  clear hSw
  go_simp
  all_goals with_reducible rfl
 ·exact fun _ _ _ h=>h
 try simp only [Act.put,Lq1,Lq2,Lq3]
 refine TlAny.take 1 (v:=?_) hHeld ?_ ?_ ?_
 rotate_left 1
 ·refine Or.inl ⟨by rfl,?_⟩
  intro wS hSw
  replace hSw:Mod [] x0 wS:=hSw
  clear hSw
  go_simp
  all_goals with_reducible rfl
 ·exact fun _ _ _ h=>h
 try simp only [Act.put,Lq1,Lq2,Lq3]
 refine TlAny.take 3 (v:=?_) hHeld ?_ ?_ ?_
 rotate_left 1
 ·refine Or.inl ⟨by rfl,?_⟩
  intro wS hSw
  replace hSw:Mod [] x0 wS:=hSw
  clear hSw
  go_simp
  all_goals with_reducible rfl
 ·exact fun _ _ _ h=>h
 try simp only [Act.put,Lq1,Lq2,Lq3]
 refine TlAny.take 4 (v:=?_) hHeld ?_ ?_ ?_
 rotate_left 1
 ·refine Or.inl ⟨by rfl,?_⟩
  intro wS hSw
  replace hSw:Mod [] x0 wS:=hSw
  clear hSw
  go_simp
  all_goals with_reducible rfl
 ·exact fun _ _ _ h=>h
 try simp only [Act.put,Lq1,Lq2,Lq3]
 refine TlAny.take 5 (v:=?_) hHeld ?_ ?_ ?_
 rotate_left 1
 ·refine Or.inl ⟨by rfl,?_⟩
  intro wS hSw
  replace hSw:Mod [] x0 wS:=hSw
  have p:=hSw.cell d2 (by simp)
  clear hSw
  go_simp
  all_goals with_reducible rfl
 ·exact fun _ _ _ h=>h
 try simp only [Act.put,Lq1,Lq2,Lq3]
 refine TlAny.take 6 (v:=?_) hHeld ?_ ?_ ?_
 rotate_left 1
 ·refine Or.inl ⟨by rfl,?_⟩
  intro wS hSw
  replace hSw:Mod [] x0 wS:=hSw
  clear hSw
  go_simp
  all_goals with_reducible rfl
 ·exact fun _ _ _ h=>h
 try simp only [Act.put,Lq1,Lq2,Lq3]
 refine TlAny.take 7 (v:=?_) hHeld ?_ ?_ ?_
 rotate_left 1
 ·refine Or.inl ⟨by rfl,?_⟩
  intro wS hSw
  replace hSw:Mod [] x0 wS:=hSw
  have p0:=hSw.cell d3 (by simp);have p1:=hSw.cell d4 (by simp);have p2:=hSw.cell d5 (by simp)
  clear hSw
  go_simp
  all_goals with_reducible rfl
 ·exact fun _ _ _ h=>h
 try simp only [Act.put,Lq1,Lq2,Lq3]
 refine TlAny.one 2 ?_
 intro K hK
 go_simp
 refine Calls.mono (all_any (.pointer (some ⟨(sv 0).p,0,none⟩)) wd2 rfl hpp) ?_
 rintro e2 w2 ⟨rfl,hbox,hm2⟩
 have hqn:=hHeld.size
 replace hHeld:=hHeld.trans hm2 (by simp)
 have W2:=W0.out.past hHeld
 unfold tabF
 refine hK.out _ _ (fun _=>hHeld) ?_
 clear hK K hm2
 try simp only [Act.put,Lq1,Lq2,Lq3]
 generalize wd2.heap.size=q at *
 refine TlAny.one 8 ?_
 intro K hK
 go_simp
 refine Calls.mono (walks_any wb 0 q cs (sv 0) v n false hv (by omega) w2 (W2.pl 0 (by omega)) hbox (by have:=lt_of_block (W0.out.pl 0 (by omega)).blk;omega) (fun hs=>by have:=(W0.out.pl 0 (by omega)).side.lt q hs;omega)) ?_
 rintro e3 w3 hr
 have HR2:=Hxq (PlayR.walk W2 hM (by omega) (Mod.refl [] w2) hr)
 obtain ⟨rfl,hr2,-⟩:=hr
 replace hHeld:=hHeld.trans (hr2 rfl) (by simp)
 clear hr2
 refine hK.out _ _ (fun _=>hHeld) ?_
 clear hK K
 try simp only [Act.put,Lq1,Lq2,Lq3]
 refine TlAny.one 9 ?_
 intro K hK
 go_simp
 refine hK.out _ _ (fun _=>hHeld) ?_
 clear hK K
 try simp only [Act.put,Lq1,Lq2,Lq3]
 refine TlAny.fin ?_
 clear hHeld W2 hbox
 go_wp2_with fail
 rw [HR.out]
 exact HR2.out
set_option maxHeartbeats 8000000 in
theorem play5_1 (w0:World) (wb M:Nat) (cs:Array Value) (sv:Nat->SV) (hd:Value) (of:Nat) (n:Int) (v:Va.Val) (hv:VIn v) (hM:∀ k,k<2->(sv k).l.length<=M) (hM2:M<=4398046511102) (w:World) (hW:Wo w0 w wb cs sv hd of) :
  Calls Tryd.prog 8 #[.pointer (some ⟨wb,0,none⟩),.agg #[.bool true,.int .i64 5,.int .i64 n,.int .i64 v.k,.int .i64 v.n,.string (Lx.ofS v.s)]] w (PlayR w0 wb M):=by
 have mA:=(Mod.refl [] w).alloc (Obj.cells #[.bool true,.int .i64 5,.int .i64 n,.int .i64 v.k,.int .i64 v.n,.string (Lx.ofS v.s)] 38)
 have eA:=heap_alloc_new w (Obj.cells #[.bool true,.int .i64 5,.int .i64 n,.int .i64 v.k,.int .i64 v.n,.string (Lx.ofS v.s)] 38)
 obtain ⟨R,hR⟩:∃ R,R=PlayR w0 wb M:=⟨_,rfl⟩
 rw [<-hR]
 have HR:=Lib.hid hR;have HW:=Lib.hid hW
 have hnil:=seq2_nil
 clear hR hW
 go_enter Tryd.func8,Tryd.ntmps8
 go_upto_region 2 with fail
 generalize w.alloc (Obj.cells _ 38)=x0 at *
 generalize hb3:w.heap.size=b3 at *
 have W0:=Hxq (HW.out.past mA);have MA:=Lib.hid mA;have EA:=Lib.hid eA
 clear mA
 have d:=fun j=>cell_at eA j
 have d0:=d 0;have d1:=d 1;have d2:=d 2;have d3:=d 3;have d4:=d 4;have d5:=d 5
 simp only [List.getElem?_toArray,List.getElem?_cons_zero,List.getElem?_cons_succ] at d0 d1 d2 d3 d4 d5
 clear d eA
 have P:=Hxq (W0.out.pl 1 (by omega))
 have cP:x0.cell? ⟨wb,1,none⟩=some (.pointer (some ⟨(sv 1).p,0,none⟩)):=(cell_at P.out.blk 1).trans P.out.c0
 have cX:x0.cell? ⟨wb,3,none⟩=some (sv 1).x:=(cell_at P.out.blk 3).trans P.out.c2
 have cH:x0.cell? ⟨wb,4,none⟩=some hd:=(cell_at P.out.blk 4).trans W0.out.c4
 have cO:x0.cell? ⟨wb,5,none⟩=some (.int .i64 (of:Nat)):=(cell_at P.out.blk 5).trans W0.out.c5
 have hlM:=hM 1 (by omega)
 have hpp:(Value.pointer (some ⟨(sv 1).p,0,none⟩)).cells=#[Value.pointer (some ⟨(sv 1).p,0,none⟩)]:=rfl
 go_upto_region 20 with fail
 refine tl_region (fun wS=>Mod [] x0 wS) [] (by kernel_rfl) ?_
 have hHeld:Mod [] x0 x0.drew:=(Mod.refl [] x0).drew
 try simp only [Act.put,Lq1,Lq2,Lq3]
 generalize x0.drew=wd2 at *
 refine TlAny.take 0 (v:=?_) hHeld ?_ ?_ ?_
 rotate_left 1
 ·refine Or.inl ⟨by rfl,?_⟩
  intro wS hSw
  replace hSw:Mod [] x0 wS:=hSw
  clear hSw
  go_simp
  all_goals with_reducible rfl
 ·exact fun _ _ _ h=>h
 try simp only [Act.put,Lq1,Lq2,Lq3]
 refine TlAny.take 1 (v:=?_) hHeld ?_ ?_ ?_
 rotate_left 1
 ·refine Or.inl ⟨by rfl,?_⟩
  intro wS hSw
  replace hSw:Mod [] x0 wS:=hSw
  clear hSw
  go_simp
  all_goals with_reducible rfl
 ·exact fun _ _ _ h=>h
 try simp only [Act.put,Lq1,Lq2,Lq3]
 refine TlAny.take 3 (v:=?_) hHeld ?_ ?_ ?_
 rotate_left 1
 ·refine Or.inl ⟨by rfl,?_⟩
  intro wS hSw
  replace hSw:Mod [] x0 wS:=hSw
  clear hSw
  go_simp
  all_goals with_reducible rfl
 ·exact fun _ _ _ h=>h
 try simp only [Act.put,Lq1,Lq2,Lq3]
 refine TlAny.take 4 (v:=?_) hHeld ?_ ?_ ?_
 rotate_left 1
 ·refine Or.inl ⟨by rfl,?_⟩
  intro wS hSw
  replace hSw:Mod [] x0 wS:=hSw
  clear hSw
  go_simp
  all_goals with_reducible rfl
 ·exact fun _ _ _ h=>h
 try simp only [Act.put,Lq1,Lq2,Lq3]
 refine TlAny.take 5 (v:=?_) hHeld ?_ ?_ ?_
 rotate_left 1
 ·refine Or.inl ⟨by rfl,?_⟩
  intro wS hSw
  replace hSw:Mod [] x0 wS:=hSw
  have p:=hSw.cell d2 (by simp)
  clear hSw
  go_simp
  all_goals with_reducible rfl
 ·exact fun _ _ _ h=>h
 try simp only [Act.put,Lq1,Lq2,Lq3]
 refine TlAny.take 6 (v:=?_) hHeld ?_ ?_ ?_
 rotate_left 1
 ·refine Or.inl ⟨by rfl,?_⟩
  intro wS hSw
  replace hSw:Mod [] x0 wS:=hSw
  clear hSw
  go_simp
  all_goals with_reducible rfl
 ·exact fun _ _ _ h=>h
 try simp only [Act.put,Lq1,Lq2,Lq3]
 refine TlAny.take 7 (v:=?_) hHeld ?_ ?_ ?_
 rotate_left 1
 ·refine Or.inl ⟨by rfl,?_⟩
  intro wS hSw
  replace hSw:Mod [] x0 wS:=hSw
  have p0:=hSw.cell d3 (by simp);have p1:=hSw.cell d4 (by simp);have p2:=hSw.cell d5 (by simp)
  clear hSw
  go_simp
  all_goals with_reducible rfl
 ·exact fun _ _ _ h=>h
 try simp only [Act.put,Lq1,Lq2,Lq3]
 refine TlAny.one 2 ?_
 intro K hK
 go_simp
 refine Calls.mono (all_any (.pointer (some ⟨(sv 1).p,0,none⟩)) wd2 rfl hpp) ?_
 rintro e2 w2 ⟨rfl,hbox,hm2⟩
 have hqn:=hHeld.size
 replace hHeld:=hHeld.trans hm2 (by simp)
 have W2:=W0.out.past hHeld
 unfold tabF
 refine hK.out _ _ (fun _=>hHeld) ?_
 clear hK K hm2
 try simp only [Act.put,Lq1,Lq2,Lq3]
 generalize wd2.heap.size=q at *
 refine TlAny.one 8 ?_
 intro K hK
 go_simp
 refine Calls.mono (walks_any wb 1 q cs (sv 1) v n false hv (by omega) w2 (W2.pl 1 (by omega)) hbox (by have:=lt_of_block (W0.out.pl 1 (by omega)).blk;omega) (fun hs=>by have:=(W0.out.pl 1 (by omega)).side.lt q hs;omega)) ?_
 rintro e3 w3 hr
 have HR2:=Hxq (PlayR.walk W2 hM (by omega) (Mod.refl [] w2) hr)
 obtain ⟨rfl,hr2,-⟩:=hr
 replace hHeld:=hHeld.trans (hr2 rfl) (by simp)
 clear hr2
 refine hK.out _ _ (fun _=>hHeld) ?_
 clear hK K
 try simp only [Act.put,Lq1,Lq2,Lq3]
 refine TlAny.one 9 ?_
 intro K hK
 go_simp
 refine hK.out _ _ (fun _=>hHeld) ?_
 clear hK K
 try simp only [Act.put,Lq1,Lq2,Lq3]
 refine TlAny.fin ?_
 clear hHeld W2 hbox
 go_wp2_with fail
 rw [HR.out]
 exact HR2.out
set_option maxHeartbeats 8000000 in
theorem play6_0 (w0:World) (wb M:Nat) (cs:Array Value) (sv:Nat->SV) (hd:Value) (of:Nat) (n:Int) (v:Va.Val) (hv:VIn v) (hM:∀ k,k<2->(sv k).l.length<=M) (hM2:M<=4398046511102) (w:World) (hW:Wo w0 w wb cs sv hd of) :
  Calls Tryd.prog 8 #[.pointer (some ⟨wb,0,none⟩),.agg #[.bool false,.int .i64 6,.int .i64 n,.int .i64 v.k,.int .i64 v.n,.string (Lx.ofS v.s)]] w (PlayR w0 wb M):=by
 have mA:=(Mod.refl [] w).alloc (Obj.cells #[.bool false,.int .i64 6,.int .i64 n,.int .i64 v.k,.int .i64 v.n,.string (Lx.ofS v.s)] 38)
 have eA:=heap_alloc_new w (Obj.cells #[.bool false,.int .i64 6,.int .i64 n,.int .i64 v.k,.int .i64 v.n,.string (Lx.ofS v.s)] 38)
 obtain ⟨R,hR⟩:∃ R,R=PlayR w0 wb M:=⟨_,rfl⟩
 rw [<-hR]
 have HR:=Lib.hid hR;have HW:=Lib.hid hW
 have hnil:=seq2_nil
 clear hR hW
 go_enter Tryd.func8,Tryd.ntmps8
 go_upto_region 2 with fail
 generalize w.alloc (Obj.cells _ 38)=x0 at *
 generalize hb3:w.heap.size=b3 at *
 have W0:=Hxq (HW.out.past mA);have MA:=Lib.hid mA;have EA:=Lib.hid eA
 clear mA
 have d:=fun j=>cell_at eA j
 have d0:=d 0;have d1:=d 1;have d2:=d 2;have d3:=d 3;have d4:=d 4;have d5:=d 5
 simp only [List.getElem?_toArray,List.getElem?_cons_zero,List.getElem?_cons_succ] at d0 d1 d2 d3 d4 d5
 clear d eA
 have P:=Hxq (W0.out.pl 0 (by omega))
 have cP:x0.cell? ⟨wb,0,none⟩=some (.pointer (some ⟨(sv 0).p,0,none⟩)):=(cell_at P.out.blk 0).trans P.out.c0
 have cX:x0.cell? ⟨wb,2,none⟩=some (sv 0).x:=(cell_at P.out.blk 2).trans P.out.c2
 have cH:x0.cell? ⟨wb,4,none⟩=some hd:=(cell_at P.out.blk 4).trans W0.out.c4
 have cO:x0.cell? ⟨wb,5,none⟩=some (.int .i64 (of:Nat)):=(cell_at P.out.blk 5).trans W0.out.c5
 have hlM:=hM 0 (by omega)
 have hpp:(Value.pointer (some ⟨(sv 0).p,0,none⟩)).cells=#[Value.pointer (some ⟨(sv 0).p,0,none⟩)]:=rfl
 go_upto_region 22 with fail
 refine tl_region (fun wS=>Mod [] x0 wS) [0,1,3,4,6,7] (by kernel_rfl) ?_
 have hHeld:Mod [] x0 x0.drew:=(Mod.refl [] x0).drew
 try simp only [Act.put,Lq1,Lq2,Lq3]
 generalize x0.drew=wd2 at *
 refine TlAny.pure 0 (v:=?_) ?_ ?_ ?_
 rotate_left 1
 ·refine Or.inl ⟨by rfl,?_⟩
  intro wS _
  go_simp
  all_goals with_reducible rfl
 ·exact fun _ _ _ h=>h
 try simp only [Act.put,Lq1,Lq2,Lq3]
 refine TlAny.pure 1 (v:=?_) ?_ ?_ ?_
 rotate_left 1
 ·refine Or.inl ⟨by rfl,?_⟩
  intro wS _
  go_simp
  all_goals with_reducible rfl
 ·exact fun _ _ _ h=>h
 try simp only [Act.put,Lq1,Lq2,Lq3]
 refine TlAny.pure 3 (v:=?_) ?_ ?_ ?_
 rotate_left 1
 ·refine Or.inl ⟨by rfl,?_⟩
  intro wS _
  go_simp
  all_goals with_reducible rfl
 ·exact fun _ _ _ h=>h
 try simp only [Act.put,Lq1,Lq2,Lq3]
 refine TlAny.pure 4 (v:=?_) ?_ ?_ ?_
 rotate_left 1
 ·refine Or.inl ⟨by rfl,?_⟩
  intro wS _
  go_simp
  all_goals with_reducible rfl
 ·exact fun _ _ _ h=>h
 try simp only [Act.put,Lq1,Lq2,Lq3]
 refine TlAny.take 5 (v:=?_) hHeld ?_ ?_ ?_
 rotate_left 1
 ·refine Or.inl ⟨by rfl,?_⟩
  intro wS hSw
  replace hSw:Mod [] x0 wS:=hSw
  have p0:=hSw.cell d3 (by simp);have p1:=hSw.cell d4 (by simp);have p2:=hSw.cell d5 (by simp)
  clear hSw
  go_simp
  all_goals with_reducible rfl
 ·exact fun _ _ _ h=>h
 try simp only [Act.put,Lq1,Lq2,Lq3]
 refine TlAny.one 2 ?_
 intro K hK
 go_simp
 refine Calls.mono (all_any (.pointer (some ⟨(sv 0).p,0,none⟩)) wd2 rfl hpp) ?_
 rintro e2 w2 ⟨rfl,hbox,hm2⟩
 have hqn:=hHeld.size
 replace hHeld:=hHeld.trans hm2 (by simp)
 have W2:=W0.out.past hHeld
 unfold tabF
 refine hK.out _ _ (fun _=>hHeld) ?_
 clear hK K hm2
 try simp only [Act.put,Lq1,Lq2,Lq3]
 generalize wd2.heap.size=q at *
 refine TlAny.one 6 ?_
 intro K hK
 go_simp
 refine Calls.mono (walks_any wb 0 q cs (sv 0) v (-1) true hv (by omega) w2 (W2.pl 0 (by omega)) hbox (by have:=lt_of_block (W0.out.pl 0 (by omega)).blk;omega) (fun hs=>by have:=(W0.out.pl 0 (by omega)).side.lt q hs;omega)) ?_
 rintro e3 w3 hr
 have HR2:=Hxq (PlayR.walk W2 hM (by omega) (Mod.refl [] w2) hr)
 obtain ⟨rfl,-⟩:=hr
 refine hK.out _ _ (fun hN=>absurd hN (by decide)) ?_
 clear hK K
 try simp only [Act.put,Lq1,Lq2,Lq3]
 refine TlAny.pure 7 (v:=?_) ?_ ?_ ?_
 rotate_left 1
 ·refine Or.inl ⟨by rfl,?_⟩
  intro wS _
  go_simp
  all_goals with_reducible rfl
 ·exact fun _ _ _ h=>h
 try simp only [Act.put,Lq1,Lq2,Lq3]
 refine TlAny.fin ?_
 clear hHeld W2 hbox
 go_wp2_with fail
 rw [HR.out]
 exact HR2.out
set_option maxHeartbeats 8000000 in
theorem play6_1 (w0:World) (wb M:Nat) (cs:Array Value) (sv:Nat->SV) (hd:Value) (of:Nat) (n:Int) (v:Va.Val) (hv:VIn v) (hM:∀ k,k<2->(sv k).l.length<=M) (hM2:M<=4398046511102) (w:World) (hW:Wo w0 w wb cs sv hd of) :
  Calls Tryd.prog 8 #[.pointer (some ⟨wb,0,none⟩),.agg #[.bool true,.int .i64 6,.int .i64 n,.int .i64 v.k,.int .i64 v.n,.string (Lx.ofS v.s)]] w (PlayR w0 wb M):=by
 have mA:=(Mod.refl [] w).alloc (Obj.cells #[.bool true,.int .i64 6,.int .i64 n,.int .i64 v.k,.int .i64 v.n,.string (Lx.ofS v.s)] 38)
 have eA:=heap_alloc_new w (Obj.cells #[.bool true,.int .i64 6,.int .i64 n,.int .i64 v.k,.int .i64 v.n,.string (Lx.ofS v.s)] 38)
 obtain ⟨R,hR⟩:∃ R,R=PlayR w0 wb M:=⟨_,rfl⟩
 rw [<-hR]
 have HR:=Lib.hid hR;have HW:=Lib.hid hW
 have hnil:=seq2_nil
 clear hR hW
 go_enter Tryd.func8,Tryd.ntmps8
 go_upto_region 2 with fail
 generalize w.alloc (Obj.cells _ 38)=x0 at *
 generalize hb3:w.heap.size=b3 at *
 have W0:=Hxq (HW.out.past mA);have MA:=Lib.hid mA;have EA:=Lib.hid eA
 clear mA
 have d:=fun j=>cell_at eA j
 have d0:=d 0;have d1:=d 1;have d2:=d 2;have d3:=d 3;have d4:=d 4;have d5:=d 5
 simp only [List.getElem?_toArray,List.getElem?_cons_zero,List.getElem?_cons_succ] at d0 d1 d2 d3 d4 d5
 clear d eA
 have P:=Hxq (W0.out.pl 1 (by omega))
 have cP:x0.cell? ⟨wb,1,none⟩=some (.pointer (some ⟨(sv 1).p,0,none⟩)):=(cell_at P.out.blk 1).trans P.out.c0
 have cX:x0.cell? ⟨wb,3,none⟩=some (sv 1).x:=(cell_at P.out.blk 3).trans P.out.c2
 have cH:x0.cell? ⟨wb,4,none⟩=some hd:=(cell_at P.out.blk 4).trans W0.out.c4
 have cO:x0.cell? ⟨wb,5,none⟩=some (.int .i64 (of:Nat)):=(cell_at P.out.blk 5).trans W0.out.c5
 have hlM:=hM 1 (by omega)
 have hpp:(Value.pointer (some ⟨(sv 1).p,0,none⟩)).cells=#[Value.pointer (some ⟨(sv 1).p,0,none⟩)]:=rfl
 go_upto_region 22 with fail
 refine tl_region (fun wS=>Mod [] x0 wS) [0,1,3,4,6,7] (by kernel_rfl) ?_
 have hHeld:Mod [] x0 x0.drew:=(Mod.refl [] x0).drew
 try simp only [Act.put,Lq1,Lq2,Lq3]
 generalize x0.drew=wd2 at *
 refine TlAny.pure 0 (v:=?_) ?_ ?_ ?_
 rotate_left 1
 ·refine Or.inl ⟨by rfl,?_⟩
  intro wS _
  go_simp
  all_goals with_reducible rfl
 ·exact fun _ _ _ h=>h
 try simp only [Act.put,Lq1,Lq2,Lq3]
 refine TlAny.pure 1 (v:=?_) ?_ ?_ ?_
 rotate_left 1
 ·refine Or.inl ⟨by rfl,?_⟩
  intro wS _
  go_simp
  all_goals with_reducible rfl
 ·exact fun _ _ _ h=>h
 try simp only [Act.put,Lq1,Lq2,Lq3]
 refine TlAny.pure 3 (v:=?_) ?_ ?_ ?_
 rotate_left 1
 ·refine Or.inl ⟨by rfl,?_⟩
  intro wS _
  go_simp
  all_goals with_reducible rfl
 ·exact fun _ _ _ h=>h
 try simp only [Act.put,Lq1,Lq2,Lq3]
 refine TlAny.pure 4 (v:=?_) ?_ ?_ ?_
 rotate_left 1
 ·refine Or.inl ⟨by rfl,?_⟩
  intro wS _
  go_simp
  all_goals with_reducible rfl
 ·exact fun _ _ _ h=>h
 try simp only [Act.put,Lq1,Lq2,Lq3]
 refine TlAny.take 5 (v:=?_) hHeld ?_ ?_ ?_
 rotate_left 1
 ·refine Or.inl ⟨by rfl,?_⟩
  intro wS hSw
  replace hSw:Mod [] x0 wS:=hSw
  have p0:=hSw.cell d3 (by simp);have p1:=hSw.cell d4 (by simp);have p2:=hSw.cell d5 (by simp)
  clear hSw
  go_simp
  all_goals with_reducible rfl
 ·exact fun _ _ _ h=>h
 try simp only [Act.put,Lq1,Lq2,Lq3]
 refine TlAny.one 2 ?_
 intro K hK
 go_simp
 refine Calls.mono (all_any (.pointer (some ⟨(sv 1).p,0,none⟩)) wd2 rfl hpp) ?_
 rintro e2 w2 ⟨rfl,hbox,hm2⟩
 have hqn:=hHeld.size
 replace hHeld:=hHeld.trans hm2 (by simp)
 have W2:=W0.out.past hHeld
 unfold tabF
 refine hK.out _ _ (fun _=>hHeld) ?_
 clear hK K hm2
 try simp only [Act.put,Lq1,Lq2,Lq3]
 generalize wd2.heap.size=q at *
 refine TlAny.one 6 ?_
 intro K hK
 go_simp
 refine Calls.mono (walks_any wb 1 q cs (sv 1) v (-1) true hv (by omega) w2 (W2.pl 1 (by omega)) hbox (by have:=lt_of_block (W0.out.pl 1 (by omega)).blk;omega) (fun hs=>by have:=(W0.out.pl 1 (by omega)).side.lt q hs;omega)) ?_
 rintro e3 w3 hr
 have HR2:=Hxq (PlayR.walk W2 hM (by omega) (Mod.refl [] w2) hr)
 obtain ⟨rfl,-⟩:=hr
 refine hK.out _ _ (fun hN=>absurd hN (by decide)) ?_
 clear hK K
 try simp only [Act.put,Lq1,Lq2,Lq3]
 refine TlAny.pure 7 (v:=?_) ?_ ?_ ?_
 rotate_left 1
 ·refine Or.inl ⟨by rfl,?_⟩
  intro wS _
  go_simp
  all_goals with_reducible rfl
 ·exact fun _ _ _ h=>h
 try simp only [Act.put,Lq1,Lq2,Lq3]
 refine TlAny.fin ?_
 clear hHeld W2 hbox
 go_wp2_with fail
 rw [HR.out]
 exact HR2.out
end Go.Proofs.YtdablillhbfgkaaDoor
