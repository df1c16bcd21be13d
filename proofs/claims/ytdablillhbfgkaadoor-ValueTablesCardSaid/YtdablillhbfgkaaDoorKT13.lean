/- THE TEXTS MERGED: VtPlay0 VtPlay1 VtPlay2 VtPlay3 VtPlay4. -/
import Derived.Test.YtdablillhbfgkaaDoorKT12
namespace Go.Proofs.YtdablillhbfgkaaDoor
open Go.RowKit Go.Maps Go.Shelf
set_option linter.unusedVariables false
set_option linter.unusedSimpArgs false
set_option maxRecDepth 100000
set_option maxHeartbeats 8000000 in
theorem play0_0 (w0:World) (wb M:Nat) (cs:Array Value) (sv:Nat->SV) (hd:Value) (of:Nat) (kind:Int) (n:Int) (v:Va.Val) (hv:VIn v) (hM:∀ k,k<2->(sv k).l.length<=M) (hM2:M<=4398046511102) (w:World) (hW:Wo w0 w wb cs sv hd of) (h1:¬ kind=1) (h2:¬ kind=2) (h3:¬ kind=3) (h4:¬ kind=4) (h5:¬ kind=5) (h6:¬ kind=6) (h7:¬ kind=7) (h8:¬ kind=8) (h9:¬ kind=9) :
  Calls Tryd.prog 8 #[.pointer (some ⟨wb,0,none⟩),.agg #[.bool false,.int .i64 kind,.int .i64 n,.int .i64 v.k,.int .i64 v.n,.string (Lx.ofS v.s)]] w (PlayR w0 wb M):=by
 have mA:=(Mod.refl [] w).alloc (Obj.cells #[.bool false,.int .i64 kind,.int .i64 n,.int .i64 v.k,.int .i64 v.n,.string (Lx.ofS v.s)] 38)
 have eA:=heap_alloc_new w (Obj.cells #[.bool false,.int .i64 kind,.int .i64 n,.int .i64 v.k,.int .i64 v.n,.string (Lx.ofS v.s)] 38)
 obtain ⟨R,hR⟩:∃ R,R=PlayR w0 wb M:=⟨_,rfl⟩
 rw [<-hR]
 have HR:=Lib.hid hR;have HW:=Lib.hid hW
 have hnil:=seq2_nil
 clear hR hW
 go_enter Tryd.func8,Tryd.ntmps8
 go_upto_region 2 with fail
 generalize w.alloc (Obj.cells _ 38)=x0 at *
 generalize hb3:w.heap.size=b3 at *
 have W0:=Hxq (HW.out.past mA);have MA:=Lib.hid mA;have EA:=Lib.hid eA
 clear mA
 have d:=fun j=>cell_at eA j
 have d0:=d 0;have d1:=d 1;have d2:=d 2;have d3:=d 3;have d4:=d 4;have d5:=d 5
 simp only [List.getElem?_toArray,List.getElem?_cons_zero,List.getElem?_cons_succ] at d0 d1 d2 d3 d4 d5
 clear d eA
 have P:=Hxq (W0.out.pl 0 (by omega))
 have cP:x0.cell? ⟨wb,0,none⟩=some (.pointer (some ⟨(sv 0).p,0,none⟩)):=(cell_at P.out.blk 0).trans P.out.c0
 have cX:x0.cell? ⟨wb,2,none⟩=some (sv 0).x:=(cell_at P.out.blk 2).trans P.out.c2
 have cH:x0.cell? ⟨wb,4,none⟩=some hd:=(cell_at P.out.blk 4).trans W0.out.c4
 have cO:x0.cell? ⟨wb,5,none⟩=some (.int .i64 (of:Nat)):=(cell_at P.out.blk 5).trans W0.out.c5
 have hlM:=hM 0 (by omega)
 go_wp2_with fail
 rw [HR.out]
 exact PlayR.same W0.out hM (Mod.refl [] _)
set_option maxHeartbeats 8000000 in
theorem play0_1 (w0:World) (wb M:Nat) (cs:Array Value) (sv:Nat->SV) (hd:Value) (of:Nat) (kind:Int) (n:Int) (v:Va.Val) (hv:VIn v) (hM:∀ k,k<2->(sv k).l.length<=M) (hM2:M<=4398046511102) (w:World) (hW:Wo w0 w wb cs sv hd of) (h1:¬ kind=1) (h2:¬ kind=2) (h3:¬ kind=3) (h4:¬ kind=4) (h5:¬ kind=5) (h6:¬ kind=6) (h7:¬ kind=7) (h8:¬ kind=8) (h9:¬ kind=9) :
  Calls Tryd.prog 8 #[.pointer (some ⟨wb,0,none⟩),.agg #[.bool true,.int .i64 kind,.int .i64 n,.int .i64 v.k,.int .i64 v.n,.string (Lx.ofS v.s)]] w (PlayR w0 wb M):=by
 have mA:=(Mod.refl [] w).alloc (Obj.cells #[.bool true,.int .i64 kind,.int .i64 n,.int .i64 v.k,.int .i64 v.n,.string (Lx.ofS v.s)] 38)
 have eA:=heap_alloc_new w (Obj.cells #[.bool true,.int .i64 kind,.int .i64 n,.int .i64 v.k,.int .i64 v.n,.string (Lx.ofS v.s)] 38)
 obtain ⟨R,hR⟩:∃ R,R=PlayR w0 wb M:=⟨_,rfl⟩
 rw [<-hR]
 have HR:=Lib.hid hR;have HW:=Lib.hid hW
 have hnil:=seq2_nil
 clear hR hW
 go_enter Tryd.func8,Tryd.ntmps8
 go_upto_region 2 with fail
 generalize w.alloc (Obj.cells _ 38)=x0 at *
 generalize hb3:w.heap.size=b3 at *
 have W0:=Hxq (HW.out.past mA);have MA:=Lib.hid mA;have EA:=Lib.hid eA
 clear mA
 have d:=fun j=>cell_at eA j
 have d0:=d 0;have d1:=d 1;have d2:=d 2;have d3:=d 3;have d4:=d 4;have d5:=d 5
 simp only [List.getElem?_toArray,List.getElem?_cons_zero,List.getElem?_cons_succ] at d0 d1 d2 d3 d4 d5
 clear d eA
 have P:=Hxq (W0.out.pl 1 (by omega))
 have cP:x0.cell? ⟨wb,1,none⟩=some (.pointer (some ⟨(sv 1).p,0,none⟩)):=(cell_at P.out.blk 1).trans P.out.c0
 have cX:x0.cell? ⟨wb,3,none⟩=some (sv 1).x:=(cell_at P.out.blk 3).trans P.out.c2
 have cH:x0.cell? ⟨wb,4,none⟩=some hd:=(cell_at P.out.blk 4).trans W0.out.c4
 have cO:x0.cell? ⟨wb,5,none⟩=some (.int .i64 (of:Nat)):=(cell_at P.out.blk 5).trans W0.out.c5
 have hlM:=hM 1 (by omega)
 go_wp2_with fail
 rw [HR.out]
 exact PlayR.same W0.out hM (Mod.refl [] _)
set_option maxHeartbeats 8000000 in
theorem play1_0 (w0:World) (wb M:Nat) (cs:Array Value) (sv:Nat->SV) (hd:Value) (of:Nat) (n:Int) (v:Va.Val) (hv:VIn v) (hM:∀ k,k<2->(sv k).l.length<=M) (hM2:M<=4398046511102) (w:World) (hW:Wo w0 w wb cs sv hd of) :
  Calls Tryd.prog 8 #[.pointer (some ⟨wb,0,none⟩),.agg #[.bool false,.int .i64 1,.int .i64 n,.int .i64 v.k,.int .i64 v.n,.string (Lx.ofS v.s)]] w (PlayR w0 wb M):=by
 have mA:=(Mod.refl [] w).alloc (Obj.cells #[.bool false,.int .i64 1,.int .i64 n,.int .i64 v.k,.int .i64 v.n,.string (Lx.ofS v.s)] 38)
 have eA:=heap_alloc_new w (Obj.cells #[.bool false,.int .i64 1,.int .i64 n,.int .i64 v.k,.int .i64 v.n,.string (Lx.ofS v.s)] 38)
 obtain ⟨R,hR⟩:∃ R,R=PlayR w0 wb M:=⟨_,rfl⟩
 rw [<-hR]
 have HR:=Lib.hid hR;have HW:=Lib.hid hW
 have hnil:=seq2_nil
 clear hR hW
 go_enter Tryd.func8,Tryd.ntmps8
 go_upto_region 2 with fail
 generalize w.alloc (Obj.cells _ 38)=x0 at *
 generalize hb3:w.heap.size=b3 at *
 have W0:=Hxq (HW.out.past mA);have MA:=Lib.hid mA;have EA:=Lib.hid eA
 clear mA
 have d:=fun j=>cell_at eA j
 have d0:=d 0;have d1:=d 1;have d2:=d 2;have d3:=d 3;have d4:=d 4;have d5:=d 5
 simp only [List.getElem?_toArray,List.getElem?_cons_zero,List.getElem?_cons_succ] at d0 d1 d2 d3 d4 d5
 clear d eA
 have P:=Hxq (W0.out.pl 0 (by omega))
 have cP:x0.cell? ⟨wb,0,none⟩=some (.pointer (some ⟨(sv 0).p,0,none⟩)):=(cell_at P.out.blk 0).trans P.out.c0
 have cX:x0.cell? ⟨wb,2,none⟩=some (sv 0).x:=(cell_at P.out.blk 2).trans P.out.c2
 have cH:x0.cell? ⟨wb,4,none⟩=some hd:=(cell_at P.out.blk 4).trans W0.out.c4
 have cO:x0.cell? ⟨wb,5,none⟩=some (.int .i64 (of:Nat)):=(cell_at P.out.blk 5).trans W0.out.c5
 have hlM:=hM 0 (by omega)
 go_wp2_with fail
 refine Calls.mono (wput_any wb 0 (by omega) cs (sv 0) v hv (by omega) x0 P.out.blk P.out.c0 P.out.c2 P.out.side P.out.nin) ?_
 rintro e1 w1 hr
 have HR2:=Hxq (PlayR.put W0.out hM (by omega) (Mod.refl [] x0) hr)
 obtain ⟨rfl,-⟩:=hr
 go_wp2_with fail
 rw [HR.out]
 exact HR2.out
set_option maxHeartbeats 8000000 in
theorem play1_1 (w0:World) (wb M:Nat) (cs:Array Value) (sv:Nat->SV) (hd:Value) (of:Nat) (n:Int) (v:Va.Val) (hv:VIn v) (hM:∀ k,k<2->(sv k).l.length<=M) (hM2:M<=4398046511102) (w:World) (hW:Wo w0 w wb cs sv hd of) :
  Calls Tryd.prog 8 #[.pointer (some ⟨wb,0,none⟩),.agg #[.bool true,.int .i64 1,.int .i64 n,.int .i64 v.k,.int .i64 v.n,.string (Lx.ofS v.s)]] w (PlayR w0 wb M):=by
 have mA:=(Mod.refl [] w).alloc (Obj.cells #[.bool true,.int .i64 1,.int .i64 n,.int .i64 v.k,.int .i64 v.n,.string (Lx.ofS v.s)] 38)
 have eA:=heap_alloc_new w (Obj.cells #[.bool true,.int .i64 1,.int .i64 n,.int .i64 v.k,.int .i64 v.n,.string (Lx.ofS v.s)] 38)
 obtain ⟨R,hR⟩:∃ R,R=PlayR w0 wb M:=⟨_,rfl⟩
 rw [<-hR]
 have HR:=Lib.hid hR;have HW:=Lib.hid hW
 have hnil:=seq2_nil
 clear hR hW
 go_enter Tryd.func8,Tryd.ntmps8
 go_upto_region 2 with fail
 generalize w.alloc (Obj.cells _ 38)=x0 at *
 generalize hb3:w.heap.size=b3 at *
 have W0:=Hxq (HW.out.past mA);have MA:=Lib.hid mA;have EA:=Lib.hid eA
 clear mA
 have d:=fun j=>cell_at eA j
 have d0:=d 0;have d1:=d 1;have d2:=d 2;have d3:=d 3;have d4:=d 4;have d5:=d 5
 simp only [List.getElem?_toArray,List.getElem?_cons_zero,List.getElem?_cons_succ] at d0 d1 d2 d3 d4 d5
 clear d eA
 have P:=Hxq (W0.out.pl 1 (by omega))
 have cP:x0.cell? ⟨wb,1,none⟩=some (.pointer (some ⟨(sv 1).p,0,none⟩)):=(cell_at P.out.blk 1).trans P.out.c0
 have cX:x0.cell? ⟨wb,3,none⟩=some (sv 1).x:=(cell_at P.out.blk 3).trans P.out.c2
 have cH:x0.cell? ⟨wb,4,none⟩=some hd:=(cell_at P.out.blk 4).trans W0.out.c4
 have cO:x0.cell? ⟨wb,5,none⟩=some (.int .i64 (of:Nat)):=(cell_at P.out.blk 5).trans W0.out.c5
 have hlM:=hM 1 (by omega)
 go_wp2_with fail
 refine Calls.mono (wput_any wb 1 (by omega) cs (sv 1) v hv (by omega) x0 P.out.blk P.out.c0 P.out.c2 P.out.side P.out.nin) ?_
 rintro e1 w1 hr
 have HR2:=Hxq (PlayR.put W0.out hM (by omega) (Mod.refl [] x0) hr)
 obtain ⟨rfl,-⟩:=hr
 go_wp2_with fail
 rw [HR.out]
 exact HR2.out
set_option maxHeartbeats 8000000 in
theorem play2_0 (w0:World) (wb M:Nat) (cs:Array Value) (sv:Nat->SV) (hd:Value) (of:Nat) (n:Int) (v:Va.Val) (hv:VIn v) (hM:∀ k,k<2->(sv k).l.length<=M) (hM2:M<=4398046511102) (w:World) (hW:Wo w0 w wb cs sv hd of) :
  Calls Tryd.prog 8 #[.pointer (some ⟨wb,0,none⟩),.agg #[.bool false,.int .i64 2,.int .i64 n,.int .i64 v.k,.int .i64 v.n,.string (Lx.ofS v.s)]] w (PlayR w0 wb M):=by
 have mA:=(Mod.refl [] w).alloc (Obj.cells #[.bool false,.int .i64 2,.int .i64 n,.int .i64 v.k,.int .i64 v.n,.string (Lx.ofS v.s)] 38)
 have eA:=heap_alloc_new w (Obj.cells #[.bool false,.int .i64 2,.int .i64 n,.int .i64 v.k,.int .i64 v.n,.string (Lx.ofS v.s)] 38)
 obtain ⟨R,hR⟩:∃ R,R=PlayR w0 wb M:=⟨_,rfl⟩
 rw [<-hR]
 have HR:=Lib.hid hR;have HW:=Lib.hid hW
 have hnil:=seq2_nil
 clear hR hW
 go_enter Tryd.func8,Tryd.ntmps8
 go_upto_region 2 with fail
 generalize w.alloc (Obj.cells _ 38)=x0 at *
 generalize hb3:w.heap.size=b3 at *
 have W0:=Hxq (HW.out.past mA);have MA:=Lib.hid mA;have EA:=Lib.hid eA
 clear mA
 have d:=fun j=>cell_at eA j
 have d0:=d 0;have d1:=d 1;have d2:=d 2;have d3:=d 3;have d4:=d 4;have d5:=d 5
 simp only [List.getElem?_toArray,List.getElem?_cons_zero,List.getElem?_cons_succ] at d0 d1 d2 d3 d4 d5
 clear d eA
 have P:=Hxq (W0.out.pl 0 (by omega))
 have cP:x0.cell? ⟨wb,0,none⟩=some (.pointer (some ⟨(sv 0).p,0,none⟩)):=(cell_at P.out.blk 0).trans P.out.c0
 have cX:x0.cell? ⟨wb,2,none⟩=some (sv 0).x:=(cell_at P.out.blk 2).trans P.out.c2
 have cH:x0.cell? ⟨wb,4,none⟩=some hd:=(cell_at P.out.blk 4).trans W0.out.c4
 have cO:x0.cell? ⟨wb,5,none⟩=some (.int .i64 (of:Nat)):=(cell_at P.out.blk 5).trans W0.out.c5
 have hlM:=hM 0 (by omega)
 have HSD:=P.out.side
 go_wp2_with fail
 refine Calls.mono (find_any (sv 0).p (sv 0).bm (sv 0).D (sv 0).va (sv 0).vc (sv 0).l v hv x0 P.out.side.tab) ?_
 rintro e1 w1 ⟨rfl,hm1⟩
 have W1:=Hxq (W0.out.past hm1)
 have P1:=Hxq (P.out.side.keep hm1 (by simp))
 obtain ⟨tn,htn⟩:∃ tn:Int,tn=(tnum (sv 0).l v:Nat):=⟨_,rfl⟩
 rw [<-htn]
 obtain ⟨bi,hbi⟩:∃ bi:Bool,bi=decide (v∈(sv 0).l):=⟨_,rfl⟩
 rw [<-hbi]
 have HTN:=Lib.hid htn;have HBI:=Lib.hid hbi
 have cX:=hm1.cell cX (by simp);have d3:=hm1.cell d3 (by simp);have d4:=hm1.cell d4 (by simp);have d5:=hm1.cell d5 (by simp)
 have HM1:=Lib.hid hm1
 clear htn hbi hm1 HSD
 go_upto_region 10 with fail
 refine tl_region (fun wS=>Mod [] w1 wS) [] (by kernel_rfl) ?_
 have hHeld:Mod [] w1 w1.drew:=(Mod.refl [] w1).drew
 try simp only [Act.put,Lq1,Lq2,Lq3]
 generalize w1.drew=wd2 at *
 refine TlAny.take 0 (v:=?_) hHeld ?_ ?_ ?_
 rotate_left 1
 ·refine Or.inl ⟨by rfl,?_⟩
  intro wS hSw
  replace hSw:Mod [] w1 wS:=hSw
  clear hSw
  go_simp
  all_goals with_reducible rfl
 ·exact fun _ _ _ h=>h
 try simp only [Act.put,Lq1,Lq2,Lq3]
 refine TlAny.take 1 (v:=?_) hHeld ?_ ?_ ?_
 rotate_left 1
 ·refine Or.inl ⟨by rfl,?_⟩
  intro wS hSw
  replace hSw:Mod [] w1 wS:=hSw
  clear hSw
  go_simp
  all_goals with_reducible rfl
 ·exact fun _ _ _ h=>h
 try simp only [Act.put,Lq1,Lq2,Lq3]
 refine TlAny.take 2 (v:=?_) hHeld ?_ ?_ ?_
 rotate_left 1
 ·refine Or.inl ⟨by rfl,?_⟩
  intro wS hSw
  replace hSw:Mod [] w1 wS:=hSw
  clear hSw
  go_simp
  all_goals with_reducible rfl
 ·exact fun _ _ _ h=>h
 try simp only [Act.put,Lq1,Lq2,Lq3]
 refine TlAny.take 3 (v:=?_) hHeld ?_ ?_ ?_
 rotate_left 1
 ·refine Or.inl ⟨by rfl,?_⟩
  intro wS hSw
  replace hSw:Mod [] w1 wS:=hSw
  clear hSw
  go_simp
  all_goals with_reducible rfl
 ·exact fun _ _ _ h=>h
 try simp only [Act.put,Lq1,Lq2,Lq3]
 refine TlAny.take 4 (v:=?_) hHeld ?_ ?_ ?_
 rotate_left 1
 ·refine Or.inl ⟨by rfl,?_⟩
  intro wS hSw
  replace hSw:Mod [] w1 wS:=hSw
  clear hSw
  go_simp
  all_goals with_reducible rfl
 ·exact fun _ _ _ h=>h
 try simp only [Act.put,Lq1,Lq2,Lq3]
 refine TlAny.take 5 (v:=?_) hHeld ?_ ?_ ?_
 rotate_left 1
 ·refine Or.inl ⟨by rfl,?_⟩
  intro wS hSw
  replace hSw:Mod [] w1 wS:=hSw
  have p:=hSw.cell cX (by simp)
  clear hSw
  go_simp
  all_goals with_reducible rfl
 ·exact fun _ _ _ h=>h
 try simp only [Act.put,Lq1,Lq2,Lq3]
 refine TlAny.take 6 (v:=?_) hHeld ?_ ?_ ?_
 rotate_left 1
 ·refine Or.inl ⟨by rfl,?_⟩
  intro wS hSw
  replace hSw:Mod [] w1 wS:=hSw
  clear hSw
  go_simp
  all_goals with_reducible rfl
 ·exact fun _ _ _ h=>h
 try simp only [Act.put,Lq1,Lq2,Lq3]
 refine TlAny.take 7 (v:=?_) hHeld ?_ ?_ ?_
 rotate_left 1
 ·refine Or.inl ⟨by rfl,?_⟩
  intro wS hSw
  replace hSw:Mod [] w1 wS:=hSw
  have p0:=hSw.cell d3 (by simp);have p1:=hSw.cell d4 (by simp);have p2:=hSw.cell d5 (by simp)
  clear hSw
  go_simp
  all_goals with_reducible rfl
 ·exact fun _ _ _ h=>h
 try simp only [Act.put,Lq1,Lq2,Lq3]
 refine TlAny.one 8 ?_
 intro K hK
 go_simp
 refine Calls.mono (idx_any (sv 0).x (sv 0).l v P.out.side.vb hv.2 (by omega) wd2 (P1.out.keep hHeld (by simp)).vrow) ?_
 rintro e2 w2 ⟨rfl,hm2⟩
 replace hHeld:=hHeld.trans hm2 (by simp)
 obtain ⟨z,hz⟩:∃ z:Int,z=lat (sv 0).l v:=⟨_,rfl⟩
 rw [<-hz]
 have HZ:=Lib.hid hz
 clear hm2 hz
 refine hK.out _ _ (fun _=>hHeld) ?_
 clear hK K
 try simp only [Act.put,Lq1,Lq2,Lq3]
 refine TlAny.one 9 ?_
 intro K hK
 go_simp
 refine hK.out _ _ (fun _=>hHeld) ?_
 clear hK K
 try simp only [Act.put,Lq1,Lq2,Lq3]
 refine TlAny.fin ?_
 have HR2:=Hxq (PlayR.same W1.out hM hHeld)
 clear hHeld
 have hrel:tn=max z 0/\bi=decide (0<=z):=by
  rw [HTN.out,HBI.out,HZ.out,tnum,lat]
  by_cases hin:v∈(sv 0).l
  ·simp [hin]
  ·simp only [if_neg hin,decide_eq_false hin]
   exact ⟨by decide,by decide⟩
 obtain ⟨rfl,rfl⟩:=hrel
 go_wp2_with fail
 all_goals (rw [HR.out];exact HR2.out)
set_option maxHeartbeats 8000000 in
theorem play2_1 (w0:World) (wb M:Nat) (cs:Array Value) (sv:Nat->SV) (hd:Value) (of:Nat) (n:Int) (v:Va.Val) (hv:VIn v) (hM:∀ k,k<2->(sv k).l.length<=M) (hM2:M<=4398046511102) (w:World) (hW:Wo w0 w wb cs sv hd of) :
  Calls Tryd.prog 8 #[.pointer (some ⟨wb,0,none⟩),.agg #[.bool true,.int .i64 2,.int .i64 n,.int .i64 v.k,.int .i64 v.n,.string (Lx.ofS v.s)]] w (PlayR w0 wb M):=by
 have mA:=(Mod.refl [] w).alloc (Obj.cells #[.bool true,.int .i64 2,.int .i64 n,.int .i64 v.k,.int .i64 v.n,.string (Lx.ofS v.s)] 38)
 have eA:=heap_alloc_new w (Obj.cells #[.bool true,.int .i64 2,.int .i64 n,.int .i64 v.k,.int .i64 v.n,.string (Lx.ofS v.s)] 38)
 obtain ⟨R,hR⟩:∃ R,R=PlayR w0 wb M:=⟨_,rfl⟩
 rw [<-hR]
 have HR:=Lib.hid hR;have HW:=Lib.hid hW
 have hnil:=seq2_nil
 clear hR hW
 go_enter Tryd.func8,Tryd.ntmps8
 go_upto_region 2 with fail
 generalize w.alloc (Obj.cells _ 38)=x0 at *
 generalize hb3:w.heap.size=b3 at *
 have W0:=Hxq (HW.out.past mA);have MA:=Lib.hid mA;have EA:=Lib.hid eA
 clear mA
 have d:=fun j=>cell_at eA j
 have d0:=d 0;have d1:=d 1;have d2:=d 2;have d3:=d 3;have d4:=d 4;have d5:=d 5
 simp only [List.getElem?_toArray,List.getElem?_cons_zero,List.getElem?_cons_succ] at d0 d1 d2 d3 d4 d5
 clear d eA
 have P:=Hxq (W0.out.pl 1 (by omega))
 have cP:x0.cell? ⟨wb,1,none⟩=some (.pointer (some ⟨(sv 1).p,0,none⟩)):=(cell_at P.out.blk 1).trans P.out.c0
 have cX:x0.cell? ⟨wb,3,none⟩=some (sv 1).x:=(cell_at P.out.blk 3).trans P.out.c2
 have cH:x0.cell? ⟨wb,4,none⟩=some hd:=(cell_at P.out.blk 4).trans W0.out.c4
 have cO:x0.cell? ⟨wb,5,none⟩=some (.int .i64 (of:Nat)):=(cell_at P.out.blk 5).trans W0.out.c5
 have hlM:=hM 1 (by omega)
 have HSD:=P.out.side
 go_wp2_with fail
 refine Calls.mono (find_any (sv 1).p (sv 1).bm (sv 1).D (sv 1).va (sv 1).vc (sv 1).l v hv x0 P.out.side.tab) ?_
 rintro e1 w1 ⟨rfl,hm1⟩
 have W1:=Hxq (W0.out.past hm1)
 have P1:=Hxq (P.out.side.keep hm1 (by simp))
 obtain ⟨tn,htn⟩:∃ tn:Int,tn=(tnum (sv 1).l v:Nat):=⟨_,rfl⟩
 rw [<-htn]
 obtain ⟨bi,hbi⟩:∃ bi:Bool,bi=decide (v∈(sv 1).l):=⟨_,rfl⟩
 rw [<-hbi]
 have HTN:=Lib.hid htn;have HBI:=Lib.hid hbi
 have cX:=hm1.cell cX (by simp);have d3:=hm1.cell d3 (by simp);have d4:=hm1.cell d4 (by simp);have d5:=hm1.cell d5 (by simp)
 have HM1:=Lib.hid hm1
 clear htn hbi hm1 HSD
 go_upto_region 10 with fail
 refine tl_region (fun wS=>Mod [] w1 wS) [] (by kernel_rfl) ?_
 have hHeld:Mod [] w1 w1.drew:=(Mod.refl [] w1).drew
 try simp only [Act.put,Lq1,Lq2,Lq3]
 generalize w1.drew=wd2 at *
 refine TlAny.take 0 (v:=?_) hHeld ?_ ?_ ?_
 rotate_left 1
 ·refine Or.inl ⟨by rfl,?_⟩
  intro wS hSw
  replace hSw:Mod [] w1 wS:=hSw
  clear hSw
  go_simp
  all_goals with_reducible rfl
 ·exact fun _ _ _ h=>h
 try simp only [Act.put,Lq1,Lq2,Lq3]
 refine TlAny.take 1 (v:=?_) hHeld ?_ ?_ ?_
 rotate_left 1
 ·refine Or.inl ⟨by rfl,?_⟩
  intro wS hSw
  replace hSw:Mod [] w1 wS:=hSw
  clear hSw
  go_simp
  all_goals with_reducible rfl
 ·exact fun _ _ _ h=>h
 try simp only [Act.put,Lq1,Lq2,Lq3]
 refine TlAny.take 2 (v:=?_) hHeld ?_ ?_ ?_
 rotate_left 1
 ·refine Or.inl ⟨by rfl,?_⟩
  intro wS hSw
  replace hSw:Mod [] w1 wS:=hSw
  clear hSw
  go_simp
  all_goals with_reducible rfl
 ·exact fun _ _ _ h=>h
 try simp only [Act.put,Lq1,Lq2,Lq3]
 refine TlAny.take 3 (v:=?_) hHeld ?_ ?_ ?_
 rotate_left 1
 ·refine Or.inl ⟨by rfl,?_⟩
  intro wS hSw
  replace hSw:Mod [] w1 wS:=hSw
  clear hSw
  go_simp
  all_goals with_reducible rfl
 ·exact fun _ _ _ h=>h
 try simp only [Act.put,Lq1,Lq2,Lq3]
 refine TlAny.take 4 (v:=?_) hHeld ?_ ?_ ?_
 rotate_left 1
 ·refine Or.inl ⟨by rfl,?_⟩
  intro wS hSw
  replace hSw:Mod [] w1 wS:=hSw
  clear hSw
  go_simp
  all_goals with_reducible rfl
 ·exact fun _ _ _ h=>h
 try simp only [Act.put,Lq1,Lq2,Lq3]
 refine TlAny.take 5 (v:=?_) hHeld ?_ ?_ ?_
 rotate_left 1
 ·refine Or.inl ⟨by rfl,?_⟩
  intro wS hSw
  replace hSw:Mod [] w1 wS:=hSw
  have p:=hSw.cell cX (by simp)
  clear hSw
  go_simp
  all_goals with_reducible rfl
 ·exact fun _ _ _ h=>h
 try simp only [Act.put,Lq1,Lq2,Lq3]
 refine TlAny.take 6 (v:=?_) hHeld ?_ ?_ ?_
 rotate_left 1
 ·refine Or.inl ⟨by rfl,?_⟩
  intro wS hSw
  replace hSw:Mod [] w1 wS:=hSw
  clear hSw
  go_simp
  all_goals with_reducible rfl
 ·exact fun _ _ _ h=>h
 try simp only [Act.put,Lq1,Lq2,Lq3]
 refine TlAny.take 7 (v:=?_) hHeld ?_ ?_ ?_
 rotate_left 1
 ·refine Or.inl ⟨by rfl,?_⟩
  intro wS hSw
  replace hSw:Mod [] w1 wS:=hSw
  have p0:=hSw.cell d3 (by simp);have p1:=hSw.cell d4 (by simp);have p2:=hSw.cell d5 (by simp)
  clear hSw
  go_simp
  all_goals with_reducible rfl
 ·exact fun _ _ _ h=>h
 try simp only [Act.put,Lq1,Lq2,Lq3]
 refine TlAny.one 8 ?_
 intro K hK
 go_simp
 refine Calls.mono (idx_any (sv 1).x (sv 1).l v P.out.side.vb hv.2 (by omega) wd2 (P1.out.keep hHeld (by simp)).vrow) ?_
 rintro e2 w2 ⟨rfl,hm2⟩
 replace hHeld:=hHeld.trans hm2 (by simp)
 obtain ⟨z,hz⟩:∃ z:Int,z=lat (sv 1).l v:=⟨_,rfl⟩
 rw [<-hz]
 have HZ:=Lib.hid hz
 clear hm2 hz
 refine hK.out _ _ (fun _=>hHeld) ?_
 clear hK K
 try simp only [Act.put,Lq1,Lq2,Lq3]
 refine TlAny.one 9 ?_
 intro K hK
 go_simp
 refine hK.out _ _ (fun _=>hHeld) ?_
 clear hK K
 try simp only [Act.put,Lq1,Lq2,Lq3]
 refine TlAny.fin ?_
 have HR2:=Hxq (PlayR.same W1.out hM hHeld)
 clear hHeld
 have hrel:tn=max z 0/\bi=decide (0<=z):=by
  rw [HTN.out,HBI.out,HZ.out,tnum,lat]
  by_cases hin:v∈(sv 1).l
  ·simp [hin]
  ·simp only [if_neg hin,decide_eq_false hin]
   exact ⟨by decide,by decide⟩
 obtain ⟨rfl,rfl⟩:=hrel
 go_wp2_with fail
 all_goals (rw [HR.out];exact HR2.out)
set_option maxHeartbeats 8000000 in
theorem play3_0 (w0:World) (wb M:Nat) (cs:Array Value) (sv:Nat->SV) (hd:Value) (of:Nat) (n:Int) (v:Va.Val) (hv:VIn v) (hM:∀ k,k<2->(sv k).l.length<=M) (hM2:M<=4398046511102) (w:World) (hW:Wo w0 w wb cs sv hd of) :
  Calls Tryd.prog 8 #[.pointer (some ⟨wb,0,none⟩),.agg #[.bool false,.int .i64 3,.int .i64 n,.int .i64 v.k,.int .i64 v.n,.string (Lx.ofS v.s)]] w (PlayR w0 wb M):=by
 have mA:=(Mod.refl [] w).alloc (Obj.cells #[.bool false,.int .i64 3,.int .i64 n,.int .i64 v.k,.int .i64 v.n,.string (Lx.ofS v.s)] 38)
 have eA:=heap_alloc_new w (Obj.cells #[.bool false,.int .i64 3,.int .i64 n,.int .i64 v.k,.int .i64 v.n,.string (Lx.ofS v.s)] 38)
 obtain ⟨R,hR⟩:∃ R,R=PlayR w0 wb M:=⟨_,rfl⟩
 rw [<-hR]
 have HR:=Lib.hid hR;have HW:=Lib.hid hW
 have hnil:=seq2_nil
 clear hR hW
 go_enter Tryd.func8,Tryd.ntmps8
 go_upto_region 2 with fail
 generalize w.alloc (Obj.cells _ 38)=x0 at *
 generalize hb3:w.heap.size=b3 at *
 have W0:=Hxq (HW.out.past mA);have MA:=Lib.hid mA;have EA:=Lib.hid eA
 clear mA
 have d:=fun j=>cell_at eA j
 have d0:=d 0;have d1:=d 1;have d2:=d 2;have d3:=d 3;have d4:=d 4;have d5:=d 5
 simp only [List.getElem?_toArray,List.getElem?_cons_zero,List.getElem?_cons_succ] at d0 d1 d2 d3 d4 d5
 clear d eA
 have P:=Hxq (W0.out.pl 0 (by omega))
 have cP:x0.cell? ⟨wb,0,none⟩=some (.pointer (some ⟨(sv 0).p,0,none⟩)):=(cell_at P.out.blk 0).trans P.out.c0
 have cX:x0.cell? ⟨wb,2,none⟩=some (sv 0).x:=(cell_at P.out.blk 2).trans P.out.c2
 have cH:x0.cell? ⟨wb,4,none⟩=some hd:=(cell_at P.out.blk 4).trans W0.out.c4
 have cO:x0.cell? ⟨wb,5,none⟩=some (.int .i64 (of:Nat)):=(cell_at P.out.blk 5).trans W0.out.c5
 have hlM:=hM 0 (by omega)
 go_wp2_with fail
 refine Calls.mono (at_any (sv 0).p (sv 0).bm (sv 0).D (sv 0).va (sv 0).vc (sv 0).l n x0 P.out.side.tab) ?_
 rintro e1 w1 ⟨rfl,hm1⟩
 have W1:=Hxq (W0.out.past hm1)
 have HX:(sv 0).x=.slice (sv 0).xa (sv 0).l.length (sv 0).xc:=rfl
 rw [HX] at cX
 have cX:=hm1.cell cX (by simp);have d2:=hm1.cell d2 (by simp)
 have HV:=Hxq (W1.out.pl 0 (by omega)).side.vrow
 obtain ⟨y,hy⟩:∃ y:Va.Val,y=tAt (sv 0).l n:=⟨_,rfl⟩
 rw [<-hy]
 obtain ⟨bi,hbi⟩:∃ bi:Bool,bi=decide (0<=n/\n<(sv 0).l.length):=⟨_,rfl⟩
 rw [<-hbi]
 have HY:=Lib.hid hy;have HBI:=Lib.hid hbi
 clear hy hbi
 unfold valV
 go_upto_region 14 with fail
 have mB:=(Mod.refl [] w1).alloc (Obj.cells #[.int .i64 y.k,.int .i64 y.n,.string (Lx.ofS y.s)] 28)
 have eB:=heap_alloc_new w1 (Obj.cells #[.int .i64 y.k,.int .i64 y.n,.string (Lx.ofS y.s)] 28)
 generalize w1.alloc (Obj.cells _ 28)=w2 at *
 generalize w1.heap.size=b10 at *
 have y0:=cell_at eB 0;have y1:=cell_at eB 1;have y2:=cell_at eB 2
 simp only [List.getElem?_toArray,List.getElem?_cons_zero,List.getElem?_cons_succ] at y0 y1 y2
 have cX:=mB.cell cX (by simp);have d2:=mB.cell d2 (by simp)
 have HV2:=Hxq (HV.out.past mB (by simp))
 have HR2:=Hxq (fun nq=>PlayR.same W1.out hM (mB.drewN nq))
 have HR3:=Hxq (fun nq mq=>PlayR.same W1.out hM ((mB.drewN nq).drewN mq))
 clear mB eB hm1 HV
 by_cases hn:n<0
 ·have hy2:y=Va.zero:=by rw [HY.out,tAt,if_neg (by omega)]
  have hb2:bi=false:=by rw [HBI.out];exact decide_eq_false (by omega)
  subst hb2
  subst hy2
  clear HY HBI
  replace y0:w2.cell? ⟨b10,0,none⟩=some (.int .i64 0):=y0
  replace y1:w2.cell? ⟨b10,1,none⟩=some (.int .i64 0):=y1
  replace y2:w2.cell? ⟨b10,2,none⟩=some (.string ⟨#[]⟩):=y2
  go_quiet (fail)
  go_wp2_with fail
  all_goals (rw [HR.out];exact HR2.out _)
 ·by_cases hge:((sv 0).l.length:Int)<=n
  ·have hy2:y=Va.zero:=by rw [HY.out,tAt,if_neg (by omega)]
   have hb2:bi=false:=by rw [HBI.out];exact decide_eq_false (by omega)
   subst hb2
   subst hy2
   clear HY HBI
   replace y0:w2.cell? ⟨b10,0,none⟩=some (.int .i64 0):=y0
   replace y1:w2.cell? ⟨b10,1,none⟩=some (.int .i64 0):=y1
   replace y2:w2.cell? ⟨b10,2,none⟩=some (.string ⟨#[]⟩):=y2
   go_quiet (fail)
   go_wp2_with fail
   all_goals (rw [HR.out];exact HR2.out _)
  ·obtain ⟨i,rfl⟩:∃ i:Nat,n=(i:Nat):=⟨n.toNat,by omega⟩
   have hi:i<(sv 0).l.length:=by omega
   have hiI:(i:Int)<((sv 0).l.length:Int):=by omega
   have hi0:(0:Int)<=(i:Int):=by omega
   have hb2:bi=true:=by rw [HBI.out];exact decide_eq_true ⟨by omega,hiI⟩
   have hy2:y=(sv 0).l[i]:=by rw [HY.out,tAt,if_pos ⟨by omega,hiI⟩,Int.toNat_natCast,List.getD_eq_getElem?_getD,List.getElem?_eq_getElem hi];rfl
   subst hb2
   obtain ⟨g1,o1,e1,hva⟩:=HV2.out.at i hi
   rw [<-hy2] at hva
   obtain ⟨a0,a1,a2⟩:=hva
   rw [e1] at cX
   clear HY hy2 HBI HV2
   go_quiet (fail)
   go_upto_region 16 with fail
   go_quiet (fail)
   go_wp2_with fail
   rw [HR.out]
   first | exact HR3.out _ _ | exact HR2.out _
set_option maxHeartbeats 8000000 in
theorem play3_1 (w0:World) (wb M:Nat) (cs:Array Value) (sv:Nat->SV) (hd:Value) (of:Nat) (n:Int) (v:Va.Val) (hv:VIn v) (hM:∀ k,k<2->(sv k).l.length<=M) (hM2:M<=4398046511102) (w:World) (hW:Wo w0 w wb cs sv hd of) :
  Calls Tryd.prog 8 #[.pointer (some ⟨wb,0,none⟩),.agg #[.bool true,.int .i64 3,.int .i64 n,.int .i64 v.k,.int .i64 v.n,.string (Lx.ofS v.s)]] w (PlayR w0 wb M):=by
 have mA:=(Mod.refl [] w).alloc (Obj.cells #[.bool true,.int .i64 3,.int .i64 n,.int .i64 v.k,.int .i64 v.n,.string (Lx.ofS v.s)] 38)
 have eA:=heap_alloc_new w (Obj.cells #[.bool true,.int .i64 3,.int .i64 n,.int .i64 v.k,.int .i64 v.n,.string (Lx.ofS v.s)] 38)
 obtain ⟨R,hR⟩:∃ R,R=PlayR w0 wb M:=⟨_,rfl⟩
 rw [<-hR]
 have HR:=Lib.hid hR;have HW:=Lib.hid hW
 have hnil:=seq2_nil
 clear hR hW
 go_enter Tryd.func8,Tryd.ntmps8
 go_upto_region 2 with fail
 generalize w.alloc (Obj.cells _ 38)=x0 at *
 generalize hb3:w.heap.size=b3 at *
 have W0:=Hxq (HW.out.past mA);have MA:=Lib.hid mA;have EA:=Lib.hid eA
 clear mA
 have d:=fun j=>cell_at eA j
 have d0:=d 0;have d1:=d 1;have d2:=d 2;have d3:=d 3;have d4:=d 4;have d5:=d 5
 simp only [List.getElem?_toArray,List.getElem?_cons_zero,List.getElem?_cons_succ] at d0 d1 d2 d3 d4 d5
 clear d eA
 have P:=Hxq (W0.out.pl 1 (by omega))
 have cP:x0.cell? ⟨wb,1,none⟩=some (.pointer (some ⟨(sv 1).p,0,none⟩)):=(cell_at P.out.blk 1).trans P.out.c0
 have cX:x0.cell? ⟨wb,3,none⟩=some (sv 1).x:=(cell_at P.out.blk 3).trans P.out.c2
 have cH:x0.cell? ⟨wb,4,none⟩=some hd:=(cell_at P.out.blk 4).trans W0.out.c4
 have cO:x0.cell? ⟨wb,5,none⟩=some (.int .i64 (of:Nat)):=(cell_at P.out.blk 5).trans W0.out.c5
 have hlM:=hM 1 (by omega)
 go_wp2_with fail
 refine Calls.mono (at_any (sv 1).p (sv 1).bm (sv 1).D (sv 1).va (sv 1).vc (sv 1).l n x0 P.out.side.tab) ?_
 rintro e1 w1 ⟨rfl,hm1⟩
 have W1:=Hxq (W0.out.past hm1)
 have HX:(sv 1).x=.slice (sv 1).xa (sv 1).l.length (sv 1).xc:=rfl
 rw [HX] at cX
 have cX:=hm1.cell cX (by simp);have d2:=hm1.cell d2 (by simp)
 have HV:=Hxq (W1.out.pl 1 (by omega)).side.vrow
 obtain ⟨y,hy⟩:∃ y:Va.Val,y=tAt (sv 1).l n:=⟨_,rfl⟩
 rw [<-hy]
 obtain ⟨bi,hbi⟩:∃ bi:Bool,bi=decide (0<=n/\n<(sv 1).l.length):=⟨_,rfl⟩
 rw [<-hbi]
 have HY:=Lib.hid hy;have HBI:=Lib.hid hbi
 clear hy hbi
 unfold valV
 go_upto_region 14 with fail
 have mB:=(Mod.refl [] w1).alloc (Obj.cells #[.int .i64 y.k,.int .i64 y.n,.string (Lx.ofS y.s)] 28)
 have eB:=heap_alloc_new w1 (Obj.cells #[.int .i64 y.k,.int .i64 y.n,.string (Lx.ofS y.s)] 28)
 generalize w1.alloc (Obj.cells _ 28)=w2 at *
 generalize w1.heap.size=b10 at *
 have y0:=cell_at eB 0;have y1:=cell_at eB 1;have y2:=cell_at eB 2
 simp only [List.getElem?_toArray,List.getElem?_cons_zero,List.getElem?_cons_succ] at y0 y1 y2
 have cX:=mB.cell cX (by simp);have d2:=mB.cell d2 (by simp)
 have HV2:=Hxq (HV.out.past mB (by simp))
 have HR2:=Hxq (fun nq=>PlayR.same W1.out hM (mB.drewN nq))
 have HR3:=Hxq (fun nq mq=>PlayR.same W1.out hM ((mB.drewN nq).drewN mq))
 clear mB eB hm1 HV
 by_cases hn:n<0
 ·have hy2:y=Va.zero:=by rw [HY.out,tAt,if_neg (by omega)]
  have hb2:bi=false:=by rw [HBI.out];exact decide_eq_false (by omega)
  subst hb2
  subst hy2
  clear HY HBI
  replace y0:w2.cell? ⟨b10,0,none⟩=some (.int .i64 0):=y0
  replace y1:w2.cell? ⟨b10,1,none⟩=some (.int .i64 0):=y1
  replace y2:w2.cell? ⟨b10,2,none⟩=some (.string ⟨#[]⟩):=y2
  go_quiet (fail)
  go_wp2_with fail
  all_goals (rw [HR.out];exact HR2.out _)
 ·by_cases hge:((sv 1).l.length:Int)<=n
  ·have hy2:y=Va.zero:=by rw [HY.out,tAt,if_neg (by omega)]
   have hb2:bi=false:=by rw [HBI.out];exact decide_eq_false (by omega)
   subst hb2
   subst hy2
   clear HY HBI
   replace y0:w2.cell? ⟨b10,0,none⟩=some (.int .i64 0):=y0
   replace y1:w2.cell? ⟨b10,1,none⟩=some (.int .i64 0):=y1
   replace y2:w2.cell? ⟨b10,2,none⟩=some (.string ⟨#[]⟩):=y2
   go_quiet (fail)
   go_wp2_with fail
   all_goals (rw [HR.out];exact HR2.out _)
  ·obtain ⟨i,rfl⟩:∃ i:Nat,n=(i:Nat):=⟨n.toNat,by omega⟩
   have hi:i<(sv 1).l.length:=by omega
   have hiI:(i:Int)<((sv 1).l.length:Int):=by omega
   have hi0:(0:Int)<=(i:Int):=by omega
   have hb2:bi=true:=by rw [HBI.out];exact decide_eq_true ⟨by omega,hiI⟩
   have hy2:y=(sv 1).l[i]:=by rw [HY.out,tAt,if_pos ⟨by omega,hiI⟩,Int.toNat_natCast,List.getD_eq_getElem?_getD,List.getElem?_eq_getElem hi];rfl
   subst hb2
   obtain ⟨g1,o1,e1,hva⟩:=HV2.out.at i hi
   rw [<-hy2] at hva
   obtain ⟨a0,a1,a2⟩:=hva
   rw [e1] at cX
   clear HY hy2 HBI HV2
   go_quiet (fail)
   go_upto_region 16 with fail
   go_quiet (fail)
   go_wp2_with fail
   rw [HR.out]
   first | exact HR3.out _ _ | exact HR2.out _
set_option maxHeartbeats 8000000 in
theorem play4_0 (w0:World) (wb M:Nat) (cs:Array Value) (sv:Nat->SV) (hd:Value) (of:Nat) (n:Int) (v:Va.Val) (hv:VIn v) (hM:∀ k,k<2->(sv k).l.length<=M) (hM2:M<=4398046511102) (w:World) (hW:Wo w0 w wb cs sv hd of) :
  Calls Tryd.prog 8 #[.pointer (some ⟨wb,0,none⟩),.agg #[.bool false,.int .i64 4,.int .i64 n,.int .i64 v.k,.int .i64 v.n,.string (Lx.ofS v.s)]] w (PlayR w0 wb M):=by
 have mA:=(Mod.refl [] w).alloc (Obj.cells #[.bool false,.int .i64 4,.int .i64 n,.int .i64 v.k,.int .i64 v.n,.string (Lx.ofS v.s)] 38)
 have eA:=heap_alloc_new w (Obj.cells #[.bool false,.int .i64 4,.int .i64 n,.int .i64 v.k,.int .i64 v.n,.string (Lx.ofS v.s)] 38)
 obtain ⟨R,hR⟩:∃ R,R=PlayR w0 wb M:=⟨_,rfl⟩
 rw [<-hR]
 have HR:=Lib.hid hR;have HW:=Lib.hid hW
 have hnil:=seq2_nil
 clear hR hW
 go_enter Tryd.func8,Tryd.ntmps8
 go_upto_region 2 with fail
 generalize w.alloc (Obj.cells _ 38)=x0 at *
 generalize hb3:w.heap.size=b3 at *
 have W0:=Hxq (HW.out.past mA);have MA:=Lib.hid mA;have EA:=Lib.hid eA
 clear mA
 have d:=fun j=>cell_at eA j
 have d0:=d 0;have d1:=d 1;have d2:=d 2;have d3:=d 3;have d4:=d 4;have d5:=d 5
 simp only [List.getElem?_toArray,List.getElem?_cons_zero,List.getElem?_cons_succ] at d0 d1 d2 d3 d4 d5
 clear d eA
 have P:=Hxq (W0.out.pl 0 (by omega))
 have cP:x0.cell? ⟨wb,0,none⟩=some (.pointer (some ⟨(sv 0).p,0,none⟩)):=(cell_at P.out.blk 0).trans P.out.c0
 have cX:x0.cell? ⟨wb,2,none⟩=some (sv 0).x:=(cell_at P.out.blk 2).trans P.out.c2
 have cH:x0.cell? ⟨wb,4,none⟩=some hd:=(cell_at P.out.blk 4).trans W0.out.c4
 have cO:x0.cell? ⟨wb,5,none⟩=some (.int .i64 (of:Nat)):=(cell_at P.out.blk 5).trans W0.out.c5
 have hlM:=hM 0 (by omega)
 have HX:(sv 0).x=.slice (sv 0).xa (sv 0).l.length (sv 0).xc:=rfl
 rw [HX] at cX
 go_upto_region 18 with fail
 refine tl_region (fun wS=>Mod [] x0 wS) [] (by kernel_rfl) ?_
 have hHeld:Mod [] x0 x0.drew:=(Mod.refl [] x0).drew
 try simp only [Act.put,Lq1,Lq2,Lq3]
 generalize x0.drew=wd2 at *
 refine TlAny.take 0 (v:=?_) hHeld ?_ ?_ ?_
 rotate_left 1
 ·refine Or.inl ⟨by rfl,?_⟩
  intro wS hSw
  replace hSw:Mod [] x0 wS:=hSw
  clear hSw
  go_simp
  all_goals with_reducible rfl
 ·exact fun _ _ _ h=>h
 try simp only [Act.put,Lq1,Lq2,Lq3]
 refine TlAny.take 2 (v:=?_) hHeld ?_ ?_ ?_
 rotate_left 1
 ·refine Or.inl ⟨by rfl,?_⟩
  intro wS hSw
  replace hSw:Mod [] x0 wS:=hSw
  clear hSw
  go_simp
  all_goals with_reducible rfl
 ·exact fun _ _ _ h=>h
 try simp only [Act.put,Lq1,Lq2,Lq3]
 refine TlAny.take 3 (v:=?_) hHeld ?_ ?_ ?_
 rotate_left 1
 ·refine Or.inl ⟨by rfl,?_⟩
  intro wS hSw
  replace hSw:Mod [] x0 wS:=hSw
  clear hSw
  go_simp
  all_goals with_reducible rfl
 ·exact fun _ _ _ h=>h
 try simp only [Act.put,Lq1,Lq2,Lq3]
 refine TlAny.take 4 (v:=?_) hHeld ?_ ?_ ?_
 rotate_left 1
 ·refine Or.inl ⟨by rfl,?_⟩
  intro wS hSw
  replace hSw:Mod [] x0 wS:=hSw
  clear hSw
  go_simp
  all_goals with_reducible rfl
 ·exact fun _ _ _ h=>h
 try simp only [Act.put,Lq1,Lq2,Lq3]
 refine TlAny.take 5 (v:=?_) hHeld ?_ ?_ ?_
 rotate_left 1
 ·refine Or.inl ⟨by rfl,?_⟩
  intro wS hSw
  replace hSw:Mod [] x0 wS:=hSw
  clear hSw
  go_simp
  all_goals with_reducible rfl
 ·exact fun _ _ _ h=>h
 try simp only [Act.put,Lq1,Lq2,Lq3]
 refine TlAny.take 6 (v:=?_) hHeld ?_ ?_ ?_
 rotate_left 1
 ·refine Or.inl ⟨by rfl,?_⟩
  intro wS hSw
  replace hSw:Mod [] x0 wS:=hSw
  clear hSw
  go_simp
  all_goals with_reducible rfl
 ·exact fun _ _ _ h=>h
 try simp only [Act.put,Lq1,Lq2,Lq3]
 refine TlAny.take 7 (v:=?_) hHeld ?_ ?_ ?_
 rotate_left 1
 ·refine Or.inl ⟨by rfl,?_⟩
  intro wS hSw
  replace hSw:Mod [] x0 wS:=hSw
  have p:=hSw.cell cX (by simp)
  clear hSw
  go_simp
  all_goals with_reducible rfl
 ·exact fun _ _ _ h=>h
 try simp only [Act.put,Lq1,Lq2,Lq3]
 refine TlAny.take 8 (v:=?_) hHeld ?_ ?_ ?_
 rotate_left 1
 ·refine Or.inl ⟨by rfl,?_⟩
  intro wS hSw
  replace hSw:Mod [] x0 wS:=hSw
  clear hSw
  go_simp
  all_goals with_reducible rfl
 ·exact fun _ _ _ h=>h
 try simp only [Act.put,Lq1,Lq2,Lq3]
 refine TlAny.one 1 ?_
 intro K hK
 go_simp
 refine Calls.mono (len_any (sv 0).p (sv 0).bm (sv 0).D (sv 0).va (sv 0).vc (sv 0).l wd2 (P.out.side.keep hHeld (by simp)).tab) ?_
 rintro e2 w2 ⟨rfl,hm2⟩
 replace hHeld:=hHeld.trans hm2 (by simp)
 clear hm2
 refine hK.out _ _ (fun _=>hHeld) ?_
 clear hK K
 try simp only [Act.put,Lq1,Lq2,Lq3]
 refine TlAny.one 9 ?_
 intro K hK
 go_simp
 refine hK.out _ _ (fun _=>hHeld) ?_
 clear hK K
 try simp only [Act.put,Lq1,Lq2,Lq3]
 refine TlAny.one 10 ?_
 intro K hK
 go_simp
 refine hK.out _ _ (fun _=>hHeld) ?_
 clear hK K
 try simp only [Act.put,Lq1,Lq2,Lq3]
 refine TlAny.fin ?_
 have HR2:=Hxq (PlayR.same W0.out hM hHeld)
 clear hHeld
 go_wp2_with fail
 rw [HR.out]
 exact HR2.out
set_option maxHeartbeats 8000000 in
theorem play4_1 (w0:World) (wb M:Nat) (cs:Array Value) (sv:Nat->SV) (hd:Value) (of:Nat) (n:Int) (v:Va.Val) (hv:VIn v) (hM:∀ k,k<2->(sv k).l.length<=M) (hM2:M<=4398046511102) (w:World) (hW:Wo w0 w wb cs sv hd of) :
  Calls Tryd.prog 8 #[.pointer (some ⟨wb,0,none⟩),.agg #[.bool true,.int .i64 4,.int .i64 n,.int .i64 v.k,.int .i64 v.n,.string (Lx.ofS v.s)]] w (PlayR w0 wb M):=by
 have mA:=(Mod.refl [] w).alloc (Obj.cells #[.bool true,.int .i64 4,.int .i64 n,.int .i64 v.k,.int .i64 v.n,.string (Lx.ofS v.s)] 38)
 have eA:=heap_alloc_new w (Obj.cells #[.bool true,.int .i64 4,.int .i64 n,.int .i64 v.k,.int .i64 v.n,.string (Lx.ofS v.s)] 38)
 obtain ⟨R,hR⟩:∃ R,R=PlayR w0 wb M:=⟨_,rfl⟩
 rw [<-hR]
 have HR:=Lib.hid hR;have HW:=Lib.hid hW
 have hnil:=seq2_nil
 clear hR hW
 go_enter Tryd.func8,Tryd.ntmps8
 go_upto_region 2 with fail
 generalize w.alloc (Obj.cells _ 38)=x0 at *
 generalize hb3:w.heap.size=b3 at *
 have W0:=Hxq (HW.out.past mA);have MA:=Lib.hid mA;have EA:=Lib.hid eA
 clear mA
 have d:=fun j=>cell_at eA j
 have d0:=d 0;have d1:=d 1;have d2:=d 2;have d3:=d 3;have d4:=d 4;have d5:=d 5
 simp only [List.getElem?_toArray,List.getElem?_cons_zero,List.getElem?_cons_succ] at d0 d1 d2 d3 d4 d5
 clear d eA
 have P:=Hxq (W0.out.pl 1 (by omega))
 have cP:x0.cell? ⟨wb,1,none⟩=some (.pointer (some ⟨(sv 1).p,0,none⟩)):=(cell_at P.out.blk 1).trans P.out.c0
 have cX:x0.cell? ⟨wb,3,none⟩=some (sv 1).x:=(cell_at P.out.blk 3).trans P.out.c2
 have cH:x0.cell? ⟨wb,4,none⟩=some hd:=(cell_at P.out.blk 4).trans W0.out.c4
 have cO:x0.cell? ⟨wb,5,none⟩=some (.int .i64 (of:Nat)):=(cell_at P.out.blk 5).trans W0.out.c5
 have hlM:=hM 1 (by omega)
 have HX:(sv 1).x=.slice (sv 1).xa (sv 1).l.length (sv 1).xc:=rfl
 rw [HX] at cX
 go_upto_region 18 with fail
 refine tl_region (fun wS=>Mod [] x0 wS) [] (by kernel_rfl) ?_
 have hHeld:Mod [] x0 x0.drew:=(Mod.refl [] x0).drew
 try simp only [Act.put,Lq1,Lq2,Lq3]
 generalize x0.drew=wd2 at *
 refine TlAny.take 0 (v:=?_) hHeld ?_ ?_ ?_
 rotate_left 1
 ·refine Or.inl ⟨by rfl,?_⟩
  intro wS hSw
  replace hSw:Mod [] x0 wS:=hSw
  clear hSw
  go_simp
  all_goals with_reducible rfl
 ·exact fun _ _ _ h=>h
 try simp only [Act.put,Lq1,Lq2,Lq3]
 refine TlAny.take 2 (v:=?_) hHeld ?_ ?_ ?_
 rotate_left 1
 ·refine Or.inl ⟨by rfl,?_⟩
  intro wS hSw
  replace hSw:Mod [] x0 wS:=hSw
  clear hSw
  go_simp
  all_goals with_reducible rfl
 ·exact fun _ _ _ h=>h
 try simp only [Act.put,Lq1,Lq2,Lq3]
 refine TlAny.take 3 (v:=?_) hHeld ?_ ?_ ?_
 rotate_left 1
 ·refine Or.inl ⟨by rfl,?_⟩
  intro wS hSw
  replace hSw:Mod [] x0 wS:=hSw
  clear hSw
  go_simp
  all_goals with_reducible rfl
 ·exact fun _ _ _ h=>h
 try simp only [Act.put,Lq1,Lq2,Lq3]
 refine TlAny.take 4 (v:=?_) hHeld ?_ ?_ ?_
 rotate_left 1
 ·refine Or.inl ⟨by rfl,?_⟩
  intro wS hSw
  replace hSw:Mod [] x0 wS:=hSw
  clear hSw
  go_simp
  all_goals with_reducible rfl
 ·exact fun _ _ _ h=>h
 try simp only [Act.put,Lq1,Lq2,Lq3]
 refine TlAny.take 5 (v:=?_) hHeld ?_ ?_ ?_
 rotate_left 1
 ·refine Or.inl ⟨by rfl,?_⟩
  intro wS hSw
  replace hSw:Mod [] x0 wS:=hSw
  clear hSw
  go_simp
  all_goals with_reducible rfl
 ·exact fun _ _ _ h=>h
 try simp only [Act.put,Lq1,Lq2,Lq3]
 refine TlAny.take 6 (v:=?_) hHeld ?_ ?_ ?_
 rotate_left 1
 ·refine Or.inl ⟨by rfl,?_⟩
  intro wS hSw
  replace hSw:Mod [] x0 wS:=hSw
  clear hSw
  go_simp
  all_goals with_reducible rfl
 ·exact fun _ _ _ h=>h
 try simp only [Act.put,Lq1,Lq2,Lq3]
 refine TlAny.take 7 (v:=?_) hHeld ?_ ?_ ?_
 rotate_left 1
 ·refine Or.inl ⟨by rfl,?_⟩
  intro wS hSw
  replace hSw:Mod [] x0 wS:=hSw
  have p:=hSw.cell cX (by simp)
  clear hSw
  go_simp
  all_goals with_reducible rfl
 ·exact fun _ _ _ h=>h
 try simp only [Act.put,Lq1,Lq2,Lq3]
 refine TlAny.take 8 (v:=?_) hHeld ?_ ?_ ?_
 rotate_left 1
 ·refine Or.inl ⟨by rfl,?_⟩
  intro wS hSw
  replace hSw:Mod [] x0 wS:=hSw
  clear hSw
  go_simp
  all_goals with_reducible rfl
 ·exact fun _ _ _ h=>h
 try simp only [Act.put,Lq1,Lq2,Lq3]
 refine TlAny.one 1 ?_
 intro K hK
 go_simp
 refine Calls.mono (len_any (sv 1).p (sv 1).bm (sv 1).D (sv 1).va (sv 1).vc (sv 1).l wd2 (P.out.side.keep hHeld (by simp)).tab) ?_
 rintro e2 w2 ⟨rfl,hm2⟩
 replace hHeld:=hHeld.trans hm2 (by simp)
 clear hm2
 refine hK.out _ _ (fun _=>hHeld) ?_
 clear hK K
 try simp only [Act.put,Lq1,Lq2,Lq3]
 refine TlAny.one 9 ?_
 intro K hK
 go_simp
 refine hK.out _ _ (fun _=>hHeld) ?_
 clear hK K
 try simp only [Act.put,Lq1,Lq2,Lq3]
 refine TlAny.one 10 ?_
 intro K hK
 go_simp
 refine hK.out _ _ (fun _=>hHeld) ?_
 clear hK K
 try simp only [Act.put,Lq1,Lq2,Lq3]
 refine TlAny.fin ?_
 have HR2:=Hxq (PlayR.same W0.out hM hHeld)
 clear hHeld
 go_wp2_with fail
 rw [HR.out]
 exact HR2.out
end Go.Proofs.YtdablillhbfgkaaDoor
