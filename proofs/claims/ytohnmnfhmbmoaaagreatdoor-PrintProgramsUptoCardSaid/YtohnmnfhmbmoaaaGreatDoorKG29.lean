/- THE TEXTS MERGED: P5Expr3. -/
import Derived.Test.YtohnmnfhmbmoaaaGreatDoorKG28
namespace Go.Proofs.YtohnmnfhmbmoaaaGreatDoor
open Go.RowKit
set_option linter.unusedVariables false
set_option linter.unusedSimpArgs false
set_option maxRecDepth 100000
theorem pE_bin (j:Nat) (e a b:Pr.Ex) (hk4:e.k=4) (hv:e.v.size=0) (hx:e.x=Va.zero) (ho:1<=e.op/\e.op<=5) (ha:e.args=[a,b]) :
  Pr.pE (j+2) e=match argO j (decide (rbinds a<rbinds e)) a,argO j (decide (rbinds b<=rbinds e)) b with | some l,some r=>some (l++(rsign e.op++r)) | _,_=>none:=by
 have hs:0<Pr.strength e.op:=by
  unfold Pr.strength
  repeat' split
  all_goals omega
 have hre:rbinds e=Pr.strength e.op:=by
  rw [rbinds_eq (fun h=>by omega)]
  unfold Pr.binds
  rw [if_pos hk4]
 have hsg:rsign e.op=32 :: (Pr.sign e.op++[32]):=by
  have:e.op=1\/e.op=2\/e.op=3\/e.op=4\/e.op=5:=by omega
  rcases this with h | h | h | h | h <;> rw [h] <;> rfl
 rw [Pr.pE_op _ _ hk4,if_pos ⟨hv,hx,hs⟩,Pr.pO,ha]
 simp only
 rw [if_neg (by omega),hre]
 have e1:argO j (decide (rbinds a<Pr.strength e.op)) a=if Pr.binds a<Pr.strength e.op then (Pr.pE j a).map (fun t=>40 :: (t++[41])) else Pr.pE (j+1) a:=by
  unfold argO wrapO
  by_cases hb:a.k=4/\Pr.strength a.op=0
  ·rw [pE_bad hb,pE_bad hb]
   split <;> split <;> rfl
  ·rw [rbinds_eq hb]
   by_cases h1:Pr.binds a<Pr.strength e.op
   ·rw [if_pos h1,if_pos (decide_eq_true (by omega))]
   ·rw [if_neg h1,if_neg (by simp;omega)]
 have e2:argO j (decide (rbinds b<=Pr.strength e.op)) b=if Pr.binds b<=Pr.strength e.op then (Pr.pE j b).map (fun t=>40 :: (t++[41])) else Pr.pE (j+1) b:=by
  unfold argO wrapO
  by_cases hb:b.k=4/\Pr.strength b.op=0
  ·rw [pE_bad hb,pE_bad hb]
   split <;> split <;> rfl
  ·rw [rbinds_eq hb]
   by_cases h1:Pr.binds b<=Pr.strength e.op
   ·rw [if_pos h1,if_pos (decide_eq_true (by omega))]
   ·rw [if_neg h1,if_neg (by simp;omega)]
 rw [e1,e2,hsg]
 split <;> simp_all
set_option maxHeartbeats 4000000 in
theorem rexpr_bin (j:Nat) (hj:j<=18) (h0:ExR j) (h1:ExR (j+1)) (e a b:Pr.Ex) (u:Value) (d:Int) (w:World) (hk4:e.k=4) (hd:d=(j:Int)+1) (hv:e.v.size=0) (hx:e.x=Va.zero) (ho:1<=e.op/\e.op<=5) (ha:e.args=[a,b]) (hE:EOk w e u) (hG:GlobV w) (hw:exWt e<=140737488000000) :
  Calls Tryz.prog 125 #[.agg (exV e u),.int .i64 d] w (TxR (Pr.pE (j+2) e) (exWt e) w):=by
 obtain ⟨ua,uc,rfl⟩:=hE.lit
 have HSP:=Hxq (pE_bin j e a b hk4 hv hx ho ha)
 have hal:e.args.length=2:=by rw [ha];rfl
 obtain ⟨g,off,au,rfl,hat,hEa⟩:=hE.at 0 (by omega)
 obtain ⟨g2,off2,bu,hg2,hbt,hEb⟩:=hE.at 1 (by omega)
 simp only [Option.some.injEq,Addr.mk.injEq,and_true] at hg2
 obtain ⟨rfl,rfl⟩:=hg2
 have ha0:e.args[0]'(by omega)=a:=by simp [ha]
 have hb0:e.args[1]'(by omega)=b:=by simp [ha]
 rw [ha0] at hat hEa
 rw [hb0] at hbt hEb
 have hwa:exWt a+exWt b+300<=exWt e:=by rw [exWt_eq e,ha,exWts,exWts,exWts];omega
 have hsg:(Lx.ofS (rsign e.op)).size<=5:=by
  rw [ofS_size]
  unfold rsign
  repeat' split
  all_goals decide
 have hm0:=((Mod.refl [] w).alloc (Obj.cells (exV e (.slice (some ⟨g,off,none⟩) e.args.length uc)) 38)).alloc (Obj.cells #[.string ⟨#[]⟩,.bool false] 92)
 have e0:=two_a w (exV e (.slice (some ⟨g,off,none⟩) e.args.length uc)) #[.string ⟨#[]⟩,.bool false] 38 92
 have e1:=two_b w (exV e (.slice (some ⟨g,off,none⟩) e.args.length uc)) #[.string ⟨#[]⟩,.bool false] 38 92
 have zA:((w.alloc (Obj.cells (exV e (.slice (some ⟨g,off,none⟩) e.args.length uc)) 38)).alloc (Obj.cells #[.string ⟨#[]⟩,.bool false] 92)).heap.size=w.heap.size+2:=by simp
 have k1B:(e.k == 1)=false:=by rw [hk4];rfl
 have k2B:(e.k == 2)=false:=by rw [hk4];rfl
 have k4B:(e.k != 4)=false:=by rw [hk4];rfl
 have hve:=fun W=>vne_run e.x W
 rw [decide_eq_true hx] at hve
 have hem:=toList_isEmpty e.v
 rw [decide_eq_true hv] at hem
 have hd1:¬ d<1:=by omega
 have o1:(e.op == 6)=false:=by rw [beq_eq_false_iff_ne];omega
 have o2:¬ e.op<1:=by omega
 have o3:¬ 6<e.op:=by omega
 have l1:((e.args.length:Int) != 2)=false:=by rw [hal];rfl
 have l2:(0:Int)<(e.args.length:Int):=by omega
 have l3:(1:Int)<(e.args.length:Int):=by omega
 have l2N:0<e.args.length:=by omega
 have l3N:1<e.args.length:=by omega
 obtain ⟨aa,ac,rfl⟩:=hEa.lit
 obtain ⟨ba,bc,rfl⟩:=hEb.lit
 have HE:=Lib.hid hEa;have HEB:=Lib.hid hEb;have HG:=Lib.hid hG;have HAT:=Lib.hid hat;have HBT:=Lib.hid hbt;have H0:=Lib.hid h0;have H1:=Lib.hid h1;have HWA:=Lib.hid hwa;have HSG:=Lib.hid hsg;have HW:=Lib.hid hw
 have HWR:Hid (IntKind.i64.wrap (d - 1)=(j:Int)):=Hxq (by rw [hd];simp [IntKind.wrap,IntKind.signed,IntKind.bits];omega)
 have hdr:d<=20:=by omega
 have hdg:1<=d:=by omega
 clear hE hk4 hd hv hx ho ha hEa hEb hG hat hbt h0 h1 ha0 hb0 hal hwa hsg
 unfold exV at *
 go_enter Tryz.func125,Tryz.ntmps125
 go_upto_region 1 with fail
 generalize (w.alloc (Obj.cells _ 38)).alloc (Obj.cells _ 92)=w0 at *
 have M0:=Lib.hid hm0;have E0:=Lib.hid e0;have E1:=Lib.hid e1;have ZA:=Lib.hid zA
 clear hm0 e0 e1 zA
 have x0:=cell_at E0.out 0;have x1:=cell_at E0.out 1;have x2:=cell_at E0.out 2;have x3:=cell_at E0.out 3;have x4:=cell_at E0.out 4;have x5:=cell_at E0.out 5;have x6:=cell_at E0.out 6
 simp only [List.getElem?_toArray,List.getElem?_cons_zero,List.getElem?_cons_succ] at x0 x1 x2 x3 x4 x5 x6
 go_upto_region 17 with fail
 clear x0 x1 x2 x3 x4 x5 x6
 have x0:=cell_at E0.out 0;have x1:=cell_at E0.out 1;have x2:=cell_at E0.out 2;have x3:=cell_at E0.out 3;have x4:=cell_at E0.out 4;have x5:=cell_at E0.out 5;have x6:=cell_at E0.out 6
 simp only [List.getElem?_toArray,List.getElem?_cons_zero,List.getElem?_cons_succ] at x0 x1 x2 x3 x4 x5 x6
 have hat:=HAT.out
 have r0:=M0.out.cell hat.c0 (by simp);have r1:=M0.out.cell hat.c1 (by simp);have r2:=M0.out.cell hat.c2 (by simp);have r3:=M0.out.cell hat.c3 (by simp);have r4:=M0.out.cell hat.c4 (by simp);have r5:=M0.out.cell hat.c5 (by simp);have r6:=M0.out.cell hat.c6 (by simp)
 simp only [Nat.zero_mul,Nat.add_zero] at r0 r1 r2 r3 r4 r5 r6
 clear hat
 have HEa:=Hxq (HE.out.past M0.out);have HEb:=Hxq (HEB.out.past M0.out)
 have HGa:=Hxq (HG.out.past M0.out (by simp))
 go_cut [9] (fun c wx=>∃ (p8:Nat) (s:ByteArray) (b':Bool),c=.pointer (some ⟨p8,0,none⟩)/\wx.heap[p8]?=some (.cells #[.string s,.bool b'] 92 (0,0))/\s.size<=exWt a+2/\(∀ t,argO j (decide (rbinds a<rbinds e)) a=some t->b'=false/\s=Lx.ofS t)/\(argO j (decide (rbinds a<rbinds e)) a=none->b'=true)/\Mod [] w0 wx/\w0.heap.size<=p8)
 case first =>
  refine tl_region (fun wS=>Mod [] w0 wS) [16] (by kernel_rfl) ?_
  have hHeld:Mod [] w0 w0.drew:=(Mod.refl [] w0).drew
  try simp only [Act.put,Lq1,Lq2,Lq3]
  generalize w0.drew=wd at *
  refine TlAny.take 0 (v:=?_) hHeld ?_ ?_ ?_
  rotate_left 1
  ·refine Or.inl ⟨by rfl,?_⟩
   intro wS hSw
   replace hSw:Mod [] w0 wS:=hSw
   clear hSw
   go_simp
   all_goals with_reducible rfl
  ·exact fun _ _ _ h=>h
  try simp only [Act.put,Lq1,Lq2,Lq3]
  refine TlAny.take 1 (v:=?_) hHeld ?_ ?_ ?_
  rotate_left 1
  ·refine Or.inl ⟨by rfl,?_⟩
   intro wS hSw
   replace hSw:Mod [] w0 wS:=hSw
   have p:=hSw.cell x6 (by simp)
   clear hSw
   go_simp
   all_goals with_reducible rfl
  ·exact fun _ _ _ h=>h
  try simp only [Act.put,Lq1,Lq2,Lq3]
  refine TlAny.take 2 (v:=?_) hHeld ?_ ?_ ?_
  rotate_left 1
  ·refine Or.inl ⟨by rfl,?_⟩
   intro wS hSw
   replace hSw:Mod [] w0 wS:=hSw
   clear hSw
   go_simp;(try rw [if_pos l2N])
   all_goals with_reducible rfl
  ·exact fun _ _ _ h=>h
  try simp only [Act.put,Lq1,Lq2,Lq3]
  refine TlAny.take 3 (v:=?_) hHeld ?_ ?_ ?_
  rotate_left 1
  ·refine Or.inl ⟨by rfl,?_⟩
   intro wS hSw
   replace hSw:Mod [] w0 wS:=hSw
   have p0:=hSw.cell r0 (by simp)
   have p1:=hSw.cell r1 (by simp)
   have p2:=hSw.cell r2 (by simp)
   have p3:=hSw.cell r3 (by simp)
   have p4:=hSw.cell r4 (by simp)
   have p5:=hSw.cell r5 (by simp)
   have p6:=hSw.cell r6 (by simp)
   clear hSw
   go_simp
   all_goals with_reducible rfl
  ·exact fun _ _ _ h=>h
  try simp only [Act.put,Lq1,Lq2,Lq3]
  refine TlAny.take 4 (v:=?_) hHeld ?_ ?_ ?_
  rotate_left 1
  ·refine Or.inl ⟨by rfl,?_⟩
   intro wS hSw
   replace hSw:Mod [] w0 wS:=hSw
   clear hSw
   go_simp
   all_goals with_reducible rfl
  ·exact fun _ _ _ h=>h
  try simp only [Act.put,Lq1,Lq2,Lq3]
  refine TlAny.take 5 (v:=?_) hHeld ?_ ?_ ?_
  rotate_left 1
  ·refine Or.inl ⟨by rfl,?_⟩
   intro wS hSw
   replace hSw:Mod [] w0 wS:=hSw
   have p:=hSw.cell x6 (by simp)
   clear hSw
   go_simp
   all_goals with_reducible rfl
  ·exact fun _ _ _ h=>h
  try simp only [Act.put,Lq1,Lq2,Lq3]
  refine TlAny.take 6 (v:=?_) hHeld ?_ ?_ ?_
  rotate_left 1
  ·refine Or.inl ⟨by rfl,?_⟩
   intro wS hSw
   replace hSw:Mod [] w0 wS:=hSw
   clear hSw
   go_simp;(try rw [if_pos l2N])
   all_goals with_reducible rfl
  ·exact fun _ _ _ h=>h
  try simp only [Act.put,Lq1,Lq2,Lq3]
  refine TlAny.take 7 (v:=?_) hHeld ?_ ?_ ?_
  rotate_left 1
  ·refine Or.inl ⟨by rfl,?_⟩
   intro wS hSw
   replace hSw:Mod [] w0 wS:=hSw
   have p0:=hSw.cell r0 (by simp)
   have p1:=hSw.cell r1 (by simp)
   have p2:=hSw.cell r2 (by simp)
   have p3:=hSw.cell r3 (by simp)
   have p4:=hSw.cell r4 (by simp)
   have p5:=hSw.cell r5 (by simp)
   have p6:=hSw.cell r6 (by simp)
   clear hSw
   go_simp
   all_goals with_reducible rfl
  ·exact fun _ _ _ h=>h
  try simp only [Act.put,Lq1,Lq2,Lq3]
  refine TlAny.take 9 (v:=?_) hHeld ?_ ?_ ?_
  rotate_left 1
  ·refine Or.inl ⟨by rfl,?_⟩
   intro wS hSw
   replace hSw:Mod [] w0 wS:=hSw
   have p0:=hSw.cell x0 (by simp)
   have p1:=hSw.cell x1 (by simp)
   have p2:=hSw.cell x2 (by simp)
   have p3:=hSw.cell x3 (by simp)
   have p4:=hSw.cell x4 (by simp)
   have p5:=hSw.cell x5 (by simp)
   have p6:=hSw.cell x6 (by simp)
   clear hSw
   go_simp
   all_goals with_reducible rfl
  ·exact fun _ _ _ h=>h
  try simp only [Act.put,Lq1,Lq2,Lq3]
  refine TlAny.take 12 (v:=?_) hHeld ?_ ?_ ?_
  rotate_left 1
  ·refine Or.inl ⟨by rfl,?_⟩
   intro wS hSw
   replace hSw:Mod [] w0 wS:=hSw
   clear hSw
   go_simp
   all_goals with_reducible rfl
  ·exact fun _ _ _ h=>h
  try simp only [Act.put,Lq1,Lq2,Lq3]
  refine TlAny.take 13 (v:=?_) hHeld ?_ ?_ ?_
  rotate_left 1
  ·refine Or.inl ⟨by rfl,?_⟩
   intro wS hSw
   replace hSw:Mod [] w0 wS:=hSw
   clear hSw
   go_simp
   all_goals with_reducible rfl
  ·exact fun _ _ _ h=>h
  try simp only [Act.put,Lq1,Lq2,Lq3]
  refine TlAny.two 8 15 ?_ ?_
  ·intro K hK
   go_simp
   refine (rbinds_any a (.slice aa a.args.length ac) wd).mono ?_
   rintro e2 v8 ⟨rfl,m8⟩
   replace hHeld:Mod [] w0 v8:=hHeld.trans m8 (by simp)
   refine hK.out _ _ (fun _=>hHeld) ?_
   clear hK K
   try simp only [Act.put,Lq1,Lq2,Lq3]
   clear m8
   refine TlAny.two 10 15 ?_ ?_
   ·intro K hK
    go_simp
    refine (rbinds_any e (.slice (some ⟨g,off,none⟩) e.args.length uc) v8).mono ?_
    rintro e2 v10x ⟨rfl,m10⟩
    replace hHeld:Mod [] w0 v10x:=hHeld.trans m10 (by simp)
    refine hK.out _ _ (fun _=>hHeld) ?_
    clear hK K
    try simp only [Act.put,Lq1,Lq2,Lq3]
    clear m10
    refine TlAny.take 11 (v:=?_) hHeld ?_ ?_ ?_
    rotate_left 1
    ·refine Or.inl ⟨by rfl,?_⟩
     intro wS hSw
     replace hSw:Mod [] w0 wS:=hSw
     clear hSw
     go_simp
     all_goals with_reducible rfl
    ·exact fun _ _ _ h=>h
    try simp only [Act.put,Lq1,Lq2,Lq3]
    refine TlAny.two 14 15 ?_ ?_
    ·intro K hK
     go_simp
     rw [HWR.out]
     refine (rarg_any j (by omega) H0.out H1.out a (.slice aa a.args.length ac) _ v10x (HEa.out.past hHeld) (HGa.out.past hHeld (by simp)) (by have:=HWA.out;omega)).mono ?_
     rintro e9 v14xx ⟨vv,rfl,⟨s,b',rfl,hs,ht,hn⟩,m14⟩
     replace hHeld:Mod [] w0 v14xx:=hHeld.trans m14 (by simp)
     refine hK.out _ _ (fun _=>hHeld) ?_
     clear hK K
     try simp only [Act.put,Lq1,Lq2,Lq3]
     clear m14
     refine TlAny.one 15 ?_
     intro K hK
     go_simp
     refine hK.out _ _ (fun _=>hHeld.alloc _) ?_
     clear hK K
     try simp only [Act.put,Lq1,Lq2,Lq3]
     have xA:=heap_alloc_new v14xx (Obj.cells #[.string ⟨#[]⟩,.bool false] 92)
     have mA:=(Mod.refl [] v14xx).alloc (Obj.cells #[.string ⟨#[]⟩,.bool false] 92)
     have hle:=hHeld.size
     generalize v14xx.alloc (Obj.cells _ 92)=v15xxx at *
     generalize v14xx.heap.size=p8 at *
     replace hHeld:Mod [] w0 v15xxx:=hHeld.trans mA (by simp)
     clear mA
     have c0:=cell_at xA 0;have c1:=cell_at xA 1
     simp only [List.getElem?_toArray,List.getElem?_cons_zero,List.getElem?_cons_succ] at c0 c1
     have fA:∀ j,v15xxx.frozen? ⟨p8,j,none⟩=false:=fun j=>free_at xA j
     refine TlAny.one 16 ?_
     intro K hK
     go_simp
     refine hK.out _ _ (fun hN=>absurd hN (by decide)) ?_
     clear hK K
     try simp only [Act.put,Lq1,Lq2,Lq3]
     refine TlAny.fin ?_
     go_wp2_with fail
     go_meet
     refine ⟨p8,s,b',rfl,setCs_row (vs:=[.string s,.bool b']) xA rfl,hs,ht,hn,hHeld.trans (setCs_mod p8 [.string s,.bool b'] 0 v15xxx) (fun t ht=>.inr (by rw [Msq] at ht;omega)),by omega⟩
    ·intro K hK
     go_simp
     refine hK.out _ _ (fun _=>hHeld.alloc _) ?_
     clear hK K
     try simp only [Act.put,Lq1,Lq2,Lq3]
     have xA:=heap_alloc_new v10x (Obj.cells #[.string ⟨#[]⟩,.bool false] 92)
     have mA:=(Mod.refl [] v10x).alloc (Obj.cells #[.string ⟨#[]⟩,.bool false] 92)
     have hle:=hHeld.size
     generalize v10x.alloc (Obj.cells _ 92)=v15xx at *
     generalize v10x.heap.size=p8 at *
     replace hHeld:Mod [] w0 v15xx:=hHeld.trans mA (by simp)
     clear mA
     refine TlAny.one 14 ?_
     intro K hK
     go_simp
     rw [HWR.out]
     refine (rarg_any j (by omega) H0.out H1.out a (.slice aa a.args.length ac) _ v15xx (HEa.out.past hHeld) (HGa.out.past hHeld (by simp)) (by have:=HWA.out;omega)).mono ?_
     rintro e9 v14xxx ⟨vv,rfl,⟨s,b',rfl,hs,ht,hn⟩,m14⟩
     replace hHeld:Mod [] w0 v14xxx:=hHeld.trans m14 (by simp)
     replace xA:=m14.at xA (by simp)
     refine hK.out _ _ (fun _=>hHeld) ?_
     clear hK K
     try simp only [Act.put,Lq1,Lq2,Lq3]
     clear m14
     have c0:=cell_at xA 0;have c1:=cell_at xA 1
     simp only [List.getElem?_toArray,List.getElem?_cons_zero,List.getElem?_cons_succ] at c0 c1
     have fA:∀ j,v14xxx.frozen? ⟨p8,j,none⟩=false:=fun j=>free_at xA j
     refine TlAny.one 16 ?_
     intro K hK
     go_simp
     refine hK.out _ _ (fun hN=>absurd hN (by decide)) ?_
     clear hK K
     try simp only [Act.put,Lq1,Lq2,Lq3]
     refine TlAny.fin ?_
     go_wp2_with fail
     go_meet
     refine ⟨p8,s,b',rfl,setCs_row (vs:=[.string s,.bool b']) xA rfl,hs,ht,hn,hHeld.trans (setCs_mod p8 [.string s,.bool b'] 0 v14xxx) (fun t ht=>.inr (by rw [Msq] at ht;omega)),by omega⟩
   ·intro K hK
    go_simp
    refine hK.out _ _ (fun _=>hHeld.alloc _) ?_
    clear hK K
    try simp only [Act.put,Lq1,Lq2,Lq3]
    have xA:=heap_alloc_new v8 (Obj.cells #[.string ⟨#[]⟩,.bool false] 92)
    have mA:=(Mod.refl [] v8).alloc (Obj.cells #[.string ⟨#[]⟩,.bool false] 92)
    have hle:=hHeld.size
    generalize v8.alloc (Obj.cells _ 92)=v15x at *
    generalize v8.heap.size=p8 at *
    replace hHeld:Mod [] w0 v15x:=hHeld.trans mA (by simp)
    clear mA
    refine TlAny.one 10 ?_
    intro K hK
    go_simp
    refine (rbinds_any e (.slice (some ⟨g,off,none⟩) e.args.length uc) v15x).mono ?_
    rintro e2 v10xx ⟨rfl,m10⟩
    replace hHeld:Mod [] w0 v10xx:=hHeld.trans m10 (by simp)
    replace xA:=m10.at xA (by simp)
    refine hK.out _ _ (fun _=>hHeld) ?_
    clear hK K
    try simp only [Act.put,Lq1,Lq2,Lq3]
    clear m10
    refine TlAny.take 11 (v:=?_) hHeld ?_ ?_ ?_
    rotate_left 1
    ·refine Or.inl ⟨by rfl,?_⟩
     intro wS hSw
     replace hSw:Mod [] w0 wS:=hSw
     clear hSw
     go_simp
     all_goals with_reducible rfl
    ·exact fun _ _ _ h=>h
    try simp only [Act.put,Lq1,Lq2,Lq3]
    refine TlAny.one 14 ?_
    intro K hK
    go_simp
    rw [HWR.out]
    refine (rarg_any j (by omega) H0.out H1.out a (.slice aa a.args.length ac) _ v10xx (HEa.out.past hHeld) (HGa.out.past hHeld (by simp)) (by have:=HWA.out;omega)).mono ?_
    rintro e9 v14xxx ⟨vv,rfl,⟨s,b',rfl,hs,ht,hn⟩,m14⟩
    replace hHeld:Mod [] w0 v14xxx:=hHeld.trans m14 (by simp)
    replace xA:=m14.at xA (by simp)
    refine hK.out _ _ (fun _=>hHeld) ?_
    clear hK K
    try simp only [Act.put,Lq1,Lq2,Lq3]
    clear m14
    have c0:=cell_at xA 0;have c1:=cell_at xA 1
    simp only [List.getElem?_toArray,List.getElem?_cons_zero,List.getElem?_cons_succ] at c0 c1
    have fA:∀ j,v14xxx.frozen? ⟨p8,j,none⟩=false:=fun j=>free_at xA j
    refine TlAny.one 16 ?_
    intro K hK
    go_simp
    refine hK.out _ _ (fun hN=>absurd hN (by decide)) ?_
    clear hK K
    try simp only [Act.put,Lq1,Lq2,Lq3]
    refine TlAny.fin ?_
    go_wp2_with fail
    go_meet
    refine ⟨p8,s,b',rfl,setCs_row (vs:=[.string s,.bool b']) xA rfl,hs,ht,hn,hHeld.trans (setCs_mod p8 [.string s,.bool b'] 0 v14xxx) (fun t ht=>.inr (by rw [Msq] at ht;omega)),by omega⟩
  ·intro K hK
   go_simp
   refine hK.out _ _ (fun _=>hHeld.alloc _) ?_
   clear hK K
   try simp only [Act.put,Lq1,Lq2,Lq3]
   have xA:=heap_alloc_new wd (Obj.cells #[.string ⟨#[]⟩,.bool false] 92)
   have mA:=(Mod.refl [] wd).alloc (Obj.cells #[.string ⟨#[]⟩,.bool false] 92)
   have hle:=hHeld.size
   generalize wd.alloc (Obj.cells _ 92)=v15 at *
   generalize wd.heap.size=p8 at *
   replace hHeld:Mod [] w0 v15:=hHeld.trans mA (by simp)
   clear mA
   refine TlAny.one 8 ?_
   intro K hK
   go_simp
   refine (rbinds_any a (.slice aa a.args.length ac) v15).mono ?_
   rintro e2 v8x ⟨rfl,m8⟩
   replace hHeld:Mod [] w0 v8x:=hHeld.trans m8 (by simp)
   replace xA:=m8.at xA (by simp)
   refine hK.out _ _ (fun _=>hHeld) ?_
   clear hK K
   try simp only [Act.put,Lq1,Lq2,Lq3]
   clear m8
   refine TlAny.one 10 ?_
   intro K hK
   go_simp
   refine (rbinds_any e (.slice (some ⟨g,off,none⟩) e.args.length uc) v8x).mono ?_
   rintro e2 v10xx ⟨rfl,m10⟩
   replace hHeld:Mod [] w0 v10xx:=hHeld.trans m10 (by simp)
   replace xA:=m10.at xA (by simp)
   refine hK.out _ _ (fun _=>hHeld) ?_
   clear hK K
   try simp only [Act.put,Lq1,Lq2,Lq3]
   clear m10
   refine TlAny.take 11 (v:=?_) hHeld ?_ ?_ ?_
   rotate_left 1
   ·refine Or.inl ⟨by rfl,?_⟩
    intro wS hSw
    replace hSw:Mod [] w0 wS:=hSw
    clear hSw
    go_simp
    all_goals with_reducible rfl
   ·exact fun _ _ _ h=>h
   try simp only [Act.put,Lq1,Lq2,Lq3]
   refine TlAny.one 14 ?_
   intro K hK
   go_simp
   rw [HWR.out]
   refine (rarg_any j (by omega) H0.out H1.out a (.slice aa a.args.length ac) _ v10xx (HEa.out.past hHeld) (HGa.out.past hHeld (by simp)) (by have:=HWA.out;omega)).mono ?_
   rintro e9 v14xxx ⟨vv,rfl,⟨s,b',rfl,hs,ht,hn⟩,m14⟩
   replace hHeld:Mod [] w0 v14xxx:=hHeld.trans m14 (by simp)
   replace xA:=m14.at xA (by simp)
   refine hK.out _ _ (fun _=>hHeld) ?_
   clear hK K
   try simp only [Act.put,Lq1,Lq2,Lq3]
   clear m14
   have c0:=cell_at xA 0;have c1:=cell_at xA 1
   simp only [List.getElem?_toArray,List.getElem?_cons_zero,List.getElem?_cons_succ] at c0 c1
   have fA:∀ j,v14xxx.frozen? ⟨p8,j,none⟩=false:=fun j=>free_at xA j
   refine TlAny.one 16 ?_
   intro K hK
   go_simp
   refine hK.out _ _ (fun hN=>absurd hN (by decide)) ?_
   clear hK K
   try simp only [Act.put,Lq1,Lq2,Lq3]
   refine TlAny.fin ?_
   go_wp2_with fail
   go_meet
   refine ⟨p8,s,b',rfl,setCs_row (vs:=[.string s,.bool b']) xA rfl,hs,ht,hn,hHeld.trans (setCs_mod p8 [.string s,.bool b'] 0 v14xxx) (fun t ht=>.inr (by rw [Msq] at ht;omega)),by omega⟩
 case rest =>
  obtain ⟨p8,s,b1',rfl,xT,hs,ht,hn,m8,hp8⟩:=hcut
  have hp1:=lt_of_block E1.out
  have E1:=Hxq (m8.at E1.out (by simp));have E0:=Hxq (m8.at E0.out (by simp));have M1:=Hxq (M0.out.trans m8 (by simp));have XS:=Lib.hid xT
  have HTA:=Hxq (And.intro ht hn)
  have HSA:=Lib.hid hs
  clear m8 ht hn xT x0 x1 x2 x3 x4 x5 x6 r0 r1 r2 r3 r4 r5 r6 hs
  go_upto_region 18 with fail
  have x0:=cell_at E0.out 0;have x1:=cell_at E0.out 1;have x2:=cell_at E0.out 2;have x3:=cell_at E0.out 3;have x4:=cell_at E0.out 4;have x5:=cell_at E0.out 5;have x6:=cell_at E0.out 6
  simp only [List.getElem?_toArray,List.getElem?_cons_zero,List.getElem?_cons_succ] at x0 x1 x2 x3 x4 x5 x6
  have hbt:=HBT.out
  have r0:=M1.out.cell hbt.c0 (by simp);have r1:=M1.out.cell hbt.c1 (by simp);have r2:=M1.out.cell hbt.c2 (by simp);have r3:=M1.out.cell hbt.c3 (by simp);have r4:=M1.out.cell hbt.c4 (by simp);have r5:=M1.out.cell hbt.c5 (by simp);have r6:=M1.out.cell hbt.c6 (by simp)
  simp only [Nat.one_mul] at r0 r1 r2 r3 r4 r5 r6
  clear hbt
  have HEb:=Hxq (HEB.out.past M1.out)
  have HGa:=Hxq (HG.out.past M1.out (by simp))
  generalize hwq:wc=wq at *
  clear hwq
  go_cut [10] (fun c wx=>∃ (p8:Nat) (s:ByteArray) (b':Bool),c=.pointer (some ⟨p8,0,none⟩)/\wx.heap[p8]?=some (.cells #[.string s,.bool b'] 92 (0,0))/\s.size<=exWt b+2/\(∀ t,argO j (decide (rbinds b<=rbinds e)) b=some t->b'=false/\s=Lx.ofS t)/\(argO j (decide (rbinds b<=rbinds e)) b=none->b'=true)/\Mod [] wq wx/\wq.heap.size<=p8)
  case first =>
   refine tl_region (fun wS=>Mod [] wq wS) [16] (by kernel_rfl) ?_
   have hHeld:Mod [] wq wq.drew:=(Mod.refl [] wq).drew
   try simp only [Act.put,Lq1,Lq2,Lq3]
   generalize wq.drew=wd at *
   refine TlAny.take 0 (v:=?_) hHeld ?_ ?_ ?_
   rotate_left 1
   ·refine Or.inl ⟨by rfl,?_⟩
    intro wS hSw
    replace hSw:Mod [] wq wS:=hSw
    clear hSw
    go_simp
    all_goals with_reducible rfl
   ·exact fun _ _ _ h=>h
   try simp only [Act.put,Lq1,Lq2,Lq3]
   refine TlAny.take 1 (v:=?_) hHeld ?_ ?_ ?_
   rotate_left 1
   ·refine Or.inl ⟨by rfl,?_⟩
    intro wS hSw
    replace hSw:Mod [] wq wS:=hSw
    have p:=hSw.cell x6 (by simp)
    clear hSw
    go_simp
    all_goals with_reducible rfl
   ·exact fun _ _ _ h=>h
   try simp only [Act.put,Lq1,Lq2,Lq3]
   refine TlAny.take 2 (v:=?_) hHeld ?_ ?_ ?_
   rotate_left 1
   ·refine Or.inl ⟨by rfl,?_⟩
    intro wS hSw
    replace hSw:Mod [] wq wS:=hSw
    clear hSw
    go_simp;(try rw [if_pos l3N])
    all_goals with_reducible rfl
   ·exact fun _ _ _ h=>h
   try simp only [Act.put,Lq1,Lq2,Lq3]
   refine TlAny.take 3 (v:=?_) hHeld ?_ ?_ ?_
   rotate_left 1
   ·refine Or.inl ⟨by rfl,?_⟩
    intro wS hSw
    replace hSw:Mod [] wq wS:=hSw
    have p0:=hSw.cell r0 (by simp)
    have p1:=hSw.cell r1 (by simp)
    have p2:=hSw.cell r2 (by simp)
    have p3:=hSw.cell r3 (by simp)
    have p4:=hSw.cell r4 (by simp)
    have p5:=hSw.cell r5 (by simp)
    have p6:=hSw.cell r6 (by simp)
    clear hSw
    go_simp
    all_goals with_reducible rfl
   ·exact fun _ _ _ h=>h
   try simp only [Act.put,Lq1,Lq2,Lq3]
   refine TlAny.take 4 (v:=?_) hHeld ?_ ?_ ?_
   rotate_left 1
   ·refine Or.inl ⟨by rfl,?_⟩
    intro wS hSw
    replace hSw:Mod [] wq wS:=hSw
    clear hSw
    go_simp
    all_goals with_reducible rfl
   ·exact fun _ _ _ h=>h
   try simp only [Act.put,Lq1,Lq2,Lq3]
   refine TlAny.take 5 (v:=?_) hHeld ?_ ?_ ?_
   rotate_left 1
   ·refine Or.inl ⟨by rfl,?_⟩
    intro wS hSw
    replace hSw:Mod [] wq wS:=hSw
    have p:=hSw.cell x6 (by simp)
    clear hSw
    go_simp
    all_goals with_reducible rfl
   ·exact fun _ _ _ h=>h
   try simp only [Act.put,Lq1,Lq2,Lq3]
   refine TlAny.take 6 (v:=?_) hHeld ?_ ?_ ?_
   rotate_left 1
   ·refine Or.inl ⟨by rfl,?_⟩
    intro wS hSw
    replace hSw:Mod [] wq wS:=hSw
    clear hSw
    go_simp;(try rw [if_pos l3N])
    all_goals with_reducible rfl
   ·exact fun _ _ _ h=>h
   try simp only [Act.put,Lq1,Lq2,Lq3]
   refine TlAny.take 7 (v:=?_) hHeld ?_ ?_ ?_
   rotate_left 1
   ·refine Or.inl ⟨by rfl,?_⟩
    intro wS hSw
    replace hSw:Mod [] wq wS:=hSw
    have p0:=hSw.cell r0 (by simp)
    have p1:=hSw.cell r1 (by simp)
    have p2:=hSw.cell r2 (by simp)
    have p3:=hSw.cell r3 (by simp)
    have p4:=hSw.cell r4 (by simp)
    have p5:=hSw.cell r5 (by simp)
    have p6:=hSw.cell r6 (by simp)
    clear hSw
    go_simp
    all_goals with_reducible rfl
   ·exact fun _ _ _ h=>h
   try simp only [Act.put,Lq1,Lq2,Lq3]
   refine TlAny.take 9 (v:=?_) hHeld ?_ ?_ ?_
   rotate_left 1
   ·refine Or.inl ⟨by rfl,?_⟩
    intro wS hSw
    replace hSw:Mod [] wq wS:=hSw
    have p0:=hSw.cell x0 (by simp)
    have p1:=hSw.cell x1 (by simp)
    have p2:=hSw.cell x2 (by simp)
    have p3:=hSw.cell x3 (by simp)
    have p4:=hSw.cell x4 (by simp)
    have p5:=hSw.cell x5 (by simp)
    have p6:=hSw.cell x6 (by simp)
    clear hSw
    go_simp
    all_goals with_reducible rfl
   ·exact fun _ _ _ h=>h
   try simp only [Act.put,Lq1,Lq2,Lq3]
   refine TlAny.take 12 (v:=?_) hHeld ?_ ?_ ?_
   rotate_left 1
   ·refine Or.inl ⟨by rfl,?_⟩
    intro wS hSw
    replace hSw:Mod [] wq wS:=hSw
    clear hSw
    go_simp
    all_goals with_reducible rfl
   ·exact fun _ _ _ h=>h
   try simp only [Act.put,Lq1,Lq2,Lq3]
   refine TlAny.take 13 (v:=?_) hHeld ?_ ?_ ?_
   rotate_left 1
   ·refine Or.inl ⟨by rfl,?_⟩
    intro wS hSw
    replace hSw:Mod [] wq wS:=hSw
    clear hSw
    go_simp
    all_goals with_reducible rfl
   ·exact fun _ _ _ h=>h
   try simp only [Act.put,Lq1,Lq2,Lq3]
   refine TlAny.two 8 15 ?_ ?_
   ·intro K hK
    go_simp
    refine (rbinds_any b (.slice ba b.args.length bc) wd).mono ?_
    rintro e2 v8 ⟨rfl,m8⟩
    replace hHeld:Mod [] wq v8:=hHeld.trans m8 (by simp)
    refine hK.out _ _ (fun _=>hHeld) ?_
    clear hK K
    try simp only [Act.put,Lq1,Lq2,Lq3]
    clear m8
    refine TlAny.two 10 15 ?_ ?_
    ·intro K hK
     go_simp
     refine (rbinds_any e (.slice (some ⟨g,off,none⟩) e.args.length uc) v8).mono ?_
     rintro e2 v10x ⟨rfl,m10⟩
     replace hHeld:Mod [] wq v10x:=hHeld.trans m10 (by simp)
     refine hK.out _ _ (fun _=>hHeld) ?_
     clear hK K
     try simp only [Act.put,Lq1,Lq2,Lq3]
     clear m10
     refine TlAny.take 11 (v:=?_) hHeld ?_ ?_ ?_
     rotate_left 1
     ·refine Or.inl ⟨by rfl,?_⟩
      intro wS hSw
      replace hSw:Mod [] wq wS:=hSw
      clear hSw
      go_simp
      all_goals with_reducible rfl
     ·exact fun _ _ _ h=>h
     try simp only [Act.put,Lq1,Lq2,Lq3]
     refine TlAny.two 14 15 ?_ ?_
     ·intro K hK
      go_simp
      rw [HWR.out]
      refine (rarg_any j (by omega) H0.out H1.out b (.slice ba b.args.length bc) _ v10x (HEb.out.past hHeld) (HGa.out.past hHeld (by simp)) (by have:=HWA.out;omega)).mono ?_
      rintro e9 v14xx ⟨vv,rfl,⟨s,b',rfl,hs,ht,hn⟩,m14⟩
      replace hHeld:Mod [] wq v14xx:=hHeld.trans m14 (by simp)
      refine hK.out _ _ (fun _=>hHeld) ?_
      clear hK K
      try simp only [Act.put,Lq1,Lq2,Lq3]
      clear m14
      refine TlAny.one 15 ?_
      intro K hK
      go_simp
      refine hK.out _ _ (fun _=>hHeld.alloc _) ?_
      clear hK K
      try simp only [Act.put,Lq1,Lq2,Lq3]
      have xA:=heap_alloc_new v14xx (Obj.cells #[.string ⟨#[]⟩,.bool false] 92)
      have mA:=(Mod.refl [] v14xx).alloc (Obj.cells #[.string ⟨#[]⟩,.bool false] 92)
      have hle:=hHeld.size
      generalize v14xx.alloc (Obj.cells _ 92)=v15xxx at *
      generalize v14xx.heap.size=p8 at *
      replace hHeld:Mod [] wq v15xxx:=hHeld.trans mA (by simp)
      clear mA
      have c0:=cell_at xA 0;have c1:=cell_at xA 1
      simp only [List.getElem?_toArray,List.getElem?_cons_zero,List.getElem?_cons_succ] at c0 c1
      have fA:∀ j,v15xxx.frozen? ⟨p8,j,none⟩=false:=fun j=>free_at xA j
      refine TlAny.one 16 ?_
      intro K hK
      go_simp
      refine hK.out _ _ (fun hN=>absurd hN (by decide)) ?_
      clear hK K
      try simp only [Act.put,Lq1,Lq2,Lq3]
      refine TlAny.fin ?_
      go_wp2_with fail
      go_meet
      refine ⟨p8,s,b',rfl,setCs_row (vs:=[.string s,.bool b']) xA rfl,hs,ht,hn,hHeld.trans (setCs_mod p8 [.string s,.bool b'] 0 v15xxx) (fun t ht=>.inr (by rw [Msq] at ht;omega)),by omega⟩
     ·intro K hK
      go_simp
      refine hK.out _ _ (fun _=>hHeld.alloc _) ?_
      clear hK K
      try simp only [Act.put,Lq1,Lq2,Lq3]
      have xA:=heap_alloc_new v10x (Obj.cells #[.string ⟨#[]⟩,.bool false] 92)
      have mA:=(Mod.refl [] v10x).alloc (Obj.cells #[.string ⟨#[]⟩,.bool false] 92)
      have hle:=hHeld.size
      generalize v10x.alloc (Obj.cells _ 92)=v15xx at *
      generalize v10x.heap.size=p8 at *
      replace hHeld:Mod [] wq v15xx:=hHeld.trans mA (by simp)
      clear mA
      refine TlAny.one 14 ?_
      intro K hK
      go_simp
      rw [HWR.out]
      refine (rarg_any j (by omega) H0.out H1.out b (.slice ba b.args.length bc) _ v15xx (HEb.out.past hHeld) (HGa.out.past hHeld (by simp)) (by have:=HWA.out;omega)).mono ?_
      rintro e9 v14xxx ⟨vv,rfl,⟨s,b',rfl,hs,ht,hn⟩,m14⟩
      replace hHeld:Mod [] wq v14xxx:=hHeld.trans m14 (by simp)
      replace xA:=m14.at xA (by simp)
      refine hK.out _ _ (fun _=>hHeld) ?_
      clear hK K
      try simp only [Act.put,Lq1,Lq2,Lq3]
      clear m14
      have c0:=cell_at xA 0;have c1:=cell_at xA 1
      simp only [List.getElem?_toArray,List.getElem?_cons_zero,List.getElem?_cons_succ] at c0 c1
      have fA:∀ j,v14xxx.frozen? ⟨p8,j,none⟩=false:=fun j=>free_at xA j
      refine TlAny.one 16 ?_
      intro K hK
      go_simp
      refine hK.out _ _ (fun hN=>absurd hN (by decide)) ?_
      clear hK K
      try simp only [Act.put,Lq1,Lq2,Lq3]
      refine TlAny.fin ?_
      go_wp2_with fail
      go_meet
      refine ⟨p8,s,b',rfl,setCs_row (vs:=[.string s,.bool b']) xA rfl,hs,ht,hn,hHeld.trans (setCs_mod p8 [.string s,.bool b'] 0 v14xxx) (fun t ht=>.inr (by rw [Msq] at ht;omega)),by omega⟩
    ·intro K hK
     go_simp
     refine hK.out _ _ (fun _=>hHeld.alloc _) ?_
     clear hK K
     try simp only [Act.put,Lq1,Lq2,Lq3]
     have xA:=heap_alloc_new v8 (Obj.cells #[.string ⟨#[]⟩,.bool false] 92)
     have mA:=(Mod.refl [] v8).alloc (Obj.cells #[.string ⟨#[]⟩,.bool false] 92)
     have hle:=hHeld.size
     generalize v8.alloc (Obj.cells _ 92)=v15x at *
     generalize v8.heap.size=p8 at *
     replace hHeld:Mod [] wq v15x:=hHeld.trans mA (by simp)
     clear mA
     refine TlAny.one 10 ?_
     intro K hK
     go_simp
     refine (rbinds_any e (.slice (some ⟨g,off,none⟩) e.args.length uc) v15x).mono ?_
     rintro e2 v10xx ⟨rfl,m10⟩
     replace hHeld:Mod [] wq v10xx:=hHeld.trans m10 (by simp)
     replace xA:=m10.at xA (by simp)
     refine hK.out _ _ (fun _=>hHeld) ?_
     clear hK K
     try simp only [Act.put,Lq1,Lq2,Lq3]
     clear m10
     refine TlAny.take 11 (v:=?_) hHeld ?_ ?_ ?_
     rotate_left 1
     ·refine Or.inl ⟨by rfl,?_⟩
      intro wS hSw
      replace hSw:Mod [] wq wS:=hSw
      clear hSw
      go_simp
      all_goals with_reducible rfl
     ·exact fun _ _ _ h=>h
     try simp only [Act.put,Lq1,Lq2,Lq3]
     refine TlAny.one 14 ?_
     intro K hK
     go_simp
     rw [HWR.out]
     refine (rarg_any j (by omega) H0.out H1.out b (.slice ba b.args.length bc) _ v10xx (HEb.out.past hHeld) (HGa.out.past hHeld (by simp)) (by have:=HWA.out;omega)).mono ?_
     rintro e9 v14xxx ⟨vv,rfl,⟨s,b',rfl,hs,ht,hn⟩,m14⟩
     replace hHeld:Mod [] wq v14xxx:=hHeld.trans m14 (by simp)
     replace xA:=m14.at xA (by simp)
     refine hK.out _ _ (fun _=>hHeld) ?_
     clear hK K
     try simp only [Act.put,Lq1,Lq2,Lq3]
     clear m14
     have c0:=cell_at xA 0;have c1:=cell_at xA 1
     simp only [List.getElem?_toArray,List.getElem?_cons_zero,List.getElem?_cons_succ] at c0 c1
     have fA:∀ j,v14xxx.frozen? ⟨p8,j,none⟩=false:=fun j=>free_at xA j
     refine TlAny.one 16 ?_
     intro K hK
     go_simp
     refine hK.out _ _ (fun hN=>absurd hN (by decide)) ?_
     clear hK K
     try simp only [Act.put,Lq1,Lq2,Lq3]
     refine TlAny.fin ?_
     go_wp2_with fail
     go_meet
     refine ⟨p8,s,b',rfl,setCs_row (vs:=[.string s,.bool b']) xA rfl,hs,ht,hn,hHeld.trans (setCs_mod p8 [.string s,.bool b'] 0 v14xxx) (fun t ht=>.inr (by rw [Msq] at ht;omega)),by omega⟩
   ·intro K hK
    go_simp
    refine hK.out _ _ (fun _=>hHeld.alloc _) ?_
    clear hK K
    try simp only [Act.put,Lq1,Lq2,Lq3]
    have xA:=heap_alloc_new wd (Obj.cells #[.string ⟨#[]⟩,.bool false] 92)
    have mA:=(Mod.refl [] wd).alloc (Obj.cells #[.string ⟨#[]⟩,.bool false] 92)
    have hle:=hHeld.size
    generalize wd.alloc (Obj.cells _ 92)=v15 at *
    generalize wd.heap.size=p8 at *
    replace hHeld:Mod [] wq v15:=hHeld.trans mA (by simp)
    clear mA
    refine TlAny.one 8 ?_
    intro K hK
    go_simp
    refine (rbinds_any b (.slice ba b.args.length bc) v15).mono ?_
    rintro e2 v8x ⟨rfl,m8⟩
    replace hHeld:Mod [] wq v8x:=hHeld.trans m8 (by simp)
    replace xA:=m8.at xA (by simp)
    refine hK.out _ _ (fun _=>hHeld) ?_
    clear hK K
    try simp only [Act.put,Lq1,Lq2,Lq3]
    clear m8
    refine TlAny.one 10 ?_
    intro K hK
    go_simp
    refine (rbinds_any e (.slice (some ⟨g,off,none⟩) e.args.length uc) v8x).mono ?_
    rintro e2 v10xx ⟨rfl,m10⟩
    replace hHeld:Mod [] wq v10xx:=hHeld.trans m10 (by simp)
    replace xA:=m10.at xA (by simp)
    refine hK.out _ _ (fun _=>hHeld) ?_
    clear hK K
    try simp only [Act.put,Lq1,Lq2,Lq3]
    clear m10
    refine TlAny.take 11 (v:=?_) hHeld ?_ ?_ ?_
    rotate_left 1
    ·refine Or.inl ⟨by rfl,?_⟩
     intro wS hSw
     replace hSw:Mod [] wq wS:=hSw
     clear hSw
     go_simp
     all_goals with_reducible rfl
    ·exact fun _ _ _ h=>h
    try simp only [Act.put,Lq1,Lq2,Lq3]
    refine TlAny.one 14 ?_
    intro K hK
    go_simp
    rw [HWR.out]
    refine (rarg_any j (by omega) H0.out H1.out b (.slice ba b.args.length bc) _ v10xx (HEb.out.past hHeld) (HGa.out.past hHeld (by simp)) (by have:=HWA.out;omega)).mono ?_
    rintro e9 v14xxx ⟨vv,rfl,⟨s,b',rfl,hs,ht,hn⟩,m14⟩
    replace hHeld:Mod [] wq v14xxx:=hHeld.trans m14 (by simp)
    replace xA:=m14.at xA (by simp)
    refine hK.out _ _ (fun _=>hHeld) ?_
    clear hK K
    try simp only [Act.put,Lq1,Lq2,Lq3]
    clear m14
    have c0:=cell_at xA 0;have c1:=cell_at xA 1
    simp only [List.getElem?_toArray,List.getElem?_cons_zero,List.getElem?_cons_succ] at c0 c1
    have fA:∀ j,v14xxx.frozen? ⟨p8,j,none⟩=false:=fun j=>free_at xA j
    refine TlAny.one 16 ?_
    intro K hK
    go_simp
    refine hK.out _ _ (fun hN=>absurd hN (by decide)) ?_
    clear hK K
    try simp only [Act.put,Lq1,Lq2,Lq3]
    refine TlAny.fin ?_
    go_wp2_with fail
    go_meet
    refine ⟨p8,s,b',rfl,setCs_row (vs:=[.string s,.bool b']) xA rfl,hs,ht,hn,hHeld.trans (setCs_mod p8 [.string s,.bool b'] 0 v14xxx) (fun t ht=>.inr (by rw [Msq] at ht;omega)),by omega⟩
  case rest =>
   obtain ⟨p9,s',b2',rfl,xT,hs',ht,hn,m9,hp9⟩:=hcut
   have E1:=Hxq (m9.at E1.out (by simp));have E0:=Hxq (m9.at E0.out (by simp));have M1:=Hxq (M1.out.trans m9 (by simp));have XS:=Hxq (m9.at XS.out (by simp));have XT:=Lib.hid xT
   have HTB:=Hxq (And.intro ht hn)
   have hsa:=HSA.out
   have hss:s.size<=140737488000000:=by have:=HWA.out;have:=HW.out;omega
   have hss':s.size+5+s'.size<=140737488000000:=by have:=HWA.out;have:=HW.out;omega
   clear m9 ht hn xT x0 x1 x2 x3 x4 x5 x6 r0 r1 r2 r3 r4 r5 r6
   go_upto_region 19 with fail
   generalize hwf:wc=wf at *
   clear hwf
   have x5:=cell_at E0.out 5
   simp only [List.getElem?_toArray,List.getElem?_cons_zero,List.getElem?_cons_succ] at x5
   have s0:=cell_at XS.out 0;have s1:=cell_at XS.out 1
   simp only [List.getElem?_toArray,List.getElem?_cons_zero,List.getElem?_cons_succ] at s0 s1
   have t0:=cell_at XT.out 0;have t1:=cell_at XT.out 1
   simp only [List.getElem?_toArray,List.getElem?_cons_zero,List.getElem?_cons_succ] at t0 t1
   have b0:=cell_at E1.out 0;have b1:=cell_at E1.out 1
   simp only [List.getElem?_toArray,List.getElem?_cons_zero,List.getElem?_cons_succ] at b0 b1
   have hsg:=HSG.out
   generalize hsgd:Lx.ofS (rsign e.op)=sg at *
   have HSGD:=Lib.hid hsgd
   have HSZ:Hid (s.size+sg.size+s'.size<=exWt e):=Hxq (by have:=HWA.out;omega)
   clear hsgd
   cases b1'
   case true =>
    refine tl_region (fun wS=>Mod [] wf wS) [16] (by kernel_rfl) ?_
    have hHeld:Mod [] wf wf.drew:=(Mod.refl [] wf).drew
    try simp only [Act.put,Lq1,Lq2,Lq3]
    generalize wf.drew=wd at *
    refine TlAny.take 0 (v:=?_) hHeld ?_ ?_ ?_
    rotate_left 1
    ·refine Or.inl ⟨by rfl,?_⟩
     intro wS hSw
     replace hSw:Mod [] wf wS:=hSw
     clear hSw
     go_simp
     all_goals with_reducible rfl
    ·exact fun _ _ _ h=>h
    try simp only [Act.put,Lq1,Lq2,Lq3]
    refine TlAny.take 1 (v:=?_) hHeld ?_ ?_ ?_
    rotate_left 1
    ·refine Or.inl ⟨by rfl,?_⟩
     intro wS hSw
     replace hSw:Mod [] wf wS:=hSw
     have p:=hSw.cell s0 (by simp)
     clear hSw
     go_simp
     all_goals with_reducible rfl
    ·exact fun _ _ _ h=>h
    try simp only [Act.put,Lq1,Lq2,Lq3]
    refine TlAny.take 2 (v:=?_) hHeld ?_ ?_ ?_
    rotate_left 1
    ·refine Or.inl ⟨by rfl,?_⟩
     intro wS hSw
     replace hSw:Mod [] wf wS:=hSw
     clear hSw
     go_simp
     all_goals with_reducible rfl
    ·exact fun _ _ _ h=>h
    try simp only [Act.put,Lq1,Lq2,Lq3]
    refine TlAny.take 3 (v:=?_) hHeld ?_ ?_ ?_
    rotate_left 1
    ·refine Or.inl ⟨by rfl,?_⟩
     intro wS hSw
     replace hSw:Mod [] wf wS:=hSw
     have p:=hSw.cell x5 (by simp)
     clear hSw
     go_simp
     all_goals with_reducible rfl
    ·exact fun _ _ _ h=>h
    try simp only [Act.put,Lq1,Lq2,Lq3]
    refine TlAny.take 6 (v:=?_) hHeld ?_ ?_ ?_
    rotate_left 1
    ·refine Or.inl ⟨by rfl,?_⟩
     intro wS hSw
     replace hSw:Mod [] wf wS:=hSw
     clear hSw
     go_simp
     all_goals with_reducible rfl
    ·exact fun _ _ _ h=>h
    try simp only [Act.put,Lq1,Lq2,Lq3]
    refine TlAny.take 7 (v:=?_) hHeld ?_ ?_ ?_
    rotate_left 1
    ·refine Or.inl ⟨by rfl,?_⟩
     intro wS hSw
     replace hSw:Mod [] wf wS:=hSw
     have p:=hSw.cell t0 (by simp)
     clear hSw
     go_simp
     all_goals with_reducible rfl
    ·exact fun _ _ _ h=>h
    try simp only [Act.put,Lq1,Lq2,Lq3]
    refine TlAny.take 9 (v:=?_) hHeld ?_ ?_ ?_
    rotate_left 1
    ·refine Or.inl ⟨by rfl,?_⟩
     intro wS hSw
     replace hSw:Mod [] wf wS:=hSw
     clear hSw
     go_simp
     all_goals with_reducible rfl
    ·exact fun _ _ _ h=>h
    try simp only [Act.put,Lq1,Lq2,Lq3]
    refine TlAny.take 10 (v:=?_) hHeld ?_ ?_ ?_
    rotate_left 1
    ·refine Or.inl ⟨by rfl,?_⟩
     intro wS hSw
     replace hSw:Mod [] wf wS:=hSw
     have p:=hSw.cell s1 (by simp)
     clear hSw
     go_simp
     all_goals with_reducible rfl
    ·exact fun _ _ _ h=>h
    try simp only [Act.put,Lq1,Lq2,Lq3]
    refine TlAny.one 4 ?_
    intro K hK
    go_simp
    refine (rsign_any e.op _).mono ?_
    rintro e2 v1 ⟨rfl,hv1⟩
    subst hv1
    rw [HSGD.out]
    refine hK.out _ _ (fun _=>hHeld) ?_
    clear hK K
    try simp only [Act.put,Lq1,Lq2,Lq3]
    refine TlAny.take 5 (v:=?_) hHeld ?_ ?_ ?_
    rotate_left 1
    ·refine Or.inl ⟨by rfl,?_⟩
     intro wS hSw
     replace hSw:Mod [] wf wS:=hSw
     clear hSw
     go_simp;(try rw [if_neg (by (try simp only [ByteArray.size_append]);omega)])
     all_goals with_reducible rfl
    ·exact fun _ _ _ h=>h
    try simp only [Act.put,Lq1,Lq2,Lq3]
    refine TlAny.take 8 (v:=?_) hHeld ?_ ?_ ?_
    rotate_left 1
    ·refine Or.inl ⟨by rfl,?_⟩
     intro wS hSw
     replace hSw:Mod [] wf wS:=hSw
     clear hSw
     go_simp;(try rw [if_neg (by (try simp only [ByteArray.size_append]);omega)])
     all_goals with_reducible rfl
    ·exact fun _ _ _ h=>h
    try simp only [Act.put,Lq1,Lq2,Lq3]
    refine TlAny.take 11 (v:=?_) hHeld ?_ ?_ ?_
    rotate_left 1
    ·refine Or.inl ⟨by rfl,?_⟩
     intro wS hSw
     replace hSw:Mod [] wf wS:=hSw
     clear hSw
     go_simp
     all_goals with_reducible rfl
    ·exact fun _ _ _ h=>h
    try simp only [Act.put,Lq1,Lq2,Lq3]
    refine TlAny.take 12 (v:=?_) hHeld ?_ ?_ ?_
    rotate_left 1
    ·first
      | (refine Or.inl ⟨by rfl,?_⟩;intro wS hSw;replace hSw:Mod [] wf wS:=hSw;have p:=hSw.cell t1 (by simp);clear hSw;go_simp;all_goals with_reducible rfl)
      | (refine Or.inr ⟨by kernel_rfl,?_⟩;with_reducible rfl)
    ·exact fun _ _ _ h=>h
    try simp only [Act.put,Lq1,Lq2,Lq3]
    refine TlAny.take 13 (v:=?_) hHeld ?_ ?_ ?_
    rotate_left 1
    ·first
      | (refine Or.inl ⟨by rfl,?_⟩;intro wS hSw;replace hSw:Mod [] wf wS:=hSw;have p:=hSw.cell t1 (by simp);clear hSw;go_simp;all_goals with_reducible rfl)
      | (refine Or.inr ⟨by kernel_rfl,?_⟩;with_reducible rfl)
    ·exact fun _ _ _ h=>h
    try simp only [Act.put,Lq1,Lq2,Lq3]
    refine TlAny.take 14 (v:=?_) hHeld ?_ ?_ ?_
    rotate_left 1
    ·refine Or.inl ⟨by rfl,?_⟩
     intro wS hSw
     replace hSw:Mod [] wf wS:=hSw
     clear hSw
     go_simp
     all_goals with_reducible rfl
    ·exact fun _ _ _ h=>h
    try simp only [Act.put,Lq1,Lq2,Lq3]
    refine TlAny.take 15 (v:=?_) hHeld ?_ ?_ ?_
    rotate_left 1
    ·refine Or.inl ⟨by rfl,?_⟩
     intro wS hSw
     replace hSw:Mod [] wf wS:=hSw
     clear hSw
     go_simp
     all_goals with_reducible rfl
    ·exact fun _ _ _ h=>h
    try simp only [Act.put,Lq1,Lq2,Lq3]
    have b0:=hHeld.cell b0 (by simp);have b1:=hHeld.cell b1 (by simp)
    have fA:∀ j,v1.frozen? ⟨w.heap.size+1,j,none⟩=false:=fun j=>free_at (hHeld.at E1.out (by simp)) j
    refine TlAny.one 16 ?_
    intro K hK
    go_simp
    refine hK.out _ _ (fun hN=>absurd hN (by decide)) ?_
    clear hK K
    try simp only [Act.put,Lq1,Lq2,Lq3]
    refine TlAny.fin ?_
    have E1:=Hxq (hHeld.at E1.out (by simp));have M1:=Hxq (M1.out.trans hHeld (by simp))
    go_wp2_with fail
    generalize hS:(s++sg++s':ByteArray)=S2
    refine bodyPost_ret (results_cell_row rfl _ _ _ _ _ _ _ rfl (setCs_row (vs:=[.string S2,.bool true]) E1.out rfl) Tryz.underlying92 rfl (by kernel_rfl)) rfl ⟨_,rfl,⟨S2,true,rfl,by rw [<-hS,ByteArray.size_append,ByteArray.size_append];exact HSZ.out,fun t ht=>?_,fun hn=>?_⟩,M1.out.trans (setCs_mod (w.heap.size+1) [.string S2,.bool true] 0 v1) (fun t ht=>.inr (by rw [Msq] at ht;omega))⟩
    ·rw [HSP.out] at ht
     cases hA:argO j (decide (rbinds a<rbinds e)) a with
     | none=>rw [hA] at ht;cases ht
     | some l=>cases (HTA.out.1 l hA).1
    ·rfl
   case false =>
    refine tl_region (fun wS=>Mod [] wf wS) [16] (by kernel_rfl) ?_
    have hHeld:Mod [] wf wf.drew:=(Mod.refl [] wf).drew
    try simp only [Act.put,Lq1,Lq2,Lq3]
    generalize wf.drew=wd at *
    refine TlAny.take 0 (v:=?_) hHeld ?_ ?_ ?_
    rotate_left 1
    ·refine Or.inl ⟨by rfl,?_⟩
     intro wS hSw
     replace hSw:Mod [] wf wS:=hSw
     clear hSw
     go_simp
     all_goals with_reducible rfl
    ·exact fun _ _ _ h=>h
    try simp only [Act.put,Lq1,Lq2,Lq3]
    refine TlAny.take 1 (v:=?_) hHeld ?_ ?_ ?_
    rotate_left 1
    ·refine Or.inl ⟨by rfl,?_⟩
     intro wS hSw
     replace hSw:Mod [] wf wS:=hSw
     have p:=hSw.cell s0 (by simp)
     clear hSw
     go_simp
     all_goals with_reducible rfl
    ·exact fun _ _ _ h=>h
    try simp only [Act.put,Lq1,Lq2,Lq3]
    refine TlAny.take 2 (v:=?_) hHeld ?_ ?_ ?_
    rotate_left 1
    ·refine Or.inl ⟨by rfl,?_⟩
     intro wS hSw
     replace hSw:Mod [] wf wS:=hSw
     clear hSw
     go_simp
     all_goals with_reducible rfl
    ·exact fun _ _ _ h=>h
    try simp only [Act.put,Lq1,Lq2,Lq3]
    refine TlAny.take 3 (v:=?_) hHeld ?_ ?_ ?_
    rotate_left 1
    ·refine Or.inl ⟨by rfl,?_⟩
     intro wS hSw
     replace hSw:Mod [] wf wS:=hSw
     have p:=hSw.cell x5 (by simp)
     clear hSw
     go_simp
     all_goals with_reducible rfl
    ·exact fun _ _ _ h=>h
    try simp only [Act.put,Lq1,Lq2,Lq3]
    refine TlAny.take 6 (v:=?_) hHeld ?_ ?_ ?_
    rotate_left 1
    ·refine Or.inl ⟨by rfl,?_⟩
     intro wS hSw
     replace hSw:Mod [] wf wS:=hSw
     clear hSw
     go_simp
     all_goals with_reducible rfl
    ·exact fun _ _ _ h=>h
    try simp only [Act.put,Lq1,Lq2,Lq3]
    refine TlAny.take 7 (v:=?_) hHeld ?_ ?_ ?_
    rotate_left 1
    ·refine Or.inl ⟨by rfl,?_⟩
     intro wS hSw
     replace hSw:Mod [] wf wS:=hSw
     have p:=hSw.cell t0 (by simp)
     clear hSw
     go_simp
     all_goals with_reducible rfl
    ·exact fun _ _ _ h=>h
    try simp only [Act.put,Lq1,Lq2,Lq3]
    refine TlAny.take 9 (v:=?_) hHeld ?_ ?_ ?_
    rotate_left 1
    ·refine Or.inl ⟨by rfl,?_⟩
     intro wS hSw
     replace hSw:Mod [] wf wS:=hSw
     clear hSw
     go_simp
     all_goals with_reducible rfl
    ·exact fun _ _ _ h=>h
    try simp only [Act.put,Lq1,Lq2,Lq3]
    refine TlAny.take 10 (v:=?_) hHeld ?_ ?_ ?_
    rotate_left 1
    ·refine Or.inl ⟨by rfl,?_⟩
     intro wS hSw
     replace hSw:Mod [] wf wS:=hSw
     have p:=hSw.cell s1 (by simp)
     clear hSw
     go_simp
     all_goals with_reducible rfl
    ·exact fun _ _ _ h=>h
    try simp only [Act.put,Lq1,Lq2,Lq3]
    refine TlAny.one 4 ?_
    intro K hK
    go_simp
    refine (rsign_any e.op _).mono ?_
    rintro e2 v1 ⟨rfl,hv1⟩
    subst hv1
    rw [HSGD.out]
    refine hK.out _ _ (fun _=>hHeld) ?_
    clear hK K
    try simp only [Act.put,Lq1,Lq2,Lq3]
    refine TlAny.take 5 (v:=?_) hHeld ?_ ?_ ?_
    rotate_left 1
    ·refine Or.inl ⟨by rfl,?_⟩
     intro wS hSw
     replace hSw:Mod [] wf wS:=hSw
     clear hSw
     go_simp;(try rw [if_neg (by (try simp only [ByteArray.size_append]);omega)])
     all_goals with_reducible rfl
    ·exact fun _ _ _ h=>h
    try simp only [Act.put,Lq1,Lq2,Lq3]
    refine TlAny.take 8 (v:=?_) hHeld ?_ ?_ ?_
    rotate_left 1
    ·refine Or.inl ⟨by rfl,?_⟩
     intro wS hSw
     replace hSw:Mod [] wf wS:=hSw
     clear hSw
     go_simp;(try rw [if_neg (by (try simp only [ByteArray.size_append]);omega)])
     all_goals with_reducible rfl
    ·exact fun _ _ _ h=>h
    try simp only [Act.put,Lq1,Lq2,Lq3]
    refine TlAny.take 11 (v:=?_) hHeld ?_ ?_ ?_
    rotate_left 1
    ·refine Or.inl ⟨by rfl,?_⟩
     intro wS hSw
     replace hSw:Mod [] wf wS:=hSw
     clear hSw
     go_simp
     all_goals with_reducible rfl
    ·exact fun _ _ _ h=>h
    try simp only [Act.put,Lq1,Lq2,Lq3]
    refine TlAny.take 12 (v:=?_) hHeld ?_ ?_ ?_
    rotate_left 1
    ·first
      | (refine Or.inl ⟨by rfl,?_⟩;intro wS hSw;replace hSw:Mod [] wf wS:=hSw;have p:=hSw.cell t1 (by simp);clear hSw;go_simp;all_goals with_reducible rfl)
      | (refine Or.inr ⟨by kernel_rfl,?_⟩;with_reducible rfl)
    ·exact fun _ _ _ h=>h
    try simp only [Act.put,Lq1,Lq2,Lq3]
    refine TlAny.take 13 (v:=?_) hHeld ?_ ?_ ?_
    rotate_left 1
    ·first
      | (refine Or.inl ⟨by rfl,?_⟩;intro wS hSw;replace hSw:Mod [] wf wS:=hSw;have p:=hSw.cell t1 (by simp);clear hSw;go_simp;all_goals with_reducible rfl)
      | (refine Or.inr ⟨by kernel_rfl,?_⟩;with_reducible rfl)
    ·exact fun _ _ _ h=>h
    try simp only [Act.put,Lq1,Lq2,Lq3]
    refine TlAny.take 14 (v:=?_) hHeld ?_ ?_ ?_
    rotate_left 1
    ·refine Or.inl ⟨by rfl,?_⟩
     intro wS hSw
     replace hSw:Mod [] wf wS:=hSw
     clear hSw
     go_simp
     all_goals with_reducible rfl
    ·exact fun _ _ _ h=>h
    try simp only [Act.put,Lq1,Lq2,Lq3]
    refine TlAny.take 15 (v:=?_) hHeld ?_ ?_ ?_
    rotate_left 1
    ·refine Or.inl ⟨by rfl,?_⟩
     intro wS hSw
     replace hSw:Mod [] wf wS:=hSw
     clear hSw
     go_simp
     all_goals with_reducible rfl
    ·exact fun _ _ _ h=>h
    try simp only [Act.put,Lq1,Lq2,Lq3]
    have b0:=hHeld.cell b0 (by simp);have b1:=hHeld.cell b1 (by simp)
    have fA:∀ j,v1.frozen? ⟨w.heap.size+1,j,none⟩=false:=fun j=>free_at (hHeld.at E1.out (by simp)) j
    refine TlAny.one 16 ?_
    intro K hK
    go_simp
    refine hK.out _ _ (fun hN=>absurd hN (by decide)) ?_
    clear hK K
    try simp only [Act.put,Lq1,Lq2,Lq3]
    refine TlAny.fin ?_
    have E1:=Hxq (hHeld.at E1.out (by simp));have M1:=Hxq (M1.out.trans hHeld (by simp))
    go_wp2_with fail
    generalize hS:(s++sg++s':ByteArray)=S2
    refine bodyPost_ret (results_cell_row rfl _ _ _ _ _ _ _ rfl (setCs_row (vs:=[.string S2,.bool b2']) E1.out rfl) Tryz.underlying92 rfl (by kernel_rfl)) rfl ⟨_,rfl,⟨S2,b2',rfl,by rw [<-hS,ByteArray.size_append,ByteArray.size_append];exact HSZ.out,fun t ht=>?_,fun hn=>?_⟩,M1.out.trans (setCs_mod (w.heap.size+1) [.string S2,.bool b2'] 0 v1) (fun t ht=>.inr (by rw [Msq] at ht;omega))⟩
    ·rw [HSP.out] at ht
     cases hA:argO j (decide (rbinds a<rbinds e)) a with
     | none=>rw [hA] at ht;cases ht
     | some l =>
      cases hB:argO j (decide (rbinds b<=rbinds e)) b with
      | none=>rw [hA,hB] at ht;cases ht
      | some r =>
       rw [hA,hB] at ht
       cases ht
       refine ⟨(HTB.out.1 r hB).1,?_⟩
       rw [<-hS,(HTA.out.1 l hA).2,(HTB.out.1 r hB).2,<-HSGD.out,ofS_appR,ofS_appR,ByteArray.append_assoc]
    ·rw [HSP.out] at hn
     cases hA:argO j (decide (rbinds a<rbinds e)) a with
     | none=>cases HTA.out.2 hA
     | some l =>
      cases hB:argO j (decide (rbinds b<=rbinds e)) b with
      | none=>exact HTB.out.2 hB
      | some r=>rw [hA,hB] at hn;cases hn
/-- every expression -/
theorem exr_all:∀ k,k<=20->ExR k:=by
 intro k
 induction k using Nat.strongRecOn with
 | ind k ih =>
  intro hk e u d w hd hE hG hw
  by_cases h1:e.k=1\/e.k=2
  ·exact rexpr_leaf k e u d w h1 hd hE hG hw
  ·have n1:e.k≠1:=fun h=>h1 (.inl h)
   have n2:e.k≠2:=fun h=>h1 (.inr h)
   by_cases hc:e.k≠4\/d<1\/e.v.size≠0\/e.x≠Va.zero\/e.op<1\/6<e.op
   ·exact rexpr_bad k e u d w n1 n2 hd hE hc
   ·have g1:e.k=4:=Decidable.byContradiction fun h=>hc (.inl h)
    have g2:¬ d<1:=fun h=>hc (.inr (.inl h))
    have g3:e.v.size=0:=Decidable.byContradiction fun h=>hc (.inr (.inr (.inl h)))
    have g4:e.x=Va.zero:=Decidable.byContradiction fun h=>hc (.inr (.inr (.inr (.inl h))))
    have g5:¬ e.op<1:=fun h=>hc (.inr (.inr (.inr (.inr (.inl h)))))
    have g6:¬ 6<e.op:=fun h=>hc (.inr (.inr (.inr (.inr (.inr h)))))
    obtain ⟨j,rfl⟩:∃ j,k=j+2:=⟨k - 2,by omega⟩
    by_cases h6:e.op=6
    ·by_cases hl:e.args.length=1
     ·obtain ⟨a,ha⟩:=List.length_eq_one_iff.1 hl
      exact rexpr_un j (by omega) (ih j (by omega) (by omega)) (ih (j+1) (by omega) (by omega)) e a u d w g1 (by omega) g3 g4 h6 ha hE hG hw
     ·exact rexpr_args j e u d w g1 (by omega) g3 g4 hE (.inl ⟨h6,hl⟩)
    ·by_cases hl:e.args.length=2
     ·obtain ⟨a,b,ha⟩:∃ a b,e.args=[a,b]:=by
       match e.args,hl with
       | [a,b],_=>exact ⟨a,b,rfl⟩
      exact rexpr_bin j (by omega) (ih j (by omega) (by omega)) (ih (j+1) (by omega) (by omega)) e a b u d w g1 (by omega) g3 g4 ⟨by omega,by omega⟩ ha hE hG hw
     ·exact rexpr_args j e u d w g1 (by omega) g3 g4 hE (.inr ⟨by omega,by omega,hl⟩)
end Go.Proofs.YtohnmnfhmbmoaaaGreatDoor
