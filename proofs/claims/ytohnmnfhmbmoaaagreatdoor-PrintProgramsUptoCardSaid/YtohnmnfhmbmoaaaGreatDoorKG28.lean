/- THE TEXTS MERGED: P5Expr2. -/
import Derived.Test.YtohnmnfhmbmoaaaGreatDoorKG27
namespace Go.Proofs.YtohnmnfhmbmoaaaGreatDoor
open Go.RowKit
set_option linter.unusedVariables false
set_option linter.unusedSimpArgs false
set_option maxRecDepth 100000
theorem a2B (n:Int) (x:Int):(n == x)=decide (n=x):=by
 rw [Bool.eq_iff_iff,beq_iff_eq,decide_eq_true_eq]
set_option maxHeartbeats 4000000 in
theorem rexpr_un (j:Nat) (hj:j<=18) (h0:ExR j) (h1:ExR (j+1)) (e a:Pr.Ex) (u:Value) (d:Int) (w:World) (hk4:e.k=4) (hd:d=(j:Int)+1) (hv:e.v.size=0) (hx:e.x=Va.zero) (ho:e.op=6) (ha:e.args=[a]) (hE:EOk w e u) (hG:GlobV w) (hw:exWt e<=140737488000000) :
  Calls Tryz.prog 125 #[.agg (exV e u),.int .i64 d] w (TxR (Pr.pE (j+2) e) (exWt e) w):=by
 obtain ⟨ua,uc,rfl⟩:=hE.lit
 have HSP:=Hxq (pE_un j e a hk4 hv hx ho ha)
 have hal:e.args.length=1:=by rw [ha];rfl
 obtain ⟨g,off,au,rfl,hat,hEa⟩:=hE.at 0 (by omega)
 have ha0:e.args[0]'(by omega)=a:=by simp [ha]
 rw [ha0] at hat hEa
 have hwa:exWt a+300<=exWt e:=by rw [exWt_eq e,ha,exWts,exWts];omega
 have hm0:=((Mod.refl [] w).alloc (Obj.cells (exV e (.slice (some ⟨g,off,none⟩) e.args.length uc)) 38)).alloc (Obj.cells #[.string ⟨#[]⟩,.bool false] 92)
 have e0:=two_a w (exV e (.slice (some ⟨g,off,none⟩) e.args.length uc)) #[.string ⟨#[]⟩,.bool false] 38 92
 have e1:=two_b w (exV e (.slice (some ⟨g,off,none⟩) e.args.length uc)) #[.string ⟨#[]⟩,.bool false] 38 92
 have zA:((w.alloc (Obj.cells (exV e (.slice (some ⟨g,off,none⟩) e.args.length uc)) 38)).alloc (Obj.cells #[.string ⟨#[]⟩,.bool false] 92)).heap.size=w.heap.size+2:=by simp
 have k1B:(e.k == 1)=false:=by rw [hk4];rfl
 have k2B:(e.k == 2)=false:=by rw [hk4];rfl
 have k4B:(e.k != 4)=false:=by rw [hk4];rfl
 have hve:=fun W=>vne_run e.x W
 rw [decide_eq_true hx] at hve
 have hem:=toList_isEmpty e.v
 rw [decide_eq_true hv] at hem
 have hd1:¬ d<1:=by omega
 have o1:(e.op == 6)=true:=by rw [ho];rfl
 have o2:¬ e.op<1:=by omega
 have o3:¬ 6<e.op:=by omega
 have l1:((e.args.length:Int) != 1)=false:=by rw [hal];rfl
 have l2:(0:Int)<(e.args.length:Int):=by omega
 obtain ⟨aa,ac,rfl⟩:=hEa.lit
 have HSP2:∃ NB ZB RB:Bool,NB=(decide (a.k=2) && (decide (a.x.k=1) && decide (0<a.x.n)))/\ZB=decide (a.k=2/\a.x.k=1/\a.x.n=0)/\RB=decide (rbinds a<3)/\Pr.pE (j+2) e=(argO j (RB || NB) a).map (fun t=>45 :: ((if ZB=true then [45] else [])++t)):=⟨_,_,_,rfl,rfl,rfl,by rw [HSP.out];simp only [decide_eq_true_eq]⟩
 obtain ⟨NB,ZB,RB,hNB,hZB,hRB,hSP⟩:=HSP2
 have hcases:((a.k == 2)=false/\NB=false/\ZB=false)\/((a.k == 2)=true/\(a.x.k == 1)=false/\NB=false/\ZB=false)\/((a.k == 2)=true/\(a.x.k == 1)=true/\0<a.x.n/\(a.x.n == 0)=false/\NB=true/\ZB=false) \/
   ((a.k == 2)=true/\(a.x.k == 1)=true/\¬ 0<a.x.n/\(a.x.n == 0)=true/\NB=false/\ZB=true)\/((a.k == 2)=true/\(a.x.k == 1)=true/\¬ 0<a.x.n/\(a.x.n == 0)=false/\NB=false/\ZB=false):=by
  rw [a2B,a2B,a2B,hNB,hZB]
  by_cases g1:a.k=2 <;> by_cases g2:a.x.k=1 <;> by_cases g3:0<a.x.n <;> by_cases g4:a.x.n=0 <;> simp [g1,g2,g3,g4]
  all_goals omega
 have hrc:(RB=true/\decide ((rbinds a:Int)<3)=true)\/(RB=false/\decide ((rbinds a:Int)<3)=false):=by
  rw [hRB]
  by_cases g:rbinds a<3
  ·exact .inl ⟨decide_eq_true g,decide_eq_true (by omega)⟩
  ·exact .inr ⟨decide_eq_false g,decide_eq_false (by omega)⟩
 have HK:=Lib.hid hcases;have HRC:=Lib.hid hrc
 clear HSP
 have HSP:=Lib.hid hSP
 have HRB:=Lib.hid hRB
 clear hNB hZB hRB hSP hcases hrc
 have HE:=Lib.hid hEa;have HG:=Lib.hid hG;have HAT:=Lib.hid hat;have H0:=Lib.hid h0;have H1:=Lib.hid h1;have HWA:=Lib.hid hwa
 have hdj:d - 1=(j:Int):=by omega
 have HDJ:=Lib.hid hdj
 have HWR:Hid (IntKind.i64.wrap (d - 1)=(j:Int)):=Hxq (by rw [hdj];simp [IntKind.wrap,IntKind.signed,IntKind.bits];omega)
 have hdr:d<=20:=by omega
 have hdg:1<=d:=by omega
 have hHA:Hid (e.args.length=1):=Lib.hid hal
 clear hE hk4 hd hv hx ho ha hEa hG hat h0 h1 ha0 hal hdj hwa
 unfold exV at *
 go_enter Tryz.func125,Tryz.ntmps125
 go_upto_region 1 with fail
 generalize (w.alloc (Obj.cells _ 38)).alloc (Obj.cells _ 92)=w0 at *
 have M0:=Lib.hid hm0;have E0:=Lib.hid e0;have E1:=Lib.hid e1;have ZA:=Lib.hid zA
 clear hm0 e0 e1 zA
 have x0:=cell_at E0.out 0;have x1:=cell_at E0.out 1;have x2:=cell_at E0.out 2;have x3:=cell_at E0.out 3;have x4:=cell_at E0.out 4;have x5:=cell_at E0.out 5;have x6:=cell_at E0.out 6
 simp only [List.getElem?_toArray,List.getElem?_cons_zero,List.getElem?_cons_succ] at x0 x1 x2 x3 x4 x5 x6
 have hat:=HAT.out
 have r0:=M0.out.cell hat.c0 (by simp);have r1:=M0.out.cell hat.c1 (by simp);have r2:=M0.out.cell hat.c2 (by simp);have r3:=M0.out.cell hat.c3 (by simp);have r4:=M0.out.cell hat.c4 (by simp);have r5:=M0.out.cell hat.c5 (by simp);have r6:=M0.out.cell hat.c6 (by simp)
 simp only [Nat.zero_mul,Nat.add_zero] at r0 r1 r2 r3 r4 r5 r6
 clear hat
 go_upto_region 10 with fail
 have mB:=(Mod.refl [] w0).alloc (Obj.cells #[.int .i64 a.k,.string a.v,.int .i64 a.x.k,.int .i64 a.x.n,.string (Lx.ofS a.x.s),.int .i64 a.op,.slice aa a.args.length ac] 38)
 have xB:=heap_alloc_new w0 (Obj.cells #[.int .i64 a.k,.string a.v,.int .i64 a.x.k,.int .i64 a.x.n,.string (Lx.ofS a.x.s),.int .i64 a.op,.slice aa a.args.length ac] 38)
 generalize w0.alloc (Obj.cells _ 38)=w2 at *
 rw [ZA.out] at xB
 generalize hp6:w.heap.size+2=p6 at *
 have E1:=Hxq (mB.at E1.out (by simp));have E0:=Hxq (mB.at E0.out (by simp));have M1:=Hxq (M0.out.trans mB (by simp));have XA:=Lib.hid xB
 clear mB xB r0 r1 r2 r3 r4 r5 r6 x0 x1 x2 x3 x4 x5 x6
 have a0:=cell_at XA.out 0;have a1:=cell_at XA.out 1;have a2:=cell_at XA.out 2;have a3:=cell_at XA.out 3;have a4:=cell_at XA.out 4;have a5:=cell_at XA.out 5;have a6:=cell_at XA.out 6
 simp only [List.getElem?_toArray,List.getElem?_cons_zero,List.getElem?_cons_succ] at a0 a1 a2 a3 a4 a5 a6
 have HEa:=Hxq (HE.out.past M1.out)
 have HGa:=Hxq (HG.out.past M1.out (by simp))
 have hz1:=ZA.out
 rw [ZA.out]
 go_cut [7] (fun c wx=>c=.bool NB/\wx=w2)
 case first =>
  rcases HK.out with ⟨c1,rfl,rfl⟩ | ⟨c1,c2,rfl,rfl⟩ | ⟨c1,c2,c3,c4,rfl,rfl⟩ | ⟨c1,c2,c3,c4,rfl,rfl⟩ | ⟨c1,c2,c3,c4,rfl,rfl⟩
  all_goals (
   go_wp2_with fail
   go_meet
   exact ⟨rfl,rfl⟩)
 case rest =>
  obtain ⟨rfl,hwc⟩:=hcut
  have hw':=hwc.symm
  subst hw'
  go_upto_region 11 with fail
  go_cut [8] (fun c wx=>∃ (p8:Nat) (s:ByteArray) (b:Bool),c=.pointer (some ⟨p8,0,none⟩)/\wx.heap[p8]?=some (.cells #[.string s,.bool b] 92 (0,0))/\s.size<=exWt a+2/\(∀ t,argO j (RB || NB) a=some t->b=false/\s=Lx.ofS t)/\(argO j (RB || NB) a=none->b=true)/\Mod [] w2 wx/\w2.heap.size<=p8)
  case first =>
   rcases HRC.out with ⟨rfl,hrb⟩ | ⟨rfl,hrb⟩
   all_goals (
    refine tl_region (fun wS=>Mod [] w2 wS) [11] (by kernel_rfl) ?_
    have hHeld:Mod [] w2 w2.drew:=(Mod.refl [] w2).drew
    try simp only [Act.put,Lq1,Lq2,Lq3]
    generalize w2.drew=wd at *
    refine TlAny.take 0 (v:=?_) hHeld ?_ ?_ ?_
    rotate_left 1
    ·refine Or.inl ⟨by rfl,?_⟩
     intro wS hSw
     replace hSw:Mod [] w2 wS:=hSw
     have p0:=hSw.cell a0 (by simp)
     have p1:=hSw.cell a1 (by simp)
     have p2:=hSw.cell a2 (by simp)
     have p3:=hSw.cell a3 (by simp)
     have p4:=hSw.cell a4 (by simp)
     have p5:=hSw.cell a5 (by simp)
     have p6:=hSw.cell a6 (by simp)
     clear hSw
     go_simp
     all_goals with_reducible rfl
    ·exact fun _ _ _ h=>h
    try simp only [Act.put,Lq1,Lq2,Lq3]
    refine TlAny.take 1 (v:=?_) hHeld ?_ ?_ ?_
    rotate_left 1
    ·refine Or.inl ⟨by rfl,?_⟩
     intro wS hSw
     replace hSw:Mod [] w2 wS:=hSw
     have p0:=hSw.cell a0 (by simp)
     have p1:=hSw.cell a1 (by simp)
     have p2:=hSw.cell a2 (by simp)
     have p3:=hSw.cell a3 (by simp)
     have p4:=hSw.cell a4 (by simp)
     have p5:=hSw.cell a5 (by simp)
     have p6:=hSw.cell a6 (by simp)
     clear hSw
     go_simp
     all_goals with_reducible rfl
    ·exact fun _ _ _ h=>h
    try simp only [Act.put,Lq1,Lq2,Lq3]
    refine TlAny.take 7 (v:=?_) hHeld ?_ ?_ ?_
    rotate_left 1
    ·refine Or.inl ⟨by rfl,?_⟩
     intro wS hSw
     replace hSw:Mod [] w2 wS:=hSw
     clear hSw
     go_simp
     all_goals with_reducible rfl
    ·exact fun _ _ _ h=>h
    try simp only [Act.put,Lq1,Lq2,Lq3]
    refine TlAny.take 8 (v:=?_) hHeld ?_ ?_ ?_
    rotate_left 1
    ·refine Or.inl ⟨by rfl,?_⟩
     intro wS hSw
     replace hSw:Mod [] w2 wS:=hSw
     clear hSw
     go_simp
     all_goals with_reducible rfl
    ·exact fun _ _ _ h=>h
    try simp only [Act.put,Lq1,Lq2,Lq3]
    refine TlAny.two 2 10 ?_ ?_
    ·intro K hK
     go_simp
     refine (rbinds_any a (.slice aa a.args.length ac) wd).mono ?_
     rintro e2 v2 ⟨rfl,m2⟩
     replace hHeld:Mod [] w2 v2:=hHeld.trans m2 (by simp)
     refine hK.out _ _ (fun _=>hHeld) ?_
     clear hK K
     try simp only [Act.put,Lq1,Lq2,Lq3]
     clear m2
     refine TlAny.take 3 (v:=?_) hHeld ?_ ?_ ?_
     rotate_left 1
     ·refine Or.inl ⟨by rfl,?_⟩
      intro wS hSw
      replace hSw:Mod [] w2 wS:=hSw
      clear hSw
      go_simp;(try rw [hrb])
      all_goals with_reducible rfl
     ·exact fun _ _ _ h=>h
     try simp only [Act.put,Lq1,Lq2,Lq3]
     refine TlAny.take 4 (v:=?_) hHeld ?_ ?_ ?_
     rotate_left 1
     ·refine Or.inl ⟨by rfl,?_⟩
      intro wS hSw
      replace hSw:Mod [] w2 wS:=hSw
      clear hSw
      go_simp
      all_goals with_reducible rfl
     ·exact fun _ _ _ h=>h
     try simp only [Act.put,Lq1,Lq2,Lq3]
     refine TlAny.take 5 (v:=?_) hHeld ?_ ?_ ?_
     rotate_left 1
     ·first
       | (refine Or.inl ⟨by rfl,?_⟩;intro wS hSw;go_simp;all_goals with_reducible rfl)
       | (refine Or.inr ⟨by kernel_rfl,?_⟩;with_reducible rfl)
     ·exact fun _ _ _ h=>h
     try simp only [Act.put,Lq1,Lq2,Lq3]
     refine TlAny.take 6 (v:=?_) hHeld ?_ ?_ ?_
     rotate_left 1
     ·refine Or.inl ⟨by rfl,?_⟩
      intro wS hSw
      replace hSw:Mod [] w2 wS:=hSw
      clear hSw
      go_simp
      all_goals with_reducible rfl
     ·exact fun _ _ _ h=>h
     try simp only [Act.put,Lq1,Lq2,Lq3]
     refine TlAny.two 9 10 ?_ ?_
     ·intro K hK
      go_simp
      rw [HWR.out]
      refine (rarg_any j (by omega) H0.out H1.out a (.slice aa a.args.length ac) _ v2 (HEa.out.past hHeld) (HGa.out.past hHeld (by simp)) (by have:=HWA.out;omega)).mono ?_
      rintro e9 v9x ⟨vv,rfl,⟨s,b,rfl,hs,ht,hn⟩,m9⟩
      replace hHeld:Mod [] w2 v9x:=hHeld.trans m9 (by simp)
      refine hK.out _ _ (fun _=>hHeld) ?_
      clear hK K
      try simp only [Act.put,Lq1,Lq2,Lq3]
      clear m9
      refine TlAny.one 10 ?_
      intro K hK
      go_simp
      refine hK.out _ _ (fun _=>hHeld.alloc _) ?_
      clear hK K
      try simp only [Act.put,Lq1,Lq2,Lq3]
      have xA:=heap_alloc_new v9x (Obj.cells #[.string ⟨#[]⟩,.bool false] 92)
      have mA:=(Mod.refl [] v9x).alloc (Obj.cells #[.string ⟨#[]⟩,.bool false] 92)
      have hle:=hHeld.size
      generalize v9x.alloc (Obj.cells _ 92)=v10xx at *
      generalize v9x.heap.size=p8 at *
      replace hHeld:Mod [] w2 v10xx:=hHeld.trans mA (by simp)
      clear mA
      have c0:=cell_at xA 0;have c1:=cell_at xA 1
      simp only [List.getElem?_toArray,List.getElem?_cons_zero,List.getElem?_cons_succ] at c0 c1
      have fA:∀ j,v10xx.frozen? ⟨p8,j,none⟩=false:=fun j=>free_at xA j
      refine TlAny.one 11 ?_
      intro K hK
      go_simp
      refine hK.out _ _ (fun hN=>absurd hN (by decide)) ?_
      clear hK K
      try simp only [Act.put,Lq1,Lq2,Lq3]
      refine TlAny.fin ?_
      go_wp2_with fail
      go_meet
      refine ⟨p8,s,b,rfl,setCs_row (vs:=[.string s,.bool b]) xA rfl,hs,ht,hn,hHeld.trans (setCs_mod p8 [.string s,.bool b] 0 v10xx) (fun t ht=>.inr (by rw [Msq] at ht;omega)),by omega⟩
     ·intro K hK
      go_simp
      refine hK.out _ _ (fun _=>hHeld.alloc _) ?_
      clear hK K
      try simp only [Act.put,Lq1,Lq2,Lq3]
      have xA:=heap_alloc_new v2 (Obj.cells #[.string ⟨#[]⟩,.bool false] 92)
      have mA:=(Mod.refl [] v2).alloc (Obj.cells #[.string ⟨#[]⟩,.bool false] 92)
      have hle:=hHeld.size
      generalize v2.alloc (Obj.cells _ 92)=v10x at *
      generalize v2.heap.size=p8 at *
      replace hHeld:Mod [] w2 v10x:=hHeld.trans mA (by simp)
      clear mA
      refine TlAny.one 9 ?_
      intro K hK
      go_simp
      rw [HWR.out]
      refine (rarg_any j (by omega) H0.out H1.out a (.slice aa a.args.length ac) _ v10x (HEa.out.past hHeld) (HGa.out.past hHeld (by simp)) (by have:=HWA.out;omega)).mono ?_
      rintro e9 v9xx ⟨vv,rfl,⟨s,b,rfl,hs,ht,hn⟩,m9⟩
      replace hHeld:Mod [] w2 v9xx:=hHeld.trans m9 (by simp)
      replace xA:=m9.at xA (by simp)
      refine hK.out _ _ (fun _=>hHeld) ?_
      clear hK K
      try simp only [Act.put,Lq1,Lq2,Lq3]
      clear m9
      have c0:=cell_at xA 0;have c1:=cell_at xA 1
      simp only [List.getElem?_toArray,List.getElem?_cons_zero,List.getElem?_cons_succ] at c0 c1
      have fA:∀ j,v9xx.frozen? ⟨p8,j,none⟩=false:=fun j=>free_at xA j
      refine TlAny.one 11 ?_
      intro K hK
      go_simp
      refine hK.out _ _ (fun hN=>absurd hN (by decide)) ?_
      clear hK K
      try simp only [Act.put,Lq1,Lq2,Lq3]
      refine TlAny.fin ?_
      go_wp2_with fail
      go_meet
      refine ⟨p8,s,b,rfl,setCs_row (vs:=[.string s,.bool b]) xA rfl,hs,ht,hn,hHeld.trans (setCs_mod p8 [.string s,.bool b] 0 v9xx) (fun t ht=>.inr (by rw [Msq] at ht;omega)),by omega⟩
    ·intro K hK
     go_simp
     refine hK.out _ _ (fun _=>hHeld.alloc _) ?_
     clear hK K
     try simp only [Act.put,Lq1,Lq2,Lq3]
     have xA:=heap_alloc_new wd (Obj.cells #[.string ⟨#[]⟩,.bool false] 92)
     have mA:=(Mod.refl [] wd).alloc (Obj.cells #[.string ⟨#[]⟩,.bool false] 92)
     have hle:=hHeld.size
     generalize wd.alloc (Obj.cells _ 92)=v10 at *
     generalize wd.heap.size=p8 at *
     replace hHeld:Mod [] w2 v10:=hHeld.trans mA (by simp)
     clear mA
     refine TlAny.one 2 ?_
     intro K hK
     go_simp
     refine (rbinds_any a (.slice aa a.args.length ac) v10).mono ?_
     rintro e2 v2x ⟨rfl,m2⟩
     replace hHeld:Mod [] w2 v2x:=hHeld.trans m2 (by simp)
     replace xA:=m2.at xA (by simp)
     refine hK.out _ _ (fun _=>hHeld) ?_
     clear hK K
     try simp only [Act.put,Lq1,Lq2,Lq3]
     clear m2
     refine TlAny.take 3 (v:=?_) hHeld ?_ ?_ ?_
     rotate_left 1
     ·refine Or.inl ⟨by rfl,?_⟩
      intro wS hSw
      replace hSw:Mod [] w2 wS:=hSw
      clear hSw
      go_simp;(try rw [hrb])
      all_goals with_reducible rfl
     ·exact fun _ _ _ h=>h
     try simp only [Act.put,Lq1,Lq2,Lq3]
     refine TlAny.take 4 (v:=?_) hHeld ?_ ?_ ?_
     rotate_left 1
     ·refine Or.inl ⟨by rfl,?_⟩
      intro wS hSw
      replace hSw:Mod [] w2 wS:=hSw
      clear hSw
      go_simp
      all_goals with_reducible rfl
     ·exact fun _ _ _ h=>h
     try simp only [Act.put,Lq1,Lq2,Lq3]
     refine TlAny.take 5 (v:=?_) hHeld ?_ ?_ ?_
     rotate_left 1
     ·first
       | (refine Or.inl ⟨by rfl,?_⟩;intro wS hSw;go_simp;all_goals with_reducible rfl)
       | (refine Or.inr ⟨by kernel_rfl,?_⟩;with_reducible rfl)
     ·exact fun _ _ _ h=>h
     try simp only [Act.put,Lq1,Lq2,Lq3]
     refine TlAny.take 6 (v:=?_) hHeld ?_ ?_ ?_
     rotate_left 1
     ·refine Or.inl ⟨by rfl,?_⟩
      intro wS hSw
      replace hSw:Mod [] w2 wS:=hSw
      clear hSw
      go_simp
      all_goals with_reducible rfl
     ·exact fun _ _ _ h=>h
     try simp only [Act.put,Lq1,Lq2,Lq3]
     refine TlAny.one 9 ?_
     intro K hK
     go_simp
     rw [HWR.out]
     refine (rarg_any j (by omega) H0.out H1.out a (.slice aa a.args.length ac) _ v2x (HEa.out.past hHeld) (HGa.out.past hHeld (by simp)) (by have:=HWA.out;omega)).mono ?_
     rintro e9 v9xx ⟨vv,rfl,⟨s,b,rfl,hs,ht,hn⟩,m9⟩
     replace hHeld:Mod [] w2 v9xx:=hHeld.trans m9 (by simp)
     replace xA:=m9.at xA (by simp)
     refine hK.out _ _ (fun _=>hHeld) ?_
     clear hK K
     try simp only [Act.put,Lq1,Lq2,Lq3]
     clear m9
     have c0:=cell_at xA 0;have c1:=cell_at xA 1
     simp only [List.getElem?_toArray,List.getElem?_cons_zero,List.getElem?_cons_succ] at c0 c1
     have fA:∀ j,v9xx.frozen? ⟨p8,j,none⟩=false:=fun j=>free_at xA j
     refine TlAny.one 11 ?_
     intro K hK
     go_simp
     refine hK.out _ _ (fun hN=>absurd hN (by decide)) ?_
     clear hK K
     try simp only [Act.put,Lq1,Lq2,Lq3]
     refine TlAny.fin ?_
     go_wp2_with fail
     go_meet
     refine ⟨p8,s,b,rfl,setCs_row (vs:=[.string s,.bool b]) xA rfl,hs,ht,hn,hHeld.trans (setCs_mod p8 [.string s,.bool b] 0 v9xx) (fun t ht=>.inr (by rw [Msq] at ht;omega)),by omega⟩)
  case rest =>
   obtain ⟨p8,s,b,rfl,xT,hs,ht,hn,m8,hp8⟩:=hcut
   have hp1:=lt_of_block E1.out
   have hpa:=lt_of_block XA.out
   have E1:=Hxq (m8.at E1.out (by simp));have XA:=Hxq (m8.at XA.out (by simp));have M1:=Hxq (M1.out.trans m8 (by simp));have XT:=Lib.hid xT
   have HTN:=Hxq (And.intro ht hn)
   have hss:s.size<=140737488000000:=by have:=HWA.out;omega
   clear m8 ht hn a0 a1 a2 a3 a4 a5 a6 xT
   have a0:=cell_at XA.out 0;have a2:=cell_at XA.out 2;have a3:=cell_at XA.out 3
   simp only [List.getElem?_toArray,List.getElem?_cons_zero,List.getElem?_cons_succ] at a0 a2 a3
   have t0:=cell_at XT.out 0;have t1:=cell_at XT.out 1
   simp only [List.getElem?_toArray,List.getElem?_cons_zero,List.getElem?_cons_succ] at t0 t1
   have b0:=cell_at E1.out 0;have b1:=cell_at E1.out 1
   simp only [List.getElem?_toArray,List.getElem?_cons_zero,List.getElem?_cons_succ] at b0 b1
   have fA:∀ j,wc.frozen? ⟨w.heap.size+1,j,none⟩=false:=fun j=>free_at E1.out j
   have fT:∀ j,wc.frozen? ⟨p8,j,none⟩=false:=fun j=>free_at XT.out j
   rcases HK.out with ⟨c1,rfl,rfl⟩ | ⟨c1,c2,rfl,rfl⟩ | ⟨c1,c2,c3,c4,rfl,rfl⟩ | ⟨c1,c2,c3,c4,rfl,rfl⟩ | ⟨c1,c2,c3,c4,rfl,rfl⟩
   case inr.inr.inr.inl =>
    have hka:a.k=2:=by rw [beq_iff_eq] at c1;exact c1
    have hkx:a.x.k=1:=by rw [beq_iff_eq] at c2;exact c2
    have hnx:a.x.n=0:=by rw [beq_iff_eq] at c4;exact c4
    have HT0:Hid (∀ t,argO j (RB || false) a=some t->t=[48]):=Hxq (fun t ht=>by
     rw [HRB.out,show decide (rbinds a<3)=false from by unfold rbinds;rw [hka];rfl] at ht
     unfold argO at ht
     rw [if_neg (by decide),Pr.pE_val _ _ hka] at ht
     split at ht
     ·cases ht
      unfold Va.text
      rw [if_pos hkx,hnx]
      first | decide | kernel_rfl
     ·cases ht)
    clear hka hkx hnx
    go_upto_region 14 with fail
    have E1:=Hxq (((Mod.refl [p8] wc).setCell (p:=⟨p8,0,none⟩) (.inl (by simp)) (.string { data:=#[45,48] })).at E1.out (by simp;omega))
    have XT:=Hxq (setCell_at XT.out 0 (.string { data:=#[45,48] }))
    have M1:=Hxq (M1.out.trans ((Mod.refl [p8] wc).setCell (p:=⟨p8,0,none⟩) (.inl (by simp)) (.string { data:=#[45,48] })) (fun t ht=>.inr (by rw [Msq] at ht;have:=M0.out.size;omega)))
    generalize wc.setCell ⟨p8,0,none⟩ (.string { data:=#[45,48] })=w9 at *
    have t0:=cell_at XT.out 0;have t1:=cell_at XT.out 1;have b0:=cell_at E1.out 0;have b1:=cell_at E1.out 1
    simp at t0 t1
    simp only [List.getElem?_toArray,List.getElem?_cons_zero,List.getElem?_cons_succ] at b0 b1
    have fA:∀ j,w9.frozen? ⟨w.heap.size+1,j,none⟩=false:=fun j=>free_at E1.out j
    go_wp2_with fail
    refine bodyPost_ret (results_cell_row rfl _ _ _ _ _ _ _ rfl (setCs_row (vs:=[.string { data:=#[45,45,48] },.bool b]) E1.out rfl) Tryz.underlying92 rfl (by kernel_rfl)) rfl ⟨_,rfl,⟨{ data:=#[45,45,48] },b,rfl,by show 3<=_;have:=HWA.out;omega,fun t ht=>?_,fun hn=>?_⟩,M1.out.trans (setCs_mod (w.heap.size+1) [.string { data:=#[45,45,48] },.bool b] 0 w9) (fun t ht=>.inr (by rw [Msq] at ht;omega))⟩
    ·rw [HSP.out] at ht
     obtain ⟨x,hx,rfl⟩:=Option.map_eq_some_iff.1 ht
     refine ⟨(HTN.out.1 x hx).1,?_⟩
     rw [HT0.out x hx]
     rfl
    ·rw [HSP.out] at hn
     exact HTN.out.2 (Option.map_eq_none_iff.1 hn)
   all_goals (
    go_wp2_with fail
    generalize hS:({ data:=#[45] }++s:ByteArray)=S2
    refine bodyPost_ret (results_cell_row rfl _ _ _ _ _ _ _ rfl (setCs_row (vs:=[.string S2,.bool b]) E1.out rfl) Tryz.underlying92 rfl (by kernel_rfl)) rfl ⟨_,rfl,⟨S2,b,rfl,by rw [<-hS,ByteArray.size_append];show 1+s.size<=_;have:=HWA.out;omega,fun t ht=>?_,fun hn=>?_⟩,M1.out.trans (setCs_mod (w.heap.size+1) [.string S2,.bool b] 0 wc) (fun t ht=>.inr (by rw [Msq] at ht;omega))⟩
    ·rw [HSP.out] at ht
     obtain ⟨x,hx,rfl⟩:=Option.map_eq_some_iff.1 ht
     refine ⟨(HTN.out.1 x hx).1,?_⟩
     rw [<-hS,(HTN.out.1 x hx).2]
     exact (ofS_appR [45] x).symm
    ·rw [HSP.out] at hn
     exact HTN.out.2 (Option.map_eq_none_iff.1 hn))
end Go.Proofs.YtohnmnfhmbmoaaaGreatDoor
