/- THE TEXTS MERGED: RpUn. -/
import Derived.Test.YtppigckioalhhaaGreatDoorRKT1
import Derived.Test.YtppigckioalhhaaGreatDoorRKT23
namespace Go.Proofs.YtppigckioalhhaaGreatDoorR
open Go.RowKit
set_option linter.unusedVariables false
set_option linter.unusedSimpArgs false
set_option maxRecDepth 100000
set_option maxHeartbeats 16000000 in
theorem ru_of (b:Nat) (ra:Option Addr) (rc:Nat) (L:LX) (v:Sy.Env) (k:Nat) (hkk:EnvK v) (hU:RuC b ra rc L v k) (hC:RcC b ra rc L v k):RuC b ra rc L v (k+1):=by
 intro above i w h hi ha hk
 have hv:=hkk.ok
 have hlen:=hv.len
 have mA:=(Mod.refl [] w).alloc (Obj.cells #[Value.int IntKind.i64 0,Value.string ⟨#[]⟩,Value.int IntKind.i64 0,Value.int IntKind.i64 0,Value.string ⟨#[]⟩,Value.int IntKind.i64 0,Value.slice none 0 0] 45)
 have hA:=h.past mA (by simp)
 have eA:=heap_alloc_new w (Obj.cells #[Value.int IntKind.i64 0,Value.string ⟨#[]⟩,Value.int IntKind.i64 0,Value.int IntKind.i64 0,Value.string ⟨#[]⟩,Value.int IntKind.i64 0,Value.slice none 0 0] 45)
 have HW:=Hxq (fun j w h hj=>rword0 b ra rc L v j nf0 w h hv hj)
 have HR:=Hxq (exprF_un v k above i)
 have HCon:=Hxq (fun w h=>rconstant_any b ra rc L v i w h hkk (by omega))
 have HMk1:=Hxq (fun w=>rmark_sign (t:=v.tk i) (l:=[45]) (s:={ data:=#[45] }) (hkk.tk i) rfl w rfl (hv.tbyte i) (by decide))
 have HMk2:=Hxq (fun w=>rmark_sign (t:=v.tk i) (l:=[40]) (s:={ data:=#[40] }) (hkk.tk i) rfl w rfl (hv.tbyte i) (by decide))
 have HBg:=Hxq (fun w=>rbegins_any (v.tk (i+1)) (hkk.tk (i+1)) w (hv.tbyte (i+1)))
 have HS40:=Hxq (fun j w h hj=>rstop_any b ra rc L v j 40 w h hv hj)
 have HS41:=Hxq (fun j w h hj=>rstop_any b ra rc L v j 41 w h hv hj)
 have HTk:=Hxq (fun j w h (hj:j<=v.ws.length)=>rtake_any b ra rc L v j [41] { data:=#[41] } w h hv (by omega) rfl (by decide))
 have hslt:=fun h=>Sy.sign_lt (v:=v) (i:=i) (s:=[45]) h
 have hslt2:=fun h=>Sy.sign_lt (v:=v) (i:=i) (s:=[40]) h
 have hpm:Sy.must v [40] i=if Sy.sign (v.tk i) [40]=true then .ok () (i+1) else .err (v.give 40 i):=rfl
 have h17:above=17->(v.tk i).kind≠2/\Sy.constant v i=none/\Sy.sign (v.tk i) [45]=false/\Sy.sign (v.tk i) [40]=false:=fun e=>by
  rcases ha with ha | ⟨-,ho⟩
  ·omega
  ·exact Sy.opd_none ho
 have hcadv:∀ c n,Sy.constant v i=some (c,n)->i+n<=v.ws.length:=fun c n hc=>(Sy.constant_adv hc).2
 have HLo:=Lib.hid h.low
 have hbl:=h.lt
 have HA:=Lib.hid hA;have EA:=Lib.hid eA;have MA:=Lib.hid mA
 have ha17:above<=17:=by omega
 clear h hA eA mA ha
 rw [hpm] at HR
 clear hpm
 generalize Sy.constant v i=oc at *
 generalize Sy.sign (v.tk i) [45]=rs at *
 generalize Sy.sign (v.tk i) [40]=rp at *
 generalize hq:Sy.exprF v (k+1) 3 above i=q at *
 have HWi:=Hxq (fun w h=>HW.out i w h (by omega))
 generalize v.tk i=t at *
 have H17:=Lib.hid h17;have HCA:=Lib.hid hcadv;have HSL:=Lib.hid hslt;have HSL2:=Lib.hid hslt2
 clear hq h17 hcadv hslt hslt2 hkk
 go_enter Tryz.func140,Tryz.ntmps140
 go_upto_region 1 with fail
 generalize w.alloc (Obj.cells #[Value.int IntKind.i64 0,Value.string ⟨#[]⟩,Value.int IntKind.i64 0,Value.int IntKind.i64 0,Value.string ⟨#[]⟩,Value.int IntKind.i64 0,Value.slice none 0 0] 45)=wA at *
 go_wp2_with fail
 refine (HWi.out wA HA.out).mono ?_
 rintro e1 w1 ⟨rfl,m1⟩
 have E1:=Hxq (m1.at EA.out (by simp))
 have z1:=lt_of_block E1.out
 have mB:=(Mod.refl [] w1).alloc (Obj.cells (tokC t) 74)
 have bB:=heap_alloc_new w1 (Obj.cells (tokC t) 74)
 have HB:=Hxq ((HA.out.past m1 (by simp)).past mB (by simp));have AB:=Hxq (mB.at E1.out (by simp));have TB:=Lib.hid bB;have MB:=Hxq ((MA.out.trans m1 (by simp)).trans mB (by simp))
 have zB:(w1.alloc (Obj.cells (tokC t) 74)).heap.size=w1.heap.size+1:=by simp
 clear m1 mB bB HWi
 unfold tokC at *
 go_upto_region 2 with fail
 generalize w1.alloc (Obj.cells _ 74)=wB at *
 obtain ⟨x0,x1,x2,x3,x4,x5,x6⟩:=tok_cells (t:=t) TB.out
 have hnb:w.heap.size∉[b]:=by simp;omega
 have hnb1:w1.heap.size∉[b]:=by simp;omega
 by_cases k2:t.kind=2
 ·have hq:q=.ok (.mk 1 (Sy.txt t.text) Va.zero 0 [],0) (i+1):=by rw [HR.out,if_pos k2]
  subst hq
  have b2:((t.kind:Int) == 2)=true:=by rw [k2];rfl
  clear HR k2
  obtain ⟨c0,c1,c2,c3,c4,c5,c6,c7,c8,c9,fz⟩:=HB.out.cells
  have hT:=HB.out.to (i+1)
  have aC:(wB.setCell ⟨b,6,none⟩ (.int .i64 ((i:Int)+1))).heap[w.heap.size]?=_:=hT.2.at AB.out (by simp;omega)
  have tC:(wB.setCell ⟨b,6,none⟩ (.int .i64 ((i:Int)+1))).heap[w1.heap.size]?=_:=hT.2.at TB.out (by simp;omega)
  have HCC:Hid (RpP (wB.setCell ⟨b,6,none⟩ (.int .i64 ((i:Int)+1))) b ra rc L v (i+1) nf0):=Lib.hid hT.1
  have MC:Hid (Mod [b] w (wB.setCell ⟨b,6,none⟩ (.int .i64 ((i:Int)+1)))):=Hxq ((MB.out.mono (T:=[b]) (by simp)).trans hT.2 (by simp))
  clear hT
  go_upto_region 4 with fail
  generalize wB.setCell ⟨b,6,none⟩ (.int .i64 ((i:Int)+1))=wC at *
  clear c0 c1 c2 c3 c4 c5 c6 c7 c8 c9 fz
  clear x0 x1 x2 x3 x4 x5 x6
  obtain ⟨x0,x1,x2,x3,x4,x5,x6⟩:=tok_cells (t:=t) tC
  have AC:=Lib.hid aC
  obtain ⟨y0,y1,y2,y3,y4,y5,y6⟩:=cells7 AC.out
  have fA:∀ j,wC.frozen? ⟨w.heap.size,j,none⟩=false:=fun j=>free_at AC.out j
  clear aC tC
  go_wp2_with fail
  have mR:=setCs_mod w.heap.size [.int .i64 1,.string (Lx.ofS t.text),.int .i64 0,.int .i64 0,.string ⟨#[]⟩,.int .i64 0,.slice none 0 0] 0 wC
  refine bodyPost_ret (res_ctt rfl _ _ _ _ _ _ rfl rfl rfl (load_ex (setCs_row (vs:=[.int .i64 1,.string (Lx.ofS t.text),.int .i64 0,.int .i64 0,.string ⟨#[]⟩,.int .i64 0,.slice none 0 0]) AC.out rfl) rfl)) rfl ⟨.slice none 0 0,rfl,.nil,HCC.out.new HLo.out mR (by simp),MC.out.trans mR (by simp)⟩
 have b2:((t.kind:Int) == 2)=false:=by rw [beq_eq_false_iff_ne];omega
 have HR2:Hid (q=unRest v k above i rs rp (if rp=true then .ok () (i+1) else .err (v.give 40 i)) oc):=Hxq (by rw [HR.out,if_neg k2])
 clear HR k2
 go_wp2_with fail
 refine (HCon.out wB HB.out).mono ?_
 rintro e2 w2 ⟨rfl,h2,m2⟩
 have M2:=Hxq ((MB.out.mono (T:=[b]) (by simp)).trans m2 (by simp));have A2:=Hxq (m2.at AB.out hnb);have T2:=Hxq (m2.at TB.out hnb1)
 have z2:=lt_of_block T2.out
 clear m2 x0 x1 x2 x3 x4 x5 x6
 unfold ConV
 cases oc with
 | some cn =>
  obtain ⟨c,n⟩:=cn
  have hq:q=.ok (.mk 2 (Sy.txt []) c 0 [],0) (i+n):=HR2.out
  subst hq
  have H2:=Hxq (show RpP w2 b ra rc L v (i+n) nf0 from h2)
  clear h2 HR2
  simp only [Option.map_some,Option.getD_some,Option.isSome_some,valV]
  have mC:=(Mod.refl [] w2).alloc (Obj.cells #[Value.int .i64 c.k,Value.int .i64 c.n,Value.string (Lx.ofS c.s)] 42)
  have cC:=heap_alloc_new w2 (Obj.cells #[Value.int .i64 c.k,Value.int .i64 c.n,Value.string (Lx.ofS c.s)] 42)
  have HC:=Hxq (H2.out.past mC (by simp));have MC:=Hxq (M2.out.trans mC (by simp));have AC:=Hxq (mC.at A2.out (by simp));have VC:=Lib.hid cC
  clear mC cC
  go_upto_region 7 with fail
  generalize w2.alloc (Obj.cells _ 42)=wC at *
  obtain ⟨x0,x1,x2⟩:=cells3 VC.out
  obtain ⟨y0,y1,y2,y3,y4,y5,y6⟩:=cells7 AC.out
  have fA:∀ j,wC.frozen? ⟨w.heap.size,j,none⟩=false:=fun j=>free_at AC.out j
  go_wp2_with fail
  have mR:=setCs_mod w.heap.size [.int .i64 2,.string ⟨#[]⟩,.int .i64 c.k,.int .i64 c.n,.string (Lx.ofS c.s),.int .i64 0,.slice none 0 0] 0 wC
  refine bodyPost_ret (res_ctt rfl _ _ _ _ _ _ rfl rfl rfl (load_ex (setCs_row (vs:=[.int .i64 2,.string ⟨#[]⟩,.int .i64 c.k,.int .i64 c.n,.string (Lx.ofS c.s),.int .i64 0,.slice none 0 0]) AC.out rfl) rfl)) rfl ⟨.slice none 0 0,rfl,.nil,HC.out.new HLo.out mR (by simp),MC.out.trans mR (by simp)⟩
 | none =>
  have HR3:Hid (q=if rs=true then
      if 16<=above/\Sy.operand (v.tk (i+1))=true then .err (v.give 41 (i+1))
      else (Sy.exprF v k 3 (above+1) (i+1)).bind fun r j=>.ok (.mk 4 (Sy.txt []) Va.zero 6 [r.1],r.2+1) j
     else if rp=true/\16<=above then .err (v.give 41 i)
     else (if rp=true then .ok () (i+1) else .err (v.give 40 i):Sy.PR Unit).bind fun _ j=>(Sy.exprF v k 1 (above+1) j).bind fun r j=>(Sy.must v [41] j).bind fun _ j=>.ok (r.1,r.2+1) j):=Lib.hid HR2.out
  have h2':RpP w2 b ra rc L v i nf0:=h2
  clear HR2 h2
  simp only [Option.map_none,Option.getD_none,Option.isSome_none,valV,Va.zero]
  have mC:=(Mod.refl [] w2).alloc (Obj.cells #[Value.int .i64 0,Value.int .i64 0,Value.string (Lx.ofS [])] 42)
  have HC:=Hxq (h2'.past mC (by simp));have MC:=Hxq (M2.out.trans mC (by simp));have AC:=Hxq (mC.at A2.out (by simp));have TC:=Hxq (mC.at T2.out (by simp))
  clear mC h2'
  go_upto_region 8 with fail
  generalize w2.alloc (Obj.cells _ 42)=wC at *
  obtain ⟨x0,x1,x2,x3,x4,x5,x6⟩:=tok_cells (t:=t) TC.out
  go_wp2_with fail
  refine (HMk1.out wC).mono ?_
  rintro e3 w3 ⟨rfl,m3⟩
  have M3:=Hxq (MC.out.trans m3 (by simp));have A3:=Hxq (m3.at AC.out (by simp));have T3:=Hxq (m3.at TC.out (by simp));have H3:=Hxq (HC.out.past m3 (by simp))
  have z3:=lt_of_block T3.out
  clear m3 HC MC AC TC x0 x1 x2 x3 x4 x5 x6
  cases rs
  ·have HR4:Hid (q=if rp=true/\16<=above then .err (v.give 41 i)
     else (if rp=true then .ok () (i+1) else .err (v.give 40 i):Sy.PR Unit).bind fun _ j=>(Sy.exprF v k 1 (above+1) j).bind fun r j=>(Sy.must v [41] j).bind fun _ j=>.ok (r.1,r.2+1) j):=Lib.hid HR3.out
   clear HR3
   obtain ⟨x0,x1,x2,x3,x4,x5,x6⟩:=tok_cells (t:=t) T3.out
   go_wp2_with fail
   refine (HMk2.out w3).mono ?_
   rintro e4 w4 ⟨rfl,m4⟩
   have M4:=Hxq (M3.out.trans m4 (by simp));have A4:=Hxq (m4.at A3.out (by simp));have H4:=Hxq (H3.out.past m4 (by simp))
   have z4:=m4.size
   clear m4 x0 x1 x2 x3 x4 x5 x6
   cases rp
   ·have hq:q=.err (v.give 40 i):=by rw [HR4.out];simp
    subst hq
    clear HR4
    go_wp2_with fail
    refine (HS40.out i w4 H4.out (by omega)).mono ?_
    rintro e5 w5 ⟨rfl,h5,m5⟩
    have M5:=Hxq (M4.out.trans m5 (by simp));have H5:=Lib.hid h5;have A5:=Hxq (m5.at A4.out hnb)
    clear m5 h5
    obtain ⟨y0,y1,y2,y3,y4,y5,y6⟩:=cells7 A5.out
    have fA:∀ j,w5.frozen? ⟨w.heap.size,j,none⟩=false:=fun j=>free_at A5.out j
    go_wp2_with fail
    have mR:=setCs_mod w.heap.size [.int .i64 0,.string ⟨#[]⟩,.int .i64 0,.int .i64 0,.string ⟨#[]⟩,.int .i64 0,.slice none 0 0] 0 w5
    refine bodyPost_ret (res_ctt rfl _ _ _ _ _ _ rfl rfl rfl (load_ex (setCs_row (vs:=[.int .i64 0,.string ⟨#[]⟩,.int .i64 0,.int .i64 0,.string ⟨#[]⟩,.int .i64 0,.slice none 0 0]) A5.out rfl) rfl)) rfl ⟨rfl,⟨_,H5.out.new HLo.out mR (by simp)⟩,M5.out.trans mR (by simp)⟩
   ·by_cases hc:16<=above
    ·have hq:q=.err (v.give 41 i):=by rw [HR4.out,if_pos ⟨rfl,hc⟩]
     subst hq
     have hI:(above:Int)+1 > 16:=by omega
     have hJ:(16:Int)<(above:Int)+1:=by omega
     clear HR4
     go_wp2_with fail
     refine (HS41.out i w4 H4.out (by omega)).mono ?_
     rintro e5 w5 ⟨rfl,h5,m5⟩
     have M5:=Hxq (M4.out.trans m5 (by simp));have H5:=Lib.hid h5;have A5:=Hxq (m5.at A4.out hnb)
     clear m5 h5
     obtain ⟨y0,y1,y2,y3,y4,y5,y6⟩:=cells7 A5.out
     have fA:∀ j,w5.frozen? ⟨w.heap.size,j,none⟩=false:=fun j=>free_at A5.out j
     go_wp2_with fail
     have mR:=setCs_mod w.heap.size [.int .i64 0,.string ⟨#[]⟩,.int .i64 0,.int .i64 0,.string ⟨#[]⟩,.int .i64 0,.slice none 0 0] 0 w5
     refine bodyPost_ret (res_ctt rfl _ _ _ _ _ _ rfl rfl rfl (load_ex (setCs_row (vs:=[.int .i64 0,.string ⟨#[]⟩,.int .i64 0,.int .i64 0,.string ⟨#[]⟩,.int .i64 0,.slice none 0 0]) A5.out rfl) rfl)) rfl ⟨rfl,⟨_,H5.out.new HLo.out mR (by simp)⟩,M5.out.trans mR (by simp)⟩
    ·have hI:¬ (above:Int)+1 > 16:=by omega
     have hJ:¬ (16:Int)<(above:Int)+1:=by omega
     have HR5:Hid (q=(Sy.exprF v k 1 (above+1) (i+1)).bind fun r j=>(Sy.must v [41] j).bind fun _ j=>.ok (r.1,r.2+1) j):=Hxq (by rw [HR4.out,if_neg (fun hh=>hc hh.2)];rfl)
     have hil:=HSL2.out rfl
     have hadv:=Sy.adv_exprF v k 1 (above+1) (by omega) (i+1)
     have hdp:=Sy.expr_deep v k 1 (above+1) (i+1)
     have HCh:=Hxq (fun w h=>hC false (above+1) (i+1) w h (by omega) (by omega) (by unfold lineH;simp;omega))
     have hl1:lineH false=1:=rfl
     rw [hl1] at HCh
     clear HR4 hl1
     obtain ⟨c0,c1,c2,c3,c4,c5,c6,c7,c8,c9,fz⟩:=H4.out.cells
     have hT:=H4.out.to (i+1)
     have aD:(w4.setCell ⟨b,6,none⟩ (.int .i64 ((i:Int)+1))).heap[w.heap.size]?=_:=hT.2.at A4.out (by simp;omega)
     have HD:Hid (RpP (w4.setCell ⟨b,6,none⟩ (.int .i64 ((i:Int)+1))) b ra rc L v (i+1) nf0):=Lib.hid hT.1
     have MD:Hid (Mod [b] w (w4.setCell ⟨b,6,none⟩ (.int .i64 ((i:Int)+1)))):=Hxq ((M4.out.mono (T:=[b]) (by simp)).trans hT.2 (by simp))
     clear hT
     go_upto_region 21 with fail
     generalize w4.setCell ⟨b,6,none⟩ (.int .i64 ((i:Int)+1))=wD at *
     clear c0 c1 c2 c3 c4 c5 c6 c7 c8 c9 fz
     have AD:=Lib.hid aD
     clear aD
     generalize Sy.exprF v k 1 (above+1) (i+1)=px at *
     cases px with
     | err g =>
      have hq:q=.err g:=HR5.out
      subst hq
      clear HR5 hadv hdp
      go_wp2_with fail
      refine (HCh.out wD HD.out).mono ?_
      rintro e6 w6 ⟨rfl,⟨jj,h6⟩,m6⟩
      have mE:=(Mod.refl [] w6).alloc (Obj.cells #[Value.int IntKind.i64 0,Value.string ⟨#[]⟩,Value.int IntKind.i64 0,Value.int IntKind.i64 0,Value.string ⟨#[]⟩,Value.int IntKind.i64 0,Value.slice none 0 0] 45)
      have M6:=Hxq ((MD.out.trans m6 (by simp)).trans mE (by simp));have A6:=Hxq (mE.at (m6.at AD.out hnb) (by have:=lt_of_block (m6.at AD.out hnb);simp));have H6:=Hxq (h6.past mE (by simp))
      clear m6 h6 mE
      go_upto_region 22 with fail
      generalize w6.alloc (Obj.cells _ 45)=wE at *
      obtain ⟨y0,y1,y2,y3,y4,y5,y6⟩:=cells7 A6.out
      have fA:∀ j,wE.frozen? ⟨w.heap.size,j,none⟩=false:=fun j=>free_at A6.out j
      go_wp2_with fail
      have mR:=setCs_mod w.heap.size [.int .i64 0,.string ⟨#[]⟩,.int .i64 0,.int .i64 0,.string ⟨#[]⟩,.int .i64 0,.slice none 0 0] 0 wE
      refine bodyPost_ret (res_ctt rfl _ _ _ _ _ _ rfl rfl rfl (load_ex (setCs_row (vs:=[.int .i64 0,.string ⟨#[]⟩,.int .i64 0,.int .i64 0,.string ⟨#[]⟩,.int .i64 0,.slice none 0 0]) A6.out rfl) rfl)) rfl ⟨rfl,⟨jj,H6.out.new HLo.out mR (by simp)⟩,M6.out.trans mR (by simp)⟩
     | ok r n =>
      obtain ⟨ex,dd⟩:=r
      have hn:=hadv _ n (by omega) rfl
      have hdd:=hdp _ n (by omega) rfl
      simp only at hdd
      have HR6:Hid (q=(Sy.must v [41] n).bind fun _ j=>.ok (ex,dd+1) j):=Lib.hid HR5.out
      clear HR5 hadv hdp
      go_wp2_with fail
      refine (HCh.out wD HD.out).mono ?_
      rintro e6 w6 ⟨u6,rfl,hb6,h6,m6⟩
      simp only at hb6
      obtain ⟨a6,c6,rfl⟩:=hb6.lit
      have z6:=m6.size
      have zD6:=MD.out.size
      have M6:=Hxq (MD.out.trans m6 (by simp));have A6:=Hxq (m6.at AD.out hnb)
      have hlA:=lt_of_block A6.out
      have hb6:=hb6.mono (F':=fun k=>w.heap.size<k) (fun k hk hk2=>by have:=lt_of_block AD.out;omega)
      have mD:=(Mod.refl [] w6).alloc (Obj.cells (exV ex (.slice a6 ex.args.length c6)) 45)
      have dD:=heap_alloc_new w6 (Obj.cells (exV ex (.slice a6 ex.args.length c6)) 45)
      have zD:(w6.alloc (Obj.cells (exV ex (.slice a6 ex.args.length c6)) 45)).heap.size=w6.heap.size+1:=by simp
      have HE:=Hxq (h6.past mD (by simp));have ME:=Hxq (M6.out.trans mD (by simp));have DE:=Lib.hid dD;have BE:=Hxq (hb6.keep mD (by simp))
      have AE:=Hxq (mD.at A6.out (by simp))
      clear mD dD
      unfold exV at *
      simp only at *
      go_upto_region 22 with fail
      generalize w6.alloc (Obj.cells _ 45)=wE at *
      have HU:=Hxq (HTk.out n wE HE.out hn.2)
      have hdI:(dd:Int)<=16:=by omega
      clear hb6 h6 m6 zD
      generalize Sy.must v [41] n=pm2 at *
      cases pm2 with
      | err g =>
       have hq:q=.err g:=HR6.out
       subst hq
       clear HR6
       go_wp2_with fail
       refine HU.out.mono ?_
       rintro e7 w7 ⟨rfl,⟨jj,h7⟩,m7⟩
       have M7:=Hxq (ME.out.trans m7 (by simp));have H7:=Lib.hid h7;have A7:=Hxq (m7.at AE.out hnb)
       clear m7 h7
       obtain ⟨y0,y1,y2,y3,y4,y5,y6⟩:=cells7 A7.out
       have fA:∀ j,w7.frozen? ⟨w.heap.size,j,none⟩=false:=fun j=>free_at A7.out j
       go_wp2_with fail
       have mR:=setCs_mod w.heap.size [.int .i64 0,.string ⟨#[]⟩,.int .i64 0,.int .i64 0,.string ⟨#[]⟩,.int .i64 0,.slice none 0 0] 0 w7
       refine bodyPost_ret (res_ctt rfl _ _ _ _ _ _ rfl rfl rfl (load_ex (setCs_row (vs:=[.int .i64 0,.string ⟨#[]⟩,.int .i64 0,.int .i64 0,.string ⟨#[]⟩,.int .i64 0,.slice none 0 0]) A7.out rfl) rfl)) rfl ⟨rfl,⟨jj,H7.out.new HLo.out mR (by simp)⟩,M7.out.trans mR (by simp)⟩
      | ok uu2 n2 =>
       have hq:q=.ok (ex,dd+1) n2:=HR6.out
       subst hq
       clear HR6
       go_wp2_with fail
       refine HU.out.mono ?_
       rintro e7 w7 ⟨rfl,h7,m7⟩
       have hnb6:w6.heap.size∉[b]:=by simp;omega
       have M7:=Hxq (ME.out.trans m7 (by simp));have H7:=Lib.hid h7;have A7:=Hxq (m7.at AE.out hnb);have D7:=Hxq (m7.at DE.out hnb6)
       have B7:=Hxq (BE.out.keep m7 (fun s hs=>by rw [Msq] at hs;omega))
       clear h7 m7
       obtain ⟨x0,x1,x2,x3,x4,x5,x6⟩:=cells7 D7.out
       obtain ⟨y0,y1,y2,y3,y4,y5,y6⟩:=cells7 A7.out
       have fA:∀ j,w7.frozen? ⟨w.heap.size,j,none⟩=false:=fun j=>free_at A7.out j
       go_wp2_with fail
       have mR:=setCs_mod w.heap.size [.int .i64 ex.k,.string ex.v,.int .i64 ex.x.k,.int .i64 ex.x.n,.string (Lx.ofS ex.x.s),.int .i64 ex.op,.slice a6 ex.args.length c6] 0 w7
       refine bodyPost_ret (res_ctt rfl _ _ _ _ _ _ rfl rfl rfl (load_ex (setCs_row (vs:=[.int .i64 ex.k,.string ex.v,.int .i64 ex.x.k,.int .i64 ex.x.n,.string (Lx.ofS ex.x.s),.int .i64 ex.op,.slice a6 ex.args.length c6]) A7.out rfl) rfl)) rfl ⟨.slice a6 ex.args.length c6,rfl,(B7.out.keep mR (fun s hs=>by rw [Msq] at hs;omega)).mono (fun k hk _=>Nat.le_of_lt hk),H7.out.new HLo.out mR (by simp),M7.out.trans mR (by simp)⟩
  ·have hil:=HSL.out rfl
   have hab:above<=16:=by
    rcases Nat.lt_or_ge 16 above with h | h
    ·have:=(H17.out (by omega)).2.2.1;cases this
    ·exact h
   have HR4:Hid (q=if 16<=above/\Sy.operand (v.tk (i+1))=true then .err (v.give 41 (i+1))
      else (Sy.exprF v k 3 (above+1) (i+1)).bind fun r j=>.ok (.mk 4 (Sy.txt []) Va.zero 6 [r.1],r.2+1) j):=Lib.hid HR3.out
   clear HR3 HMk2
   have HPk:=Hxq (fun w h=>HW.out (i+1) w h (by omega))
   have hUn:=fun (h:above<16\/Sy.operand (v.tk (i+1))=false) w hr=>hU (above+1) (i+1) w hr (by omega) (by
    rcases h with h | h
    ·exact .inl (by omega)
    ·by_cases e:above=16
     ·exact .inr ⟨by omega,h⟩
     ·exact .inl (by omega)) (by omega)
   have HU2:=Lib.hid hUn
   clear hUn
   have HU17:Hid (Sy.operand (v.tk (i+1))=false->∃ g,Sy.exprF v k 3 (16+1) (i+1)=.err g):=Hxq (fun h=>Sy.un17 (16+1) h)
   generalize Sy.operand (v.tk (i+1))=op at *
   generalize v.tk (i+1)=t2 at *
   obtain ⟨c0,c1,c2,c3,c4,c5,c6,c7,c8,c9,fz⟩:=H3.out.cells
   have hT:=H3.out.to (i+1)
   have aD:(w3.setCell ⟨b,6,none⟩ (.int .i64 ((i:Int)+1))).heap[w.heap.size]?=_:=hT.2.at A3.out (by simp;omega)
   have HD:Hid (RpP (w3.setCell ⟨b,6,none⟩ (.int .i64 ((i:Int)+1))) b ra rc L v (i+1) nf0):=Lib.hid hT.1
   have MD:Hid (Mod [b] w (w3.setCell ⟨b,6,none⟩ (.int .i64 ((i:Int)+1)))):=Hxq ((M3.out.mono (T:=[b]) (by simp)).trans hT.2 (by simp))
   clear hT
   go_upto_region 10 with fail
   generalize w3.setCell ⟨b,6,none⟩ (.int .i64 ((i:Int)+1))=wD at *
   clear c0 c1 c2 c3 c4 c5 c6 c7 c8 c9 fz
   have AD:=Lib.hid aD
   clear aD
   by_cases hI:(above:Int)+1 > 16
   ·have hJ:(16:Int)<(above:Int)+1:=by omega
    obtain rfl:above=16:=by omega
    go_wp2_with fail
    refine (HPk.out wD HD.out).mono ?_
    rintro e4 w4 ⟨rfl,m4⟩
    have M4:=Hxq (MD.out.trans m4 (by simp));have H4:=Hxq (HD.out.past m4 (by simp));have A4:=Hxq (m4.at AD.out (by simp))
    clear m4
    go_wp2_with fail
    refine (HBg.out w4).mono ?_
    rintro e5 w5 ⟨rfl,m5⟩
    have M5:=Hxq (M4.out.trans m5 (by simp));have H5:=Hxq (H4.out.past m5 (by simp));have A5:=Hxq (m5.at A4.out (by simp))
    clear m5
    cases op with
    | true =>
     have hq:q=.err (v.give 41 (i+1)):=by rw [HR4.out,if_pos ⟨by omega,rfl⟩]
     subst hq
     clear HR4 HU2 HU17 hI hJ
     go_wp2_with fail
     refine (HS41.out (i+1) w5 H5.out (by omega)).mono ?_
     rintro e6 w6 ⟨rfl,h6,m6⟩
     have M6:=Hxq (M5.out.trans m6 (by simp));have H6:=Lib.hid h6;have A6:=Hxq (m6.at A5.out hnb)
     clear m6 h6
     obtain ⟨y0,y1,y2,y3,y4,y5,y6⟩:=cells7 A6.out
     have fA:∀ j,w6.frozen? ⟨w.heap.size,j,none⟩=false:=fun j=>free_at A6.out j
     go_wp2_with fail
     have mR:=setCs_mod w.heap.size [.int .i64 0,.string ⟨#[]⟩,.int .i64 0,.int .i64 0,.string ⟨#[]⟩,.int .i64 0,.slice none 0 0] 0 w6
     refine bodyPost_ret (res_ctt rfl _ _ _ _ _ _ rfl rfl rfl (load_ex (setCs_row (vs:=[.int .i64 0,.string ⟨#[]⟩,.int .i64 0,.int .i64 0,.string ⟨#[]⟩,.int .i64 0,.slice none 0 0]) A6.out rfl) rfl)) rfl ⟨rfl,⟨_,H6.out.new HLo.out mR (by simp)⟩,M6.out.trans mR (by simp)⟩
    | false =>
     obtain ⟨g,hg⟩:=HU17.out rfl
     have hq:q=.err g:=by rw [HR4.out,if_neg (by simp),hg];rfl
     subst hq
     have HUc:=Hxq (HU2.out (.inr rfl))
     rw [hg] at HUc
     clear HR4 HU2 HU17 hI hJ hg
     go_wp2_with fail
     refine (HUc.out w5 H5.out).mono ?_
     rintro e6 w6 ⟨rfl,⟨jj,h6⟩,m6⟩
     have mE:=(Mod.refl [] w6).alloc (Obj.cells #[Value.int IntKind.i64 0,Value.string ⟨#[]⟩,Value.int IntKind.i64 0,Value.int IntKind.i64 0,Value.string ⟨#[]⟩,Value.int IntKind.i64 0,Value.slice none 0 0] 45)
     have M6:=Hxq ((M5.out.trans m6 (by simp)).trans mE (by simp));have A6:=Hxq (mE.at (m6.at A5.out hnb) (by have:=lt_of_block (m6.at A5.out hnb);simp));have H6:=Hxq (h6.past mE (by simp))
     clear m6 h6 mE
     go_upto_region 13 with fail
     generalize w6.alloc (Obj.cells _ 45)=wE at *
     obtain ⟨y0,y1,y2,y3,y4,y5,y6⟩:=cells7 A6.out
     have fA:∀ j,wE.frozen? ⟨w.heap.size,j,none⟩=false:=fun j=>free_at A6.out j
     go_wp2_with fail
     have mR:=setCs_mod w.heap.size [.int .i64 0,.string ⟨#[]⟩,.int .i64 0,.int .i64 0,.string ⟨#[]⟩,.int .i64 0,.slice none 0 0] 0 wE
     refine bodyPost_ret (res_ctt rfl _ _ _ _ _ _ rfl rfl rfl (load_ex (setCs_row (vs:=[.int .i64 0,.string ⟨#[]⟩,.int .i64 0,.int .i64 0,.string ⟨#[]⟩,.int .i64 0,.slice none 0 0]) A6.out rfl) rfl)) rfl ⟨rfl,⟨jj,H6.out.new HLo.out mR (by simp)⟩,M6.out.trans mR (by simp)⟩
   ·have hJ:¬ (16:Int)<(above:Int)+1:=by omega
    have ha2:above<16:=by omega
    have HR6:Hid (q=(Sy.exprF v k 3 (above+1) (i+1)).bind fun r j=>.ok (.mk 4 (Sy.txt []) Va.zero 6 [r.1],r.2+1) j):=Hxq (by rw [HR4.out,if_neg (fun hh=>by omega)])
    have HDp:Hid (∀ r j,Sy.exprF v k 3 (above+1) (i+1)=.ok r j->above+1+r.2<=16):=Hxq (fun r j hh=>Sy.expr_deep v k 3 (above+1) (i+1) r j (by omega) hh)
    have HUc:=Hxq (HU2.out (.inl ha2))
    clear HR4 HU2 HU17
    generalize Sy.exprF v k 3 (above+1) (i+1)=px at *
    cases px with
    | err g =>
     have hq:q=.err g:=HR6.out
     subst hq
     clear HR6 HDp
     go_wp2_with fail
     refine (HUc.out wD HD.out).mono ?_
     rintro e6 w6 ⟨rfl,⟨jj,h6⟩,m6⟩
     have mE:=(Mod.refl [] w6).alloc (Obj.cells #[Value.int IntKind.i64 0,Value.string ⟨#[]⟩,Value.int IntKind.i64 0,Value.int IntKind.i64 0,Value.string ⟨#[]⟩,Value.int IntKind.i64 0,Value.slice none 0 0] 45)
     have M6:=Hxq ((MD.out.trans m6 (by simp)).trans mE (by simp));have A6:=Hxq (mE.at (m6.at AD.out hnb) (by have:=lt_of_block (m6.at AD.out hnb);simp));have H6:=Hxq (h6.past mE (by simp))
     clear m6 h6 mE
     go_upto_region 13 with fail
     generalize w6.alloc (Obj.cells _ 45)=wE at *
     obtain ⟨y0,y1,y2,y3,y4,y5,y6⟩:=cells7 A6.out
     have fA:∀ j,wE.frozen? ⟨w.heap.size,j,none⟩=false:=fun j=>free_at A6.out j
     go_wp2_with fail
     have mR:=setCs_mod w.heap.size [.int .i64 0,.string ⟨#[]⟩,.int .i64 0,.int .i64 0,.string ⟨#[]⟩,.int .i64 0,.slice none 0 0] 0 wE
     refine bodyPost_ret (res_ctt rfl _ _ _ _ _ _ rfl rfl rfl (load_ex (setCs_row (vs:=[.int .i64 0,.string ⟨#[]⟩,.int .i64 0,.int .i64 0,.string ⟨#[]⟩,.int .i64 0,.slice none 0 0]) A6.out rfl) rfl)) rfl ⟨rfl,⟨jj,H6.out.new HLo.out mR (by simp)⟩,M6.out.trans mR (by simp)⟩
    | ok r n =>
     obtain ⟨ex,dd⟩:=r
     have hdd:above+1+dd<=16:=HDp.out _ n rfl
     have hq:q=.ok (.mk 4 (Sy.txt []) Va.zero 6 [ex],dd+1) n:=HR6.out
     subst hq
     clear HR6 HDp
     go_wp2_with fail
     refine (HUc.out wD HD.out).mono ?_
     rintro e6 w6 ⟨u6,rfl,hb6,h6,m6⟩
     simp only at hb6
     obtain ⟨a6,c6,rfl⟩:=hb6.lit
     have z6:=m6.size
     have zD6:=MD.out.size
     have M6:=Hxq (MD.out.trans m6 (by simp));have A6:=Hxq (m6.at AD.out hnb)
     have hlA:=lt_of_block A6.out
     have hb6:=hb6.mono (F':=fun k=>w.heap.size<k) (fun k hk hk2=>by have:=lt_of_block AD.out;omega)
     have mD:=(Mod.refl [] w6).alloc (Obj.cells (exV ex (.slice a6 ex.args.length c6)) 45)
     have dD:=heap_alloc_new w6 (Obj.cells (exV ex (.slice a6 ex.args.length c6)) 45)
     have zD:(w6.alloc (Obj.cells (exV ex (.slice a6 ex.args.length c6)) 45)).heap.size=w6.heap.size+1:=by simp
     have HE:=Hxq (h6.past mD (by simp));have ME:=Hxq (M6.out.trans mD (by simp));have DE:=Lib.hid dD;have BE:=Hxq (hb6.keep mD (by simp))
     have AE:=Hxq (mD.at A6.out (by simp))
     clear mD dD
     unfold exV at *
     simp only at *
     go_upto_region 13 with fail
     generalize w6.alloc (Obj.cells _ 45)=wE at *
     have hdI:(dd:Int)<=16:=by omega
     clear hb6 h6 m6
     obtain ⟨x0,x1,x2,x3,x4,x5,x6⟩:=cells7 DE.out
     have mG:=(Mod.refl [] wE).alloc (Obj.cells #[.int .i64 ex.k,.string ex.v,.int .i64 ex.x.k,.int .i64 ex.x.n,.string (Lx.ofS ex.x.s),.int .i64 ex.op,.slice a6 ex.args.length c6] 45)
     have eG:=heap_alloc_new wE (Obj.cells #[.int .i64 ex.k,.string ex.v,.int .i64 ex.x.k,.int .i64 ex.x.n,.string (Lx.ofS ex.x.s),.int .i64 ex.op,.slice a6 ex.args.length c6] 45)
     rw [zD] at eG
     have HG:=Hxq (HE.out.past mG (by simp));have MG:=Hxq (ME.out.trans mG (by simp));have AG:=Hxq (mG.at AE.out (by simp));have BG:=Hxq (BE.out.keep mG (by simp));have GG:=Lib.hid eG
     obtain ⟨y0,y1,y2,y3,y4,y5,y6⟩:=cells7 AG.out
     have fA:∀ j,(wE.alloc (Obj.cells #[.int .i64 ex.k,.string ex.v,.int .i64 ex.x.k,.int .i64 ex.x.n,.string (Lx.ofS ex.x.s),.int .i64 ex.op,.slice a6 ex.args.length c6] 45)).frozen? ⟨w.heap.size,j,none⟩=false:=fun j=>free_at AG.out j
     have HLA:=Lib.hid hlA
     clear mG eG hlA zD6 z6
     go_wp2_with fail
     have hlA:=HLA.out
     generalize (wE.alloc (Obj.cells #[.int .i64 ex.k,.string ex.v,.int .i64 ex.x.k,.int .i64 ex.x.n,.string (Lx.ofS ex.x.s),.int .i64 ex.op,.slice a6 ex.args.length c6] 45))=wG at *
     have mR:=setCs_mod w.heap.size [.int .i64 4,.string ⟨#[]⟩,.int .i64 0,.int .i64 0,.string ⟨#[]⟩,.int .i64 6,.slice (some ⟨w6.heap.size+1,0,none⟩) 1 1] 0 wG
     have hg:(setCs wG w.heap.size 0 [.int .i64 4,.string ⟨#[]⟩,.int .i64 0,.int .i64 0,.string ⟨#[]⟩,.int .i64 6,.slice (some ⟨w6.heap.size+1,0,none⟩) 1 1]).heap[w6.heap.size+1]?=_:=mR.at GG.out (by simp;omega)
     refine bodyPost_ret (res_ctt rfl _ _ _ _ _ _ rfl rfl rfl (load_ex (setCs_row (vs:=[.int .i64 4,.string ⟨#[]⟩,.int .i64 0,.int .i64 0,.string ⟨#[]⟩,.int .i64 6,.slice (some ⟨w6.heap.size+1,0,none⟩) 1 1]) AG.out rfl) rfl)) rfl ⟨_,rfl,(EB.one (k:=4) (v:=Sy.txt []) (x:=Va.zero) (op:=6) (F:=fun k=>w.heap.size<k) (a:=ex) (u:=.slice a6 ex.args.length c6) hg (by omega) (BG.out.keep mR (fun s hs=>by rw [Msq] at hs;omega)) 1).mono (fun k hk _=>Nat.le_of_lt hk),HG.out.new HLo.out mR (by simp),MG.out.trans mR (by simp)⟩
theorem rall (b:Nat) (ra:Option Addr) (rc:Nat) (L:LX) (v:Sy.Env) (hk:EnvK v):∀ k,RcC b ra rc L v k/\RuC b ra rc L v k
 | 0=>⟨fun _ _ _ _ _ _ _ h=>by omega,fun _ _ _ _ _ _ h=>by omega⟩
 | k+1=>by
  have ih:=rall b ra rc L v hk k
  exact ⟨rc_of b ra rc L v k hk (ro_of b ra rc L v k hk ih.2 ih.1),ru_of b ra rc L v k hk ih.2 ih.1⟩
/-- an expression -/
def valE (n:Nat):Pr.Ex->World->Value->Prop:=fun a w x=>∃ u,x=.agg (exV a u)/\EB (fun k=>n<=k) w a u
set_option maxHeartbeats 2000000 in
theorem rexpr_any (b:Nat) (ra:Option Addr) (rc:Nat) (L:LX) (v:Sy.Env) (i:Nat) (w:World) (h:RpP w b ra rc L v i nf0) (hk:EnvK v) (hi:i<=v.ws.length) :
  Calls Tryz.prog 83 #[.pointer (some ⟨b,0,none⟩)] w (RRes b ra rc L v (Sy.expr v i) (valE w.heap.size) (fun x=>x=.agg #[Value.int IntKind.i64 0,Value.string ⟨#[]⟩,Value.int IntKind.i64 0,Value.int IntKind.i64 0,Value.string ⟨#[]⟩,Value.int IntKind.i64 0,Value.slice none 0 0]) w):=by
 have hv:=hk.ok
 have mA:=(Mod.refl [] w).alloc (Obj.cells #[Value.int IntKind.i64 0,Value.string ⟨#[]⟩,Value.int IntKind.i64 0,Value.int IntKind.i64 0,Value.string ⟨#[]⟩,Value.int IntKind.i64 0,Value.slice none 0 0] 45)
 have hA:=h.past mA (by simp)
 have eA:=heap_alloc_new w (Obj.cells #[Value.int IntKind.i64 0,Value.string ⟨#[]⟩,Value.int IntKind.i64 0,Value.int IntKind.i64 0,Value.string ⟨#[]⟩,Value.int IntKind.i64 0,Value.slice none 0 0] 45)
 have zA:(w.alloc (Obj.cells #[Value.int IntKind.i64 0,Value.string ⟨#[]⟩,Value.int IntKind.i64 0,Value.int IntKind.i64 0,Value.string ⟨#[]⟩,Value.int IntKind.i64 0,Value.slice none 0 0] 45)).heap.size=w.heap.size+1:=by simp
 have HX:=Hxq ((rall b ra rc L v hk 60).1 false 0 i _ hA hi (by omega) (by unfold lineH;simp))
 have hl1:lineH false=1:=rfl
 rw [hl1] at HX
 have HR:Hid (Sy.expr v i=(Sy.exprF v 60 1 0 i).bind fun r j=>.ok r.1 j):=Lib.hid rfl
 have HLo:=Lib.hid h.low
 have hbl:=h.lt
 have hnb:w.heap.size∉[b]:=by simp;omega
 have HA:=Lib.hid hA;have EA:=Lib.hid eA;have MA:=Lib.hid mA
 clear h hA eA mA hl1 hk
 generalize Sy.expr v i=q at *
 go_enter Tryz.func83,Tryz.ntmps83
 go_upto_region 1 with fail
 generalize w.alloc (Obj.cells #[Value.int IntKind.i64 0,Value.string ⟨#[]⟩,Value.int IntKind.i64 0,Value.int IntKind.i64 0,Value.string ⟨#[]⟩,Value.int IntKind.i64 0,Value.slice none 0 0] 45)=wA at *
 generalize Sy.exprF v 60 1 0 i=px at *
 cases px with
 | err g =>
  have hq:q=.err g:=HR.out
  subst hq
  clear HR
  go_wp2_with fail
  refine HX.out.mono ?_
  rintro e6 w6 ⟨rfl,⟨jj,h6⟩,m6⟩
  have mE:=(Mod.refl [] w6).alloc (Obj.cells #[Value.int IntKind.i64 0,Value.string ⟨#[]⟩,Value.int IntKind.i64 0,Value.int IntKind.i64 0,Value.string ⟨#[]⟩,Value.int IntKind.i64 0,Value.slice none 0 0] 45)
  have dE:=heap_alloc_new w6 (Obj.cells #[Value.int IntKind.i64 0,Value.string ⟨#[]⟩,Value.int IntKind.i64 0,Value.int IntKind.i64 0,Value.string ⟨#[]⟩,Value.int IntKind.i64 0,Value.slice none 0 0] 45)
  have M6:=Hxq (((MA.out.mono (T:=[b]) (by simp)).trans m6 (by simp)).trans mE (by simp));have A6:=Hxq (mE.at (m6.at EA.out hnb) (by have:=lt_of_block (m6.at EA.out hnb);simp));have H6:=Hxq (h6.past mE (by simp));have D6:=Lib.hid dE
  clear m6 h6 mE dE
  go_upto_region 2 with fail
  generalize w6.alloc (Obj.cells _ 45)=wE at *
  obtain ⟨x0,x1,x2,x3,x4,x5,x6⟩:=cells7 D6.out
  obtain ⟨y0,y1,y2,y3,y4,y5,y6⟩:=cells7 A6.out
  have fA:∀ j,wE.frozen? ⟨w.heap.size,j,none⟩=false:=fun j=>free_at A6.out j
  go_wp2_with fail
  have mR:=setCs_mod w.heap.size [.int .i64 0,.string ⟨#[]⟩,.int .i64 0,.int .i64 0,.string ⟨#[]⟩,.int .i64 0,.slice none 0 0] 0 wE
  refine bodyPost_ret (res_ct rfl _ _ _ _ _ rfl rfl (load_ex (setCs_row (vs:=[.int .i64 0,.string ⟨#[]⟩,.int .i64 0,.int .i64 0,.string ⟨#[]⟩,.int .i64 0,.slice none 0 0]) A6.out rfl) rfl)) rfl ⟨_,rfl,rfl,⟨jj,H6.out.new HLo.out mR (by simp)⟩,M6.out.trans mR (by simp)⟩
 | ok r n =>
  obtain ⟨ex,dd⟩:=r
  have hq:q=.ok ex n:=HR.out
  subst hq
  clear HR
  go_wp2_with fail
  refine HX.out.mono ?_
  rintro e6 w6 ⟨u6,rfl,hb6,h6,m6⟩
  simp only at hb6
  obtain ⟨a6,c6,rfl⟩:=hb6.lit
  have z6:=m6.size
  have M6:=Hxq ((MA.out.mono (T:=[b]) (by simp)).trans m6 (by simp));have A6:=Hxq (m6.at EA.out hnb)
  have hlA:=lt_of_block A6.out
  have hb6:=hb6.mono (F':=fun k=>w.heap.size<k) (fun k hk hk2=>by omega)
  have mD:=(Mod.refl [] w6).alloc (Obj.cells (exV ex (.slice a6 ex.args.length c6)) 45)
  have dD:=heap_alloc_new w6 (Obj.cells (exV ex (.slice a6 ex.args.length c6)) 45)
  have zD:(w6.alloc (Obj.cells (exV ex (.slice a6 ex.args.length c6)) 45)).heap.size=w6.heap.size+1:=by simp
  have HE:=Hxq (h6.past mD (by simp));have ME:=Hxq (M6.out.trans mD (by simp));have DE:=Lib.hid dD;have BE:=Hxq (hb6.keep mD (by simp))
  have AE:=Hxq (mD.at A6.out (by simp))
  clear mD dD
  unfold exV at *
  simp only at *
  go_upto_region 2 with fail
  generalize w6.alloc (Obj.cells _ 45)=wE at *
  clear hb6 h6 m6 zD
  obtain ⟨x0,x1,x2,x3,x4,x5,x6⟩:=cells7 DE.out
  obtain ⟨y0,y1,y2,y3,y4,y5,y6⟩:=cells7 AE.out
  have fA:∀ j,wE.frozen? ⟨w.heap.size,j,none⟩=false:=fun j=>free_at AE.out j
  go_wp2_with fail
  have mR:=setCs_mod w.heap.size [.int .i64 ex.k,.string ex.v,.int .i64 ex.x.k,.int .i64 ex.x.n,.string (Lx.ofS ex.x.s),.int .i64 ex.op,.slice a6 ex.args.length c6] 0 wE
  refine bodyPost_ret (res_ct rfl _ _ _ _ _ rfl rfl (load_ex (setCs_row (vs:=[.int .i64 ex.k,.string ex.v,.int .i64 ex.x.k,.int .i64 ex.x.n,.string (Lx.ofS ex.x.s),.int .i64 ex.op,.slice a6 ex.args.length c6]) AE.out rfl) rfl)) rfl ⟨_,rfl,⟨_,rfl,(BE.out.keep mR (fun s hs=>by rw [Msq] at hs;omega)).mono (fun k hk _=>Nat.le_of_lt hk)⟩,HE.out.new HLo.out mR (by simp),ME.out.trans mR (by simp)⟩
end Go.Proofs.YtppigckioalhhaaGreatDoorR
