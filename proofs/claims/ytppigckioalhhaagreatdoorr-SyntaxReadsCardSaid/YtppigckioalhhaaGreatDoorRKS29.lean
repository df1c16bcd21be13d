/- THE TEXTS MERGED: RpCon. -/
import Derived.Test.YtppigckioalhhaaGreatDoorRKS1
import Derived.Test.YtppigckioalhhaaGreatDoorRKS10
import Derived.Test.YtppigckioalhhaaGreatDoorRKS12
namespace Go.Proofs.YtppigckioalhhaaGreatDoorR
open Go.RowKit
set_option linter.unusedVariables false
set_option linter.unusedSimpArgs false
set_option maxRecDepth 100000
/-- what constant leaves -/
def RConR (b:Nat) (ra:Option Addr) (rc:Nat) (L:LX) (v:Sy.Env) (o:Option (Va.Val × Nat)) (i:Nat) (w:World) (e:Ending) (w':World):Prop :=
 e=.returned (ConV o)/\RpP w' b ra rc L v (i+((o.map (·.2)).getD 0)) nf0/\Mod [b] w w'
set_option maxHeartbeats 2000000 in
theorem rconstant_any (b:Nat) (ra:Option Addr) (rc:Nat) (L:LX) (v:Sy.Env) (i:Nat) (w:World) (h:RpP w b ra rc L v i nf0) (hk:EnvK v) (hi:i<=70000) :
  Calls Tryz.prog 111 #[.pointer (some ⟨b,0,none⟩)] w (RConR b ra rc L v (Sy.constant v i) i w):=by
 have hv:=hk.ok
 have mA:=(Mod.refl [] w).alloc (Obj.cells #[Value.int IntKind.i64 0,Value.int IntKind.i64 0,Value.string ⟨#[]⟩] 42)
 have hA:=h.past mA (by simp)
 have eA:=heap_alloc_new w (Obj.cells #[Value.int IntKind.i64 0,Value.int IntKind.i64 0,Value.string ⟨#[]⟩] 42)
 have hsA:(w.alloc (Obj.cells #[Value.int IntKind.i64 0,Value.int IntKind.i64 0,Value.string ⟨#[]⟩] 42)).heap.size=w.heap.size+1:=by simp
 have HR:Hid (Sy.constant v i=if (v.tk i).kind=3\/(v.tk i).kind=4 then some (⟨(v.tk i).vk,(v.tk i).num,(v.tk i).sym⟩,1)
  else if Sy.plain (v.tk i)=true then some (⟨2,0,(v.tk i).text⟩,1)
  else if Sy.sign (v.tk i) [45]=true/\(v.tk (i+1)).kind=3 then some (⟨1,-((v.tk (i+1)).num:Int),[]⟩,2)
  else none):=Lib.hid rfl
 have HPl:=Hxq (fun w=>rname_any (v.tk i) w (hv.tbyte i))
 have HSg:=Hxq (fun w=>rmark_sign (t:=v.tk i) (l:=[45]) (s:={ data:=#[45] }) (hk.tk i) rfl w rfl (hv.tbyte i) (by decide))
 have HP0:=Hxq (fun w h=>rword0 b ra rc L v i nf0 w h hv hi)
 have HP1:=Hxq (fun w h=>rword1 b ra rc L v i nf0 w h hv hi)
 have hnum:=hv.tnum (i+1)
 have HLo:=Lib.hid h.low
 have hbl:=h.lt
 have HH:=Lib.hid hA;have EA:=Lib.hid eA;have MA:=Lib.hid mA
 clear h hA eA mA
 generalize v.tk i=t at *
 generalize v.tk (i+1)=u at *
 generalize Sy.plain t=rp at *
 generalize Sy.sign t [45]=rs at *
 generalize Sy.constant v i=q at *
 go_enter Tryz.func111,Tryz.ntmps111
 go_upto_region 1 with fail
 generalize w.alloc (Obj.cells #[Value.int IntKind.i64 0,Value.int IntKind.i64 0,Value.string ⟨#[]⟩] 42)=wA at *
 go_wp2_with fail
 refine (HP0.out wA HH.out).mono ?_
 rintro e1 w1 ⟨rfl,m1⟩
 have z1:=m1.size
 have mT:=(Mod.refl [] w1).alloc (Obj.cells (tokC t) 74)
 have eT:=heap_alloc_new w1 (Obj.cells (tokC t) 74)
 have HT1:=Hxq ((HH.out.past m1 (by simp)).past mT (by simp));have MT1:=Hxq ((MA.out.trans m1 (by simp)).trans mT (by simp));have ET1:=Hxq (mT.at (m1.at EA.out (by simp)) (by simp));have ETT:=Lib.hid eT
 have hzT:(w1.alloc (Obj.cells (tokC t) 74)).heap.size=w1.heap.size+1:=by simp
 clear m1 mT eT
 unfold tokC at *
 go_upto_region 2 with fail
 generalize w1.alloc (Obj.cells _ 74)=wT at *
 go_wp2_with fail
 refine (HP1.out wT HT1.out).mono ?_
 rintro e2 w2 ⟨rfl,m2⟩
 have z2:=m2.size
 have mU:=(Mod.refl [] w2).alloc (Obj.cells (tokC u) 74)
 have eU:=heap_alloc_new w2 (Obj.cells (tokC u) 74)
 have zB:(w2.alloc (Obj.cells (tokC u) 74)).heap.size=w2.heap.size+1:=by simp
 have aB:=mU.at (m2.at ET1.out (by simp)) (by simp);have tB:=mU.at (m2.at ETT.out (by simp)) (by simp);have hB:=(HT1.out.past m2 (by simp)).past mU (by simp)
 have M2:=Hxq ((MT1.out.trans m2 (by simp)).trans mU (by simp))
 clear m2 mU
 unfold tokC at *
 go_upto_region 3 with fail
 generalize w2.alloc (Obj.cells _ 74)=wB at *
 have AB:=Lib.hid aB;have TB:=Lib.hid tB;have UB:=Lib.hid eU;have HB:=Lib.hid hB
 obtain ⟨x0,x1,x2,x3,x4,x5,x6⟩:=tok_cells (t:=t) tB
 clear aB eU tB hB
 by_cases k34:t.kind=3\/t.kind=4
 ·have HQ:Hid (q=some (⟨t.vk,t.num,t.sym⟩,1)):=Hxq (by rw [HR.out,if_pos k34])
  have hq:=HQ.out
  subst hq
  clear HR HQ
  by_cases k3:t.kind=3
  ·have b3:((t.kind:Int) == 3)=true:=by rw [k3];rfl
   clear k34 k3
   obtain ⟨c0,c1,c2,c3,c4,c5,c6,c7,c8,c9,fz⟩:=HB.out.cells
   have hT:=HB.out.to (i+1)
   have aC:(wB.setCell ⟨b,6,none⟩ (.int .i64 ((i:Int)+1))).heap[w.heap.size]?=_:=hT.2.at AB.out (by simp;omega)
   have tC:(wB.setCell ⟨b,6,none⟩ (.int .i64 ((i:Int)+1))).heap[w1.heap.size]?=_:=hT.2.at TB.out (by simp;omega)
   have uC:(wB.setCell ⟨b,6,none⟩ (.int .i64 ((i:Int)+1))).heap[w2.heap.size]?=_:=hT.2.at UB.out (by simp;omega)
   have HC:Hid (RpP (wB.setCell ⟨b,6,none⟩ (.int .i64 ((i:Int)+1))) b ra rc L v (i+1) nf0):=Lib.hid hT.1
   have MC:Hid (Mod [b] w (wB.setCell ⟨b,6,none⟩ (.int .i64 ((i:Int)+1)))):=Hxq ((M2.out.mono (T:=[b]) (by simp)).trans hT.2 (by simp))
   clear hT
   go_upto_region 6 with fail
   generalize wB.setCell ⟨b,6,none⟩ (.int .i64 ((i:Int)+1))=wC at *
   obtain ⟨x0,x1,x2,x3,x4,x5,x6⟩:=tok_cells (t:=t) tC
   obtain ⟨u0,u1,u2,u3,u4,u5,u6⟩:=tok_cells (t:=u) uC
   obtain ⟨y0,y1,y2⟩:=cells3 aC
   have fA:∀ j,wC.frozen? ⟨w.heap.size,j,none⟩=false:=fun j=>free_at aC j
   have AC:=Lib.hid aC
   clear aC tC uC c0 c1 c2 c3 c4 c5 c6 c7 c8 c9 fz
   go_wp2_with fail
   have mR:=setCs_mod w.heap.size [.int .i64 (t.vk:Nat),.int .i64 (t.num:Nat),.string (Lx.ofS t.sym)] 0 wC
   refine bodyPost_ret (res_val rfl _ _ _ _ _ _ _ rfl rfl (setCs_row (vs:=[.int .i64 (t.vk:Nat),.int .i64 (t.num:Nat),.string (Lx.ofS t.sym)]) AC.out rfl) rfl) rfl ⟨rfl,HC.out.new HLo.out mR (by simp),MC.out.trans mR (by simp)⟩
  ·have b3:((t.kind:Int) == 3)=false:=by rw [beq_eq_false_iff_ne];omega
   have b4:((t.kind:Int) == 4)=true:=by rw [beq_iff_eq];omega
   clear k34 k3
   obtain ⟨c0,c1,c2,c3,c4,c5,c6,c7,c8,c9,fz⟩:=HB.out.cells
   have hT:=HB.out.to (i+1)
   have aC:(wB.setCell ⟨b,6,none⟩ (.int .i64 ((i:Int)+1))).heap[w.heap.size]?=_:=hT.2.at AB.out (by simp;omega)
   have tC:(wB.setCell ⟨b,6,none⟩ (.int .i64 ((i:Int)+1))).heap[w1.heap.size]?=_:=hT.2.at TB.out (by simp;omega)
   have uC:(wB.setCell ⟨b,6,none⟩ (.int .i64 ((i:Int)+1))).heap[w2.heap.size]?=_:=hT.2.at UB.out (by simp;omega)
   have HC:Hid (RpP (wB.setCell ⟨b,6,none⟩ (.int .i64 ((i:Int)+1))) b ra rc L v (i+1) nf0):=Lib.hid hT.1
   have MC:Hid (Mod [b] w (wB.setCell ⟨b,6,none⟩ (.int .i64 ((i:Int)+1)))):=Hxq ((M2.out.mono (T:=[b]) (by simp)).trans hT.2 (by simp))
   clear hT
   go_upto_region 6 with fail
   generalize wB.setCell ⟨b,6,none⟩ (.int .i64 ((i:Int)+1))=wC at *
   obtain ⟨x0,x1,x2,x3,x4,x5,x6⟩:=tok_cells (t:=t) tC
   obtain ⟨u0,u1,u2,u3,u4,u5,u6⟩:=tok_cells (t:=u) uC
   obtain ⟨y0,y1,y2⟩:=cells3 aC
   have fA:∀ j,wC.frozen? ⟨w.heap.size,j,none⟩=false:=fun j=>free_at aC j
   have AC:=Lib.hid aC
   clear aC tC uC c0 c1 c2 c3 c4 c5 c6 c7 c8 c9 fz
   go_wp2_with fail
   have mR:=setCs_mod w.heap.size [.int .i64 (t.vk:Nat),.int .i64 (t.num:Nat),.string (Lx.ofS t.sym)] 0 wC
   refine bodyPost_ret (res_val rfl _ _ _ _ _ _ _ rfl rfl (setCs_row (vs:=[.int .i64 (t.vk:Nat),.int .i64 (t.num:Nat),.string (Lx.ofS t.sym)]) AC.out rfl) rfl) rfl ⟨rfl,HC.out.new HLo.out mR (by simp),MC.out.trans mR (by simp)⟩
 ·have b3:((t.kind:Int) == 3)=false:=by rw [beq_eq_false_iff_ne];omega
  have b4:((t.kind:Int) == 4)=false:=by rw [beq_eq_false_iff_ne];omega
  have HR2:Hid (q=if rp=true then some (⟨2,0,t.text⟩,1) else if rs=true/\u.kind=3 then some (⟨1,-(u.num:Int),[]⟩,2) else none):=Hxq (by rw [HR.out,if_neg k34])
  clear HR k34
  go_wp2_with fail
  refine (HPl.out wB).mono ?_
  rintro e3 w3 ⟨rfl,m3⟩
  have A3:=Hxq (m3.at AB.out (by simp));have T3:=Hxq (m3.at TB.out (by simp));have U3:=Hxq (m3.at UB.out (by simp));have H3:=Hxq (HB.out.past m3 (by simp));have M3:=Hxq (M2.out.trans m3 (by simp))
  have z3:=m3.size
  clear m3 x0 x1 x2 x3 x4 x5 x6
  obtain ⟨x0,x1,x2,x3,x4,x5,x6⟩:=tok_cells (t:=t) T3.out
  cases rp
  ·have HR3:Hid (q=if rs=true/\u.kind=3 then some (⟨1,-(u.num:Int),[]⟩,2) else none):=Lib.hid HR2.out
   clear HR2
   go_wp2_with fail
   refine (HSg.out w3).mono ?_
   rintro e4 w4 ⟨rfl,m4⟩
   have A4:=Hxq (m4.at A3.out (by simp));have T4:=Hxq (m4.at T3.out (by simp));have U4:=Hxq (m4.at U3.out (by simp));have H4:=Hxq (H3.out.past m4 (by simp));have M4:=Hxq (M3.out.trans m4 (by simp))
   have z4:=m4.size
   clear m4 x0 x1 x2 x3 x4 x5 x6
   obtain ⟨x0,x1,x2,x3,x4,x5,x6⟩:=tok_cells (t:=t) T4.out
   obtain ⟨u0,u1,u2,u3,u4,u5,u6⟩:=tok_cells (t:=u) U4.out
   obtain ⟨y0,y1,y2⟩:=cells3 A4.out
   have fA:∀ j,w4.frozen? ⟨w.heap.size,j,none⟩=false:=fun j=>free_at A4.out j
   cases rs
   ·have HQ:Hid (q=none):=Lib.hid HR3.out
    have hq:=HQ.out
    subst hq
    clear HR3 HQ
    go_wp2_with fail
    have mR:=setCs_mod w.heap.size [.int .i64 0,.int .i64 0,.string ⟨#[]⟩] 0 w4
    refine bodyPost_ret (res_val rfl _ _ _ _ _ _ _ rfl rfl (setCs_row (vs:=[.int .i64 0,.int .i64 0,.string ⟨#[]⟩]) A4.out rfl) rfl) rfl ⟨rfl,H4.out.new HLo.out mR (by simp),(M4.out.trans mR (by simp)).mono (by simp)⟩
   ·by_cases ku:u.kind=3
    ·have bu:((u.kind:Int) == 3)=true:=by rw [ku];rfl
     have HQ:Hid (q=some (⟨1,-(u.num:Int),[]⟩,2)):=Hxq (by rw [HR3.out,if_pos ⟨rfl,ku⟩])
     have hq:=HQ.out
     subst hq
     have hng:wrap64 (-(u.num:Int))=-(u.num:Int):=by unfold wrap64;omega
     have hng2:IntKind.i64.wrap (-(u.num:Int))=-(u.num:Int):=IntWalk.i64_in _ (by omega)
     clear HR3 HQ ku x0 x1 x2 x3 x4 x5 x6 u1 u2 u3 u4 u5 u6 y0 y1 y2 fA
     obtain ⟨c0,c1,c2,c3,c4,c5,c6,c7,c8,c9,fz⟩:=H4.out.cells
     have hT:=H4.out.to (i+2)
     have aC:(w4.setCell ⟨b,6,none⟩ (.int .i64 ((i:Int)+2))).heap[w.heap.size]?=_:=hT.2.at A4.out (by simp;omega)
     have tC:(w4.setCell ⟨b,6,none⟩ (.int .i64 ((i:Int)+2))).heap[w1.heap.size]?=_:=hT.2.at T4.out (by simp;omega)
     have uC:(w4.setCell ⟨b,6,none⟩ (.int .i64 ((i:Int)+2))).heap[w2.heap.size]?=_:=hT.2.at U4.out (by simp;omega)
     have HC:Hid (RpP (w4.setCell ⟨b,6,none⟩ (.int .i64 ((i:Int)+2))) b ra rc L v (i+2) nf0):=Lib.hid hT.1
     have MC:Hid (Mod [b] w (w4.setCell ⟨b,6,none⟩ (.int .i64 ((i:Int)+2)))):=Hxq ((M4.out.mono (T:=[b]) (by simp)).trans hT.2 (by simp))
     clear hT
     go_upto_region 12 with fail
     generalize w4.setCell ⟨b,6,none⟩ (.int .i64 ((i:Int)+2))=wC at *
     obtain ⟨x0,x1,x2,x3,x4,x5,x6⟩:=tok_cells (t:=t) tC
     obtain ⟨u0,u1,u2,u3,u4,u5,u6⟩:=tok_cells (t:=u) uC
     obtain ⟨y0,y1,y2⟩:=cells3 aC
     have fA:∀ j,wC.frozen? ⟨w.heap.size,j,none⟩=false:=fun j=>free_at aC j
     have AC:=Lib.hid aC
     clear aC tC uC c0 c1 c2 c3 c4 c5 c6 c7 c8 c9 fz
     go_wp2_with fail
     have mR:=setCs_mod w.heap.size [.int .i64 1,.int .i64 (-(u.num:Int)),.string ⟨#[]⟩] 0 wC
     refine bodyPost_ret (res_val rfl _ _ _ _ _ _ _ rfl rfl (setCs_row (vs:=[.int .i64 1,.int .i64 (-(u.num:Int)),.string ⟨#[]⟩]) AC.out rfl) rfl) rfl ⟨rfl,HC.out.new HLo.out mR (by simp),MC.out.trans mR (by simp)⟩
    ·have bu:((u.kind:Int) == 3)=false:=by rw [beq_eq_false_iff_ne];omega
     have HQ:Hid (q=none):=Hxq (by rw [HR3.out,if_neg (fun h=>ku h.2)])
     have hq:=HQ.out
     subst hq
     clear HR3 HQ ku
     go_wp2_with fail
     have mR:=setCs_mod w.heap.size [.int .i64 0,.int .i64 0,.string ⟨#[]⟩] 0 w4
     refine bodyPost_ret (res_val rfl _ _ _ _ _ _ _ rfl rfl (setCs_row (vs:=[.int .i64 0,.int .i64 0,.string ⟨#[]⟩]) A4.out rfl) rfl) rfl ⟨rfl,H4.out.new HLo.out mR (by simp),(M4.out.trans mR (by simp)).mono (by simp)⟩
  ·have HQ:Hid (q=some (⟨2,0,t.text⟩,1)):=Lib.hid HR2.out
   have hq:=HQ.out
   subst hq
   clear HR2 HQ x0 x1 x2 x3 x4 x5 x6
   obtain ⟨c0,c1,c2,c3,c4,c5,c6,c7,c8,c9,fz⟩:=H3.out.cells
   have hT:=H3.out.to (i+1)
   have aC:(w3.setCell ⟨b,6,none⟩ (.int .i64 ((i:Int)+1))).heap[w.heap.size]?=_:=hT.2.at A3.out (by simp;omega)
   have tC:(w3.setCell ⟨b,6,none⟩ (.int .i64 ((i:Int)+1))).heap[w1.heap.size]?=_:=hT.2.at T3.out (by simp;omega)
   have uC:(w3.setCell ⟨b,6,none⟩ (.int .i64 ((i:Int)+1))).heap[w2.heap.size]?=_:=hT.2.at U3.out (by simp;omega)
   have HC:Hid (RpP (w3.setCell ⟨b,6,none⟩ (.int .i64 ((i:Int)+1))) b ra rc L v (i+1) nf0):=Lib.hid hT.1
   have MC:Hid (Mod [b] w (w3.setCell ⟨b,6,none⟩ (.int .i64 ((i:Int)+1)))):=Hxq ((M3.out.mono (T:=[b]) (by simp)).trans hT.2 (by simp))
   clear hT
   go_upto_region 9 with fail
   generalize w3.setCell ⟨b,6,none⟩ (.int .i64 ((i:Int)+1))=wC at *
   obtain ⟨x0,x1,x2,x3,x4,x5,x6⟩:=tok_cells (t:=t) tC
   obtain ⟨u0,u1,u2,u3,u4,u5,u6⟩:=tok_cells (t:=u) uC
   obtain ⟨y0,y1,y2⟩:=cells3 aC
   have fA:∀ j,wC.frozen? ⟨w.heap.size,j,none⟩=false:=fun j=>free_at aC j
   have AC:=Lib.hid aC
   clear aC tC uC c0 c1 c2 c3 c4 c5 c6 c7 c8 c9 fz
   go_wp2_with fail
   have mR:=setCs_mod w.heap.size [.int .i64 2,.int .i64 0,.string (Lx.ofS t.text)] 0 wC
   refine bodyPost_ret (res_val rfl _ _ _ _ _ _ _ rfl rfl (setCs_row (vs:=[.int .i64 2,.int .i64 0,.string (Lx.ofS t.text)]) AC.out rfl) rfl) rfl ⟨rfl,HC.out.new HLo.out mR (by simp),MC.out.trans mR (by simp)⟩
end Go.Proofs.YtppigckioalhhaaGreatDoorR
