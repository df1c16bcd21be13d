/- THE TEXTS MERGED: SyCon SyAdv SyVal. -/
import Derived.Test.YtbfaclljbbfknaaGreatDoorKP7
namespace Go.Proofs.YtbfaclljbbfknaaGreatDoor
open Go.RowKit
set_option linter.unusedVariables false
set_option linter.unusedSimpArgs false
set_option maxRecDepth 100000
def ConV (o:Option (Va.Val × Nat)):Value:=.tuple #[.agg (valV ((o.map (·.1)).getD Va.zero)),.bool o.isSome]
/-- what constant leaves -/
def ConR (b:Nat) (ra:Option Addr) (rc:Nat) (f:Value) (v:Sy.Env) (o:Option (Va.Val × Nat)) (i:Nat) (w:World) (e:Ending) (w':World):Prop :=
 e=.returned (ConV o)/\RdP w' b ra rc f v (i+((o.map (·.2)).getD 0))/\Mod [b] w w'
theorem cells3 {w:World} {b:Nat} {a0 a1 a2:Value} {T:TypeId} {fr:Nat × Nat} (h:w.heap[b]?=some (.cells #[a0,a1,a2] T fr)) :
  w.cell? ⟨b,0,none⟩=some a0/\w.cell? ⟨b,1,none⟩=some a1/\w.cell? ⟨b,2,none⟩=some a2:=⟨cell_at h 0,cell_at h 1,cell_at h 2⟩
theorem Tryz.sizeVal:(Tryz.prog.info? 23).map (·.size)=some 3:=by kernel_rfl
theorem res_val {fn:Func} {p u:Tmp} (h:fn.results=#[.cell p 23,.tmp u]) (tmps:Array Value) (w:World) (b:Nat) (cs:Array Value) (T:TypeId) (fr:Nat × Nat) (x:Value)
  (hp:tmps.getD p undef=.pointer (some ⟨b,0,none⟩)) (hx:tmps.getD u undef=x) (hg:w.heap[b]?=some (.cells cs T fr)) (hc:cs.size=3) :
  (results fn tmps).run Tryz.prog w=.ok (.tuple #[.agg cs,x]) w:=by
 have hl:=run_loadVar_row (P:=Tryz.prog) w b T 23 cs fr _ hg Tryz.underlying23 rfl (by rw [Tryz.sizeVal,hc])
 rw [results_cell_tmp h,hp,hx]
 simp [asAddr,hl]
set_option maxHeartbeats 2000000 in
theorem constant_any (b:Nat) (ra:Option Addr) (rc:Nat) (f:Value) (v:Sy.Env) (i:Nat) (w:World) (h:RdP w b ra rc f v i) (hv:EnvOk v) (hi:i<=70000) :
  Calls Tryz.prog 80 #[.pointer (some ⟨b,0,none⟩)] w (ConR b ra rc f v (Sy.constant v i) i w):=by
 have mA:=(Mod.refl [] w).alloc (Obj.cells #[Value.int IntKind.i64 0,Value.int IntKind.i64 0,Value.string ⟨#[]⟩] 23)
 have hA:=h.past mA (by simp)
 have eA:=heap_alloc_new w (Obj.cells #[Value.int IntKind.i64 0,Value.int IntKind.i64 0,Value.string ⟨#[]⟩] 23)
 have hsA:(w.alloc (Obj.cells #[Value.int IntKind.i64 0,Value.int IntKind.i64 0,Value.string ⟨#[]⟩] 23)).heap.size=w.heap.size+1:=by simp
 have HR:Hid (Sy.constant v i=if (v.tk i).kind=3\/(v.tk i).kind=4 then some (⟨(v.tk i).vk,(v.tk i).num,(v.tk i).sym⟩,1)
  else if Sy.plain (v.tk i)=true then some (⟨2,0,(v.tk i).text⟩,1)
  else if Sy.sign (v.tk i) [45]=true/\(v.tk (i+1)).kind=3 then some (⟨1,-((v.tk (i+1)).num:Int),[]⟩,2)
  else none):=Lib.hid rfl
 have HPl:=Hxq (fun w=>plain_any (v.tk i) w (hv.tbyte i))
 have HSg:=Hxq (fun w=>sign_any (v.tk i) [45] { data:=#[45] } w rfl (hv.tbyte i) (by decide))
 have HP0:=Hxq (fun w h=>peek0 b ra rc f v i w h hv hi)
 have HP1:=Hxq (fun w h=>peek1 b ra rc f v i w h hv hi)
 have hnum:=hv.tnum (i+1)
 have HLo:=Lib.hid h.low
 have hbl:=h.lt
 have HH:=Lib.hid hA;have EA:=Lib.hid eA;have MA:=Lib.hid mA
 clear h hA eA mA
 generalize v.tk i=t at *
 generalize v.tk (i+1)=u at *
 generalize Sy.plain t=rp at *
 generalize Sy.sign t [45]=rs at *
 generalize Sy.constant v i=q at *
 go_enter Tryz.func80,Tryz.ntmps80
 go_upto_region 1 with fail
 generalize w.alloc (Obj.cells #[Value.int IntKind.i64 0,Value.int IntKind.i64 0,Value.string ⟨#[]⟩] 23)=wA at *
 go_wp2_with fail
 refine (HP0.out wA HH.out).mono ?_
 rintro e1 w1 ⟨rfl,m1⟩
 have h1:=HH.out.past m1 (by simp)
 have z1:=m1.size
 have M1:=Hxq (MA.out.trans m1 (by simp));have E1:=Hxq (m1.at EA.out (by simp))
 clear m1
 go_wp2_with fail
 refine (HP1.out w1 h1).mono ?_
 rintro e2 w2 ⟨rfl,m2⟩
 have z2:=m2.size
 have mB:=((Mod.refl [] w2).alloc (Obj.cells (tokC t) 93)).alloc (Obj.cells (tokC u) 93)
 have hB:=(h1.past m2 (by simp)).past mB (by simp)
 have aB:=mB.at (m2.at E1.out (by simp)) (by simp)
 have tB:=((Mod.refl [] (w2.alloc (Obj.cells (tokC t) 93))).alloc (Obj.cells (tokC u) 93)).at (heap_alloc_new w2 (Obj.cells (tokC t) 93)) (by simp)
 have uB:=alloc_at (w0:=w2.alloc (Obj.cells (tokC t) 93)) (n:=w2.heap.size+1) (Obj.cells (tokC u) 93) (by simp)
 have M2:=Hxq ((M1.out.trans m2 (by simp)).trans mB (by simp))
 have zB:((w2.alloc (Obj.cells (tokC t) 93)).alloc (Obj.cells (tokC u) 93)).heap.size=w2.heap.size+2:=by simp
 clear m2 mB h1
 unfold tokC at *
 go_upto_region 2 with fail
 generalize (w2.alloc (Obj.cells _ 93)).alloc (Obj.cells _ 93)=wB at *
 have AB:=Lib.hid aB;have TB:=Lib.hid tB;have UB:=Lib.hid uB;have HB:=Lib.hid hB
 obtain ⟨x0,x1,x2,x3,x4,x5,x6⟩:=tok_cells tB
 clear aB uB tB hB
 by_cases k34:t.kind=3\/t.kind=4
 ·have HQ:Hid (q=some (⟨t.vk,t.num,t.sym⟩,1)):=Hxq (by rw [HR.out,if_pos k34])
  have hq:=HQ.out
  subst hq
  clear HR HQ
  by_cases k3:t.kind=3
  ·have b3:((t.kind:Int) == 3)=true:=by rw [k3];rfl
   clear k34 k3
   obtain ⟨c0,c1,c2,c3,c4,c5,fz⟩:=HB.out.cells
   have hT:=HB.out.to (i+1)
   have aC:(wB.setCell ⟨b,1,none⟩ (.int .i64 ((i:Int)+1))).heap[w.heap.size]?=_:=hT.2.at AB.out (by simp;omega)
   have tC:(wB.setCell ⟨b,1,none⟩ (.int .i64 ((i:Int)+1))).heap[w2.heap.size]?=_:=hT.2.at TB.out (by simp;omega)
   have uC:(wB.setCell ⟨b,1,none⟩ (.int .i64 ((i:Int)+1))).heap[w2.heap.size+1]?=_:=hT.2.at UB.out (by simp;omega)
   have HC:Hid (RdP (wB.setCell ⟨b,1,none⟩ (.int .i64 ((i:Int)+1))) b ra rc f v (i+1)):=Lib.hid hT.1
   have MC:Hid (Mod [b] w (wB.setCell ⟨b,1,none⟩ (.int .i64 ((i:Int)+1)))):=Hxq ((M2.out.mono (T:=[b]) (by simp)).trans hT.2 (by simp))
   clear hT
   go_upto_region 4 with fail
   generalize wB.setCell ⟨b,1,none⟩ (.int .i64 ((i:Int)+1))=wC at *
   obtain ⟨x0,x1,x2,x3,x4,x5,x6⟩:=tok_cells (t:=t) tC
   obtain ⟨u0,u1,u2,u3,u4,u5,u6⟩:=tok_cells (t:=u) uC
   obtain ⟨y0,y1,y2⟩:=cells3 aC
   have fA:∀ j,wC.frozen? ⟨w.heap.size,j,none⟩=false:=fun j=>free_at aC j
   have AC:=Lib.hid aC
   clear aC tC uC c0 c1 c2 c3 c4 c5 fz
   go_wp2_with fail
   have mR:=setCs_mod w.heap.size [.int .i64 (t.vk:Nat),.int .i64 (t.num:Nat),.string (Lx.ofS t.sym)] 0 wC
   refine bodyPost_ret (res_val rfl _ _ _ _ _ _ _ rfl rfl (setCs_row (vs:=[.int .i64 (t.vk:Nat),.int .i64 (t.num:Nat),.string (Lx.ofS t.sym)]) AC.out rfl) rfl) rfl ⟨rfl,HC.out.new HLo.out mR (by simp),MC.out.trans mR (by simp)⟩
  ·have b3:((t.kind:Int) == 3)=false:=by rw [beq_eq_false_iff_ne];omega
   have b4:((t.kind:Int) == 4)=true:=by rw [beq_iff_eq];omega
   clear k34 k3
   obtain ⟨c0,c1,c2,c3,c4,c5,fz⟩:=HB.out.cells
   have hT:=HB.out.to (i+1)
   have aC:(wB.setCell ⟨b,1,none⟩ (.int .i64 ((i:Int)+1))).heap[w.heap.size]?=_:=hT.2.at AB.out (by simp;omega)
   have tC:(wB.setCell ⟨b,1,none⟩ (.int .i64 ((i:Int)+1))).heap[w2.heap.size]?=_:=hT.2.at TB.out (by simp;omega)
   have uC:(wB.setCell ⟨b,1,none⟩ (.int .i64 ((i:Int)+1))).heap[w2.heap.size+1]?=_:=hT.2.at UB.out (by simp;omega)
   have HC:Hid (RdP (wB.setCell ⟨b,1,none⟩ (.int .i64 ((i:Int)+1))) b ra rc f v (i+1)):=Lib.hid hT.1
   have MC:Hid (Mod [b] w (wB.setCell ⟨b,1,none⟩ (.int .i64 ((i:Int)+1)))):=Hxq ((M2.out.mono (T:=[b]) (by simp)).trans hT.2 (by simp))
   clear hT
   go_upto_region 4 with fail
   generalize wB.setCell ⟨b,1,none⟩ (.int .i64 ((i:Int)+1))=wC at *
   obtain ⟨x0,x1,x2,x3,x4,x5,x6⟩:=tok_cells (t:=t) tC
   obtain ⟨u0,u1,u2,u3,u4,u5,u6⟩:=tok_cells (t:=u) uC
   obtain ⟨y0,y1,y2⟩:=cells3 aC
   have fA:∀ j,wC.frozen? ⟨w.heap.size,j,none⟩=false:=fun j=>free_at aC j
   have AC:=Lib.hid aC
   clear aC tC uC c0 c1 c2 c3 c4 c5 fz
   go_wp2_with fail
   have mR:=setCs_mod w.heap.size [.int .i64 (t.vk:Nat),.int .i64 (t.num:Nat),.string (Lx.ofS t.sym)] 0 wC
   refine bodyPost_ret (res_val rfl _ _ _ _ _ _ _ rfl rfl (setCs_row (vs:=[.int .i64 (t.vk:Nat),.int .i64 (t.num:Nat),.string (Lx.ofS t.sym)]) AC.out rfl) rfl) rfl ⟨rfl,HC.out.new HLo.out mR (by simp),MC.out.trans mR (by simp)⟩
 ·have b3:((t.kind:Int) == 3)=false:=by rw [beq_eq_false_iff_ne];omega
  have b4:((t.kind:Int) == 4)=false:=by rw [beq_eq_false_iff_ne];omega
  have HR2:Hid (q=if rp=true then some (⟨2,0,t.text⟩,1) else if rs=true/\u.kind=3 then some (⟨1,-(u.num:Int),[]⟩,2) else none):=Hxq (by rw [HR.out,if_neg k34])
  clear HR k34
  go_wp2_with fail
  refine (HPl.out wB).mono ?_
  rintro e3 w3 ⟨rfl,m3⟩
  have A3:=Hxq (m3.at AB.out (by simp));have T3:=Hxq (m3.at TB.out (by simp));have U3:=Hxq (m3.at UB.out (by simp));have H3:=Hxq (HB.out.past m3 (by simp));have M3:=Hxq (M2.out.trans m3 (by simp))
  have z3:=m3.size
  clear m3 x0 x1 x2 x3 x4 x5 x6
  obtain ⟨x0,x1,x2,x3,x4,x5,x6⟩:=tok_cells (t:=t) T3.out
  cases rp
  ·have HR3:Hid (q=if rs=true/\u.kind=3 then some (⟨1,-(u.num:Int),[]⟩,2) else none):=Lib.hid HR2.out
   clear HR2
   go_wp2_with fail
   refine (HSg.out w3).mono ?_
   rintro e4 w4 ⟨rfl,m4⟩
   have A4:=Hxq (m4.at A3.out (by simp));have T4:=Hxq (m4.at T3.out (by simp));have U4:=Hxq (m4.at U3.out (by simp));have H4:=Hxq (H3.out.past m4 (by simp));have M4:=Hxq (M3.out.trans m4 (by simp))
   have z4:=m4.size
   clear m4 x0 x1 x2 x3 x4 x5 x6
   obtain ⟨x0,x1,x2,x3,x4,x5,x6⟩:=tok_cells (t:=t) T4.out
   obtain ⟨u0,u1,u2,u3,u4,u5,u6⟩:=tok_cells (t:=u) U4.out
   obtain ⟨y0,y1,y2⟩:=cells3 A4.out
   have fA:∀ j,w4.frozen? ⟨w.heap.size,j,none⟩=false:=fun j=>free_at A4.out j
   cases rs
   ·have HQ:Hid (q=none):=Lib.hid HR3.out
    have hq:=HQ.out
    subst hq
    clear HR3 HQ
    go_wp2_with fail
    have mR:=setCs_mod w.heap.size [.int .i64 0,.int .i64 0,.string ⟨#[]⟩] 0 w4
    refine bodyPost_ret (res_val rfl _ _ _ _ _ _ _ rfl rfl (setCs_row (vs:=[.int .i64 0,.int .i64 0,.string ⟨#[]⟩]) A4.out rfl) rfl) rfl ⟨rfl,H4.out.new HLo.out mR (by simp),(M4.out.trans mR (by simp)).mono (by simp)⟩
   ·by_cases ku:u.kind=3
    ·have bu:((u.kind:Int) == 3)=true:=by rw [ku];rfl
     have HQ:Hid (q=some (⟨1,-(u.num:Int),[]⟩,2)):=Hxq (by rw [HR3.out,if_pos ⟨rfl,ku⟩])
     have hq:=HQ.out
     subst hq
     have hng:wrap64 (-(u.num:Int))=-(u.num:Int):=by unfold wrap64;omega
     have hng2:IntKind.i64.wrap (-(u.num:Int))=-(u.num:Int):=IntWalk.i64_in _ (by omega)
     clear HR3 HQ ku x0 x1 x2 x3 x4 x5 x6 u1 u2 u3 u4 u5 u6 y0 y1 y2 fA
     obtain ⟨c0,c1,c2,c3,c4,c5,fz⟩:=H4.out.cells
     have hT:=H4.out.to (i+2)
     have aC:(w4.setCell ⟨b,1,none⟩ (.int .i64 ((i:Int)+2))).heap[w.heap.size]?=_:=hT.2.at A4.out (by simp;omega)
     have tC:(w4.setCell ⟨b,1,none⟩ (.int .i64 ((i:Int)+2))).heap[w2.heap.size]?=_:=hT.2.at T4.out (by simp;omega)
     have uC:(w4.setCell ⟨b,1,none⟩ (.int .i64 ((i:Int)+2))).heap[w2.heap.size+1]?=_:=hT.2.at U4.out (by simp;omega)
     have HC:Hid (RdP (w4.setCell ⟨b,1,none⟩ (.int .i64 ((i:Int)+2))) b ra rc f v (i+2)):=Lib.hid hT.1
     have MC:Hid (Mod [b] w (w4.setCell ⟨b,1,none⟩ (.int .i64 ((i:Int)+2)))):=Hxq ((M4.out.mono (T:=[b]) (by simp)).trans hT.2 (by simp))
     clear hT
     go_upto_region 10 with fail
     generalize w4.setCell ⟨b,1,none⟩ (.int .i64 ((i:Int)+2))=wC at *
     obtain ⟨x0,x1,x2,x3,x4,x5,x6⟩:=tok_cells (t:=t) tC
     obtain ⟨u0,u1,u2,u3,u4,u5,u6⟩:=tok_cells (t:=u) uC
     obtain ⟨y0,y1,y2⟩:=cells3 aC
     have fA:∀ j,wC.frozen? ⟨w.heap.size,j,none⟩=false:=fun j=>free_at aC j
     have AC:=Lib.hid aC
     clear aC tC uC c0 c1 c2 c3 c4 c5 fz
     go_wp2_with fail
     have mR:=setCs_mod w.heap.size [.int .i64 1,.int .i64 (-(u.num:Int)),.string ⟨#[]⟩] 0 wC
     refine bodyPost_ret (res_val rfl _ _ _ _ _ _ _ rfl rfl (setCs_row (vs:=[.int .i64 1,.int .i64 (-(u.num:Int)),.string ⟨#[]⟩]) AC.out rfl) rfl) rfl ⟨rfl,HC.out.new HLo.out mR (by simp),MC.out.trans mR (by simp)⟩
    ·have bu:((u.kind:Int) == 3)=false:=by rw [beq_eq_false_iff_ne];omega
     have HQ:Hid (q=none):=Hxq (by rw [HR3.out,if_neg (fun h=>ku h.2)])
     have hq:=HQ.out
     subst hq
     clear HR3 HQ ku
     go_wp2_with fail
     have mR:=setCs_mod w.heap.size [.int .i64 0,.int .i64 0,.string ⟨#[]⟩] 0 w4
     refine bodyPost_ret (res_val rfl _ _ _ _ _ _ _ rfl rfl (setCs_row (vs:=[.int .i64 0,.int .i64 0,.string ⟨#[]⟩]) A4.out rfl) rfl) rfl ⟨rfl,H4.out.new HLo.out mR (by simp),(M4.out.trans mR (by simp)).mono (by simp)⟩
  ·have HQ:Hid (q=some (⟨2,0,t.text⟩,1)):=Lib.hid HR2.out
   have hq:=HQ.out
   subst hq
   clear HR2 HQ x0 x1 x2 x3 x4 x5 x6
   obtain ⟨c0,c1,c2,c3,c4,c5,fz⟩:=H3.out.cells
   have hT:=H3.out.to (i+1)
   have aC:(w3.setCell ⟨b,1,none⟩ (.int .i64 ((i:Int)+1))).heap[w.heap.size]?=_:=hT.2.at A3.out (by simp;omega)
   have tC:(w3.setCell ⟨b,1,none⟩ (.int .i64 ((i:Int)+1))).heap[w2.heap.size]?=_:=hT.2.at T3.out (by simp;omega)
   have uC:(w3.setCell ⟨b,1,none⟩ (.int .i64 ((i:Int)+1))).heap[w2.heap.size+1]?=_:=hT.2.at U3.out (by simp;omega)
   have HC:Hid (RdP (w3.setCell ⟨b,1,none⟩ (.int .i64 ((i:Int)+1))) b ra rc f v (i+1)):=Lib.hid hT.1
   have MC:Hid (Mod [b] w (w3.setCell ⟨b,1,none⟩ (.int .i64 ((i:Int)+1)))):=Hxq ((M3.out.mono (T:=[b]) (by simp)).trans hT.2 (by simp))
   clear hT
   go_upto_region 7 with fail
   generalize w3.setCell ⟨b,1,none⟩ (.int .i64 ((i:Int)+1))=wC at *
   obtain ⟨x0,x1,x2,x3,x4,x5,x6⟩:=tok_cells (t:=t) tC
   obtain ⟨u0,u1,u2,u3,u4,u5,u6⟩:=tok_cells (t:=u) uC
   obtain ⟨y0,y1,y2⟩:=cells3 aC
   have fA:∀ j,wC.frozen? ⟨w.heap.size,j,none⟩=false:=fun j=>free_at aC j
   have AC:=Lib.hid aC
   clear aC tC uC c0 c1 c2 c3 c4 c5 fz
   go_wp2_with fail
   have mR:=setCs_mod w.heap.size [.int .i64 2,.int .i64 0,.string (Lx.ofS t.text)] 0 wC
   refine bodyPost_ret (res_val rfl _ _ _ _ _ _ _ rfl rfl (setCs_row (vs:=[.int .i64 2,.int .i64 0,.string (Lx.ofS t.text)]) AC.out rfl) rfl) rfl ⟨rfl,HC.out.new HLo.out mR (by simp),MC.out.trans mR (by simp)⟩
end Go.Proofs.YtbfaclljbbfknaaGreatDoor
namespace Go.Proofs.YtbfaclljbbfknaaGreatDoor.Sy
open Lx (Tok)
open Pr (Term Atom Ex Li Rul Rel Prog)
set_option linter.unusedVariables false
set_option linter.unusedSimpArgs false
/-- it goes on, and not beyond the words -/
def Adv {α:Type} (v:Env) (one:Nat->PR α):Prop:=∀ j a k,j<=v.ws.length->one j=.ok a k->j<=k/\k<=v.ws.length
theorem bind_ok {α β:Type} {p:PR α} {f:α->Nat->PR β} {b:β} {k:Nat} (h:p.bind f=.ok b k):∃ a j,p=.ok a j/\f a j=.ok b k:=by
 cases p with
 | ok a j=>exact ⟨a,j,rfl,h⟩
 | err e=>cases h
theorem tk_lt {v:Env} {i:Nat} (h:v.tk i≠zT):i<v.ws.length:=by
 by_cases hk:i<v.ws.length
 ·exact hk
 ·exact absurd (by unfold Env.tk;rw [List.getD_eq_getElem?_getD,List.getElem?_eq_none (by omega)];rfl) h
theorem kind_lt {v:Env} {i:Nat} (h:(v.tk i).kind≠0):i<v.ws.length:=tk_lt (fun e=>h (by rw [e];rfl))
theorem sign_kind {t:Tok} {s:List Nat} (h:sign t s=true):t.kind≠0:=by
 unfold sign at h
 simp only [Bool.and_eq_true,Bool.or_eq_true,decide_eq_true_eq] at h
 omega
theorem sign_lt {v:Env} {i:Nat} {s:List Nat} (h:sign (v.tk i) s=true):i<v.ws.length:=kind_lt (sign_kind h)
theorem plain_lt {v:Env} {i:Nat} (h:plain (v.tk i)=true):i<v.ws.length:=by
 refine kind_lt ?_
 unfold plain at h
 simp only [Bool.and_eq_true,decide_eq_true_eq] at h
 omega
theorem placeF_pos {t:Tok}:∀ (l:List (List Nat)) (n:Nat),0<placeF t l n->t.kind≠0
 | [],n,h=>by simp [placeF] at h
 | s :: r,n,h=>by
  rw [placeF] at h
  split at h
  ·rename_i hs;exact sign_kind hs
  ·exact placeF_pos r (n+1) h
theorem adv_must (v:Env) (s:List Nat):Adv v (must v s):=by
 intro j a k hj h
 unfold must at h
 split at h
 ·rename_i hs
  have:=sign_lt hs
  cases h;omega
 ·cases h
theorem adv_name (v:Env):Adv v (name v):=by
 intro j a k hj h
 unfold name at h
 split at h
 ·rename_i hs
  have:=plain_lt hs
  cases h;omega
 ·cases h
theorem constant_adv {v:Env} {j:Nat} {c:Va.Val} {n:Nat} (h:constant v j=some (c,n)):0<n/\j+n<=v.ws.length:=by
 unfold constant at h
 split at h
 ·rename_i hk
  have:j<v.ws.length:=kind_lt (by omega)
  cases h;omega
 ·split at h
  ·rename_i hp
   have:=plain_lt hp
   cases h;omega
  ·split at h
   ·rename_i hs
    have:j+1<v.ws.length:=kind_lt (by rw [hs.2];omega)
    cases h;omega
   ·cases h
theorem adv_value (v:Env):Adv v (value v):=by
 intro j a k hj h
 unfold value at h
 split at h
 ·rename_i c n hc
  have:=constant_adv hc
  cases h;omega
 ·cases h
theorem adv_term (v:Env):Adv v (term v):=by
 intro j a k hj h
 unfold term at h
 split at h
 ·rename_i hk
  have:j<v.ws.length:=kind_lt (by omega)
  cases h;omega
 ·split at h
  ·rename_i hs
   have:=sign_lt hs
   cases h;omega
  ·obtain ⟨c,m,h1,h2⟩:=bind_ok h
   cases h2
   exact adv_value v j c k hj h1
theorem adv_listF {α:Type} {v:Env} {fin:List Nat} {one:Nat->PR α} (hone:Adv v one):∀ (n:Nat) (acc:List α),Adv v (listF v fin one n acc)
 | 0,acc=>fun j a k hj h=>by cases h
 | n+1,acc=>by
  intro j a k hj h
  rw [listF] at h
  split at h
  ·rename_i hs
   have:=sign_lt hs
   obtain ⟨x,m,h1,h2⟩:=bind_ok h
   have h3:=hone (j+1) x m (by omega) h1
   have h4:=adv_listF hone n (acc++[x]) m a k h3.2 h2
   omega
  ·obtain ⟨x,m,h1,h2⟩:=bind_ok h
   have h3:=adv_must v fin j x m hj h1
   cases h2
   omega
theorem adv_list {α:Type} {v:Env} {fin:List Nat} {one:Nat->PR α} (hone:Adv v one):Adv v (list v fin one):=by
 intro j a k hj h
 unfold list at h
 split at h
 ·rename_i hs
  have:=sign_lt hs
  cases h;omega
 ·obtain ⟨x,m,h1,h2⟩:=bind_ok h
  have h3:=hone j x m hj h1
  have h4:=adv_listF hone _ [x] m a k h3.2 h2
  omega
theorem adv_atom (v:Env):Adv v (atom v):=by
 intro j a k hj h
 obtain ⟨t,m,h1,h2⟩:=bind_ok h
 obtain ⟨_,m2,h3,h4⟩:=bind_ok h2
 obtain ⟨l,m3,h5,h6⟩:=bind_ok h4
 cases h6
 have a1:=adv_name v j t m hj h1
 have a2:=adv_must v _ m _ m2 a1.2 h3
 have a3:=adv_list (adv_term v) m2 l k a2.2 h5
 omega
theorem level_lt {v:Env} {i:Nat} (h:(level (v.tk i)).1≠0):i<v.ws.length:=by
 unfold level at h
 split at h
 ·exact sign_lt ‹_›
 ·split at h
  ·exact sign_lt ‹_›
  ·split at h
   ·exact sign_lt ‹_›
   ·split at h
    ·exact sign_lt ‹_›
    ·split at h
     ·exact sign_lt ‹_›
     ·exact absurd rfl h
theorem adv_chainF {v:Env} {line:Nat} {sub:Nat->Nat->PR (Ex × Nat)} {above:Nat} (hl:line≠0) (hs:∀ ab,Adv v (sub ab)):∀ (n:Nat) (e:Ex) (d:Nat),Adv v (chainF v line sub above n e d)
 | 0,e,d=>fun j a k hj h=>by cases h
 | n+1,e,d=>by
  intro j a k hj h
  rw [chainF] at h
  split at h
  ·cases h;omega
  ·rename_i hne
   have hj2:j<v.ws.length:=level_lt (by omega)
   split at h
   ·cases h
   ·obtain ⟨x,m,h1,h2⟩:=bind_ok h
    have h3:=hs _ (j+1) x m (by omega) h1
    have h4:=adv_chainF hl hs n _ _ m a k h3.2 h2
    omega
theorem adv_exprF (v:Env):∀ (n line above:Nat),line≠0->Adv v (exprF v n line above)
 | 0,line,above,_=>fun j a k hj h=>by cases h
 | n+1,line,above,hl=>by
  intro j a k hj h
  rw [exprF] at h
  split at h
  ·split at h
   ·rename_i hk
    have:j<v.ws.length:=kind_lt (by omega)
    cases h;omega
   ·split at h
    ·rename_i c m hc
     have:=constant_adv hc
     cases h;omega
    ·split at h
     ·rename_i hs
      have:=sign_lt hs
      split at h
      ·cases h
      ·obtain ⟨x,m,h1,h2⟩:=bind_ok h
       cases h2
       have:=adv_exprF v n 3 (above+1) (by omega) (j+1) _ k (by omega) h1
       omega
     ·split at h
      ·cases h
      ·obtain ⟨_,m,h1,h2⟩:=bind_ok h
       obtain ⟨x,m2,h3,h4⟩:=bind_ok h2
       obtain ⟨_,m3,h5,h6⟩:=bind_ok h4
       cases h6
       have a1:=adv_must v _ j _ m hj h1
       have a2:=adv_exprF v n 1 (above+1) (by omega) m x m2 a1.2 h3
       have a3:=adv_must v _ m2 _ k a2.2 h5
       omega
  ·obtain ⟨x,m,h1,h2⟩:=bind_ok h
   have a1:=adv_exprF v n (line+1) above (by omega) j x m hj h1
   have a2:=adv_chainF hl (fun ab=>adv_exprF v n (line+1) ab (by omega)) _ _ _ m a k a1.2 h2
   omega
theorem adv_expr (v:Env):Adv v (expr v):=by
 intro j a k hj h
 obtain ⟨x,m,h1,h2⟩:=bind_ok h
 cases h2
 exact adv_exprF v 60 1 0 (by omega) j _ k hj h1
theorem adv_bodyF {v:Env} {one:Nat->PR Li} (hone:Adv v one):∀ (n:Nat) (acc:List Li),Adv v (bodyF v one n acc)
 | 0,acc=>fun j a k hj h=>by cases h
 | n+1,acc=>by
  intro j a k hj h
  rw [bodyF] at h
  split at h
  ·rename_i hs
   have:=sign_lt hs
   obtain ⟨x,m,h1,h2⟩:=bind_ok h
   have h3:=hone (j+1) x m (by omega) h1
   have h4:=adv_bodyF hone n (acc++[x]) m a k h3.2 h2
   omega
  ·cases h;omega
theorem adv_bodyOf {v:Env} {one:Nat->PR Li} (hone:Adv v one):Adv v (bodyOf v one):=by
 intro j a k hj h
 obtain ⟨x,m,h1,h2⟩:=bind_ok h
 have h3:=hone j x m hj h1
 have h4:=adv_bodyF hone _ [x] m a k h3.2 h2
 omega
theorem adv_aggOf {v:Env} {one:Nat->PR Li} (hone:Adv v one) (br:Nat) {j k:Nat} {a:Ag} (hj:j+3<=v.ws.length) (h:aggOf v one br j=.ok a k):j+3<=k/\k<=v.ws.length:=by
 unfold aggOf at h
 split at h
 ·cases h
 ·obtain ⟨_,m,h1,h2⟩:=bind_ok h
  obtain ⟨o,m2,h3,h4⟩:=bind_ok h2
  obtain ⟨bd,m3,h5,h6⟩:=bind_ok h4
  obtain ⟨_,m4,h7,h8⟩:=bind_ok h6
  cases h8
  have a1:=adv_must v _ (j+3) _ m hj h1
  have a2:m<=m2/\m2<=v.ws.length:=by
   split at h3
   ·obtain ⟨x,n1,g1,g2⟩:=bind_ok h3
    obtain ⟨_,n2,g3,g4⟩:=bind_ok g2
    cases g4
    have b1:=adv_expr v m _ n1 a1.2 g1
    have b2:=adv_must v _ n1 _ m2 b1.2 g3
    omega
   ·cases h3;omega
  have a3:=adv_bodyOf hone m2 bd m3 a2.2 h5
  have a4:=adv_must v _ m3 _ k a3.2 h7
  omega
theorem adv_litF (v:Env):∀ (n br:Nat),Adv v (litF v n br)
 | 0,br=>fun j a k hj h=>by cases h
 | n+1,br=>by
  intro j a k hj h
  rw [litF] at h
  split at h
  ·rename_i hs
   have:=sign_lt hs
   obtain ⟨x,m,h1,h2⟩:=bind_ok h
   cases h2
   have:=adv_atom v (j+1) _ k (by omega) h1
   omega
  ·split at h
   ·obtain ⟨x,m,h1,h2⟩:=bind_ok h
    cases h2
    exact adv_atom v j _ k hj h1
   ·split at h
    ·rename_i hc
     have:j+2<v.ws.length:=kind_lt (placeF_pos _ _ hc.2.2)
     obtain ⟨g,m,h1,h2⟩:=bind_ok h
     cases h2
     have:=adv_aggOf (adv_litF v n (br+1)) br (by omega) h1
     omega
    ·obtain ⟨l,m,h1,h2⟩:=bind_ok h
     have a1:=adv_expr v j l m hj h1
     split at h2
     ·cases h2
     ·rename_i hc
      have:m<v.ws.length:=kind_lt (placeF_pos _ _ (Nat.pos_of_ne_zero hc))
      obtain ⟨r,m2,h3,h4⟩:=bind_ok h2
      cases h4
      have a2:=adv_expr v (m+1) r k (by omega) h3
      omega
theorem adv_lit (v:Env) (br:Nat):Adv v (lit v br):=adv_litF v _ br
end Go.Proofs.YtbfaclljbbfknaaGreatDoor.Sy
namespace Go.Proofs.YtbfaclljbbfknaaGreatDoor
open Go.RowKit
set_option linter.unusedVariables false
set_option linter.unusedSimpArgs false
set_option maxRecDepth 100000
def valC:Va.Val->World->Value->Prop:=fun c _ x=>x=.agg (valV c)
set_option maxHeartbeats 1000000 in
theorem value_any (b:Nat) (ra:Option Addr) (rc:Nat) (f:Value) (v:Sy.Env) (i:Nat) (w:World) (h:RdP w b ra rc f v i) (hv:EnvOk v) (hi:i<=69000) :
  Calls Tryz.prog 79 #[.pointer (some ⟨b,0,none⟩)] w (PRes b ra rc f v (Sy.value v i) valC w):=by
 have mA:=(Mod.refl [] w).alloc (Obj.cells #[Value.int IntKind.i64 0,Value.int IntKind.i64 0,Value.string ⟨#[]⟩] 23)
 have hA:=h.past mA (by simp)
 have eA:=heap_alloc_new w (Obj.cells #[Value.int IntKind.i64 0,Value.int IntKind.i64 0,Value.string ⟨#[]⟩] 23)
 have HC:=Hxq (constant_any b ra rc f v i _ hA hv (by omega))
 have HR:Hid (Sy.value v i=match Sy.constant v i with | some (c,n)=>.ok c (i+n) | none=>.err (v.give 40 (if Sy.sign (v.tk i) [45]=true then i+1 else i))):=Lib.hid rfl
 have HMy:=Hxq (fun w h=>may_any b ra rc f v i [45] { data:=#[45] } w h hv (by omega) rfl (by decide))
 have HLo:=Lib.hid h.low
 have hbl:=h.lt
 have EA:=Lib.hid eA;have MA:=Lib.hid mA
 clear h hA eA mA
 generalize Sy.constant v i=o at *
 generalize Sy.sign (v.tk i) [45]=rs at *
 generalize Sy.value v i=q at *
 go_enter Tryz.func79,Tryz.ntmps79
 go_upto_region 1 with fail
 generalize w.alloc (Obj.cells #[Value.int IntKind.i64 0,Value.int IntKind.i64 0,Value.string ⟨#[]⟩] 23)=wA at *
 cases o with
 | none =>
  cases rs
  ·have hq:q=.err (v.give 40 i):=HR.out
   subst hq
   clear HR
   go_wp2_with fail
   refine HC.out.mono ?_
   rintro e1 w1 ⟨rfl,h1,m1⟩
   have H1:=Hxq (show RdP w1 b ra rc f v i from h1);have M1:=Hxq ((MA.out.mono (T:=[b]) (by simp)).trans m1 (by simp))
   clear h1 m1 HC
   unfold ConV
   simp only [Option.map_none,Option.getD_none,Option.isSome_none,valV,Va.zero]
   have mB:=(Mod.refl [] w1).alloc (Obj.cells #[Value.int .i64 0,Value.int .i64 0,Value.string (Lx.ofS [])] 23)
   have H2:=Hxq (H1.out.past mB (by simp));have M2:=Hxq (M1.out.trans mB (by simp))
   clear mB
   go_wp2_with fail
   refine (HMy.out _ H2.out).mono ?_
   rintro e3 w3 ⟨rfl,h3,m3⟩
   have H3:=Hxq (show RdP w3 b ra rc f v i from h3);have M3:=Hxq (M2.out.trans m3 (by simp))
   clear h3 m3
   go_wp2_with fail
   refine (give_any b ra rc f v i 40 w3 H3.out hv (by omega)).mono ?_
   rintro e4 w4 ⟨rfl,m4⟩
   have M4:=Hxq (M3.out.trans m4 (by simp))
   clear m4
   unfold stopE
   go_wp2_with fail
   exact ⟨rfl,rfl,M4.out⟩
  ·have hq:q=.err (v.give 40 (i+1)):=HR.out
   subst hq
   clear HR
   go_wp2_with fail
   refine HC.out.mono ?_
   rintro e1 w1 ⟨rfl,h1,m1⟩
   have H1:=Hxq (show RdP w1 b ra rc f v i from h1);have M1:=Hxq ((MA.out.mono (T:=[b]) (by simp)).trans m1 (by simp))
   clear h1 m1 HC
   unfold ConV
   simp only [Option.map_none,Option.getD_none,Option.isSome_none,valV,Va.zero]
   have mB:=(Mod.refl [] w1).alloc (Obj.cells #[Value.int .i64 0,Value.int .i64 0,Value.string (Lx.ofS [])] 23)
   have H2:=Hxq (H1.out.past mB (by simp));have M2:=Hxq (M1.out.trans mB (by simp))
   clear mB
   go_wp2_with fail
   refine (HMy.out _ H2.out).mono ?_
   rintro e3 w3 ⟨rfl,h3,m3⟩
   have H3:=Hxq (show RdP w3 b ra rc f v (i+1) from h3);have M3:=Hxq (M2.out.trans m3 (by simp))
   clear h3 m3
   go_wp2_with fail
   refine (give_any b ra rc f v (i+1) 40 w3 H3.out hv (by omega)).mono ?_
   rintro e4 w4 ⟨rfl,m4⟩
   have M4:=Hxq (M3.out.trans m4 (by simp))
   clear m4
   unfold stopE
   go_wp2_with fail
   exact ⟨rfl,rfl,M4.out⟩
 | some p =>
  obtain ⟨c,n⟩:=p
  have hq:q=.ok c (i+n):=HR.out
  subst hq
  clear HR
  go_wp2_with fail
  refine HC.out.mono ?_
  rintro e1 w1 ⟨rfl,h1,m1⟩
  have H1:=Hxq (show RdP w1 b ra rc f v (i+n) from h1);have M1:=Hxq ((MA.out.mono (T:=[b]) (by simp)).trans m1 (by simp))
  have hnb:w.heap.size∉[b]:=by simp;omega
  have E1:=Hxq (m1.at EA.out hnb)
  have z1:=lt_of_block E1.out
  clear h1 m1 HC
  unfold ConV
  simp only [Option.map_some,Option.getD_some,Option.isSome_some,valV]
  have mB:=(Mod.refl [] w1).alloc (Obj.cells #[Value.int .i64 c.k,Value.int .i64 c.n,Value.string (Lx.ofS c.s)] 23)
  have bB:=heap_alloc_new w1 (Obj.cells #[Value.int .i64 c.k,Value.int .i64 c.n,Value.string (Lx.ofS c.s)] 23)
  have aB:=mB.at E1.out (by simp)
  have H2:=Hxq (H1.out.past mB (by simp));have M2:=Hxq (M1.out.trans mB (by simp))
  obtain ⟨x0,x1,x2⟩:=cells3 bB
  obtain ⟨y0,y1,y2⟩:=cells3 aB
  have fA:∀ j,(w1.alloc (Obj.cells #[Value.int .i64 c.k,Value.int .i64 c.n,Value.string (Lx.ofS c.s)] 23)).frozen? ⟨w.heap.size,j,none⟩=false:=fun j=>free_at aB j
  have AB:=Lib.hid aB
  clear mB aB bB
  go_upto_region 5 with fail
  generalize w1.alloc (Obj.cells #[Value.int .i64 c.k,Value.int .i64 c.n,Value.string (Lx.ofS c.s)] 23)=wB at *
  go_wp2_with fail
  have mR:=setCs_mod w.heap.size [.int .i64 c.k,.int .i64 c.n,.string (Lx.ofS c.s)] 0 wB
  refine bodyPost_ret (results_cell_row rfl _ _ _ _ _ _ _ rfl (setCs_row (vs:=[.int .i64 c.k,.int .i64 c.n,.string (Lx.ofS c.s)]) AB.out rfl) Tryz.underlying23 rfl (by kernel_rfl)) rfl ⟨_,rfl,rfl,H2.out.new HLo.out mR (by simp),M2.out.trans mR (by simp)⟩
def valM:Pr.Term->World->Value->Prop:=fun c _ x=>x=.agg (tmV c)
theorem cells5 {w:World} {b:Nat} {a0 a1 a2 a3 a4:Value} {T:TypeId} {fr:Nat × Nat} (h:w.heap[b]?=some (.cells #[a0,a1,a2,a3,a4] T fr)) :
  w.cell? ⟨b,0,none⟩=some a0/\w.cell? ⟨b,1,none⟩=some a1/\w.cell? ⟨b,2,none⟩=some a2/\w.cell? ⟨b,3,none⟩=some a3/\w.cell? ⟨b,4,none⟩=some a4:=⟨cell_at h 0,cell_at h 1,cell_at h 2,cell_at h 3,cell_at h 4⟩
set_option maxHeartbeats 1000000 in
theorem term_any (b:Nat) (ra:Option Addr) (rc:Nat) (f:Value) (v:Sy.Env) (i:Nat) (w:World) (h:RdP w b ra rc f v i) (hv:EnvOk v) (hi:i<=69000) :
  Calls Tryz.prog 61 #[.pointer (some ⟨b,0,none⟩)] w (PRes b ra rc f v (Sy.term v i) valM w):=by
 have mA:=(Mod.refl [] w).alloc (Obj.cells #[Value.int IntKind.i64 0,Value.string ⟨#[]⟩,Value.int IntKind.i64 0,Value.int IntKind.i64 0,Value.string ⟨#[]⟩] 111)
 have hA:=h.past mA (by simp)
 have eA:=heap_alloc_new w (Obj.cells #[Value.int IntKind.i64 0,Value.string ⟨#[]⟩,Value.int IntKind.i64 0,Value.int IntKind.i64 0,Value.string ⟨#[]⟩] 111)
 have HP:=Hxq (peek0 b ra rc f v i _ hA hv (by omega))
 have HR:Hid (Sy.term v i=if (v.tk i).kind=2 then .ok ⟨1,Sy.txt (v.tk i).text,Va.zero⟩ (i+1)
  else if Sy.sign (v.tk i) [95]=true then .ok ⟨3,Sy.txt [],Va.zero⟩ (i+1)
  else (Sy.value v i).bind fun c j=>.ok ⟨2,Sy.txt [],c⟩ j):=Lib.hid rfl
 have HMy:=Hxq (fun w h=>may_any b ra rc f v i [95] { data:=#[95] } w h hv (by omega) rfl (by decide))
 have HV:=Hxq (fun w h=>value_any b ra rc f v i w h hv hi)
 have HLo:=Lib.hid h.low
 have hbl:=h.lt
 have HH:=Lib.hid hA;have EA:=Lib.hid eA;have MA:=Lib.hid mA
 clear h hA eA mA
 generalize Sy.sign (v.tk i) [95]=rs at *
 generalize Sy.value v i=o at *
 generalize Sy.term v i=q at *
 generalize v.tk i=t at *
 go_enter Tryz.func61,Tryz.ntmps61
 go_upto_region 1 with fail
 generalize w.alloc (Obj.cells #[Value.int IntKind.i64 0,Value.string ⟨#[]⟩,Value.int IntKind.i64 0,Value.int IntKind.i64 0,Value.string ⟨#[]⟩] 111)=wA at *
 go_wp2_with fail
 refine HP.out.mono ?_
 rintro e1 w1 ⟨rfl,m1⟩
 have E1:=Hxq (m1.at EA.out (by simp))
 have z1:=lt_of_block E1.out
 have mB:=(Mod.refl [] w1).alloc (Obj.cells (tokC t) 93)
 have bB:=heap_alloc_new w1 (Obj.cells (tokC t) 93)
 have HB:=Hxq ((HH.out.past m1 (by simp)).past mB (by simp));have AB:=Hxq (mB.at E1.out (by simp));have BB:=Lib.hid bB;have MB:=Hxq ((MA.out.trans m1 (by simp)).trans mB (by simp))
 have zB:(w1.alloc (Obj.cells (tokC t) 93)).heap.size=w1.heap.size+1:=by simp
 clear m1 mB bB HP
 unfold tokC at *
 go_upto_region 2 with fail
 generalize w1.alloc (Obj.cells _ 93)=wB at *
 obtain ⟨x0,x1,x2,x3,x4,x5,x6⟩:=tok_cells (t:=t) BB.out
 obtain ⟨c0,c1,c2,c3,c4,c5,fz⟩:=HB.out.cells
 have hnb:w.heap.size∉[b]:=by simp;omega
 by_cases k2:t.kind=2
 ·have hq:q=.ok ⟨1,Sy.txt t.text,Va.zero⟩ (i+1):=by rw [HR.out,if_pos k2]
  subst hq
  have b2:((t.kind:Int) == 2)=true:=by rw [k2];rfl
  have hT:=HB.out.to (i+1)
  have hnb1:w1.heap.size∉[b]:=by simp;omega
  have aC:(wB.setCell ⟨b,1,none⟩ (.int .i64 ((i:Int)+1))).heap[w.heap.size]?=_:=hT.2.at AB.out hnb
  have tC:(wB.setCell ⟨b,1,none⟩ (.int .i64 ((i:Int)+1))).heap[w1.heap.size]?=_:=hT.2.at BB.out hnb1
  have HC:Hid (RdP (wB.setCell ⟨b,1,none⟩ (.int .i64 ((i:Int)+1))) b ra rc f v (i+1)):=Lib.hid hT.1
  have MC:Hid (Mod [b] w (wB.setCell ⟨b,1,none⟩ (.int .i64 ((i:Int)+1)))):=Hxq ((MB.out.mono (T:=[b]) (by simp)).trans hT.2 (by simp))
  clear hT HR k2
  go_upto_region 4 with fail
  generalize wB.setCell ⟨b,1,none⟩ (.int .i64 ((i:Int)+1))=wC at *
  clear x0 x1 x2 x3 x4 x5 x6 c0 c1 c2 c3 c4 c5 fz
  obtain ⟨x0,x1,x2,x3,x4,x5,x6⟩:=tok_cells (t:=t) tC
  obtain ⟨y0,y1,y2,y3,y4⟩:=cells5 aC
  have fA:∀ j,wC.frozen? ⟨w.heap.size,j,none⟩=false:=fun j=>free_at aC j
  have AC:=Lib.hid aC
  clear aC tC
  go_wp2_with fail
  have mR:=setCs_mod w.heap.size [.int .i64 1,.string (Lx.ofS t.text),.int .i64 0,.int .i64 0,.string ⟨#[]⟩] 0 wC
  refine bodyPost_ret (results_cell_row rfl _ _ _ _ _ _ _ rfl (setCs_row (vs:=[.int .i64 1,.string (Lx.ofS t.text),.int .i64 0,.int .i64 0,.string ⟨#[]⟩]) AC.out rfl) Tryz.underlying111 rfl (by kernel_rfl)) rfl ⟨_,rfl,rfl,HC.out.new HLo.out mR (by simp),MC.out.trans mR (by simp)⟩
 ·have b2:((t.kind:Int) == 2)=false:=by rw [beq_eq_false_iff_ne];omega
  have HR2:Hid (q=if rs=true then .ok ⟨3,Sy.txt [],Va.zero⟩ (i+1) else o.bind fun c j=>.ok ⟨2,Sy.txt [],c⟩ j):=Hxq (by rw [HR.out,if_neg k2])
  clear HR k2 c0 c1 c2 c3 c4 c5 fz
  go_wp2_with fail
  refine (HMy.out wB HB.out).mono ?_
  rintro e2 w2 ⟨rfl,h2,m2⟩
  have M2:=Hxq ((MB.out.mono (T:=[b]) (by simp)).trans m2 (by simp));have A2:=Hxq (m2.at AB.out hnb)
  clear x0 x1 x2 x3 x4 x5 x6 m2
  cases rs
  ·have hq:q=o.bind fun c j=>.ok ⟨2,Sy.txt [],c⟩ j:=HR2.out
   have H2:=Hxq (show RdP w2 b ra rc f v i from h2)
   clear h2 HR2
   cases o with
   | err g =>
    have hq2:q=.err g:=hq
    subst hq2
    clear hq
    go_wp2_with fail
    refine (HV.out w2 H2.out).mono ?_
    rintro e3 w3 ⟨rfl,m3⟩
    have M3:=Hxq (M2.out.trans m3 (by simp))
    clear m3
    unfold stopE
    go_wp2_with fail
    exact ⟨rfl,rfl,M3.out⟩
   | ok c j =>
    have hq2:q=.ok ⟨2,Sy.txt [],c⟩ j:=hq
    subst hq2
    clear hq
    go_wp2_with fail
    refine (HV.out w2 H2.out).mono ?_
    rintro e3 w3 ⟨x,rfl,hx,h3,m3⟩
    unfold valC at hx
    subst hx
    have H3:=Lib.hid h3;have M3:=Hxq (M2.out.trans m3 (by simp));have a3:=m3.at A2.out hnb
    obtain ⟨y0,y1,y2,y3,y4⟩:=cells5 a3
    have fA:∀ j,w3.frozen? ⟨w.heap.size,j,none⟩=false:=fun j=>free_at a3 j
    have A3:=Lib.hid a3
    clear h3 m3 a3
    unfold valV
    go_wp2_with fail
    have mR:=setCs_mod w.heap.size [.int .i64 2,.string ⟨#[]⟩,.int .i64 c.k,.int .i64 c.n,.string (Lx.ofS c.s)] 0 w3
    refine bodyPost_ret (results_cell_row rfl _ _ _ _ _ _ _ rfl (setCs_row (vs:=[.int .i64 2,.string ⟨#[]⟩,.int .i64 c.k,.int .i64 c.n,.string (Lx.ofS c.s)]) A3.out rfl) Tryz.underlying111 rfl (by kernel_rfl)) rfl ⟨_,rfl,rfl,H3.out.new HLo.out mR (by simp),M3.out.trans mR (by simp)⟩
  ·have hq:q=.ok ⟨3,Sy.txt [],Va.zero⟩ (i+1):=HR2.out
   subst hq
   have H2:=Hxq (show RdP w2 b ra rc f v (i+1) from h2)
   obtain ⟨y0,y1,y2,y3,y4⟩:=cells5 A2.out
   have fA:∀ j,w2.frozen? ⟨w.heap.size,j,none⟩=false:=fun j=>free_at A2.out j
   clear h2 HR2
   go_wp2_with fail
   have mR:=setCs_mod w.heap.size [.int .i64 3,.string ⟨#[]⟩,.int .i64 0,.int .i64 0,.string ⟨#[]⟩] 0 w2
   refine bodyPost_ret (results_cell_row rfl _ _ _ _ _ _ _ rfl (setCs_row (vs:=[.int .i64 3,.string ⟨#[]⟩,.int .i64 0,.int .i64 0,.string ⟨#[]⟩]) A2.out rfl) Tryz.underlying111 rfl (by kernel_rfl)) rfl ⟨_,rfl,rfl,H2.out.new HLo.out mR (by simp),M2.out.trans mR (by simp)⟩
end Go.Proofs.YtbfaclljbbfknaaGreatDoor
