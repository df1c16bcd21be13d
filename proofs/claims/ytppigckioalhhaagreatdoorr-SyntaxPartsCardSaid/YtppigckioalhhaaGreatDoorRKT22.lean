/- THE TEXTS MERGED: RpTerm. -/
import Derived.Test.YtppigckioalhhaaGreatDoorRKT1
import Derived.Test.YtppigckioalhhaaGreatDoorRKT21
import Derived.Test.YtppigckioalhhaaGreatDoorRKT9
namespace Go.Proofs.YtppigckioalhhaaGreatDoorR
open Go.RowKit
set_option linter.unusedVariables false
set_option linter.unusedSimpArgs false
set_option maxRecDepth 100000
/-- what a call of the parser's leaves: the thing that val speaks of, or a fault -/
def RRes {α:Type} (b:Nat) (ra:Option Addr) (rc:Nat) (L:LX) (v:Sy.Env) (r:Sy.PR α) (val:α->World->Value->Prop) (bad:Value->Prop) (w:World) (e:Ending) (w':World):Prop :=
 match r with
 | .ok a j=>∃ x,e=.returned (.tuple #[x,.bool true])/\val a w' x/\RpP w' b ra rc L v j nf0/\Mod [b] w w'
 | .err g=>∃ x,e=.returned (.tuple #[x,.bool false])/\bad x/\(∃ j,RpP w' b ra rc L v j g)/\Mod [b] w w'
namespace Sy
/-- a term; bare: a constant alone -/
def termB (bare:Bool) (v:Env) (i:Nat):PR Pr.Term :=
 if bare=false/\(v.tk i).kind=2 then .ok ⟨1,txt (v.tk i).text,Va.zero⟩ (i+1)
 else if bare=false/\sign (v.tk i) [95]=true then .ok ⟨3,txt [],Va.zero⟩ (i+1)
 else (value v i).bind fun c j=>.ok ⟨2,txt [],c⟩ j
def conT (o:Option (Va.Val × Nat)) (i:Nat) (f:Flt):PR Pr.Term :=
 match o with
 | some (c,n)=>.ok ⟨2,txt [],c⟩ (i+n)
 | none=>.err f
theorem termB_false (v:Env):termB false v=term v:=by
 funext i
 unfold termB term
 simp
theorem termB_true (v:Env) (i:Nat):termB true v i=(value v i).bind fun c j=>.ok ⟨2,txt [],c⟩ j:=by
 unfold termB
 simp
end Sy
theorem res_ct {fn:Func} {p u:Tmp} {T:TypeId} (h:fn.results=#[.cell p T,.tmp u]) (tmps:Array Value) (w:World) (b:Nat) (C:Array Value) (x:Value)
  (hp:tmps.getD p undef=.pointer (some ⟨b,0,none⟩)) (hx:tmps.getD u undef=x) (hl:(loadVar T ⟨b,0,none⟩).run Tryz.prog w=.ok (.agg C) w) :
  (results fn tmps).run Tryz.prog w=.ok (.tuple #[.agg C,x]) w:=by
 rw [results_cell_tmp h,hp,hx]
 simp [asAddr,hl]
theorem res_ctt {fn:Func} {p u q:Tmp} {T:TypeId} (h:fn.results=#[.cell p T,.tmp u,.tmp q]) (tmps:Array Value) (w:World) (b:Nat) (C:Array Value) (x y:Value)
  (hp:tmps.getD p undef=.pointer (some ⟨b,0,none⟩)) (hx:tmps.getD u undef=x) (hy:tmps.getD q undef=y) (hl:(loadVar T ⟨b,0,none⟩).run Tryz.prog w=.ok (.agg C) w) :
  (results fn tmps).run Tryz.prog w=.ok (.tuple #[.agg C,x,y]) w:=by
 have hp':tmps[p]?.getD undef=.pointer (some ⟨b,0,none⟩):=by simpa using hp
 have hx':tmps[u]?.getD undef=x:=by simpa using hx
 have hy':tmps[q]?.getD undef=y:=by simpa using hy
 simp [results,h,hp',hx',hy',asAddr,hl]
theorem Tryz.sizeTerm:(Tryz.prog.info? 113).map (·.size)=some 5:=by kernel_rfl
theorem load_tm {w:World} {b:Nat} {C:Array Value} {T:TypeId} {fr:Nat × Nat} (hg:w.heap[b]?=some (.cells C T fr)) (hc:C.size=5):(loadVar 113 ⟨b,0,none⟩).run Tryz.prog w=.ok (.agg C) w :=
 run_loadVar_row (P:=Tryz.prog) w b T 113 C fr _ hg Tryz.underlying113 rfl (by rw [Tryz.sizeTerm,hc])
set_option maxHeartbeats 4000000 in
theorem rterm_any (b:Nat) (ra:Option Addr) (rc:Nat) (L:LX) (v:Sy.Env) (bare:Bool) (i:Nat) (w:World) (h:RpP w b ra rc L v i nf0) (hk:EnvK v) (hi:i<=69000) :
  Calls Tryz.prog 90 #[.pointer (some ⟨b,0,none⟩),.bool bare] w (RRes b ra rc L v (Sy.termB bare v i) valM (fun x=>x=.agg #[Value.int IntKind.i64 0,Value.string ⟨#[]⟩,Value.int IntKind.i64 0,Value.int IntKind.i64 0,Value.string ⟨#[]⟩]) w):=by
 have hv:=hk.ok
 have mA:=(Mod.refl [] w).alloc (Obj.cells #[Value.int IntKind.i64 0,Value.string ⟨#[]⟩,Value.int IntKind.i64 0,Value.int IntKind.i64 0,Value.string ⟨#[]⟩] 113)
 have hA:=h.past mA (by simp)
 have eA:=heap_alloc_new w (Obj.cells #[Value.int IntKind.i64 0,Value.string ⟨#[]⟩,Value.int IntKind.i64 0,Value.int IntKind.i64 0,Value.string ⟨#[]⟩] 113)
 have hsA:(w.alloc (Obj.cells #[Value.int IntKind.i64 0,Value.string ⟨#[]⟩,Value.int IntKind.i64 0,Value.int IntKind.i64 0,Value.string ⟨#[]⟩] 113)).heap.size=w.heap.size+1:=by simp
 have HR:Hid (Sy.termB bare v i=if bare=false/\(v.tk i).kind=2 then .ok ⟨1,Sy.txt (v.tk i).text,Va.zero⟩ (i+1) else if bare=false/\Sy.sign (v.tk i) [95]=true then .ok ⟨3,Sy.txt [],Va.zero⟩ (i+1)
  else Sy.conT (Sy.constant v i) i (v.give 40 (if Sy.sign (v.tk i) [45]=true then i+1 else i))):=Hxq (by
  unfold Sy.termB
  split
  ·rfl
  ·split
   ·rfl
   ·unfold Sy.value Sy.conT
    cases Sy.constant v i with
    | none=>rfl
    | some p=>rfl)
 have HW:=Hxq (fun w h=>rword0 b ra rc L v i nf0 w h hv (by omega))
 have HU:=Hxq (fun w=>rmark_sign (t:=v.tk i) (l:=[95]) (s:={ data:=#[95] }) (hk.tk i) rfl w rfl (hv.tbyte i) (by decide))
 have HD:=Hxq (fun w=>rmark_sign (t:=v.tk i) (l:=[45]) (s:={ data:=#[45] }) (hk.tk i) rfl w rfl (hv.tbyte i) (by decide))
 have HC:=Hxq (fun w h=>rconstant_any b ra rc L v i w h hk (by omega))
 have HS:=Hxq (fun j w h hj=>rstop_any b ra rc L v j 40 w h hv hj)
 have HLo:=Lib.hid h.low
 have hbl:=h.lt
 have HH:=Lib.hid hA;have EA:=Lib.hid eA;have MA:=Lib.hid mA
 clear h hA eA mA
 generalize v.tk i=t at *
 generalize Sy.constant v i=o at *
 generalize Sy.sign t [95]=ru at *
 generalize Sy.sign t [45]=rd at *
 generalize Sy.termB bare v i=q at *
 go_enter Tryz.func90,Tryz.ntmps90
 go_upto_region 1 with fail
 generalize w.alloc (Obj.cells #[Value.int IntKind.i64 0,Value.string ⟨#[]⟩,Value.int IntKind.i64 0,Value.int IntKind.i64 0,Value.string ⟨#[]⟩] 113)=wA at *
 go_wp2_with fail
 refine (HW.out wA HH.out).mono ?_
 rintro e1 w1 ⟨rfl,m1⟩
 have z1:=m1.size
 have mT:=(Mod.refl [] w1).alloc (Obj.cells (tokC t) 74)
 have eT:=heap_alloc_new w1 (Obj.cells (tokC t) 74)
 have HB:=Hxq ((HH.out.past m1 (by simp)).past mT (by simp));have MB:=Hxq ((MA.out.trans m1 (by simp)).trans mT (by simp));have AB:=Hxq (mT.at (m1.at EA.out (by simp)) (by simp));have TB:=Lib.hid eT
 have zB:(w1.alloc (Obj.cells (tokC t) 74)).heap.size=w1.heap.size+1:=by simp
 clear m1 mT eT HW
 unfold tokC at *
 go_upto_region 2 with fail
 generalize w1.alloc (Obj.cells _ 74)=wB at *
 obtain ⟨x0,x1,x2,x3,x4,x5,x6⟩:=tok_cells (t:=t) TB.out
 cases bare
 ·by_cases k2:t.kind=2
  ·have b2:((t.kind:Int) == 2)=true:=by rw [k2];rfl
   have hq:q=.ok ⟨1,Sy.txt t.text,Va.zero⟩ (i+1):=by rw [HR.out,if_pos ⟨rfl,k2⟩]
   subst hq
   clear k2 HR
   obtain ⟨c0,c1,c2,c3,c4,c5,c6,c7,c8,c9,fz⟩:=HB.out.cells
   have hT:=HB.out.to (i+1)
   have aC:(wB.setCell ⟨b,6,none⟩ (.int .i64 ((i:Int)+1))).heap[w.heap.size]?=_:=hT.2.at AB.out (by simp;omega)
   have tC:(wB.setCell ⟨b,6,none⟩ (.int .i64 ((i:Int)+1))).heap[w1.heap.size]?=_:=hT.2.at TB.out (by simp;omega)
   have HCC:Hid (RpP (wB.setCell ⟨b,6,none⟩ (.int .i64 ((i:Int)+1))) b ra rc L v (i+1) nf0):=Lib.hid hT.1
   have MC:Hid (Mod [b] w (wB.setCell ⟨b,6,none⟩ (.int .i64 ((i:Int)+1)))):=Hxq ((MB.out.mono (T:=[b]) (by simp)).trans hT.2 (by simp))
   clear hT
   go_upto_region 4 with fail
   generalize wB.setCell ⟨b,6,none⟩ (.int .i64 ((i:Int)+1))=wC at *
   clear c0 c1 c2 c3 c4 c5 c6 c7 c8 c9 fz
   clear x0 x1 x2 x3 x4 x5 x6
   obtain ⟨x0,x1,x2,x3,x4,x5,x6⟩:=tok_cells (t:=t) tC
   have AC:=Lib.hid aC
   obtain ⟨y0,y1,y2,y3,y4⟩:=cells5 AC.out
   have fA:∀ j,wC.frozen? ⟨w.heap.size,j,none⟩=false:=fun j=>free_at AC.out j
   clear aC tC
   go_wp2_with fail
   have mR:=setCs_mod w.heap.size [.int .i64 1,.string (Lx.ofS t.text),.int .i64 0,.int .i64 0,.string ⟨#[]⟩] 0 wC
   refine bodyPost_ret (res_ct rfl _ _ _ _ _ rfl rfl (load_tm (setCs_row (vs:=[.int .i64 1,.string (Lx.ofS t.text),.int .i64 0,.int .i64 0,.string ⟨#[]⟩]) AC.out rfl) rfl)) rfl ⟨_,rfl,rfl,HCC.out.new HLo.out mR (by simp),MC.out.trans mR (by simp)⟩
  ·have b2:((t.kind:Int) == 2)=false:=by rw [beq_eq_false_iff_ne];omega
   have HR2:Hid (q=if ru=true then .ok ⟨3,Sy.txt [],Va.zero⟩ (i+1) else Sy.conT o i (v.give 40 (if rd=true then i+1 else i))):=Hxq (by rw [HR.out,if_neg (fun hh=>k2 hh.2)];simp)
   clear k2 HR
   go_wp2_with fail
   refine (HU.out wB).mono ?_
   rintro e3 w3 ⟨rfl,m3⟩
   have A3:=Hxq (m3.at AB.out (by simp));have T3:=Hxq (m3.at TB.out (by simp));have H3:=Hxq (HB.out.past m3 (by simp));have M3:=Hxq (MB.out.trans m3 (by simp));have z3:=m3.size
   clear m3 x0 x1 x2 x3 x4 x5 x6
   obtain ⟨x0,x1,x2,x3,x4,x5,x6⟩:=tok_cells (t:=t) T3.out
   cases ru
   ·have HR3:Hid (q=Sy.conT o i (v.give 40 (if rd=true then i+1 else i))):=Lib.hid HR2.out
    clear HR2
    clear x0 x1 x2 x3 x4 x5 x6
    go_wp2_with fail
    refine (HC.out w3 H3.out).mono ?_
    rintro e4 w4 ⟨rfl,h4,m4⟩
    have z4:=m4.size
    cases o with
    | some p =>
     obtain ⟨c,n⟩:=p
     have hq:q=.ok ⟨2,Sy.txt [],c⟩ (i+n):=HR3.out
     subst hq
     have h4:RpP w4 b ra rc L v (i+n) nf0:=h4
     unfold ConV
     simp only [Option.map_some,Option.getD_some,Option.isSome_some,valV]
     have mV:=(Mod.refl [] w4).alloc (Obj.cells #[.int .i64 c.k,.int .i64 c.n,.string (Lx.ofS c.s)] 42)
     have eV:=heap_alloc_new w4 (Obj.cells #[.int .i64 c.k,.int .i64 c.n,.string (Lx.ofS c.s)] 42)
     have H5:=Hxq (h4.past mV (by simp));have M5:=Hxq (((M3.out.mono (T:=[b]) (by simp)).trans m4 (by simp)).trans mV (by simp));have A5:=Hxq (mV.at (m4.at A3.out (by simp;omega)) (by simp));have V5:=Lib.hid eV
     clear h4 m4 mV eV HR3 HC
     go_upto_region 9 with fail
     generalize w4.alloc (Obj.cells _ 42)=w5 at *
     obtain ⟨v0,v1,v2⟩:=cells3 V5.out
     obtain ⟨y0,y1,y2,y3,y4⟩:=cells5 A5.out
     have fA:∀ j,w5.frozen? ⟨w.heap.size,j,none⟩=false:=fun j=>free_at A5.out j
     go_wp2_with fail
     have mR:=setCs_mod w.heap.size [.int .i64 2,.string ⟨#[]⟩,.int .i64 c.k,.int .i64 c.n,.string (Lx.ofS c.s)] 0 w5
     refine bodyPost_ret (res_ct rfl _ _ _ _ _ rfl rfl (load_tm (setCs_row (vs:=[.int .i64 2,.string ⟨#[]⟩,.int .i64 c.k,.int .i64 c.n,.string (Lx.ofS c.s)]) A5.out rfl) rfl)) rfl ⟨_,rfl,rfl,H5.out.new HLo.out mR (by simp),M5.out.trans mR (by simp)⟩
    | none =>
     have h4:RpP w4 b ra rc L v i nf0:=h4
     unfold ConV
     simp only [Option.map_none,Option.getD_none,Option.isSome_none,valV,Va.zero]
     have HR4:Hid (q=.err (v.give 40 (if rd=true then i+1 else i))):=Lib.hid HR3.out
     have mV:=(Mod.refl [] w4).alloc (Obj.cells #[Value.int .i64 0,Value.int .i64 0,Value.string (Lx.ofS [])] 42)
     have H5:=Hxq (h4.past mV (by simp));have M5:=Hxq (((M3.out.mono (T:=[b]) (by simp)).trans m4 (by simp)).trans mV (by simp));have A5:=Hxq (mV.at (m4.at A3.out (by simp;omega)) (by simp));have T5:=Hxq (mV.at (m4.at T3.out (by simp;omega)) (by simp))
     clear h4 m4 mV HR3 HC
     go_upto_region 9 with fail
     generalize w4.alloc (Obj.cells _ 42)=w5 at *
     obtain ⟨x0,x1,x2,x3,x4,x5,x6⟩:=tok_cells (t:=t) T5.out
     go_wp2_with fail
     refine (HD.out w5).mono ?_
     rintro e6 w6 ⟨rfl,m6⟩
     have A6:=Hxq (m6.at A5.out (by simp));have H6:=Hxq (H5.out.past m6 (by simp));have M6:=Hxq (M5.out.trans m6 (by simp));have z6:=m6.size
     clear m6 x0 x1 x2 x3 x4 x5 x6
     cases rd
     ·have hq:q=.err (v.give 40 i):=HR4.out
      subst hq
      clear HR4
      go_wp2_with fail
      refine (HS.out i w6 H6.out (by omega)).mono ?_
      rintro e7 w7 ⟨rfl,h7,m7⟩
      have H7:=Lib.hid h7;have M7:=Hxq (M6.out.trans m7 (by simp));have A7:=Hxq (m7.at A6.out (by simp;omega))
      clear h7 m7
      obtain ⟨y0,y1,y2,y3,y4⟩:=cells5 A7.out
      have fA:∀ j,w7.frozen? ⟨w.heap.size,j,none⟩=false:=fun j=>free_at A7.out j
      go_wp2_with fail
      have mR:=setCs_mod w.heap.size [.int .i64 0,.string ⟨#[]⟩,.int .i64 0,.int .i64 0,.string ⟨#[]⟩] 0 w7
      refine bodyPost_ret (res_ct rfl _ _ _ _ _ rfl rfl (load_tm (setCs_row (vs:=[.int .i64 0,.string ⟨#[]⟩,.int .i64 0,.int .i64 0,.string ⟨#[]⟩]) A7.out rfl) rfl)) rfl ⟨_,rfl,rfl,⟨_,H7.out.new HLo.out mR (by simp)⟩,M7.out.trans mR (by simp)⟩
     ·have hq:q=.err (v.give 40 (i+1)):=HR4.out
      subst hq
      clear HR4
      obtain ⟨c0,c1,c2,c3,c4,c5,c6,c7,c8,c9,fz⟩:=H6.out.cells
      have hT:=H6.out.to (i+1)
      have aC:(w6.setCell ⟨b,6,none⟩ (.int .i64 ((i:Int)+1))).heap[w.heap.size]?=_:=hT.2.at A6.out (by simp;omega)
      have HCC:Hid (RpP (w6.setCell ⟨b,6,none⟩ (.int .i64 ((i:Int)+1))) b ra rc L v (i+1) nf0):=Lib.hid hT.1
      have MC:Hid (Mod [b] w (w6.setCell ⟨b,6,none⟩ (.int .i64 ((i:Int)+1)))):=Hxq ((M6.out.mono (T:=[b]) (by simp)).trans hT.2 (by simp))
      clear hT
      go_upto_region 13 with fail
      generalize w6.setCell ⟨b,6,none⟩ (.int .i64 ((i:Int)+1))=wC at *
      clear c0 c1 c2 c3 c4 c5 c6 c7 c8 c9 fz
      have AC:=Lib.hid aC
      clear aC
      go_wp2_with fail
      refine (HS.out (i+1) wC HCC.out (by omega)).mono ?_
      rintro e7 w7 ⟨rfl,h7,m7⟩
      have H7:=Lib.hid h7;have M7:=Hxq (MC.out.trans m7 (by simp));have A7:=Hxq (m7.at AC.out (by simp;omega))
      clear h7 m7
      obtain ⟨y0,y1,y2,y3,y4⟩:=cells5 A7.out
      have fA:∀ j,w7.frozen? ⟨w.heap.size,j,none⟩=false:=fun j=>free_at A7.out j
      go_wp2_with fail
      have mR:=setCs_mod w.heap.size [.int .i64 0,.string ⟨#[]⟩,.int .i64 0,.int .i64 0,.string ⟨#[]⟩] 0 w7
      refine bodyPost_ret (res_ct rfl _ _ _ _ _ rfl rfl (load_tm (setCs_row (vs:=[.int .i64 0,.string ⟨#[]⟩,.int .i64 0,.int .i64 0,.string ⟨#[]⟩]) A7.out rfl) rfl)) rfl ⟨_,rfl,rfl,⟨_,H7.out.new HLo.out mR (by simp)⟩,M7.out.trans mR (by simp)⟩
   ·have hq:q=.ok ⟨3,Sy.txt [],Va.zero⟩ (i+1):=HR2.out
    subst hq
    clear HR2
    obtain ⟨c0,c1,c2,c3,c4,c5,c6,c7,c8,c9,fz⟩:=H3.out.cells
    have hT:=H3.out.to (i+1)
    have aC:(w3.setCell ⟨b,6,none⟩ (.int .i64 ((i:Int)+1))).heap[w.heap.size]?=_:=hT.2.at A3.out (by simp;omega)
    have HCC:Hid (RpP (w3.setCell ⟨b,6,none⟩ (.int .i64 ((i:Int)+1))) b ra rc L v (i+1) nf0):=Lib.hid hT.1
    have MC:Hid (Mod [b] w (w3.setCell ⟨b,6,none⟩ (.int .i64 ((i:Int)+1)))):=Hxq ((M3.out.mono (T:=[b]) (by simp)).trans hT.2 (by simp))
    clear hT
    go_upto_region 7 with fail
    generalize w3.setCell ⟨b,6,none⟩ (.int .i64 ((i:Int)+1))=wC at *
    clear c0 c1 c2 c3 c4 c5 c6 c7 c8 c9 fz
    clear x0 x1 x2 x3 x4 x5 x6
    have AC:=Lib.hid aC
    obtain ⟨y0,y1,y2,y3,y4⟩:=cells5 AC.out
    have fA:∀ j,wC.frozen? ⟨w.heap.size,j,none⟩=false:=fun j=>free_at AC.out j
    clear aC
    go_wp2_with fail
    have mR:=setCs_mod w.heap.size [.int .i64 3,.string ⟨#[]⟩,.int .i64 0,.int .i64 0,.string ⟨#[]⟩] 0 wC
    refine bodyPost_ret (res_ct rfl _ _ _ _ _ rfl rfl (load_tm (setCs_row (vs:=[.int .i64 3,.string ⟨#[]⟩,.int .i64 0,.int .i64 0,.string ⟨#[]⟩]) AC.out rfl) rfl)) rfl ⟨_,rfl,rfl,HCC.out.new HLo.out mR (by simp),MC.out.trans mR (by simp)⟩
 ·have HR3:Hid (q=Sy.conT o i (v.give 40 (if rd=true then i+1 else i))):=Hxq (by rw [HR.out];simp)
  clear HR
  clear x0 x1 x2 x3 x4 x5 x6
  go_wp2_with fail
  refine (HC.out wB HB.out).mono ?_
  rintro e4 w4 ⟨rfl,h4,m4⟩
  have z4:=m4.size
  cases o with
  | some p =>
   obtain ⟨c,n⟩:=p
   have hq:q=.ok ⟨2,Sy.txt [],c⟩ (i+n):=HR3.out
   subst hq
   have h4:RpP w4 b ra rc L v (i+n) nf0:=h4
   unfold ConV
   simp only [Option.map_some,Option.getD_some,Option.isSome_some,valV]
   have mV:=(Mod.refl [] w4).alloc (Obj.cells #[.int .i64 c.k,.int .i64 c.n,.string (Lx.ofS c.s)] 42)
   have eV:=heap_alloc_new w4 (Obj.cells #[.int .i64 c.k,.int .i64 c.n,.string (Lx.ofS c.s)] 42)
   have H5:=Hxq (h4.past mV (by simp));have M5:=Hxq (((MB.out.mono (T:=[b]) (by simp)).trans m4 (by simp)).trans mV (by simp));have A5:=Hxq (mV.at (m4.at AB.out (by simp;omega)) (by simp));have V5:=Lib.hid eV
   clear h4 m4 mV eV HR3 HC
   go_upto_region 9 with fail
   generalize w4.alloc (Obj.cells _ 42)=w5 at *
   obtain ⟨v0,v1,v2⟩:=cells3 V5.out
   obtain ⟨y0,y1,y2,y3,y4⟩:=cells5 A5.out
   have fA:∀ j,w5.frozen? ⟨w.heap.size,j,none⟩=false:=fun j=>free_at A5.out j
   go_wp2_with fail
   have mR:=setCs_mod w.heap.size [.int .i64 2,.string ⟨#[]⟩,.int .i64 c.k,.int .i64 c.n,.string (Lx.ofS c.s)] 0 w5
   refine bodyPost_ret (res_ct rfl _ _ _ _ _ rfl rfl (load_tm (setCs_row (vs:=[.int .i64 2,.string ⟨#[]⟩,.int .i64 c.k,.int .i64 c.n,.string (Lx.ofS c.s)]) A5.out rfl) rfl)) rfl ⟨_,rfl,rfl,H5.out.new HLo.out mR (by simp),M5.out.trans mR (by simp)⟩
  | none =>
   have h4:RpP w4 b ra rc L v i nf0:=h4
   unfold ConV
   simp only [Option.map_none,Option.getD_none,Option.isSome_none,valV,Va.zero]
   have HR4:Hid (q=.err (v.give 40 (if rd=true then i+1 else i))):=Lib.hid HR3.out
   have mV:=(Mod.refl [] w4).alloc (Obj.cells #[Value.int .i64 0,Value.int .i64 0,Value.string (Lx.ofS [])] 42)
   have H5:=Hxq (h4.past mV (by simp));have M5:=Hxq (((MB.out.mono (T:=[b]) (by simp)).trans m4 (by simp)).trans mV (by simp));have A5:=Hxq (mV.at (m4.at AB.out (by simp;omega)) (by simp));have T5:=Hxq (mV.at (m4.at TB.out (by simp;omega)) (by simp))
   clear h4 m4 mV HR3 HC
   go_upto_region 9 with fail
   generalize w4.alloc (Obj.cells _ 42)=w5 at *
   obtain ⟨x0,x1,x2,x3,x4,x5,x6⟩:=tok_cells (t:=t) T5.out
   go_wp2_with fail
   refine (HD.out w5).mono ?_
   rintro e6 w6 ⟨rfl,m6⟩
   have A6:=Hxq (m6.at A5.out (by simp));have H6:=Hxq (H5.out.past m6 (by simp));have M6:=Hxq (M5.out.trans m6 (by simp));have z6:=m6.size
   clear m6 x0 x1 x2 x3 x4 x5 x6
   cases rd
   ·have hq:q=.err (v.give 40 i):=HR4.out
    subst hq
    clear HR4
    go_wp2_with fail
    refine (HS.out i w6 H6.out (by omega)).mono ?_
    rintro e7 w7 ⟨rfl,h7,m7⟩
    have H7:=Lib.hid h7;have M7:=Hxq (M6.out.trans m7 (by simp));have A7:=Hxq (m7.at A6.out (by simp;omega))
    clear h7 m7
    obtain ⟨y0,y1,y2,y3,y4⟩:=cells5 A7.out
    have fA:∀ j,w7.frozen? ⟨w.heap.size,j,none⟩=false:=fun j=>free_at A7.out j
    go_wp2_with fail
    have mR:=setCs_mod w.heap.size [.int .i64 0,.string ⟨#[]⟩,.int .i64 0,.int .i64 0,.string ⟨#[]⟩] 0 w7
    refine bodyPost_ret (res_ct rfl _ _ _ _ _ rfl rfl (load_tm (setCs_row (vs:=[.int .i64 0,.string ⟨#[]⟩,.int .i64 0,.int .i64 0,.string ⟨#[]⟩]) A7.out rfl) rfl)) rfl ⟨_,rfl,rfl,⟨_,H7.out.new HLo.out mR (by simp)⟩,M7.out.trans mR (by simp)⟩
   ·have hq:q=.err (v.give 40 (i+1)):=HR4.out
    subst hq
    clear HR4
    obtain ⟨c0,c1,c2,c3,c4,c5,c6,c7,c8,c9,fz⟩:=H6.out.cells
    have hT:=H6.out.to (i+1)
    have aC:(w6.setCell ⟨b,6,none⟩ (.int .i64 ((i:Int)+1))).heap[w.heap.size]?=_:=hT.2.at A6.out (by simp;omega)
    have HCC:Hid (RpP (w6.setCell ⟨b,6,none⟩ (.int .i64 ((i:Int)+1))) b ra rc L v (i+1) nf0):=Lib.hid hT.1
    have MC:Hid (Mod [b] w (w6.setCell ⟨b,6,none⟩ (.int .i64 ((i:Int)+1)))):=Hxq ((M6.out.mono (T:=[b]) (by simp)).trans hT.2 (by simp))
    clear hT
    go_upto_region 13 with fail
    generalize w6.setCell ⟨b,6,none⟩ (.int .i64 ((i:Int)+1))=wC at *
    clear c0 c1 c2 c3 c4 c5 c6 c7 c8 c9 fz
    have AC:=Lib.hid aC
    clear aC
    go_wp2_with fail
    refine (HS.out (i+1) wC HCC.out (by omega)).mono ?_
    rintro e7 w7 ⟨rfl,h7,m7⟩
    have H7:=Lib.hid h7;have M7:=Hxq (MC.out.trans m7 (by simp));have A7:=Hxq (m7.at AC.out (by simp;omega))
    clear h7 m7
    obtain ⟨y0,y1,y2,y3,y4⟩:=cells5 A7.out
    have fA:∀ j,w7.frozen? ⟨w.heap.size,j,none⟩=false:=fun j=>free_at A7.out j
    go_wp2_with fail
    have mR:=setCs_mod w.heap.size [.int .i64 0,.string ⟨#[]⟩,.int .i64 0,.int .i64 0,.string ⟨#[]⟩] 0 w7
    refine bodyPost_ret (res_ct rfl _ _ _ _ _ rfl rfl (load_tm (setCs_row (vs:=[.int .i64 0,.string ⟨#[]⟩,.int .i64 0,.int .i64 0,.string ⟨#[]⟩]) A7.out rfl) rfl)) rfl ⟨_,rfl,rfl,⟨_,H7.out.new HLo.out mR (by simp)⟩,M7.out.trans mR (by simp)⟩
end Go.Proofs.YtppigckioalhhaaGreatDoorR
