/- THE TEXTS MERGED: SyAgg SyRow. -/
import Derived.Test.YtbfaclljbbfknaaGreatDoorKP11
import Derived.Laws.Tables
import Derived.Deep.WholeRow
namespace Go.Proofs.YtbfaclljbbfknaaGreatDoor
open Go.RowKit
set_option linter.unusedVariables false
set_option linter.unusedSimpArgs false
set_option maxRecDepth 100000
theorem cells10 {w:World} {b:Nat} {a0 a1 a2 a3 a4 a5 a6 a7 a8 a9:Value} {T:TypeId} {fr:Nat × Nat} (h:w.heap[b]?=some (.cells #[a0,a1,a2,a3,a4,a5,a6,a7,a8,a9] T fr)) :
  w.cell? ⟨b,0,none⟩=some a0/\w.cell? ⟨b,1,none⟩=some a1/\w.cell? ⟨b,2,none⟩=some a2/\w.cell? ⟨b,3,none⟩=some a3/\w.cell? ⟨b,4,none⟩=some a4/\w.cell? ⟨b,5,none⟩=some a5/\w.cell? ⟨b,6,none⟩=some a6/\w.cell? ⟨b,7,none⟩=some a7/\w.cell? ⟨b,8,none⟩=some a8/\w.cell? ⟨b,9,none⟩=some a9 :=
 ⟨cell_at h 0,cell_at h 1,cell_at h 2,cell_at h 3,cell_at h 4,cell_at h 5,cell_at h 6,cell_at h 7,cell_at h 8,cell_at h 9⟩
def AgC (b:Nat) (ra:Option Addr) (rc:Nat) (f:Value) (v:Sy.Env) (k br:Nat):Prop:=∀ (i:Nat) (w:World),RdP w b ra rc f v i->i+3<=v.ws.length ->
 Calls Tryz.prog 38 #[.pointer (some ⟨b,0,none⟩),.int .i64 (br:Nat)] w (PRes b ra rc f v (Sy.aggOf v (Sy.litF v k (br+1)) br i) (valG w.heap.size) w)
theorem aggOf_eq (v:Sy.Env) (one:Nat->Sy.PR Pr.Li) (br i:Nat):Sy.aggOf v one br i =
 if Sy.sign (v.tk (i+3)) [123]=true/\16<=br then .err (v.give 41 (i+3))
 else (Sy.must v [123] (i+3)).bind fun _ j =>
  (if Sy.fnOf (v.tk (i+2))≠1 then (Sy.expr v j).bind fun e j=>(Sy.must v [58] j).bind fun _ j=>.ok e j else .ok Sy.ex0 j).bind fun o j =>
   (Sy.bodyOf v one j).bind fun b j=>(Sy.must v [125] j).bind fun _ j=>.ok ⟨(Sy.fnOf (v.tk (i+2)):Nat),Sy.txt (v.tk i).text,o,b⟩ j:=rfl
set_option maxHeartbeats 8000000 in
theorem agg_of (b:Nat) (ra:Option Addr) (rc:Nat) (f:Value) (v:Sy.Env) (k br:Nat) (hv:EnvOk v) (hbr:br<=16) (hB0:br<16->BoC b ra rc f v k (br+1)):AgC b ra rc f v k br:=by
 intro i w h hi
 have hlen:=hv.len
 have mA:=(Mod.refl [] w).alloc (Obj.cells #[.int .i64 0,.string ⟨#[]⟩,.int .i64 0,.string ⟨#[]⟩,.int .i64 0,.int .i64 0,.string ⟨#[]⟩,.int .i64 0,.slice none 0 0,.slice none 0 0] 36)
 have hA:=h.past mA (by simp)
 have eA:=heap_alloc_new w (Obj.cells #[.int .i64 0,.string ⟨#[]⟩,.int .i64 0,.string ⟨#[]⟩,.int .i64 0,.int .i64 0,.string ⟨#[]⟩,.int .i64 0,.slice none 0 0,.slice none 0 0] 36)
 have zA:(w.alloc (Obj.cells #[.int .i64 0,.string ⟨#[]⟩,.int .i64 0,.string ⟨#[]⟩,.int .i64 0,.int .i64 0,.string ⟨#[]⟩,.int .i64 0,.slice none 0 0,.slice none 0 0] 36)).heap.size=w.heap.size+1:=by simp
 have HP:=Hxq (peek0 b ra rc f v i _ hA hv (by omega))
 have HP2:=Hxq (fun w h=>peek2 b ra rc f v i w h hv (by omega))
 have HFn:=Hxq (fun w=>function_any (v.tk (i+2)) w (hv.tbyte (i+2)))
 have HR:=Hxq (aggOf_eq v (Sy.litF v k (br+1)) br i)
 have HIs:=Hxq (fun w h=>is_any b ra rc f v (i+3) [123] { data:=#[123] } w h hv (by omega) rfl (by decide))
 have HMu:=Hxq (fun w h=>must_any b ra rc f v (i+3) [123] { data:=#[123] } w h hv (by omega) rfl (by decide))
 have hmadv:=Sy.adv_must v [123] (i+3)
 have hms:∀ a j,Sy.must v [123] (i+3)=.ok a j->Sy.sign (v.tk (i+3)) [123]=true:=fun a j hm=>by
  unfold Sy.must at hm
  split at hm
  ·assumption
  ·cases hm
 have HLo:=Lib.hid h.low
 have hbl:=h.lt
 have HA:=Lib.hid hA;have EA:=Lib.hid eA;have MA:=Lib.hid mA
 have hnb:w.heap.size∉[b]:=by simp;omega
 clear h hA eA mA
 generalize Sy.sign (v.tk (i+3)) [123]=rp at *
 generalize Sy.must v [123] (i+3)=pm at *
 generalize hq:Sy.aggOf v (Sy.litF v k (br+1)) br i=q at *
 generalize Sy.fnOf (v.tk (i+2))=fnn at *
 generalize v.tk (i+2)=t2 at *
 generalize v.tk i=t at *
 have HMS:=Lib.hid hms;have HMA:=Lib.hid hmadv
 clear hq hms hmadv
 go_enter Tryz.func38,Tryz.ntmps38
 go_upto_region 1 with fail
 generalize w.alloc (Obj.cells #[.int .i64 0,.string ⟨#[]⟩,.int .i64 0,.string ⟨#[]⟩,.int .i64 0,.int .i64 0,.string ⟨#[]⟩,.int .i64 0,.slice none 0 0,.slice none 0 0] 36)=wA at *
 go_wp2_with fail
 refine HP.out.mono ?_
 rintro e1 w1 ⟨rfl,m1⟩
 have A1:=Hxq (m1.at EA.out (by simp));have H1:=Hxq (HA.out.past m1 (by simp));have M1:=Hxq ((MA.out.mono (T:=[b]) (by simp)).trans m1 (by simp))
 clear m1 HP
 have hfd:=fun w=>field_text t w
 unfold tokC
 go_wp2_with fail
 refine (HP2.out w1 H1.out).mono ?_
 rintro e2 w2 ⟨rfl,m2⟩
 have A2:=Hxq (m2.at A1.out (by simp));have H2:=Hxq (H1.out.past m2 (by simp));have M2:=Hxq (M1.out.trans m2 (by simp))
 clear m2 HP2
 go_wp2_with fail
 refine (HFn.out w2).mono ?_
 rintro e3 w3 ⟨rfl,m3⟩
 have A3:=Hxq (m3.at A2.out (by simp));have H3:=Hxq (H2.out.past m3 (by simp));have M3:=Hxq (M2.out.trans m3 (by simp))
 clear m3 HFn
 have z3:=lt_of_block A3.out
 have mD:=(Mod.refl [] w3).alloc (Obj.cells #[.int .i64 (fnn:Nat),.string (Lx.ofS t.text),.int .i64 0,.string ⟨#[]⟩,.int .i64 0,.int .i64 0,.string ⟨#[]⟩,.int .i64 0,.slice none 0 0,.slice none 0 0] 36)
 have dD:=heap_alloc_new w3 (Obj.cells #[.int .i64 (fnn:Nat),.string (Lx.ofS t.text),.int .i64 0,.string ⟨#[]⟩,.int .i64 0,.int .i64 0,.string ⟨#[]⟩,.int .i64 0,.slice none 0 0,.slice none 0 0] 36)
 have HD:=Hxq (H3.out.past mD (by simp));have MD:=Hxq (M3.out.trans mD (by simp));have AD:=Hxq (mD.at A3.out (by simp));have DD:=Lib.hid dD
 clear mD dD
 go_upto_region 2 with fail
 generalize w3.alloc (Obj.cells _ 36)=wD at *
 clear hfd
 have hgb:w3.heap.size∉[b]:=by simp;omega
 generalize hgg:w3.heap.size=g at *
 obtain ⟨c0,c1,c2,c3,c4,c5,fz⟩:=HD.out.cells
 have hT:=HD.out.to (i+3)
 have hcast:((i+3:Nat):Int)=(i:Int)+3:=by omega
 rw [hcast] at hT
 have A4:=Hxq (hT.2.at AD.out hnb);have G4:=Hxq (hT.2.at DD.out hgb);have M4:=Hxq (MD.out.trans hT.2 (by simp));have H4:=Lib.hid hT.1
 clear hT hcast
 go_upto_region 3 with fail
 generalize wD.setCell ⟨b,1,none⟩ (.int .i64 ((i:Int)+3))=w4 at *
 clear c0 c1 c2 c3 c4 c5 fz HA EA MA A1 H1 M1 A2 H2 M2 A3 H3 M3 HD MD AD DD zA
 go_wp2_with fail
 refine (HIs.out w4 H4.out).mono ?_
 rintro e5 w5 ⟨rfl,m5⟩
 have A5:=Hxq (m5.at A4.out (by simp));have G5:=Hxq (m5.at G4.out (by simp));have M5:=Hxq (M4.out.trans m5 (by simp));have H5:=Hxq (H4.out.past m5 (by simp))
 clear m5 A4 G4 M4 H4
 by_cases hc:rp=true/\16<=br
 ·have hq:q=.err (v.give 41 (i+3)):=by rw [HR.out,if_pos hc]
  subst hq
  obtain ⟨rfl,hc2⟩:=hc
  have hI:(16:Int)<=(br:Int):=by omega
  clear HR
  go_wp2_with fail
  refine (give_any b ra rc f v (i+3) 41 w5 H5.out hv (by omega)).mono ?_
  rintro e6 w6 ⟨rfl,m6⟩
  have M6:=Hxq (M5.out.trans m6 (by simp))
  clear m6
  unfold stopE
  go_wp2_with fail
  exact ⟨rfl,rfl,M6.out⟩
 ·have HR5:Hid (q=pm.bind fun _ j =>
    (if fnn≠1 then (Sy.expr v j).bind fun e j=>(Sy.must v [58] j).bind fun _ j=>.ok e j else .ok Sy.ex0 j).bind fun o j =>
     (Sy.bodyOf v (Sy.litF v k (br+1)) j).bind fun b j=>(Sy.must v [125] j).bind fun _ j=>.ok ⟨(fnn:Nat),Sy.txt t.text,o,b⟩ j):=Hxq (by rw [HR.out,if_neg hc])
  have hpa:rp=true->br<16:=fun h=>Nat.lt_of_not_le (fun hh=>hc ⟨h,hh⟩)
  clear HR hc
  cases pm with
  | err g1 =>
   have hq:q=.err g1:=HR5.out
   subst hq
   clear HR5
   cases rp
   all_goals (
    try have hI:¬ (16:Int)<=(br:Int):=by have:=hpa rfl;omega
    clear hpa
    go_wp2_with fail
    refine (HMu.out w5 H5.out).mono ?_
    rintro e6 w6 ⟨rfl,m6⟩
    have M6:=Hxq (M5.out.trans m6 (by simp))
    clear m6
    unfold stopE
    go_wp2_with fail
    exact ⟨rfl,rfl,M6.out⟩)
  | ok uu j =>
   have hj:=HMA.out uu j hi rfl
   have hrp:=HMS.out uu j rfl
   subst hrp
   have hab:=hpa rfl
   have hB:=hB0 hab
   have hI:¬ (16:Int)<=(br:Int):=by omega
   have HR6:Hid (q=(if fnn≠1 then (Sy.expr v j).bind fun e j=>(Sy.must v [58] j).bind fun _ j=>.ok e j else .ok Sy.ex0 j).bind fun o j =>
     (Sy.bodyOf v (Sy.litF v k (br+1)) j).bind fun b j=>(Sy.must v [125] j).bind fun _ j=>.ok ⟨(fnn:Nat),Sy.txt t.text,o,b⟩ j):=Lib.hid HR5.out
   clear HR5 hpa
   go_wp2_with fail
   refine (HMu.out w5 H5.out).mono ?_
   rintro e6 w6 ⟨y6,rfl,hy6,h6,m6⟩
   unfold valU at hy6
   subst hy6
   have A6:=Hxq (m6.at A5.out hnb);have G6:=Hxq (m6.at G5.out hgb);have M6:=Hxq (M5.out.trans m6 (by simp));have H6:=Lib.hid h6
   have z6:=lt_of_block G6.out
   clear m6 h6 A5 G5 M5 H5 HMu HIs
   have x0:w6.cell? ⟨g,0,none⟩=some (.int .i64 (fnn:Nat)):=cell_at G6.out 0
   by_cases hf:fnn=1
   ·have HQ:Hid (q=(Sy.bodyOf v (Sy.litF v k (br+1)) j).bind fun b j=>(Sy.must v [125] j).bind fun _ j=>.ok ⟨(fnn:Nat),Sy.txt t.text,Sy.ex0,b⟩ j):=Hxq (by rw [HR6.out,if_neg (by omega)];rfl)
    have hfI:((fnn:Int) != 1)=false:=by simp;omega
    clear HR6
    have O6:Hid (EB (fun k=>w.heap.size<k/\k≠g) w6 Sy.ex0 (.slice none Sy.ex0.args.length 0)):=Lib.hid .nil
    clear hf
    go_upto_region 9 with fail
    clear x0 hfI
    have G6':Hid (w6.heap[g]?=some (.cells #[.int .i64 (fnn:Nat),.string (Lx.ofS t.text),.int .i64 Sy.ex0.k,.string Sy.ex0.v,.int .i64 Sy.ex0.x.k,.int .i64 Sy.ex0.x.n,.string (Lx.ofS Sy.ex0.x.s),.int .i64 Sy.ex0.op,.slice none Sy.ex0.args.length 0,.slice none 0 0] 36 (0,0))):=Lib.hid G6.out
    clear G6
    have G6:=G6'
    clear G6'
    have HB20:=Hxq (hB j w6 H6.out hj.2)
    have hadvB:=Sy.adv_bodyOf (Sy.adv_litF v k (br+1)) j
    generalize Sy.bodyOf v (Sy.litF v k (br+1)) j=pb at *
    cases pb with
    | err g1 =>
     have hq:q=.err g1:=HQ.out
     subst hq
     clear HQ hadvB
     go_wp2_with fail
     refine HB20.out.mono ?_
     rintro e21 w21 ⟨rfl,m21⟩
     have M21:=Hxq (M6.out.trans m21 (by simp))
     clear m21
     unfold stopE
     go_wp2_with fail
     exact ⟨rfl,rfl,M21.out⟩
    | ok bd n =>
     have hn:=hadvB bd n hj.2 rfl
     have HQ2:Hid (q=(Sy.must v [125] n).bind fun _ j=>.ok ⟨(fnn:Nat),Sy.txt t.text,Sy.ex0,bd⟩ j):=Lib.hid HQ.out
     clear HQ hadvB
     go_wp2_with fail
     refine HB20.out.mono ?_
     rintro e21 w21 ⟨y21,rfl,hb21,h21,m21⟩
     unfold valB at hb21
     obtain ⟨ub,cb,rfl⟩:=hb21.lit
     have zz21:=lt_of_block G6.out
     have z21:=m21.size
     have A21:=Hxq (m21.at A6.out hnb);have G21:=Hxq (m21.at G6.out hgb);have O21:=Hxq (O6.out.keep m21 (fun s hs=>by rw [Msq] at hs;omega));have M21:=Hxq (M6.out.trans m21 (by simp))
     have B21:=Hxq (hb21.mono (F':=fun k=>w.heap.size<k/\k≠g) (fun k hk hk2=>by omega))
     have mC:Mod [g] w21 (w21.setCell ⟨g,9,none⟩ (.slice ub bd.length cb)):=setCs_mod g [.slice ub bd.length cb] 9 w21
     have GC:Hid ((w21.setCell ⟨g,9,none⟩ (.slice ub bd.length cb)).heap[g]?=some (.cells #[.int .i64 (fnn:Nat),.string (Lx.ofS t.text),.int .i64 Sy.ex0.k,.string Sy.ex0.v,.int .i64 Sy.ex0.x.k,.int .i64 Sy.ex0.x.n,.string (Lx.ofS Sy.ex0.x.s),.int .i64 Sy.ex0.op,.slice none Sy.ex0.args.length 0,.slice ub bd.length cb] 36 (0,0))):=Hxq (setCs_heap [.slice ub bd.length cb] 9 [.int .i64 (fnn:Nat),.string (Lx.ofS t.text),.int .i64 Sy.ex0.k,.string Sy.ex0.v,.int .i64 Sy.ex0.x.k,.int .i64 Sy.ex0.x.n,.string (Lx.ofS Sy.ex0.x.s),.int .i64 Sy.ex0.op,.slice none Sy.ex0.args.length 0,.slice none 0 0] w21 G21.out)
     have HC:=Hxq (h21.new HLo.out mC (by simp;omega));have AC:=Hxq (mC.at A21.out (by simp;omega));have OC:=Hxq (O21.out.keep mC (fun s hs=>by rw [Msq] at hs;omega));have BC:=Hxq (B21.out.keep mC (fun s hs=>by rw [Msq] at hs;omega));have MC:=Hxq (M21.out.trans mC (by simp;omega))
     have c9:w21.cell? ⟨g,9,none⟩=some (.slice none 0 0):=(cell_at G21.out 9)
     have fg:w21.frozen? ⟨g,9,none⟩=false:=free_at G21.out 9
     clear mC h21 m21 hb21
     go_upto_region 10 with fail
     generalize (w21.setCell ⟨g,9,none⟩ (.slice ub bd.length cb))=wC at *
     clear c9 fg
     have HU:=Hxq (must_any b ra rc f v n [125] { data:=#[125] } wC HC.out hv (by omega) rfl (by decide))
     generalize Sy.must v [125] n=pm9 at *
     cases pm9 with
     | err g1 =>
      have hq:q=.err g1:=HQ2.out
      subst hq
      clear HQ2
      go_wp2_with fail
      refine HU.out.mono ?_
      rintro e22 w22 ⟨rfl,m22⟩
      have M22:=Hxq (MC.out.trans m22 (by simp))
      clear m22
      unfold stopE
      go_wp2_with fail
      exact ⟨rfl,rfl,M22.out⟩
     | ok uu n2 =>
      have hq:q=.ok ⟨(fnn:Nat),Sy.txt t.text,Sy.ex0,bd⟩ n2:=HQ2.out
      subst hq
      clear HQ2
      go_wp2_with fail
      refine HU.out.mono ?_
      rintro e22 w22 ⟨y22,rfl,hy22,h22,m22⟩
      unfold valU at hy22
      subst hy22
      have H22:=Lib.hid h22;have A22:=Hxq (m22.at AC.out hnb);have G22:=Hxq (m22.at GC.out hgb);have O22:=Hxq (OC.out.keep m22 (fun s hs=>by rw [Msq] at hs;omega));have B22:=Hxq (BC.out.keep m22 (fun s hs=>by rw [Msq] at hs;omega));have M22:=Hxq (MC.out.trans m22 (by simp))
      obtain ⟨x0,x1,x2,x3,x4,x5,x6,x7,x8,x9⟩:=cells10 G22.out
      obtain ⟨y0,y1,y2,y3,y4,y5,y6,y7,y8,y9⟩:=cells10 A22.out
      have fA:∀ j,w22.frozen? ⟨w.heap.size,j,none⟩=false:=fun j=>free_at A22.out j
      clear h22 m22
      go_wp2_with fail
      have mR:=setCs_mod w.heap.size [.int .i64 (fnn:Nat),.string (Lx.ofS t.text),.int .i64 Sy.ex0.k,.string Sy.ex0.v,.int .i64 Sy.ex0.x.k,.int .i64 Sy.ex0.x.n,.string (Lx.ofS Sy.ex0.x.s),.int .i64 Sy.ex0.op,.slice none Sy.ex0.args.length 0,.slice ub bd.length cb] 0 w22
      refine bodyPost_ret (results_cell_row rfl _ _ _ _ _ _ _ rfl (setCs_row (vs:=[.int .i64 (fnn:Nat),.string (Lx.ofS t.text),.int .i64 Sy.ex0.k,.string Sy.ex0.v,.int .i64 Sy.ex0.x.k,.int .i64 Sy.ex0.x.n,.string (Lx.ofS Sy.ex0.x.s),.int .i64 Sy.ex0.op,.slice none Sy.ex0.args.length 0,.slice ub bd.length cb]) A22.out rfl) Tryz.underlying36 rfl (by kernel_rfl)) rfl ⟨_,rfl,⟨(.slice none Sy.ex0.args.length 0),.slice ub bd.length cb,rfl,(O22.out.keep mR (fun s hs=>by rw [Msq] at hs;omega)).mono (fun k hk _=>by omega),(B22.out.keep mR (fun s hs=>by rw [Msq] at hs;omega)).mono (fun k hk _=>by omega)⟩,H22.out.new HLo.out mR (by simp),M22.out.trans mR (by simp)⟩
   ·have HE:=Hxq (expr_any b ra rc f v j w6 H6.out hv hj.2)
    have hadvE:=Sy.adv_exprF v 60 1 0 (by omega) j
    have HQ0:Hid (q=(((Sy.exprF v 60 1 0 j).bind fun r j=>.ok r.1 j).bind fun e j=>(Sy.must v [58] j).bind fun _ j=>.ok e j).bind fun o j=>(Sy.bodyOf v (Sy.litF v k (br+1)) j).bind fun b j=>(Sy.must v [125] j).bind fun _ j=>.ok ⟨(fnn:Nat),Sy.txt t.text,o,b⟩ j):=Hxq (by rw [HR6.out,if_pos hf];rfl)
    have hfI:((fnn:Int) != 1)=true:=by simp;omega
    clear HR6
    generalize Sy.exprF v 60 1 0 j=px at *
    cases px with
    | err g1 =>
     have hq:q=.err g1:=HQ0.out
     subst hq
     clear HQ0 hadvE
     go_wp2_with fail
     refine HE.out.mono ?_
     rintro e7 w7 ⟨rfl,m7⟩
     have M7:=Hxq (M6.out.trans m7 (by simp))
     clear m7
     unfold stopE
     go_wp2_with fail
     exact ⟨rfl,rfl,M7.out⟩
    | ok r n0 =>
     obtain ⟨ex,dd⟩:=r
     have hn0:=hadvE _ n0 hj.2 rfl
     have HQ1:Hid (q=((Sy.must v [58] n0).bind fun _ j=>.ok ex j).bind fun o j=>(Sy.bodyOf v (Sy.litF v k (br+1)) j).bind fun b j=>(Sy.must v [125] j).bind fun _ j=>.ok ⟨(fnn:Nat),Sy.txt t.text,o,b⟩ j):=Lib.hid HQ0.out
     clear HQ0 hadvE
     go_wp2_with fail
     refine HE.out.mono ?_
     rintro e7 w7 ⟨y7,rfl,⟨u7,rfl,hb7⟩,h7,m7⟩
     obtain ⟨a7,c7,rfl⟩:=hb7.lit
     have z7:=m7.size
     have A7:=Hxq (m7.at A6.out hnb);have G7:=Hxq (m7.at G6.out hgb);have M7:=Hxq (M6.out.trans m7 (by simp))
     have O7:=Hxq (hb7.mono (F':=fun k=>w.heap.size<k/\k≠g) (fun k hk hk2=>by omega))
     have mB:Mod [g] w7 (((((((w7.setCell ⟨g,2,none⟩ (.int .i64 ex.k)).setCell ⟨g,3,none⟩ (.string ex.v)).setCell ⟨g,4,none⟩ (.int .i64 ex.x.k)).setCell ⟨g,5,none⟩ (.int .i64 ex.x.n)).setCell ⟨g,6,none⟩ (.string (Lx.ofS ex.x.s))).setCell ⟨g,7,none⟩ (.int .i64 ex.op)).setCell ⟨g,8,none⟩ (.slice a7 ex.args.length c7)):=setCs_mod g [.int .i64 ex.k,.string ex.v,.int .i64 ex.x.k,.int .i64 ex.x.n,.string (Lx.ofS ex.x.s),.int .i64 ex.op,.slice a7 ex.args.length c7] 2 w7
     have G8:Hid ((((((((w7.setCell ⟨g,2,none⟩ (.int .i64 ex.k)).setCell ⟨g,3,none⟩ (.string ex.v)).setCell ⟨g,4,none⟩ (.int .i64 ex.x.k)).setCell ⟨g,5,none⟩ (.int .i64 ex.x.n)).setCell ⟨g,6,none⟩ (.string (Lx.ofS ex.x.s))).setCell ⟨g,7,none⟩ (.int .i64 ex.op)).setCell ⟨g,8,none⟩ (.slice a7 ex.args.length c7)).heap[g]?=some (.cells #[.int .i64 (fnn:Nat),.string (Lx.ofS t.text),.int .i64 ex.k,.string ex.v,.int .i64 ex.x.k,.int .i64 ex.x.n,.string (Lx.ofS ex.x.s),.int .i64 ex.op,.slice a7 ex.args.length c7,.slice none 0 0] 36 (0,0))):=Hxq (setCs_heap [.int .i64 ex.k,.string ex.v,.int .i64 ex.x.k,.int .i64 ex.x.n,.string (Lx.ofS ex.x.s),.int .i64 ex.op,.slice a7 ex.args.length c7] 2 [.int .i64 (fnn:Nat),.string (Lx.ofS t.text),.int .i64 0,.string ⟨#[]⟩,.int .i64 0,.int .i64 0,.string ⟨#[]⟩,.int .i64 0,.slice none 0 0,.slice none 0 0] w7 G7.out)
     have H8:=Hxq (h7.new HLo.out mB (by simp;omega));have A8:=Hxq (mB.at A7.out (by simp;omega));have O8:=Hxq (O7.out.keep mB (fun s hs=>by rw [Msq] at hs;omega));have M8:=Hxq (M7.out.trans mB (by simp;omega))
     have YY:=cells10 G7.out
     obtain ⟨-,-,y2,y3,y4,y5,y6,y7,y8,-⟩:=YY
     have fg:∀ j,w7.frozen? ⟨g,j,none⟩=false:=fun j=>free_at G7.out j
     clear mB h7 m7 hb7 HE x0
     unfold exV
     simp only
     go_upto_region 8 with fail
     generalize (((((((w7.setCell ⟨g,2,none⟩ (.int .i64 ex.k)).setCell ⟨g,3,none⟩ (.string ex.v)).setCell ⟨g,4,none⟩ (.int .i64 ex.x.k)).setCell ⟨g,5,none⟩ (.int .i64 ex.x.n)).setCell ⟨g,6,none⟩ (.string (Lx.ofS ex.x.s))).setCell ⟨g,7,none⟩ (.int .i64 ex.op)).setCell ⟨g,8,none⟩ (.slice a7 ex.args.length c7))=w8 at *
     clear y2 y3 y4 y5 y6 y7 y8 fg A7 G7 O7 M7 A6 G6 M6 H6
     have HU:=Hxq (must_any b ra rc f v n0 [58] { data:=#[58] } w8 H8.out hv (by omega) rfl (by decide))
     have hadvU:=Sy.adv_must v [58] n0
     generalize Sy.must v [58] n0=pm2 at *
     cases pm2 with
     | err g1 =>
      have hq:q=.err g1:=HQ1.out
      subst hq
      clear HQ1 hadvU
      go_wp2_with fail
      refine HU.out.mono ?_
      rintro e9 w9 ⟨rfl,m9⟩
      have M9:=Hxq (M8.out.trans m9 (by simp))
      clear m9
      unfold stopE
      go_wp2_with fail
      exact ⟨rfl,rfl,M9.out⟩
     | ok uu1 n1 =>
      have hn1:=hadvU _ n1 hn0.2 rfl
      have HQ:Hid (q=(Sy.bodyOf v (Sy.litF v k (br+1)) n1).bind fun b j=>(Sy.must v [125] j).bind fun _ j=>.ok ⟨(fnn:Nat),Sy.txt t.text,ex,b⟩ j):=Lib.hid HQ1.out
      clear HQ1 hadvU
      go_wp2_with fail
      refine HU.out.mono ?_
      rintro e9 w9 ⟨y9,rfl,hy9,h9,m9⟩
      unfold valU at hy9
      subst hy9
      have A9:=Hxq (m9.at A8.out hnb);have G9:=Hxq (m9.at G8.out hgb);have O9:=Hxq (O8.out.keep m9 (fun s hs=>by rw [Msq] at hs;omega));have M9:=Hxq (M8.out.trans m9 (by simp));have H9:=Lib.hid h9
      clear m9 h9 A8 G8 O8 M8 H8 HU
      go_upto_region 9 with fail
      have HB20:=Hxq (hB n1 w9 H9.out hn1.2)
      have hadvB:=Sy.adv_bodyOf (Sy.adv_litF v k (br+1)) n1
      generalize Sy.bodyOf v (Sy.litF v k (br+1)) n1=pb at *
      cases pb with
      | err g1 =>
       have hq:q=.err g1:=HQ.out
       subst hq
       clear HQ hadvB
       go_wp2_with fail
       refine HB20.out.mono ?_
       rintro e21 w21 ⟨rfl,m21⟩
       have M21:=Hxq (M9.out.trans m21 (by simp))
       clear m21
       unfold stopE
       go_wp2_with fail
       exact ⟨rfl,rfl,M21.out⟩
      | ok bd n =>
       have hn:=hadvB bd n hn1.2 rfl
       have HQ2:Hid (q=(Sy.must v [125] n).bind fun _ j=>.ok ⟨(fnn:Nat),Sy.txt t.text,ex,bd⟩ j):=Lib.hid HQ.out
       clear HQ hadvB
       go_wp2_with fail
       refine HB20.out.mono ?_
       rintro e21 w21 ⟨y21,rfl,hb21,h21,m21⟩
       unfold valB at hb21
       obtain ⟨ub,cb,rfl⟩:=hb21.lit
       have zz21:=lt_of_block G9.out
       have z21:=m21.size
       have A21:=Hxq (m21.at A9.out hnb);have G21:=Hxq (m21.at G9.out hgb);have O21:=Hxq (O9.out.keep m21 (fun s hs=>by rw [Msq] at hs;omega));have M21:=Hxq (M9.out.trans m21 (by simp))
       have B21:=Hxq (hb21.mono (F':=fun k=>w.heap.size<k/\k≠g) (fun k hk hk2=>by omega))
       have mC:Mod [g] w21 (w21.setCell ⟨g,9,none⟩ (.slice ub bd.length cb)):=setCs_mod g [.slice ub bd.length cb] 9 w21
       have GC:Hid ((w21.setCell ⟨g,9,none⟩ (.slice ub bd.length cb)).heap[g]?=some (.cells #[.int .i64 (fnn:Nat),.string (Lx.ofS t.text),.int .i64 ex.k,.string ex.v,.int .i64 ex.x.k,.int .i64 ex.x.n,.string (Lx.ofS ex.x.s),.int .i64 ex.op,.slice a7 ex.args.length c7,.slice ub bd.length cb] 36 (0,0))):=Hxq (setCs_heap [.slice ub bd.length cb] 9 [.int .i64 (fnn:Nat),.string (Lx.ofS t.text),.int .i64 ex.k,.string ex.v,.int .i64 ex.x.k,.int .i64 ex.x.n,.string (Lx.ofS ex.x.s),.int .i64 ex.op,.slice a7 ex.args.length c7,.slice none 0 0] w21 G21.out)
       have HC:=Hxq (h21.new HLo.out mC (by simp;omega));have AC:=Hxq (mC.at A21.out (by simp;omega));have OC:=Hxq (O21.out.keep mC (fun s hs=>by rw [Msq] at hs;omega));have BC:=Hxq (B21.out.keep mC (fun s hs=>by rw [Msq] at hs;omega));have MC:=Hxq (M21.out.trans mC (by simp;omega))
       have c9:w21.cell? ⟨g,9,none⟩=some (.slice none 0 0):=(cell_at G21.out 9)
       have fg:w21.frozen? ⟨g,9,none⟩=false:=free_at G21.out 9
       clear mC h21 m21 hb21
       go_upto_region 10 with fail
       generalize (w21.setCell ⟨g,9,none⟩ (.slice ub bd.length cb))=wC at *
       clear c9 fg
       have HU:=Hxq (must_any b ra rc f v n [125] { data:=#[125] } wC HC.out hv (by omega) rfl (by decide))
       generalize Sy.must v [125] n=pm9 at *
       cases pm9 with
       | err g1 =>
        have hq:q=.err g1:=HQ2.out
        subst hq
        clear HQ2
        go_wp2_with fail
        refine HU.out.mono ?_
        rintro e22 w22 ⟨rfl,m22⟩
        have M22:=Hxq (MC.out.trans m22 (by simp))
        clear m22
        unfold stopE
        go_wp2_with fail
        exact ⟨rfl,rfl,M22.out⟩
       | ok uu n2 =>
        have hq:q=.ok ⟨(fnn:Nat),Sy.txt t.text,ex,bd⟩ n2:=HQ2.out
        subst hq
        clear HQ2
        go_wp2_with fail
        refine HU.out.mono ?_
        rintro e22 w22 ⟨y22,rfl,hy22,h22,m22⟩
        unfold valU at hy22
        subst hy22
        have H22:=Lib.hid h22;have A22:=Hxq (m22.at AC.out hnb);have G22:=Hxq (m22.at GC.out hgb);have O22:=Hxq (OC.out.keep m22 (fun s hs=>by rw [Msq] at hs;omega));have B22:=Hxq (BC.out.keep m22 (fun s hs=>by rw [Msq] at hs;omega));have M22:=Hxq (MC.out.trans m22 (by simp))
        obtain ⟨x0,x1,x2,x3,x4,x5,x6,x7,x8,x9⟩:=cells10 G22.out
        obtain ⟨y0,y1,y2,y3,y4,y5,y6,y7,y8,y9⟩:=cells10 A22.out
        have fA:∀ j,w22.frozen? ⟨w.heap.size,j,none⟩=false:=fun j=>free_at A22.out j
        clear h22 m22
        go_wp2_with fail
        have mR:=setCs_mod w.heap.size [.int .i64 (fnn:Nat),.string (Lx.ofS t.text),.int .i64 ex.k,.string ex.v,.int .i64 ex.x.k,.int .i64 ex.x.n,.string (Lx.ofS ex.x.s),.int .i64 ex.op,.slice a7 ex.args.length c7,.slice ub bd.length cb] 0 w22
        refine bodyPost_ret (results_cell_row rfl _ _ _ _ _ _ _ rfl (setCs_row (vs:=[.int .i64 (fnn:Nat),.string (Lx.ofS t.text),.int .i64 ex.k,.string ex.v,.int .i64 ex.x.k,.int .i64 ex.x.n,.string (Lx.ofS ex.x.s),.int .i64 ex.op,.slice a7 ex.args.length c7,.slice ub bd.length cb]) A22.out rfl) Tryz.underlying36 rfl (by kernel_rfl)) rfl ⟨_,rfl,⟨(.slice a7 ex.args.length c7),.slice ub bd.length cb,rfl,(O22.out.keep mR (fun s hs=>by rw [Msq] at hs;omega)).mono (fun k hk _=>by omega),(B22.out.keep mR (fun s hs=>by rw [Msq] at hs;omega)).mono (fun k hk _=>by omega)⟩,H22.out.new HLo.out mR (by simp),M22.out.trans mR (by simp)⟩
section
variable {P:Program} {ops:Array Oper} {rest:List Oper} {o:Oper} {a:Act} {w:World} {Q:Exit->Act->World->Prop}
theorem wpList_built (hgd:o.guard=none) (t:TypeId) (n:Nat) (x:Operand) (ho:o.op=.build t #[(n,x)])
  (v:Value) (hv:a.eval x=v) (cells:Array Value) (hc:(Instr.build t #[(n,v)]).run P w=.ok (.agg cells) w) (h:wpList P ops Q rest (a.put o.dst (.agg cells)) w):wpList P ops Q (o :: rest) a w :=
 wpList_plain hgd fun K hK=>by
  unfold Oper.wp execOp
  simp only [ho,Sem.run_bind,List.map_toArray,List.map_cons,List.map_nil,hv,hc,Result.andThen_ok]
  exact hK _ _ h
theorem wpList_load_row (hgd:o.guard=none) (ty:TypeId) (x:Operand) (ho:o.op=.load ty x) (g:Nat) (cs:Array Value) (t:TypeId) (fr:Nat × Nat) (hx:a.eval x=.pointer (some ⟨g,0,none⟩)) (hg:w.heap[g]?=some (.cells cs t fr))
  (d:TypeDesc) (hu:P.underlying ty=some d) (hd:(match d with | .struct _ | .array _ _=>true | _=>false)=true) (hi:(P.info? ty).map (·.size)=some cs.size) (h:wpList P ops Q rest (a.put o.dst (.agg cs)) w):wpList P ops Q (o :: rest) a w :=
 wpList_plain hgd fun K hK=>by
  unfold Oper.wp execOp
  simp only [ho,hx,Instr.loadAt,Instr.sureAddr,Sem.run_bind,Sem.run_pure,Result.andThen_ok,run_loadVar_row w g t ty cs fr d hg hu hd hi]
  exact hK _ _ h
theorem wpList_store_new (hgd:o.guard=none) (ty:TypeId) (x y:Operand) (ho:o.op=.store ty x y) (w0:World) (g:Nat) (cells old:Array Value) (t:TypeId) (hx:a.eval x=.pointer (some ⟨g,0,none⟩)) (hy:a.eval y=.agg cells)
  (hw:w=w0.alloc (.cells old t)) (hgg:g=w0.heap.size) (hi:(P.info? ty).map (·.size)=some cells.size) (hold:old.size=cells.size) (h1:cells.toList.all (·.oneCell')=true)
  (h:wpList P ops Q rest (a.put o.dst undef) (w0.alloc (.cells cells t))):wpList P ops Q (o :: rest) a w:=by
 subst hw;subst hgg
 refine wpList_store_row hgd ty x y ho _ cells hx hy t old (heap_alloc_last w0 _) hi hold (by rw [<-Array.all_toList];exact h1) ?_
 rw [World.setRow_alloc_new]
 exact h
theorem wpList_store_at (hgd:o.guard=none) (ty:TypeId) (x y:Operand) (ho:o.op=.store ty x y) (g:Nat) (cells old:Array Value) (t:TypeId) (hx:a.eval x=.pointer (some ⟨g,0,none⟩)) (hy:a.eval y=.agg cells)
  (hg:w.heap[g]?=some (.cells old t (0,0))) (hi:(P.info? ty).map (·.size)=some cells.size) (hold:old.size=cells.size) (h1:cells.toList.all (·.oneCell')=true)
  (h:wpList P ops Q rest (a.put o.dst undef) (w.setRow g cells)):wpList P ops Q (o :: rest) a w :=
 wpList_store_row hgd ty x y ho _ cells hx hy t old hg hi hold (by rw [<-Array.all_toList];exact h1) h
end
theorem Mod.setRow (w:World) (g:Nat) (cs:Array Value):Mod [g] w (w.setRow g cs) :=
 ⟨rfl,rfl,rfl,by simp,fun k hk hn=>setRow_other w g k cs (by simpa using hn)⟩
theorem Tryz.sizeLit:(Tryz.prog.info? 40).map (·.size)=some 30:=by kernel_rfl
end Go.Proofs.YtbfaclljbbfknaaGreatDoor
