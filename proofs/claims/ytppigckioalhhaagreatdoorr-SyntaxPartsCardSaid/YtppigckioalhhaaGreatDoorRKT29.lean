/- THE TEXTS MERGED: RpLit. -/
import Derived.Test.YtppigckioalhhaaGreatDoorRKT1
import Derived.Test.YtppigckioalhhaaGreatDoorRKT28
import Derived.Test.YtppigckioalhhaaGreatDoorRKT14
import Derived.Deep.DeepCutAuto
import Derived.Deep.MidRow
namespace Go.Proofs.YtppigckioalhhaaGreatDoorR
open Go.RowKit
set_option linter.unusedVariables false
set_option linter.unusedSimpArgs false
set_option maxRecDepth 100000
theorem load_lit {w:World} {b:Nat} {C:Array Value} {T:TypeId} {fr:Nat × Nat} (hg:w.heap[b]?=some (.cells C T fr)) (hc:C.size=30):(loadVar 50 ⟨b,0,none⟩).run Tryz.prog w=.ok (.agg C) w :=
 run_loadVar_row (P:=Tryz.prog) w b T 50 C fr _ hg Tryz.underlying50 rfl (by rw [Tryz.sizeLit,hc])
set_option maxHeartbeats 32000000 in
theorem rl_of (b:Nat) (ra:Option Addr) (rc:Nat) (L:LX) (v:Sy.Env) (k br:Nat) (hk:EnvK v) (hAg:RaC b ra rc L v k br):RlC b ra rc L v (k+1) br:=by
 intro i w h hi
 have hv:=hk.ok
 have hlen:=hv.len
 have mA:=(Mod.refl [] w).alloc (Obj.cells #[Value.int .i64 0,Value.string ⟨#[]⟩,Value.slice none 0 0,Value.int .i64 0,Value.int .i64 0,Value.string ⟨#[]⟩,Value.int .i64 0,Value.int .i64 0,Value.string ⟨#[]⟩,Value.int .i64 0,Value.slice none 0 0,Value.int .i64 0,Value.string ⟨#[]⟩,Value.int .i64 0,Value.int .i64 0,Value.string ⟨#[]⟩,Value.int .i64 0,Value.slice none 0 0,Value.int .i64 0,Value.string ⟨#[]⟩,Value.int .i64 0,Value.string ⟨#[]⟩,Value.int .i64 0,Value.int .i64 0,Value.string ⟨#[]⟩,Value.int .i64 0,Value.slice none 0 0,Value.slice none 0 0,Value.int .i64 0,Value.int .i64 0] 50)
 have hA:=h.past mA (by simp)
 have eA:=heap_alloc_new w (Obj.cells #[Value.int .i64 0,Value.string ⟨#[]⟩,Value.slice none 0 0,Value.int .i64 0,Value.int .i64 0,Value.string ⟨#[]⟩,Value.int .i64 0,Value.int .i64 0,Value.string ⟨#[]⟩,Value.int .i64 0,Value.slice none 0 0,Value.int .i64 0,Value.string ⟨#[]⟩,Value.int .i64 0,Value.int .i64 0,Value.string ⟨#[]⟩,Value.int .i64 0,Value.slice none 0 0,Value.int .i64 0,Value.string ⟨#[]⟩,Value.int .i64 0,Value.string ⟨#[]⟩,Value.int .i64 0,Value.int .i64 0,Value.string ⟨#[]⟩,Value.int .i64 0,Value.slice none 0 0,Value.slice none 0 0,Value.int .i64 0,Value.int .i64 0] 50)
 have HP:=Hxq (rword0 b ra rc L v i nf0 _ hA hv (by omega))
 have HP1:=Hxq (fun w h=>rword1 b ra rc L v i nf0 w h hv (by omega))
 have HP2:=Hxq (fun w h=>rword2 b ra rc L v i nf0 w h hv (by omega))
 have HIs:=Hxq (fun w h=>ris_any b ra rc L v i nf0 [110,111,116] { data:=#[110,111,116] } w h hv (by omega) rfl (by decide))
 have HPl:=Hxq (fun w=>rname_any (v.tk i) w (hv.tbyte i))
 have HS1:=Hxq (fun w=>rmark_sign (t:=v.tk (i+1)) (l:=[40]) (s:={ data:=#[40] }) (hk.tk (i+1)) rfl w rfl (hv.tbyte (i+1)) (by decide))
 have HS2:=Hxq (fun w=>rmark_sign (t:=v.tk (i+1)) (l:=[61]) (s:={ data:=#[61] }) (hk.tk (i+1)) rfl w rfl (hv.tbyte (i+1)) (by decide))
 have HFn:=Hxq (fun w=>rfunction_any (v.tk (i+2)) (hk.tk (i+2)) w (hv.tbyte (i+2)))
 have HR:=Hxq (litF_eq v k br i)
 have hsl:=fun h=>Sy.sign_lt (v:=v) (i:=i) (s:=[110,111,116]) h
 have hfl:0<Sy.fnOf (v.tk (i+2))->i+2<v.ws.length:=fun h=>Sy.kind_lt (Sy.placeF_pos _ _ h)
 have HLo:=Lib.hid h.low
 have hbl:=h.lt
 have HA:=Lib.hid hA;have EA:=Lib.hid eA;have MA:=Lib.hid mA
 have hnb:w.heap.size∉[b]:=by simp;omega
 clear h hA eA mA
 generalize hq:Sy.litF v (k+1) br i=q at *
 generalize Sy.sign (v.tk i) [110,111,116]=rn at *
 generalize Sy.plain (v.tk i)=pl at *
 generalize Sy.sign (v.tk (i+1)) [40]=rp at *
 generalize Sy.sign (v.tk (i+1)) [61]=re at *
 generalize Sy.fnOf (v.tk (i+2))=fnn at *
 generalize v.tk (i+1)=t1 at *
 generalize v.tk (i+2)=t2 at *
 generalize v.tk i=t at *
 clear hq
 have HSL:=Lib.hid hsl;have HFL:=Lib.hid hfl
 clear hsl hfl
 go_enter Tryz.func44,Tryz.ntmps44
 go_upto_region 1 with fail
 generalize w.alloc (Obj.cells #[Value.int .i64 0,Value.string ⟨#[]⟩,Value.slice none 0 0,Value.int .i64 0,Value.int .i64 0,Value.string ⟨#[]⟩,Value.int .i64 0,Value.int .i64 0,Value.string ⟨#[]⟩,Value.int .i64 0,Value.slice none 0 0,Value.int .i64 0,Value.string ⟨#[]⟩,Value.int .i64 0,Value.int .i64 0,Value.string ⟨#[]⟩,Value.int .i64 0,Value.slice none 0 0,Value.int .i64 0,Value.string ⟨#[]⟩,Value.int .i64 0,Value.string ⟨#[]⟩,Value.int .i64 0,Value.int .i64 0,Value.string ⟨#[]⟩,Value.int .i64 0,Value.slice none 0 0,Value.slice none 0 0,Value.int .i64 0,Value.int .i64 0] 50)=wA at *
 go_wp2_with fail
 refine HP.out.mono ?_
 rintro e1 w1 ⟨rfl,m1⟩
 have A1:=Hxq (m1.at EA.out (by simp));have H1:=Hxq (HA.out.past m1 (by simp));have M1:=Hxq ((MA.out.mono (T:=[b]) (by simp)).trans m1 (by simp))
 have z1:=lt_of_block A1.out
 have mB:=(Mod.refl [] w1).alloc (Obj.cells (tokC t) 74)
 have bB:=heap_alloc_new w1 (Obj.cells (tokC t) 74)
 have zB:(w1.alloc (Obj.cells (tokC t) 74)).heap.size=w1.heap.size+1:=by simp
 have AB:=Hxq (mB.at A1.out (by simp));have HB:=Hxq (H1.out.past mB (by simp));have MB:=Hxq (M1.out.trans mB (by simp));have TB:=Lib.hid bB
 clear m1 HP mB bB A1 H1 M1 HA EA MA
 unfold tokC at *
 go_upto_region 2 with fail
 generalize w1.alloc (Obj.cells _ 74)=wB at *
 obtain ⟨x0,x1,x2,x3,x4,x5,x6⟩:=tok_cells (t:=t) TB.out
 have mC:=(Mod.refl [] wB).alloc (Obj.cells #[.int .i64 0,.string ⟨#[]⟩,.slice none 0 0,.int .i64 0,.int .i64 0,.string ⟨#[]⟩,.int .i64 0,.int .i64 0,.string ⟨#[]⟩,.int .i64 0,.slice none 0 0,.int .i64 0,.string ⟨#[]⟩,.int .i64 0,.int .i64 0,.string ⟨#[]⟩,.int .i64 0,.slice none 0 0,.int .i64 0,.string ⟨#[]⟩,.int .i64 0,.string ⟨#[]⟩,.int .i64 0,.int .i64 0,.string ⟨#[]⟩,.int .i64 0,.slice none 0 0,.slice none 0 0,.int .i64 (t.line:Nat),.int .i64 (t.col:Nat)] 50)
 have cC:=heap_alloc_new wB (Obj.cells #[.int .i64 0,.string ⟨#[]⟩,.slice none 0 0,.int .i64 0,.int .i64 0,.string ⟨#[]⟩,.int .i64 0,.int .i64 0,.string ⟨#[]⟩,.int .i64 0,.slice none 0 0,.int .i64 0,.string ⟨#[]⟩,.int .i64 0,.int .i64 0,.string ⟨#[]⟩,.int .i64 0,.slice none 0 0,.int .i64 0,.string ⟨#[]⟩,.int .i64 0,.string ⟨#[]⟩,.int .i64 0,.int .i64 0,.string ⟨#[]⟩,.int .i64 0,.slice none 0 0,.slice none 0 0,.int .i64 (t.line:Nat),.int .i64 (t.col:Nat)] 50)
 have A2:=Hxq (mC.at AB.out (by simp));have H2:=Hxq (HB.out.past mC (by simp));have M2:=Hxq (MB.out.trans mC (by simp));have T2:=Hxq (mC.at TB.out (by simp));have G2:=Lib.hid cC
 clear mC cC AB HB MB TB
 go_upto_region 3 with (first | refine wpList_built rfl 50 6 _ rfl (.agg #[.int .i64 (t.line:Nat),.int .i64 (t.col:Nat)]) rfl #[.int .i64 0,.string ⟨#[]⟩,.slice none 0 0,.int .i64 0,.int .i64 0,.string ⟨#[]⟩,.int .i64 0,.int .i64 0,.string ⟨#[]⟩,.int .i64 0,.slice none 0 0,.int .i64 0,.string ⟨#[]⟩,.int .i64 0,.int .i64 0,.string ⟨#[]⟩,.int .i64 0,.slice none 0 0,.int .i64 0,.string ⟨#[]⟩,.int .i64 0,.string ⟨#[]⟩,.int .i64 0,.int .i64 0,.string ⟨#[]⟩,.int .i64 0,.slice none 0 0,.slice none 0 0,.int .i64 (t.line:Nat),.int .i64 (t.col:Nat)] (build_lit _ _ _) ?_ | refine wpList_store_new rfl 50 _ _ rfl wB (w1.heap.size+1) #[.int .i64 0,.string ⟨#[]⟩,.slice none 0 0,.int .i64 0,.int .i64 0,.string ⟨#[]⟩,.int .i64 0,.int .i64 0,.string ⟨#[]⟩,.int .i64 0,.slice none 0 0,.int .i64 0,.string ⟨#[]⟩,.int .i64 0,.int .i64 0,.string ⟨#[]⟩,.int .i64 0,.slice none 0 0,.int .i64 0,.string ⟨#[]⟩,.int .i64 0,.string ⟨#[]⟩,.int .i64 0,.int .i64 0,.string ⟨#[]⟩,.int .i64 0,.slice none 0 0,.slice none 0 0,.int .i64 (t.line:Nat),.int .i64 (t.col:Nat)] #[Value.int .i64 0,Value.string ⟨#[]⟩,Value.slice none 0 0,Value.int .i64 0,Value.int .i64 0,Value.string ⟨#[]⟩,Value.int .i64 0,Value.int .i64 0,Value.string ⟨#[]⟩,Value.int .i64 0,Value.slice none 0 0,Value.int .i64 0,Value.string ⟨#[]⟩,Value.int .i64 0,Value.int .i64 0,Value.string ⟨#[]⟩,Value.int .i64 0,Value.slice none 0 0,Value.int .i64 0,Value.string ⟨#[]⟩,Value.int .i64 0,Value.string ⟨#[]⟩,Value.int .i64 0,Value.int .i64 0,Value.string ⟨#[]⟩,Value.int .i64 0,Value.slice none 0 0,Value.slice none 0 0,Value.int .i64 0,Value.int .i64 0] 50 rfl rfl rfl zB.symm Tryz.sizeLit rfl rfl ?_)
 generalize wB.alloc (Obj.cells _ 50)=w2 at *
 clear x0 x1 x2 x3 x4 x5 x6
 rw [zB] at G2
 clear zB
 generalize hgg:w1.heap.size+1=g at *
 generalize htt:w1.heap.size=tb at *
 have hgb:g∉[b]:=by simp;omega
 have htb:tb∉[b]:=by simp;omega
 go_wp2_with fail
 refine (HIs.out w2 H2.out).mono ?_
 rintro e3 w3 ⟨rfl,m3⟩
 have A3:=Hxq (m3.at A2.out (by simp));have G3:=Hxq (m3.at G2.out (by simp));have T3:=Hxq (m3.at T2.out (by simp));have M3:=Hxq (M2.out.trans m3 (by simp));have H3:=Hxq (H2.out.past m3 (by simp))
 clear m3 A2 G2 T2 M2 H2
 clear HIs
 cases rn
 ·have HR2:Hid (q=if (pl && rp)=true then (Sy.atom v i).bind fun a j=>.ok (.mk 1 a 0 Sy.ex0 Sy.ex0 0 (Sy.txt []) Sy.ex0 [] t.line t.col) j
   else if (decide (t.kind=2) && (re && decide (0<fnn)))=true then
    (Sy.aggOf v (Sy.litF v k (br+1)) br i).bind fun g j=>.ok (.mk 4 Sy.at0 0 Sy.ex0 Sy.ex0 g.fn g.av g.of g.body t.line t.col) j
   else (Sy.expr v i).bind fun l j=>if Sy.cmpOf (v.tk j)=0 then .err (v.give 40 j)
    else (Sy.expr v (j+1)).bind fun r j2=>.ok (.mk 3 Sy.at0 (Sy.cmpOf (v.tk j):Nat) l r 0 (Sy.txt []) Sy.ex0 [] t.line t.col) j2):=Hxq (by
   rw [HR.out];simp only [Bool.and_eq_true,decide_eq_true_eq];simp)
  clear HR
  go_upto_region 9 with fail
  go_cut [49] (fun cv wx=>cv=.bool (pl && rp)/\Mod [] w3 wx)
  case first =>
   obtain ⟨x0,x1,x2,x3,x4,x5,x6⟩:=tok_cells (t:=t) T3.out
   go_wp2_with fail
   refine (HPl.out w3).mono ?_
   rintro e4 w4 ⟨rfl,m4⟩
   have H4:=Hxq (H3.out.past m4 (by simp));have N4:=Lib.hid m4
   clear m4
   cases pl
   ·go_wp2_with fail
    go_meet
    exact ⟨rfl,N4.out⟩
   ·go_wp2_with fail
    refine (HP1.out w4 H4.out).mono ?_
    rintro e5 w5 ⟨rfl,m5⟩
    have N5:=Hxq (N4.out.trans m5 (by simp))
    clear m5
    go_wp2_with fail
    refine (HS1.out w5).mono ?_
    rintro e6 w6 ⟨rfl,m6⟩
    have N6:=Hxq (N5.out.trans m6 (by simp))
    clear m6
    go_wp2_with fail
    go_meet
    exact ⟨rfl,N6.out⟩
  case rest =>
   obtain ⟨rfl,m7⟩:=hcut
   obtain ⟨w7,hw7⟩:∃ w7,w7=wc:=⟨_,rfl⟩
   subst hw7
   have A7:=Hxq (m7.at A3.out (by simp));have G7:=Hxq (m7.at G3.out (by simp));have T7:=Hxq (m7.at T3.out (by simp));have M7:=Hxq (M3.out.trans m7 (by simp));have H7:=Hxq (H3.out.past m7 (by simp))
   clear m7 A3 G3 T3 M3 H3
   clear HPl HS1
   generalize (pl && rp)=rc at *
   cases rc
   ·have HR3:Hid (q=if (decide (t.kind=2) && (re && decide (0<fnn)))=true then
      (Sy.aggOf v (Sy.litF v k (br+1)) br i).bind fun g j=>.ok (.mk 4 Sy.at0 0 Sy.ex0 Sy.ex0 g.fn g.av g.of g.body t.line t.col) j
     else (Sy.expr v i).bind fun l j=>if Sy.cmpOf (v.tk j)=0 then .err (v.give 40 j)
      else (Sy.expr v (j+1)).bind fun r j2=>.ok (.mk 3 Sy.at0 (Sy.cmpOf (v.tk j):Nat) l r 0 (Sy.txt []) Sy.ex0 [] t.line t.col) j2):=Lib.hid HR2.out
    clear HR2
    go_upto_region 14 with fail
    go_cut [73] (fun cv wx=>cv=.bool (decide (t.kind=2) && (re && decide (0<fnn)))/\Mod [] w7 wx)
    case first =>
     obtain ⟨x0,x1,x2,x3,x4,x5,x6⟩:=tok_cells (t:=t) T7.out
     by_cases k2:t.kind=2
     ·have b2:((t.kind:Int) == 2)=true:=by rw [k2];rfl
      have HB2:Hid (decide (t.kind=2)=true):=Hxq (decide_eq_true k2)
      clear k2
      go_wp2_with fail
      refine (HP1.out w7 H7.out).mono ?_
      rintro e8 w8 ⟨rfl,m8⟩
      have N8:=Lib.hid m8
      clear m8
      go_wp2_with fail
      refine (HS2.out w8).mono ?_
      rintro e9 w9 ⟨rfl,m9⟩
      have N9:=Hxq (N8.out.trans m9 (by simp))
      clear m9
      cases re
      ·go_wp2_with fail
       go_meet
       exact ⟨by rw [HB2.out];rfl,N9.out⟩
      ·have H9:=Hxq (H7.out.past N9.out (by simp))
       go_wp2_with fail
       refine (HP2.out w9 H9.out).mono ?_
       rintro e10 w10 ⟨rfl,m10⟩
       have N10:=Hxq (N9.out.trans m10 (by simp))
       clear m10
       go_wp2_with fail
       refine (HFn.out w10).mono ?_
       rintro e11 w11 ⟨rfl,m11⟩
       have N11:=Hxq (N10.out.trans m11 (by simp))
       clear m11
       have hfd:decide ((fnn:Int) > 0)=decide (0<fnn):=by rw [Bool.eq_iff_iff];simp
       have hfe:decide ((0:Int)<(fnn:Int))=decide (0<fnn):=by rw [Bool.eq_iff_iff];simp
       have HFD:=Lib.hid hfd;have HFE:=Lib.hid hfe
       clear hfd hfe
       go_wp2_with fail
       go_meet
       exact ⟨by rw [HB2.out,Bool.true_and,Bool.true_and],N11.out⟩
     ·have b2:((t.kind:Int) == 2)=false:=by rw [beq_eq_false_iff_ne];omega
      have HB2:Hid (decide (t.kind=2)=false):=Hxq (decide_eq_false k2)
      clear k2
      go_wp2_with fail
      go_meet
      exact ⟨by rw [HB2.out];rfl,Mod.refl _ _⟩
    case rest =>
     obtain ⟨rfl,m8⟩:=hcut
     obtain ⟨w8,hw8⟩:∃ w8,w8=wc:=⟨_,rfl⟩
     subst hw8
     have A8:=Hxq (m8.at A7.out (by simp));have G8:=Hxq (m8.at G7.out (by simp));have T8:=Hxq (m8.at T7.out (by simp));have M8:=Hxq (M7.out.trans m8 (by simp));have H8:=Hxq (H7.out.past m8 (by simp))
     clear m8 A7 G7 T7 M7 H7
     clear HP1 HP2 HS2 HFn
     have hrg:(decide (t.kind=2) && (re && decide (0<fnn)))=true->0<fnn:=fun h=>by
      simp only [Bool.and_eq_true,decide_eq_true_eq] at h
      exact h.2.2
     generalize (decide (t.kind=2) && (re && decide (0<fnn)))=rg at *
     cases rg
     ·have HQ:Hid (q=(Sy.expr v i).bind fun l j=>if Sy.cmpOf (v.tk j)=0 then .err (v.give 40 j)
       else (Sy.expr v (j+1)).bind fun r j2=>.ok (.mk 3 Sy.at0 (Sy.cmpOf (v.tk j):Nat) l r 0 (Sy.txt []) Sy.ex0 [] t.line t.col) j2):=Lib.hid HR3.out
      clear HR3 hrg HFL
      have HE:=Hxq (rexpr_any b ra rc L v i w8 H8.out hk hi)
      have hadvE:=Sy.adv_expr v i
      generalize Sy.expr v i=px at *
      cases px with
      | err g1 =>
       have hq:q=.err g1:=HQ.out
       subst hq
       clear HQ hadvE
       go_wp2_with fail
       refine HE.out.mono ?_
       rintro e50 w50 ⟨x50,rfl,rfl,⟨jj,h50⟩,m50⟩
       have z50:=m50.size
       have zz50:=lt_of_block G8.out
       have A50:=Hxq (m50.at A8.out hnb);have G50:=Hxq (m50.at G8.out hgb);have T50:=Hxq (m50.at T8.out htb);have M50:=Hxq (M8.out.trans m50 (by simp));have H50:=Lib.hid h50
       clear h50 m50
       have m51:=(Mod.refl [] w50).alloc (Obj.cells #[Value.int IntKind.i64 0,Value.string ⟨#[]⟩,Value.int IntKind.i64 0,Value.int IntKind.i64 0,Value.string ⟨#[]⟩,Value.int IntKind.i64 0,Value.slice none 0 0] 45)
       have D51:=Hxq (heap_alloc_new w50 (Obj.cells #[Value.int IntKind.i64 0,Value.string ⟨#[]⟩,Value.int IntKind.i64 0,Value.int IntKind.i64 0,Value.string ⟨#[]⟩,Value.int IntKind.i64 0,Value.slice none 0 0] 45))
       have A51:=Hxq (m51.at A50.out (by simp));have G51:=Hxq (m51.at G50.out (by simp));have T51:=Hxq (m51.at T50.out (by simp));have M51:=Hxq (M50.out.trans m51 (by simp));have H51:=Hxq (H50.out.past m51 (by simp))
       clear m51 A50 G50 T50 M50 H50
       go_upto_region 20 with fail
       generalize w50.alloc (Obj.cells _ 45)=w51 at *
       go_wp2_with (first | refine wpList_load_row rfl 50 _ rfl g #[.int .i64 0,.string ⟨#[]⟩,.slice none 0 0,.int .i64 0,.int .i64 0,.string ⟨#[]⟩,.int .i64 0,.int .i64 0,.string ⟨#[]⟩,.int .i64 0,.slice none 0 0,.int .i64 0,.string ⟨#[]⟩,.int .i64 0,.int .i64 0,.string ⟨#[]⟩,.int .i64 0,.slice none 0 0,.int .i64 0,.string ⟨#[]⟩,.int .i64 0,.string ⟨#[]⟩,.int .i64 0,.int .i64 0,.string ⟨#[]⟩,.int .i64 0,.slice none 0 0,.slice none 0 0,.int .i64 (t.line:Nat),.int .i64 (t.col:Nat)] 50 (0,0) rfl G51.out _ Tryz.underlying50 rfl Tryz.sizeLit ?_ | refine wpList_store_at rfl 50 _ _ rfl w.heap.size #[.int .i64 0,.string ⟨#[]⟩,.slice none 0 0,.int .i64 0,.int .i64 0,.string ⟨#[]⟩,.int .i64 0,.int .i64 0,.string ⟨#[]⟩,.int .i64 0,.slice none 0 0,.int .i64 0,.string ⟨#[]⟩,.int .i64 0,.int .i64 0,.string ⟨#[]⟩,.int .i64 0,.slice none 0 0,.int .i64 0,.string ⟨#[]⟩,.int .i64 0,.string ⟨#[]⟩,.int .i64 0,.int .i64 0,.string ⟨#[]⟩,.int .i64 0,.slice none 0 0,.slice none 0 0,.int .i64 (t.line:Nat),.int .i64 (t.col:Nat)] #[Value.int .i64 0,Value.string ⟨#[]⟩,Value.slice none 0 0,Value.int .i64 0,Value.int .i64 0,Value.string ⟨#[]⟩,Value.int .i64 0,Value.int .i64 0,Value.string ⟨#[]⟩,Value.int .i64 0,Value.slice none 0 0,Value.int .i64 0,Value.string ⟨#[]⟩,Value.int .i64 0,Value.int .i64 0,Value.string ⟨#[]⟩,Value.int .i64 0,Value.slice none 0 0,Value.int .i64 0,Value.string ⟨#[]⟩,Value.int .i64 0,Value.string ⟨#[]⟩,Value.int .i64 0,Value.int .i64 0,Value.string ⟨#[]⟩,Value.int .i64 0,Value.slice none 0 0,Value.slice none 0 0,Value.int .i64 0,Value.int .i64 0] 50 rfl rfl A51.out Tryz.sizeLit rfl rfl ?_)
       have mR:=Mod.setRow w51 w.heap.size #[.int .i64 0,.string ⟨#[]⟩,.slice none 0 0,.int .i64 0,.int .i64 0,.string ⟨#[]⟩,.int .i64 0,.int .i64 0,.string ⟨#[]⟩,.int .i64 0,.slice none 0 0,.int .i64 0,.string ⟨#[]⟩,.int .i64 0,.int .i64 0,.string ⟨#[]⟩,.int .i64 0,.slice none 0 0,.int .i64 0,.string ⟨#[]⟩,.int .i64 0,.string ⟨#[]⟩,.int .i64 0,.int .i64 0,.string ⟨#[]⟩,.int .i64 0,.slice none 0 0,.slice none 0 0,.int .i64 (t.line:Nat),.int .i64 (t.col:Nat)]
       have hRow:=setRow_heap w51 w.heap.size _ #[.int .i64 0,.string ⟨#[]⟩,.slice none 0 0,.int .i64 0,.int .i64 0,.string ⟨#[]⟩,.int .i64 0,.int .i64 0,.string ⟨#[]⟩,.int .i64 0,.slice none 0 0,.int .i64 0,.string ⟨#[]⟩,.int .i64 0,.int .i64 0,.string ⟨#[]⟩,.int .i64 0,.slice none 0 0,.int .i64 0,.string ⟨#[]⟩,.int .i64 0,.string ⟨#[]⟩,.int .i64 0,.int .i64 0,.string ⟨#[]⟩,.int .i64 0,.slice none 0 0,.slice none 0 0,.int .i64 (t.line:Nat),.int .i64 (t.col:Nat)] _ _ A51.out
       refine bodyPost_ret (res_ct rfl _ _ _ _ _ rfl rfl (load_lit hRow rfl)) rfl ⟨_,rfl,⟨_,rfl,rfl,rfl⟩,⟨jj,H51.out.new HLo.out mR (by simp)⟩,M51.out.trans mR (by simp)⟩
      | ok el n0 =>
       have hn0:=hadvE _ n0 hi rfl
       have HQ1:Hid (q=if Sy.cmpOf (v.tk n0)=0 then .err (v.give 40 n0) else (Sy.expr v (n0+1)).bind fun r j2=>.ok (.mk 3 Sy.at0 (Sy.cmpOf (v.tk n0):Nat) el r 0 (Sy.txt []) Sy.ex0 [] (t.line:Nat) (t.col:Nat)) j2):=Lib.hid HQ.out
       clear HQ hadvE
       go_wp2_with fail
       refine HE.out.mono ?_
       rintro e50 w50 ⟨x50,rfl,⟨u50,rfl,hb50⟩,h50,m50⟩
       obtain ⟨al,cl,rfl⟩:=hb50.lit
       have z50:=m50.size
       have zz50:=lt_of_block G8.out
       have A50:=Hxq (m50.at A8.out hnb);have G50:=Hxq (m50.at G8.out hgb);have T50:=Hxq (m50.at T8.out htb);have M50:=Hxq (M8.out.trans m50 (by simp));have H50:=Lib.hid h50
       have L50:=Hxq (hb50.mono (F':=(fun k=>w.heap.size<k/\k≠g/\k≠tb)) (fun k hk hk2=>by omega))
       clear h50 m50 hb50 HE
       have m51:=(Mod.refl [] w50).alloc (Obj.cells (exV el (.slice al el.args.length cl)) 45)
       have D51:=Hxq (heap_alloc_new w50 (Obj.cells (exV el (.slice al el.args.length cl)) 45))
       have L51:=Hxq (L50.out.keep m51 (by simp))
       unfold exV at *
       simp only at *
       have A51:=Hxq (m51.at A50.out (by simp));have G51:=Hxq (m51.at G50.out (by simp));have T51:=Hxq (m51.at T50.out (by simp));have M51:=Hxq (M50.out.trans m51 (by simp));have H51:=Hxq (H50.out.past m51 (by simp))
       clear m51 A50 G50 T50 M50 H50
       go_upto_region 22 with fail
       generalize w50.alloc (Obj.cells _ 45)=w51 at *
       have hzl:g<w50.heap.size:=by omega
       have hzb:w50.heap.size∉[b]:=by simp;omega
       have hnl:Sy.cmpOf (v.tk n0)≠0->n0<v.ws.length:=fun hh=>Sy.kind_lt (Nat.pos_iff_ne_zero.1 (Nat.pos_of_ne_zero (Sy.placeF_pos _ _ (Nat.pos_of_ne_zero hh))))
       have HPk:=Hxq (rword0 b ra rc L v n0 nf0 w51 H51.out hv (by omega))
       have HPc:=Hxq (fun w=>rcomparison_any (v.tk n0) (hk.tk n0) w (hv.tbyte n0))
       generalize Sy.cmpOf (v.tk n0)=opn at *
       generalize v.tk n0=t3 at *
       go_wp2_with fail
       refine HPk.out.mono ?_
       rintro e54 w54 ⟨rfl,m54⟩
       have L54:=Hxq (L51.out.keep m54 (by simp));have D54:=Hxq (m54.at D51.out (by simp))
       have A54:=Hxq (m54.at A51.out (by simp));have G54:=Hxq (m54.at G51.out (by simp));have T54:=Hxq (m54.at T51.out (by simp));have M54:=Hxq (M51.out.trans m54 (by simp));have H54:=Hxq (H51.out.past m54 (by simp))
       clear m54 A51 G51 T51 M51 H51
       go_wp2_with fail
       refine (HPc.out w54).mono ?_
       rintro e55 w55 ⟨rfl,m55⟩
       have L55:=Hxq (L54.out.keep m55 (by simp));have D55:=Hxq (m55.at D54.out (by simp))
       have A55:=Hxq (m55.at A54.out (by simp));have G55:=Hxq (m55.at G54.out (by simp));have T55:=Hxq (m55.at T54.out (by simp));have M55:=Hxq (M54.out.trans m55 (by simp));have H55:=Hxq (H54.out.past m55 (by simp))
       clear m55 A54 G54 T54 M54 H54
       clear HPk HPc
       by_cases ho:opn=0
       ·have hq:q=.err (v.give 40 n0):=by rw [HQ1.out,if_pos ho]
        subst hq
        have hoI:((opn:Int) == 0)=true:=by simp;omega
        have mD:=(Mod.refl [] w55).drew
        have HK:=Hxq (rstop_any b ra rc L v n0 40 w55.drew (H55.out.past mD (by simp)) hv (by omega))
        clear HQ1 ho mD
        go_upto_region 24 with fail
        refine wp_region_held_drew (S:=(fun w':World=>Mod [b,w.heap.size] w55 w')) (by kernel_rfl) (by (try dsimp only);exact (Mod.refl [b,w.heap.size] w55).drew) (fun hHeld=>?_)
        refine wpAnyH_take (i:=0) (oi:=?_) (v:=.agg #[.int .i64 0,.string ⟨#[]⟩,.slice none 0 0,.int .i64 0,.int .i64 0,.string ⟨#[]⟩,.int .i64 0,.int .i64 0,.string ⟨#[]⟩,.int .i64 0,.slice none 0 0,.int .i64 0,.string ⟨#[]⟩,.int .i64 0,.int .i64 0,.string ⟨#[]⟩,.int .i64 0,.slice none 0 0,.int .i64 0,.string ⟨#[]⟩,.int .i64 0,.string ⟨#[]⟩,.int .i64 0,.int .i64 0,.string ⟨#[]⟩,.int .i64 0,.slice none 0 0,.slice none 0 0,.int .i64 (t.line:Nat),.int .i64 (t.col:Nat)]) ?_ ?_ ?_ ?_ ?_ ?_ (by assumption) ?_
        rotate_left 1
        ·(simp only [Gq1,Gq2,Gq3])<;>rfl
        ·kernel_rfl
        ·kernel_rfl
        ·kernel_rfl
        rotate_left 1
        ·refine yieldsIf_load_mid ?_ 50 _ rfl g 0 rfl [.int .i64 0,.string ⟨#[]⟩,.slice none 0 0,.int .i64 0,.int .i64 0,.string ⟨#[]⟩,.int .i64 0,.int .i64 0,.string ⟨#[]⟩,.int .i64 0,.slice none 0 0,.int .i64 0,.string ⟨#[]⟩,.int .i64 0,.int .i64 0,.string ⟨#[]⟩,.int .i64 0,.slice none 0 0,.int .i64 0,.string ⟨#[]⟩,.int .i64 0,.string ⟨#[]⟩,.int .i64 0,.int .i64 0,.string ⟨#[]⟩,.int .i64 0,.slice none 0 0,.slice none 0 0,.int .i64 (t.line:Nat),.int .i64 (t.col:Nat)] _ ?_ Tryz.underlying50 rfl Tryz.sizeLit
         ·rfl
         ·intro w hSw
          exact wp_range (C:=#[.int .i64 0,.string ⟨#[]⟩,.slice none 0 0,.int .i64 0,.int .i64 0,.string ⟨#[]⟩,.int .i64 0,.int .i64 0,.string ⟨#[]⟩,.int .i64 0,.slice none 0 0,.int .i64 0,.string ⟨#[]⟩,.int .i64 0,.int .i64 0,.string ⟨#[]⟩,.int .i64 0,.slice none 0 0,.int .i64 0,.string ⟨#[]⟩,.int .i64 0,.string ⟨#[]⟩,.int .i64 0,.int .i64 0,.string ⟨#[]⟩,.int .i64 0,.slice none 0 0,.slice none 0 0,.int .i64 (t.line:Nat),.int .i64 (t.col:Nat)]) (hSw.at G55.out (by simp;omega))
        rotate_left 1
        ·exact fun _ _ _ h=>h
        try simp only [Act.put,Lq1,Lq2,Lq3]
        refine Tkq 1 (v:=?_) (by assumption) ?_ ?_ ?_
        rotate_left 1
        ·refine .inl ⟨by rfl,?_⟩;intro w hSw;clear hSw;go_simp
         all_goals with_reducible rfl
        ·exact fun _ _ _ h=>h
        try simp only [Act.put,Lq1,Lq2,Lq3]
        refine wpAnyH_ready (rs:=[2]) (by kernel_rfl) (by simp) ?_
        refine AllReadyH.cons (o:=?_) ?_ ?_ AllReadyH.nil
        rotate_left 1
        ·(simp only [Gq1,Gq2,Gq3])<;>rfl
        intro K hK
        go_simp
        refine HK.out.mono ?_
        rintro e56 w56 ⟨rfl,h56,m56⟩
        have N56:=Hxq ((Mod.refl [b] w55).drew.trans m56 (by simp));have H56:=Lib.hid h56
        clear m56 h56
        refine hK.out _ _ (by (try dsimp only);exact N56.out.mono (by simp)) (fun hHeld=>?_)
        clear hK K
        try simp only [Act.put,Lq1,Lq2,Lq3]
        have A56:=Hxq (N56.out.at A55.out hnb)
        have NR:=Hxq ((N56.out.mono (T:=[b,w.heap.size]) (by simp)).trans ((Mod.setRow w56 w.heap.size #[.int .i64 0,.string ⟨#[]⟩,.slice none 0 0,.int .i64 0,.int .i64 0,.string ⟨#[]⟩,.int .i64 0,.int .i64 0,.string ⟨#[]⟩,.int .i64 0,.slice none 0 0,.int .i64 0,.string ⟨#[]⟩,.int .i64 0,.int .i64 0,.string ⟨#[]⟩,.int .i64 0,.slice none 0 0,.int .i64 0,.string ⟨#[]⟩,.int .i64 0,.string ⟨#[]⟩,.int .i64 0,.int .i64 0,.string ⟨#[]⟩,.int .i64 0,.slice none 0 0,.slice none 0 0,.int .i64 (t.line:Nat),.int .i64 (t.col:Nat)]).mono (T:=[b,w.heap.size]) (by simp)) (by simp))
        refine wpAnyH_ready (rs:=[3]) (by kernel_rfl) (by simp) ?_
        refine AllReadyH.cons (o:=?_) ?_ ?_ AllReadyH.nil
        rotate_left 1
        ·(simp only [Gq1,Gq2,Gq3])<;>rfl
        intro K hK
        refine (if_pos (by rfl)).mpr ?_
        refine wp_store_row 50 _ _ rfl w.heap.size #[.int .i64 0,.string ⟨#[]⟩,.slice none 0 0,.int .i64 0,.int .i64 0,.string ⟨#[]⟩,.int .i64 0,.int .i64 0,.string ⟨#[]⟩,.int .i64 0,.slice none 0 0,.int .i64 0,.string ⟨#[]⟩,.int .i64 0,.int .i64 0,.string ⟨#[]⟩,.int .i64 0,.slice none 0 0,.int .i64 0,.string ⟨#[]⟩,.int .i64 0,.string ⟨#[]⟩,.int .i64 0,.int .i64 0,.string ⟨#[]⟩,.int .i64 0,.slice none 0 0,.slice none 0 0,.int .i64 (t.line:Nat),.int .i64 (t.col:Nat)] rfl rfl 50 _ A56.out Tryz.sizeLit rfl (by rw [<-Array.all_toList];rfl) ?_
        refine hK.out _ _ (by (try dsimp only);exact NR.out) (fun hHeld=>?_)
        clear hK K
        try simp only [Act.put,Lq1,Lq2,Lq3]
        refine Tkq 4 (v:=?_) (by assumption) ?_ ?_ ?_
        rotate_left 1
        ·refine .inl ⟨by rfl,?_⟩;intro w hSw;clear hSw;go_simp
         all_goals with_reducible rfl
        ·exact fun _ _ _ h=>h
        try simp only [Act.put,Lq1,Lq2,Lq3]
        refine wpAnyH_done (by kernel_rfl) ?_ _
        go_wp2_with fail
        have mR:=Mod.setRow w56 w.heap.size #[.int .i64 0,.string ⟨#[]⟩,.slice none 0 0,.int .i64 0,.int .i64 0,.string ⟨#[]⟩,.int .i64 0,.int .i64 0,.string ⟨#[]⟩,.int .i64 0,.slice none 0 0,.int .i64 0,.string ⟨#[]⟩,.int .i64 0,.int .i64 0,.string ⟨#[]⟩,.int .i64 0,.slice none 0 0,.int .i64 0,.string ⟨#[]⟩,.int .i64 0,.string ⟨#[]⟩,.int .i64 0,.int .i64 0,.string ⟨#[]⟩,.int .i64 0,.slice none 0 0,.slice none 0 0,.int .i64 (t.line:Nat),.int .i64 (t.col:Nat)]
        have hRow:=setRow_heap w56 w.heap.size _ #[.int .i64 0,.string ⟨#[]⟩,.slice none 0 0,.int .i64 0,.int .i64 0,.string ⟨#[]⟩,.int .i64 0,.int .i64 0,.string ⟨#[]⟩,.int .i64 0,.slice none 0 0,.int .i64 0,.string ⟨#[]⟩,.int .i64 0,.int .i64 0,.string ⟨#[]⟩,.int .i64 0,.slice none 0 0,.int .i64 0,.string ⟨#[]⟩,.int .i64 0,.string ⟨#[]⟩,.int .i64 0,.int .i64 0,.string ⟨#[]⟩,.int .i64 0,.slice none 0 0,.slice none 0 0,.int .i64 (t.line:Nat),.int .i64 (t.col:Nat)] _ _ A56.out
        have M56:=Hxq (M55.out.trans N56.out (by simp))
        refine bodyPost_ret (res_ct rfl _ _ _ _ _ rfl rfl (load_lit hRow rfl)) rfl ⟨_,rfl,⟨_,rfl,rfl,rfl⟩,⟨_,H56.out.new HLo.out mR (by simp)⟩,M56.out.trans mR (by simp)⟩
       ·have HQ2:Hid (q=(Sy.expr v (n0+1)).bind fun r j2=>.ok (.mk 3 Sy.at0 (opn:Nat) el r 0 (Sy.txt []) Sy.ex0 [] (t.line:Nat) (t.col:Nat)) j2):=Hxq (by rw [HQ1.out,if_neg ho])
        have hoI:((opn:Int) == 0)=false:=by rw [beq_eq_false_iff_ne];omega
        have hnl2:=hnl ho
        clear HQ1 ho hnl
        obtain ⟨c0,c1,c2,c3,c4,c5,c6,c7,c8,c9,fz⟩:=H55.out.cells
        have hT:=H55.out.to (n0+1)
        have hcast:((n0+1:Nat):Int)=(n0:Int)+1:=by omega
        rw [hcast] at hT
        have zG:=lt_of_block G55.out
        have A57:=Hxq (hT.2.at A55.out hnb);have G57:=Hxq (hT.2.at G55.out hgb);have T57:=Hxq (hT.2.at T55.out htb);have M57:=Hxq (M55.out.trans hT.2 (by simp));have L57:=Hxq (L55.out.keep hT.2 (fun s hs=>by rw [Msq] at hs;omega));have H57:=Lib.hid hT.1;have D57:=Hxq (hT.2.at D55.out hzb)
        clear hT hcast
        go_upto_region 26 with fail
        generalize w55.setCell ⟨b,6,none⟩ (.int .i64 ((n0:Int)+1))=w57 at *
        clear c0 c1 c2 c3 c4 c5 c6 c7 c8 c9 fz A55 G55 T55 M55 L55 H55 D55 hoI
        have HE:=Hxq (rexpr_any b ra rc L v (n0+1) w57 H57.out hk hnl2)
        have zD57:=lt_of_block D57.out
        generalize Sy.expr v (n0+1)=px2 at *
        cases px2 with
        | err g1 =>
         have hq:q=.err g1:=HQ2.out
         subst hq
         clear HQ2
         go_wp2_with fail
         refine HE.out.mono ?_
         rintro e58 w58 ⟨x58,rfl,rfl,⟨jj,h58⟩,m58⟩
         have z58:=m58.size
         have zz58:=lt_of_block G57.out
         have A58:=Hxq (m58.at A57.out hnb);have G58:=Hxq (m58.at G57.out hgb);have T58:=Hxq (m58.at T57.out htb);have M58:=Hxq (M57.out.trans m58 (by simp));have H58:=Lib.hid h58
         have L58:=Hxq (L57.out.keep m58 (fun s hs=>by rw [Msq] at hs;omega));have D58:=Hxq (m58.at D57.out hzb)
         clear h58 m58
         have m59:=(Mod.refl [] w58).alloc (Obj.cells #[Value.int IntKind.i64 0,Value.string ⟨#[]⟩,Value.int IntKind.i64 0,Value.int IntKind.i64 0,Value.string ⟨#[]⟩,Value.int IntKind.i64 0,Value.slice none 0 0] 45)
         have E59:=Hxq (heap_alloc_new w58 (Obj.cells #[Value.int IntKind.i64 0,Value.string ⟨#[]⟩,Value.int IntKind.i64 0,Value.int IntKind.i64 0,Value.string ⟨#[]⟩,Value.int IntKind.i64 0,Value.slice none 0 0] 45))
         have L59:=Hxq (L58.out.keep m59 (by simp));have D59:=Hxq (m59.at D58.out (by simp))
         have A59:=Hxq (m59.at A58.out (by simp));have G59:=Hxq (m59.at G58.out (by simp));have T59:=Hxq (m59.at T58.out (by simp));have M59:=Hxq (M58.out.trans m59 (by simp));have H59:=Hxq (H58.out.past m59 (by simp))
         clear m59 A58 G58 T58 M58 H58
         go_upto_region 27 with fail
         generalize w58.alloc (Obj.cells _ 45)=w59 at *
         have mS:Mod [g] w59 (w59.setCell ⟨g,0,none⟩ (.int .i64 3)):=setCs_mod g [.int .i64 3] 0 w59
         have G60:Hid ((w59.setCell ⟨g,0,none⟩ (.int .i64 3)).heap[g]?=some (.cells #[.int .i64 3,.string ⟨#[]⟩,.slice none 0 0,.int .i64 0,.int .i64 0,.string ⟨#[]⟩,.int .i64 0,.int .i64 0,.string ⟨#[]⟩,.int .i64 0,.slice none 0 0,.int .i64 0,.string ⟨#[]⟩,.int .i64 0,.int .i64 0,.string ⟨#[]⟩,.int .i64 0,.slice none 0 0,.int .i64 0,.string ⟨#[]⟩,.int .i64 0,.string ⟨#[]⟩,.int .i64 0,.int .i64 0,.string ⟨#[]⟩,.int .i64 0,.slice none 0 0,.slice none 0 0,.int .i64 (t.line:Nat),.int .i64 (t.col:Nat)] 50 (0,0))):=Hxq (setCs_heap [.int .i64 3] 0 [.int .i64 0,.string ⟨#[]⟩,.slice none 0 0,.int .i64 0,.int .i64 0,.string ⟨#[]⟩,.int .i64 0,.int .i64 0,.string ⟨#[]⟩,.int .i64 0,.slice none 0 0,.int .i64 0,.string ⟨#[]⟩,.int .i64 0,.int .i64 0,.string ⟨#[]⟩,.int .i64 0,.slice none 0 0,.int .i64 0,.string ⟨#[]⟩,.int .i64 0,.string ⟨#[]⟩,.int .i64 0,.int .i64 0,.string ⟨#[]⟩,.int .i64 0,.slice none 0 0,.slice none 0 0,.int .i64 (t.line:Nat),.int .i64 (t.col:Nat)] w59 G59.out)
         have H60:=Hxq (H59.out.new HLo.out mS (by simp;omega));have A60:=Hxq (mS.at A59.out (by simp;omega));have T60:=Hxq (mS.at T59.out (by simp;omega));have M60:=Hxq (M59.out.trans mS (by simp;omega))
         have L60:=Hxq (L59.out.keep mS (fun s hs=>by rw [Msq] at hs;omega))
         have k0:w59.cell? ⟨g,0,none⟩=some (.int .i64 0):=cell_at G59.out 0
         have fg:∀ j,w59.frozen? ⟨g,j,none⟩=false:=fun j=>free_at G59.out j
         have D60:=Hxq (mS.at D59.out (by simp;omega));have E60:=Hxq (mS.at E59.out (by simp;omega))
         clear mS
         go_upto_region 28 with fail
         generalize (w59.setCell ⟨g,0,none⟩ (.int .i64 3))=w60 at *
         clear k0 fg A59 G59 T59 M59 H59
         have mS:Mod [g] w60 (w60.setCell ⟨g,3,none⟩ (.int .i64 (opn:Nat))):=setCs_mod g [.int .i64 (opn:Nat)] 3 w60
         have G61:Hid ((w60.setCell ⟨g,3,none⟩ (.int .i64 (opn:Nat))).heap[g]?=some (.cells #[.int .i64 3,.string ⟨#[]⟩,.slice none 0 0,.int .i64 (opn:Nat),.int .i64 0,.string ⟨#[]⟩,.int .i64 0,.int .i64 0,.string ⟨#[]⟩,.int .i64 0,.slice none 0 0,.int .i64 0,.string ⟨#[]⟩,.int .i64 0,.int .i64 0,.string ⟨#[]⟩,.int .i64 0,.slice none 0 0,.int .i64 0,.string ⟨#[]⟩,.int .i64 0,.string ⟨#[]⟩,.int .i64 0,.int .i64 0,.string ⟨#[]⟩,.int .i64 0,.slice none 0 0,.slice none 0 0,.int .i64 (t.line:Nat),.int .i64 (t.col:Nat)] 50 (0,0))):=Hxq (setCs_heap [.int .i64 (opn:Nat)] 3 [.int .i64 3,.string ⟨#[]⟩,.slice none 0 0,.int .i64 0,.int .i64 0,.string ⟨#[]⟩,.int .i64 0,.int .i64 0,.string ⟨#[]⟩,.int .i64 0,.slice none 0 0,.int .i64 0,.string ⟨#[]⟩,.int .i64 0,.int .i64 0,.string ⟨#[]⟩,.int .i64 0,.slice none 0 0,.int .i64 0,.string ⟨#[]⟩,.int .i64 0,.string ⟨#[]⟩,.int .i64 0,.int .i64 0,.string ⟨#[]⟩,.int .i64 0,.slice none 0 0,.slice none 0 0,.int .i64 (t.line:Nat),.int .i64 (t.col:Nat)] w60 G60.out)
         have H61:=Hxq (H60.out.new HLo.out mS (by simp;omega));have A61:=Hxq (mS.at A60.out (by simp;omega));have T61:=Hxq (mS.at T60.out (by simp;omega));have M61:=Hxq (M60.out.trans mS (by simp;omega))
         have L61:=Hxq (L60.out.keep mS (fun s hs=>by rw [Msq] at hs;omega))
         have k0:w60.cell? ⟨g,3,none⟩=some (.int .i64 0):=cell_at G60.out 3
         have fg:∀ j,w60.frozen? ⟨g,j,none⟩=false:=fun j=>free_at G60.out j
         have D61:=Hxq (mS.at D60.out (by simp;omega));have E61:=Hxq (mS.at E60.out (by simp;omega))
         clear mS
         go_upto_region 29 with fail
         generalize (w60.setCell ⟨g,3,none⟩ (.int .i64 (opn:Nat)))=w61 at *
         clear k0 fg A60 G60 T60 M60 H60
         obtain ⟨d0,d1,d2,d3,d4,d5,d6⟩:=cells7 D61.out
         have mS:Mod [g] w61 (((((((w61.setCell ⟨g,4,none⟩ (.int .i64 el.k)).setCell ⟨g,5,none⟩ (.string el.v)).setCell ⟨g,6,none⟩ (.int .i64 el.x.k)).setCell ⟨g,7,none⟩ (.int .i64 el.x.n)).setCell ⟨g,8,none⟩ (.string (Lx.ofS el.x.s))).setCell ⟨g,9,none⟩ (.int .i64 el.op)).setCell ⟨g,10,none⟩ (.slice al el.args.length cl)):=setCs_mod g [.int .i64 el.k,.string el.v,.int .i64 el.x.k,.int .i64 el.x.n,.string (Lx.ofS el.x.s),.int .i64 el.op,.slice al el.args.length cl] 4 w61
         have G62:Hid ((((((((w61.setCell ⟨g,4,none⟩ (.int .i64 el.k)).setCell ⟨g,5,none⟩ (.string el.v)).setCell ⟨g,6,none⟩ (.int .i64 el.x.k)).setCell ⟨g,7,none⟩ (.int .i64 el.x.n)).setCell ⟨g,8,none⟩ (.string (Lx.ofS el.x.s))).setCell ⟨g,9,none⟩ (.int .i64 el.op)).setCell ⟨g,10,none⟩ (.slice al el.args.length cl)).heap[g]?=some (.cells #[.int .i64 3,.string ⟨#[]⟩,.slice none 0 0,.int .i64 (opn:Nat),.int .i64 el.k,.string el.v,.int .i64 el.x.k,.int .i64 el.x.n,.string (Lx.ofS el.x.s),.int .i64 el.op,.slice al el.args.length cl,.int .i64 0,.string ⟨#[]⟩,.int .i64 0,.int .i64 0,.string ⟨#[]⟩,.int .i64 0,.slice none 0 0,.int .i64 0,.string ⟨#[]⟩,.int .i64 0,.string ⟨#[]⟩,.int .i64 0,.int .i64 0,.string ⟨#[]⟩,.int .i64 0,.slice none 0 0,.slice none 0 0,.int .i64 (t.line:Nat),.int .i64 (t.col:Nat)] 50 (0,0))):=Hxq (setCs_heap [.int .i64 el.k,.string el.v,.int .i64 el.x.k,.int .i64 el.x.n,.string (Lx.ofS el.x.s),.int .i64 el.op,.slice al el.args.length cl] 4 [.int .i64 3,.string ⟨#[]⟩,.slice none 0 0,.int .i64 (opn:Nat),.int .i64 0,.string ⟨#[]⟩,.int .i64 0,.int .i64 0,.string ⟨#[]⟩,.int .i64 0,.slice none 0 0,.int .i64 0,.string ⟨#[]⟩,.int .i64 0,.int .i64 0,.string ⟨#[]⟩,.int .i64 0,.slice none 0 0,.int .i64 0,.string ⟨#[]⟩,.int .i64 0,.string ⟨#[]⟩,.int .i64 0,.int .i64 0,.string ⟨#[]⟩,.int .i64 0,.slice none 0 0,.slice none 0 0,.int .i64 (t.line:Nat),.int .i64 (t.col:Nat)] w61 G61.out)
         have H62:=Hxq (H61.out.new HLo.out mS (by simp;omega));have A62:=Hxq (mS.at A61.out (by simp;omega));have T62:=Hxq (mS.at T61.out (by simp;omega));have M62:=Hxq (M61.out.trans mS (by simp;omega))
         have L62:=Hxq (L61.out.keep mS (fun s hs=>by rw [Msq] at hs;omega))
         have k0:w61.cell? ⟨g,4,none⟩=some (.int .i64 0):=cell_at G61.out 4
         have k1:w61.cell? ⟨g,5,none⟩=some (.string ⟨#[]⟩):=cell_at G61.out 5
         have k2:w61.cell? ⟨g,6,none⟩=some (.int .i64 0):=cell_at G61.out 6
         have k3:w61.cell? ⟨g,7,none⟩=some (.int .i64 0):=cell_at G61.out 7
         have k4:w61.cell? ⟨g,8,none⟩=some (.string ⟨#[]⟩):=cell_at G61.out 8
         have k5:w61.cell? ⟨g,9,none⟩=some (.int .i64 0):=cell_at G61.out 9
         have k6:w61.cell? ⟨g,10,none⟩=some (.slice none 0 0):=cell_at G61.out 10
         have fg:∀ j,w61.frozen? ⟨g,j,none⟩=false:=fun j=>free_at G61.out j
         have E62:=Hxq (mS.at E61.out (by simp;omega))
         clear mS
         go_upto_region 30 with fail
         generalize (((((((w61.setCell ⟨g,4,none⟩ (.int .i64 el.k)).setCell ⟨g,5,none⟩ (.string el.v)).setCell ⟨g,6,none⟩ (.int .i64 el.x.k)).setCell ⟨g,7,none⟩ (.int .i64 el.x.n)).setCell ⟨g,8,none⟩ (.string (Lx.ofS el.x.s))).setCell ⟨g,9,none⟩ (.int .i64 el.op)).setCell ⟨g,10,none⟩ (.slice al el.args.length cl))=w62 at *
         clear k0 k1 k2 k3 k4 k5 k6 fg A61 G61 T61 M61 H61
         clear d0 d1 d2 d3 d4 d5 d6
         obtain ⟨d0,d1,d2,d3,d4,d5,d6⟩:=cells7 E62.out
         have mS:Mod [g] w62 (((((((w62.setCell ⟨g,11,none⟩ (.int .i64 0)).setCell ⟨g,12,none⟩ (.string ⟨#[]⟩)).setCell ⟨g,13,none⟩ (.int .i64 0)).setCell ⟨g,14,none⟩ (.int .i64 0)).setCell ⟨g,15,none⟩ (.string ⟨#[]⟩)).setCell ⟨g,16,none⟩ (.int .i64 0)).setCell ⟨g,17,none⟩ (.slice none 0 0)):=setCs_mod g [.int .i64 0,.string ⟨#[]⟩,.int .i64 0,.int .i64 0,.string ⟨#[]⟩,.int .i64 0,.slice none 0 0] 11 w62
         have G63:Hid ((((((((w62.setCell ⟨g,11,none⟩ (.int .i64 0)).setCell ⟨g,12,none⟩ (.string ⟨#[]⟩)).setCell ⟨g,13,none⟩ (.int .i64 0)).setCell ⟨g,14,none⟩ (.int .i64 0)).setCell ⟨g,15,none⟩ (.string ⟨#[]⟩)).setCell ⟨g,16,none⟩ (.int .i64 0)).setCell ⟨g,17,none⟩ (.slice none 0 0)).heap[g]?=some (.cells #[.int .i64 3,.string ⟨#[]⟩,.slice none 0 0,.int .i64 (opn:Nat),.int .i64 el.k,.string el.v,.int .i64 el.x.k,.int .i64 el.x.n,.string (Lx.ofS el.x.s),.int .i64 el.op,.slice al el.args.length cl,.int .i64 0,.string ⟨#[]⟩,.int .i64 0,.int .i64 0,.string ⟨#[]⟩,.int .i64 0,.slice none 0 0,.int .i64 0,.string ⟨#[]⟩,.int .i64 0,.string ⟨#[]⟩,.int .i64 0,.int .i64 0,.string ⟨#[]⟩,.int .i64 0,.slice none 0 0,.slice none 0 0,.int .i64 (t.line:Nat),.int .i64 (t.col:Nat)] 50 (0,0))):=Hxq (setCs_heap [.int .i64 0,.string ⟨#[]⟩,.int .i64 0,.int .i64 0,.string ⟨#[]⟩,.int .i64 0,.slice none 0 0] 11 [.int .i64 3,.string ⟨#[]⟩,.slice none 0 0,.int .i64 (opn:Nat),.int .i64 el.k,.string el.v,.int .i64 el.x.k,.int .i64 el.x.n,.string (Lx.ofS el.x.s),.int .i64 el.op,.slice al el.args.length cl,.int .i64 0,.string ⟨#[]⟩,.int .i64 0,.int .i64 0,.string ⟨#[]⟩,.int .i64 0,.slice none 0 0,.int .i64 0,.string ⟨#[]⟩,.int .i64 0,.string ⟨#[]⟩,.int .i64 0,.int .i64 0,.string ⟨#[]⟩,.int .i64 0,.slice none 0 0,.slice none 0 0,.int .i64 (t.line:Nat),.int .i64 (t.col:Nat)] w62 G62.out)
         have H63:=Hxq (H62.out.new HLo.out mS (by simp;omega));have A63:=Hxq (mS.at A62.out (by simp;omega));have T63:=Hxq (mS.at T62.out (by simp;omega));have M63:=Hxq (M62.out.trans mS (by simp;omega))
         have L63:=Hxq (L62.out.keep mS (fun s hs=>by rw [Msq] at hs;omega))
         have k0:w62.cell? ⟨g,11,none⟩=some (.int .i64 0):=cell_at G62.out 11
         have k1:w62.cell? ⟨g,12,none⟩=some (.string ⟨#[]⟩):=cell_at G62.out 12
         have k2:w62.cell? ⟨g,13,none⟩=some (.int .i64 0):=cell_at G62.out 13
         have k3:w62.cell? ⟨g,14,none⟩=some (.int .i64 0):=cell_at G62.out 14
         have k4:w62.cell? ⟨g,15,none⟩=some (.string ⟨#[]⟩):=cell_at G62.out 15
         have k5:w62.cell? ⟨g,16,none⟩=some (.int .i64 0):=cell_at G62.out 16
         have k6:w62.cell? ⟨g,17,none⟩=some (.slice none 0 0):=cell_at G62.out 17
         have fg:∀ j,w62.frozen? ⟨g,j,none⟩=false:=fun j=>free_at G62.out j
         clear mS
         go_upto_region 31 with fail
         generalize (((((((w62.setCell ⟨g,11,none⟩ (.int .i64 0)).setCell ⟨g,12,none⟩ (.string ⟨#[]⟩)).setCell ⟨g,13,none⟩ (.int .i64 0)).setCell ⟨g,14,none⟩ (.int .i64 0)).setCell ⟨g,15,none⟩ (.string ⟨#[]⟩)).setCell ⟨g,16,none⟩ (.int .i64 0)).setCell ⟨g,17,none⟩ (.slice none 0 0))=w63 at *
         clear k0 k1 k2 k3 k4 k5 k6 fg A62 G62 T62 M62 H62
         clear d0 d1 d2 d3 d4 d5 d6
         go_wp2_with (first | refine wpList_load_row rfl 50 _ rfl g #[.int .i64 3,.string ⟨#[]⟩,.slice none 0 0,.int .i64 (opn:Nat),.int .i64 el.k,.string el.v,.int .i64 el.x.k,.int .i64 el.x.n,.string (Lx.ofS el.x.s),.int .i64 el.op,.slice al el.args.length cl,.int .i64 0,.string ⟨#[]⟩,.int .i64 0,.int .i64 0,.string ⟨#[]⟩,.int .i64 0,.slice none 0 0,.int .i64 0,.string ⟨#[]⟩,.int .i64 0,.string ⟨#[]⟩,.int .i64 0,.int .i64 0,.string ⟨#[]⟩,.int .i64 0,.slice none 0 0,.slice none 0 0,.int .i64 (t.line:Nat),.int .i64 (t.col:Nat)] 50 (0,0) rfl G63.out _ Tryz.underlying50 rfl Tryz.sizeLit ?_ | refine wpList_store_at rfl 50 _ _ rfl w.heap.size #[.int .i64 3,.string ⟨#[]⟩,.slice none 0 0,.int .i64 (opn:Nat),.int .i64 el.k,.string el.v,.int .i64 el.x.k,.int .i64 el.x.n,.string (Lx.ofS el.x.s),.int .i64 el.op,.slice al el.args.length cl,.int .i64 0,.string ⟨#[]⟩,.int .i64 0,.int .i64 0,.string ⟨#[]⟩,.int .i64 0,.slice none 0 0,.int .i64 0,.string ⟨#[]⟩,.int .i64 0,.string ⟨#[]⟩,.int .i64 0,.int .i64 0,.string ⟨#[]⟩,.int .i64 0,.slice none 0 0,.slice none 0 0,.int .i64 (t.line:Nat),.int .i64 (t.col:Nat)] #[Value.int .i64 0,Value.string ⟨#[]⟩,Value.slice none 0 0,Value.int .i64 0,Value.int .i64 0,Value.string ⟨#[]⟩,Value.int .i64 0,Value.int .i64 0,Value.string ⟨#[]⟩,Value.int .i64 0,Value.slice none 0 0,Value.int .i64 0,Value.string ⟨#[]⟩,Value.int .i64 0,Value.int .i64 0,Value.string ⟨#[]⟩,Value.int .i64 0,Value.slice none 0 0,Value.int .i64 0,Value.string ⟨#[]⟩,Value.int .i64 0,Value.string ⟨#[]⟩,Value.int .i64 0,Value.int .i64 0,Value.string ⟨#[]⟩,Value.int .i64 0,Value.slice none 0 0,Value.slice none 0 0,Value.int .i64 0,Value.int .i64 0] 50 rfl rfl A63.out Tryz.sizeLit rfl rfl ?_)
         have mR:=Mod.setRow w63 w.heap.size #[.int .i64 3,.string ⟨#[]⟩,.slice none 0 0,.int .i64 (opn:Nat),.int .i64 el.k,.string el.v,.int .i64 el.x.k,.int .i64 el.x.n,.string (Lx.ofS el.x.s),.int .i64 el.op,.slice al el.args.length cl,.int .i64 0,.string ⟨#[]⟩,.int .i64 0,.int .i64 0,.string ⟨#[]⟩,.int .i64 0,.slice none 0 0,.int .i64 0,.string ⟨#[]⟩,.int .i64 0,.string ⟨#[]⟩,.int .i64 0,.int .i64 0,.string ⟨#[]⟩,.int .i64 0,.slice none 0 0,.slice none 0 0,.int .i64 (t.line:Nat),.int .i64 (t.col:Nat)]
         have hRow:=setRow_heap w63 w.heap.size _ #[.int .i64 3,.string ⟨#[]⟩,.slice none 0 0,.int .i64 (opn:Nat),.int .i64 el.k,.string el.v,.int .i64 el.x.k,.int .i64 el.x.n,.string (Lx.ofS el.x.s),.int .i64 el.op,.slice al el.args.length cl,.int .i64 0,.string ⟨#[]⟩,.int .i64 0,.int .i64 0,.string ⟨#[]⟩,.int .i64 0,.slice none 0 0,.int .i64 0,.string ⟨#[]⟩,.int .i64 0,.string ⟨#[]⟩,.int .i64 0,.int .i64 0,.string ⟨#[]⟩,.int .i64 0,.slice none 0 0,.slice none 0 0,.int .i64 (t.line:Nat),.int .i64 (t.col:Nat)] _ _ A63.out
         refine bodyPost_ret (res_ct rfl _ _ _ _ _ rfl rfl (load_lit hRow rfl)) rfl ⟨_,rfl,⟨_,rfl,rfl,rfl⟩,⟨jj,H63.out.new HLo.out mR (by simp)⟩,M63.out.trans mR (by simp)⟩
        | ok er n1 =>
         have hq:q=.ok (.mk 3 Sy.at0 (opn:Nat) el er 0 (Sy.txt []) Sy.ex0 [] (t.line:Nat) (t.col:Nat)) n1:=HQ2.out
         subst hq
         clear HQ2
         go_wp2_with fail
         refine HE.out.mono ?_
         rintro e58 w58 ⟨x58,rfl,⟨u58,rfl,hb58⟩,h58,m58⟩
         obtain ⟨ar,cr,rfl⟩:=hb58.lit
         have z58:=m58.size
         have zz58:=lt_of_block G57.out
         have A58:=Hxq (m58.at A57.out hnb);have G58:=Hxq (m58.at G57.out hgb);have T58:=Hxq (m58.at T57.out htb);have M58:=Hxq (M57.out.trans m58 (by simp));have H58:=Lib.hid h58
         have L58:=Hxq (L57.out.keep m58 (fun s hs=>by rw [Msq] at hs;omega));have D58:=Hxq (m58.at D57.out hzb);have R58:=Hxq (hb58.mono (F':=(fun k=>w.heap.size<k/\k≠g/\k≠tb)) (fun k hk hk2=>by omega))
         clear h58 m58 hb58
         have m59:=(Mod.refl [] w58).alloc (Obj.cells (exV er (.slice ar er.args.length cr)) 45)
         have E59:=Hxq (heap_alloc_new w58 (Obj.cells (exV er (.slice ar er.args.length cr)) 45))
         have L59:=Hxq (L58.out.keep m59 (by simp));have D59:=Hxq (m59.at D58.out (by simp));have R59:=Hxq (R58.out.keep m59 (by simp))
         unfold exV at *
         simp only at *
         have A59:=Hxq (m59.at A58.out (by simp));have G59:=Hxq (m59.at G58.out (by simp));have T59:=Hxq (m59.at T58.out (by simp));have M59:=Hxq (M58.out.trans m59 (by simp));have H59:=Hxq (H58.out.past m59 (by simp))
         clear m59 A58 G58 T58 M58 H58
         go_upto_region 27 with fail
         generalize w58.alloc (Obj.cells _ 45)=w59 at *
         have mS:Mod [g] w59 (w59.setCell ⟨g,0,none⟩ (.int .i64 3)):=setCs_mod g [.int .i64 3] 0 w59
         have G60:Hid ((w59.setCell ⟨g,0,none⟩ (.int .i64 3)).heap[g]?=some (.cells #[.int .i64 3,.string ⟨#[]⟩,.slice none 0 0,.int .i64 0,.int .i64 0,.string ⟨#[]⟩,.int .i64 0,.int .i64 0,.string ⟨#[]⟩,.int .i64 0,.slice none 0 0,.int .i64 0,.string ⟨#[]⟩,.int .i64 0,.int .i64 0,.string ⟨#[]⟩,.int .i64 0,.slice none 0 0,.int .i64 0,.string ⟨#[]⟩,.int .i64 0,.string ⟨#[]⟩,.int .i64 0,.int .i64 0,.string ⟨#[]⟩,.int .i64 0,.slice none 0 0,.slice none 0 0,.int .i64 (t.line:Nat),.int .i64 (t.col:Nat)] 50 (0,0))):=Hxq (setCs_heap [.int .i64 3] 0 [.int .i64 0,.string ⟨#[]⟩,.slice none 0 0,.int .i64 0,.int .i64 0,.string ⟨#[]⟩,.int .i64 0,.int .i64 0,.string ⟨#[]⟩,.int .i64 0,.slice none 0 0,.int .i64 0,.string ⟨#[]⟩,.int .i64 0,.int .i64 0,.string ⟨#[]⟩,.int .i64 0,.slice none 0 0,.int .i64 0,.string ⟨#[]⟩,.int .i64 0,.string ⟨#[]⟩,.int .i64 0,.int .i64 0,.string ⟨#[]⟩,.int .i64 0,.slice none 0 0,.slice none 0 0,.int .i64 (t.line:Nat),.int .i64 (t.col:Nat)] w59 G59.out)
         have H60:=Hxq (H59.out.new HLo.out mS (by simp;omega));have A60:=Hxq (mS.at A59.out (by simp;omega));have T60:=Hxq (mS.at T59.out (by simp;omega));have M60:=Hxq (M59.out.trans mS (by simp;omega))
         have L60:=Hxq (L59.out.keep mS (fun s hs=>by rw [Msq] at hs;omega))
         have R60:=Hxq (R59.out.keep mS (fun s hs=>by rw [Msq] at hs;omega))
         have k0:w59.cell? ⟨g,0,none⟩=some (.int .i64 0):=cell_at G59.out 0
         have fg:∀ j,w59.frozen? ⟨g,j,none⟩=false:=fun j=>free_at G59.out j
         have D60:=Hxq (mS.at D59.out (by simp;omega));have E60:=Hxq (mS.at E59.out (by simp;omega))
         clear mS
         go_upto_region 28 with fail
         generalize (w59.setCell ⟨g,0,none⟩ (.int .i64 3))=w60 at *
         clear k0 fg A59 G59 T59 M59 H59
         have mS:Mod [g] w60 (w60.setCell ⟨g,3,none⟩ (.int .i64 (opn:Nat))):=setCs_mod g [.int .i64 (opn:Nat)] 3 w60
         have G61:Hid ((w60.setCell ⟨g,3,none⟩ (.int .i64 (opn:Nat))).heap[g]?=some (.cells #[.int .i64 3,.string ⟨#[]⟩,.slice none 0 0,.int .i64 (opn:Nat),.int .i64 0,.string ⟨#[]⟩,.int .i64 0,.int .i64 0,.string ⟨#[]⟩,.int .i64 0,.slice none 0 0,.int .i64 0,.string ⟨#[]⟩,.int .i64 0,.int .i64 0,.string ⟨#[]⟩,.int .i64 0,.slice none 0 0,.int .i64 0,.string ⟨#[]⟩,.int .i64 0,.string ⟨#[]⟩,.int .i64 0,.int .i64 0,.string ⟨#[]⟩,.int .i64 0,.slice none 0 0,.slice none 0 0,.int .i64 (t.line:Nat),.int .i64 (t.col:Nat)] 50 (0,0))):=Hxq (setCs_heap [.int .i64 (opn:Nat)] 3 [.int .i64 3,.string ⟨#[]⟩,.slice none 0 0,.int .i64 0,.int .i64 0,.string ⟨#[]⟩,.int .i64 0,.int .i64 0,.string ⟨#[]⟩,.int .i64 0,.slice none 0 0,.int .i64 0,.string ⟨#[]⟩,.int .i64 0,.int .i64 0,.string ⟨#[]⟩,.int .i64 0,.slice none 0 0,.int .i64 0,.string ⟨#[]⟩,.int .i64 0,.string ⟨#[]⟩,.int .i64 0,.int .i64 0,.string ⟨#[]⟩,.int .i64 0,.slice none 0 0,.slice none 0 0,.int .i64 (t.line:Nat),.int .i64 (t.col:Nat)] w60 G60.out)
         have H61:=Hxq (H60.out.new HLo.out mS (by simp;omega));have A61:=Hxq (mS.at A60.out (by simp;omega));have T61:=Hxq (mS.at T60.out (by simp;omega));have M61:=Hxq (M60.out.trans mS (by simp;omega))
         have L61:=Hxq (L60.out.keep mS (fun s hs=>by rw [Msq] at hs;omega))
         have R61:=Hxq (R60.out.keep mS (fun s hs=>by rw [Msq] at hs;omega))
         have k0:w60.cell? ⟨g,3,none⟩=some (.int .i64 0):=cell_at G60.out 3
         have fg:∀ j,w60.frozen? ⟨g,j,none⟩=false:=fun j=>free_at G60.out j
         have D61:=Hxq (mS.at D60.out (by simp;omega));have E61:=Hxq (mS.at E60.out (by simp;omega))
         clear mS
         go_upto_region 29 with fail
         generalize (w60.setCell ⟨g,3,none⟩ (.int .i64 (opn:Nat)))=w61 at *
         clear k0 fg A60 G60 T60 M60 H60
         obtain ⟨d0,d1,d2,d3,d4,d5,d6⟩:=cells7 D61.out
         have mS:Mod [g] w61 (((((((w61.setCell ⟨g,4,none⟩ (.int .i64 el.k)).setCell ⟨g,5,none⟩ (.string el.v)).setCell ⟨g,6,none⟩ (.int .i64 el.x.k)).setCell ⟨g,7,none⟩ (.int .i64 el.x.n)).setCell ⟨g,8,none⟩ (.string (Lx.ofS el.x.s))).setCell ⟨g,9,none⟩ (.int .i64 el.op)).setCell ⟨g,10,none⟩ (.slice al el.args.length cl)):=setCs_mod g [.int .i64 el.k,.string el.v,.int .i64 el.x.k,.int .i64 el.x.n,.string (Lx.ofS el.x.s),.int .i64 el.op,.slice al el.args.length cl] 4 w61
         have G62:Hid ((((((((w61.setCell ⟨g,4,none⟩ (.int .i64 el.k)).setCell ⟨g,5,none⟩ (.string el.v)).setCell ⟨g,6,none⟩ (.int .i64 el.x.k)).setCell ⟨g,7,none⟩ (.int .i64 el.x.n)).setCell ⟨g,8,none⟩ (.string (Lx.ofS el.x.s))).setCell ⟨g,9,none⟩ (.int .i64 el.op)).setCell ⟨g,10,none⟩ (.slice al el.args.length cl)).heap[g]?=some (.cells #[.int .i64 3,.string ⟨#[]⟩,.slice none 0 0,.int .i64 (opn:Nat),.int .i64 el.k,.string el.v,.int .i64 el.x.k,.int .i64 el.x.n,.string (Lx.ofS el.x.s),.int .i64 el.op,.slice al el.args.length cl,.int .i64 0,.string ⟨#[]⟩,.int .i64 0,.int .i64 0,.string ⟨#[]⟩,.int .i64 0,.slice none 0 0,.int .i64 0,.string ⟨#[]⟩,.int .i64 0,.string ⟨#[]⟩,.int .i64 0,.int .i64 0,.string ⟨#[]⟩,.int .i64 0,.slice none 0 0,.slice none 0 0,.int .i64 (t.line:Nat),.int .i64 (t.col:Nat)] 50 (0,0))):=Hxq (setCs_heap [.int .i64 el.k,.string el.v,.int .i64 el.x.k,.int .i64 el.x.n,.string (Lx.ofS el.x.s),.int .i64 el.op,.slice al el.args.length cl] 4 [.int .i64 3,.string ⟨#[]⟩,.slice none 0 0,.int .i64 (opn:Nat),.int .i64 0,.string ⟨#[]⟩,.int .i64 0,.int .i64 0,.string ⟨#[]⟩,.int .i64 0,.slice none 0 0,.int .i64 0,.string ⟨#[]⟩,.int .i64 0,.int .i64 0,.string ⟨#[]⟩,.int .i64 0,.slice none 0 0,.int .i64 0,.string ⟨#[]⟩,.int .i64 0,.string ⟨#[]⟩,.int .i64 0,.int .i64 0,.string ⟨#[]⟩,.int .i64 0,.slice none 0 0,.slice none 0 0,.int .i64 (t.line:Nat),.int .i64 (t.col:Nat)] w61 G61.out)
         have H62:=Hxq (H61.out.new HLo.out mS (by simp;omega));have A62:=Hxq (mS.at A61.out (by simp;omega));have T62:=Hxq (mS.at T61.out (by simp;omega));have M62:=Hxq (M61.out.trans mS (by simp;omega))
         have L62:=Hxq (L61.out.keep mS (fun s hs=>by rw [Msq] at hs;omega))
         have R62:=Hxq (R61.out.keep mS (fun s hs=>by rw [Msq] at hs;omega))
         have k0:w61.cell? ⟨g,4,none⟩=some (.int .i64 0):=cell_at G61.out 4
         have k1:w61.cell? ⟨g,5,none⟩=some (.string ⟨#[]⟩):=cell_at G61.out 5
         have k2:w61.cell? ⟨g,6,none⟩=some (.int .i64 0):=cell_at G61.out 6
         have k3:w61.cell? ⟨g,7,none⟩=some (.int .i64 0):=cell_at G61.out 7
         have k4:w61.cell? ⟨g,8,none⟩=some (.string ⟨#[]⟩):=cell_at G61.out 8
         have k5:w61.cell? ⟨g,9,none⟩=some (.int .i64 0):=cell_at G61.out 9
         have k6:w61.cell? ⟨g,10,none⟩=some (.slice none 0 0):=cell_at G61.out 10
         have fg:∀ j,w61.frozen? ⟨g,j,none⟩=false:=fun j=>free_at G61.out j
         have E62:=Hxq (mS.at E61.out (by simp;omega))
         clear mS
         go_upto_region 30 with fail
         generalize (((((((w61.setCell ⟨g,4,none⟩ (.int .i64 el.k)).setCell ⟨g,5,none⟩ (.string el.v)).setCell ⟨g,6,none⟩ (.int .i64 el.x.k)).setCell ⟨g,7,none⟩ (.int .i64 el.x.n)).setCell ⟨g,8,none⟩ (.string (Lx.ofS el.x.s))).setCell ⟨g,9,none⟩ (.int .i64 el.op)).setCell ⟨g,10,none⟩ (.slice al el.args.length cl))=w62 at *
         clear k0 k1 k2 k3 k4 k5 k6 fg A61 G61 T61 M61 H61
         clear d0 d1 d2 d3 d4 d5 d6
         obtain ⟨d0,d1,d2,d3,d4,d5,d6⟩:=cells7 E62.out
         have mS:Mod [g] w62 (((((((w62.setCell ⟨g,11,none⟩ (.int .i64 er.k)).setCell ⟨g,12,none⟩ (.string er.v)).setCell ⟨g,13,none⟩ (.int .i64 er.x.k)).setCell ⟨g,14,none⟩ (.int .i64 er.x.n)).setCell ⟨g,15,none⟩ (.string (Lx.ofS er.x.s))).setCell ⟨g,16,none⟩ (.int .i64 er.op)).setCell ⟨g,17,none⟩ (.slice ar er.args.length cr)):=setCs_mod g [.int .i64 er.k,.string er.v,.int .i64 er.x.k,.int .i64 er.x.n,.string (Lx.ofS er.x.s),.int .i64 er.op,.slice ar er.args.length cr] 11 w62
         have G63:Hid ((((((((w62.setCell ⟨g,11,none⟩ (.int .i64 er.k)).setCell ⟨g,12,none⟩ (.string er.v)).setCell ⟨g,13,none⟩ (.int .i64 er.x.k)).setCell ⟨g,14,none⟩ (.int .i64 er.x.n)).setCell ⟨g,15,none⟩ (.string (Lx.ofS er.x.s))).setCell ⟨g,16,none⟩ (.int .i64 er.op)).setCell ⟨g,17,none⟩ (.slice ar er.args.length cr)).heap[g]?=some (.cells #[.int .i64 3,.string ⟨#[]⟩,.slice none 0 0,.int .i64 (opn:Nat),.int .i64 el.k,.string el.v,.int .i64 el.x.k,.int .i64 el.x.n,.string (Lx.ofS el.x.s),.int .i64 el.op,.slice al el.args.length cl,.int .i64 er.k,.string er.v,.int .i64 er.x.k,.int .i64 er.x.n,.string (Lx.ofS er.x.s),.int .i64 er.op,.slice ar er.args.length cr,.int .i64 0,.string ⟨#[]⟩,.int .i64 0,.string ⟨#[]⟩,.int .i64 0,.int .i64 0,.string ⟨#[]⟩,.int .i64 0,.slice none 0 0,.slice none 0 0,.int .i64 (t.line:Nat),.int .i64 (t.col:Nat)] 50 (0,0))):=Hxq (setCs_heap [.int .i64 er.k,.string er.v,.int .i64 er.x.k,.int .i64 er.x.n,.string (Lx.ofS er.x.s),.int .i64 er.op,.slice ar er.args.length cr] 11 [.int .i64 3,.string ⟨#[]⟩,.slice none 0 0,.int .i64 (opn:Nat),.int .i64 el.k,.string el.v,.int .i64 el.x.k,.int .i64 el.x.n,.string (Lx.ofS el.x.s),.int .i64 el.op,.slice al el.args.length cl,.int .i64 0,.string ⟨#[]⟩,.int .i64 0,.int .i64 0,.string ⟨#[]⟩,.int .i64 0,.slice none 0 0,.int .i64 0,.string ⟨#[]⟩,.int .i64 0,.string ⟨#[]⟩,.int .i64 0,.int .i64 0,.string ⟨#[]⟩,.int .i64 0,.slice none 0 0,.slice none 0 0,.int .i64 (t.line:Nat),.int .i64 (t.col:Nat)] w62 G62.out)
         have H63:=Hxq (H62.out.new HLo.out mS (by simp;omega));have A63:=Hxq (mS.at A62.out (by simp;omega));have T63:=Hxq (mS.at T62.out (by simp;omega));have M63:=Hxq (M62.out.trans mS (by simp;omega))
         have L63:=Hxq (L62.out.keep mS (fun s hs=>by rw [Msq] at hs;omega))
         have R63:=Hxq (R62.out.keep mS (fun s hs=>by rw [Msq] at hs;omega))
         have k0:w62.cell? ⟨g,11,none⟩=some (.int .i64 0):=cell_at G62.out 11
         have k1:w62.cell? ⟨g,12,none⟩=some (.string ⟨#[]⟩):=cell_at G62.out 12
         have k2:w62.cell? ⟨g,13,none⟩=some (.int .i64 0):=cell_at G62.out 13
         have k3:w62.cell? ⟨g,14,none⟩=some (.int .i64 0):=cell_at G62.out 14
         have k4:w62.cell? ⟨g,15,none⟩=some (.string ⟨#[]⟩):=cell_at G62.out 15
         have k5:w62.cell? ⟨g,16,none⟩=some (.int .i64 0):=cell_at G62.out 16
         have k6:w62.cell? ⟨g,17,none⟩=some (.slice none 0 0):=cell_at G62.out 17
         have fg:∀ j,w62.frozen? ⟨g,j,none⟩=false:=fun j=>free_at G62.out j
         clear mS
         go_upto_region 31 with fail
         generalize (((((((w62.setCell ⟨g,11,none⟩ (.int .i64 er.k)).setCell ⟨g,12,none⟩ (.string er.v)).setCell ⟨g,13,none⟩ (.int .i64 er.x.k)).setCell ⟨g,14,none⟩ (.int .i64 er.x.n)).setCell ⟨g,15,none⟩ (.string (Lx.ofS er.x.s))).setCell ⟨g,16,none⟩ (.int .i64 er.op)).setCell ⟨g,17,none⟩ (.slice ar er.args.length cr))=w63 at *
         clear k0 k1 k2 k3 k4 k5 k6 fg A62 G62 T62 M62 H62
         clear d0 d1 d2 d3 d4 d5 d6
         go_wp2_with (first | refine wpList_load_row rfl 50 _ rfl g #[.int .i64 3,.string ⟨#[]⟩,.slice none 0 0,.int .i64 (opn:Nat),.int .i64 el.k,.string el.v,.int .i64 el.x.k,.int .i64 el.x.n,.string (Lx.ofS el.x.s),.int .i64 el.op,.slice al el.args.length cl,.int .i64 er.k,.string er.v,.int .i64 er.x.k,.int .i64 er.x.n,.string (Lx.ofS er.x.s),.int .i64 er.op,.slice ar er.args.length cr,.int .i64 0,.string ⟨#[]⟩,.int .i64 0,.string ⟨#[]⟩,.int .i64 0,.int .i64 0,.string ⟨#[]⟩,.int .i64 0,.slice none 0 0,.slice none 0 0,.int .i64 (t.line:Nat),.int .i64 (t.col:Nat)] 50 (0,0) rfl G63.out _ Tryz.underlying50 rfl Tryz.sizeLit ?_ | refine wpList_store_at rfl 50 _ _ rfl w.heap.size #[.int .i64 3,.string ⟨#[]⟩,.slice none 0 0,.int .i64 (opn:Nat),.int .i64 el.k,.string el.v,.int .i64 el.x.k,.int .i64 el.x.n,.string (Lx.ofS el.x.s),.int .i64 el.op,.slice al el.args.length cl,.int .i64 er.k,.string er.v,.int .i64 er.x.k,.int .i64 er.x.n,.string (Lx.ofS er.x.s),.int .i64 er.op,.slice ar er.args.length cr,.int .i64 0,.string ⟨#[]⟩,.int .i64 0,.string ⟨#[]⟩,.int .i64 0,.int .i64 0,.string ⟨#[]⟩,.int .i64 0,.slice none 0 0,.slice none 0 0,.int .i64 (t.line:Nat),.int .i64 (t.col:Nat)] #[Value.int .i64 0,Value.string ⟨#[]⟩,Value.slice none 0 0,Value.int .i64 0,Value.int .i64 0,Value.string ⟨#[]⟩,Value.int .i64 0,Value.int .i64 0,Value.string ⟨#[]⟩,Value.int .i64 0,Value.slice none 0 0,Value.int .i64 0,Value.string ⟨#[]⟩,Value.int .i64 0,Value.int .i64 0,Value.string ⟨#[]⟩,Value.int .i64 0,Value.slice none 0 0,Value.int .i64 0,Value.string ⟨#[]⟩,Value.int .i64 0,Value.string ⟨#[]⟩,Value.int .i64 0,Value.int .i64 0,Value.string ⟨#[]⟩,Value.int .i64 0,Value.slice none 0 0,Value.slice none 0 0,Value.int .i64 0,Value.int .i64 0] 50 rfl rfl A63.out Tryz.sizeLit rfl rfl ?_)
         have mR:=Mod.setRow w63 w.heap.size #[.int .i64 3,.string ⟨#[]⟩,.slice none 0 0,.int .i64 (opn:Nat),.int .i64 el.k,.string el.v,.int .i64 el.x.k,.int .i64 el.x.n,.string (Lx.ofS el.x.s),.int .i64 el.op,.slice al el.args.length cl,.int .i64 er.k,.string er.v,.int .i64 er.x.k,.int .i64 er.x.n,.string (Lx.ofS er.x.s),.int .i64 er.op,.slice ar er.args.length cr,.int .i64 0,.string ⟨#[]⟩,.int .i64 0,.string ⟨#[]⟩,.int .i64 0,.int .i64 0,.string ⟨#[]⟩,.int .i64 0,.slice none 0 0,.slice none 0 0,.int .i64 (t.line:Nat),.int .i64 (t.col:Nat)]
         have hRow:=setRow_heap w63 w.heap.size _ #[.int .i64 3,.string ⟨#[]⟩,.slice none 0 0,.int .i64 (opn:Nat),.int .i64 el.k,.string el.v,.int .i64 el.x.k,.int .i64 el.x.n,.string (Lx.ofS el.x.s),.int .i64 el.op,.slice al el.args.length cl,.int .i64 er.k,.string er.v,.int .i64 er.x.k,.int .i64 er.x.n,.string (Lx.ofS er.x.s),.int .i64 er.op,.slice ar er.args.length cr,.int .i64 0,.string ⟨#[]⟩,.int .i64 0,.string ⟨#[]⟩,.int .i64 0,.int .i64 0,.string ⟨#[]⟩,.int .i64 0,.slice none 0 0,.slice none 0 0,.int .i64 (t.line:Nat),.int .i64 (t.col:Nat)] _ _ A63.out
         have hLB:LB (fun k=>w.heap.size<k/\k≠g/\k≠tb) w63 (.mk 3 Sy.at0 (opn:Nat) el er 0 (Sy.txt []) Sy.ex0 [] (t.line:Nat) (t.col:Nat)) ⟨.slice none 0 0,.slice al el.args.length cl,.slice ar er.args.length cr,.slice none 0 0,.slice none 0 0⟩:=LB.of .nil L63.out R63.out .nil BB.nil
         refine bodyPost_ret (res_ct rfl _ _ _ _ _ rfl rfl (load_lit hRow rfl)) rfl ⟨_,rfl,⟨⟨.slice none 0 0,.slice al el.args.length cl,.slice ar er.args.length cr,.slice none 0 0,.slice none 0 0⟩,rfl,(hLB.keep mR (fun s hs=>by rw [Msq] at hs;omega)).mono (fun k hk _=>by omega)⟩,H63.out.new HLo.out mR (by simp),M63.out.trans mR (by simp)⟩
     ·have HQ:Hid (q=(Sy.aggOf v (Sy.litF v k (br+1)) br i).bind fun g j=>.ok (.mk 4 Sy.at0 0 Sy.ex0 Sy.ex0 g.fn g.av g.of g.body t.line t.col) j):=Lib.hid HR3.out
      have hil:=HFL.out (hrg rfl)
      clear HR3 hrg HFL
      have HAg:=Hxq (hAg i w8 H8.out (by omega))
      generalize Sy.aggOf v (Sy.litF v k (br+1)) br i=pa at *
      cases pa with
      | err g1 =>
       have hq:q=.err g1:=HQ.out
       subst hq
       clear HQ
       go_wp2_with fail
       refine HAg.out.mono ?_
       rintro e40 w40 ⟨x40,rfl,⟨ga,ao,no,co,ub,nb,cb,rfl⟩,⟨jj,h40⟩,m40⟩
       have z40:=m40.size
       have zz40:=lt_of_block G8.out
       have A40:=Hxq (m40.at A8.out hnb);have G40:=Hxq (m40.at G8.out hgb);have T40:=Hxq (m40.at T8.out htb);have M40:=Hxq (M8.out.trans m40 (by simp));have H40:=Lib.hid h40
       clear h40 m40
       have m41:=(Mod.refl [] w40).alloc (Obj.cells #[.int .i64 ga.fn,.string ga.av,.int .i64 ga.of.k,.string ga.of.v,.int .i64 ga.of.x.k,.int .i64 ga.of.x.n,.string (Lx.ofS ga.of.x.s),.int .i64 ga.of.op,.slice ao no co,.slice ub nb cb] 48)
       have D41:=Hxq (heap_alloc_new w40 (Obj.cells #[.int .i64 ga.fn,.string ga.av,.int .i64 ga.of.k,.string ga.of.v,.int .i64 ga.of.x.k,.int .i64 ga.of.x.n,.string (Lx.ofS ga.of.x.s),.int .i64 ga.of.op,.slice ao no co,.slice ub nb cb] 48))
       unfold agV at *
       simp only at *
       have A41:=Hxq (m41.at A40.out (by simp));have G41:=Hxq (m41.at G40.out (by simp));have T41:=Hxq (m41.at T40.out (by simp));have M41:=Hxq (M40.out.trans m41 (by simp));have H41:=Hxq (H40.out.past m41 (by simp))
       clear m41 A40 G40 T40 M40 H40
       go_upto_region 16 with fail
       generalize w40.alloc (Obj.cells _ 48)=w41 at *
       have mS:Mod [g] w41 (w41.setCell ⟨g,0,none⟩ (.int .i64 4)):=setCs_mod g [.int .i64 4] 0 w41
       have G42:Hid ((w41.setCell ⟨g,0,none⟩ (.int .i64 4)).heap[g]?=some (.cells #[.int .i64 4,.string ⟨#[]⟩,.slice none 0 0,.int .i64 0,.int .i64 0,.string ⟨#[]⟩,.int .i64 0,.int .i64 0,.string ⟨#[]⟩,.int .i64 0,.slice none 0 0,.int .i64 0,.string ⟨#[]⟩,.int .i64 0,.int .i64 0,.string ⟨#[]⟩,.int .i64 0,.slice none 0 0,.int .i64 0,.string ⟨#[]⟩,.int .i64 0,.string ⟨#[]⟩,.int .i64 0,.int .i64 0,.string ⟨#[]⟩,.int .i64 0,.slice none 0 0,.slice none 0 0,.int .i64 (t.line:Nat),.int .i64 (t.col:Nat)] 50 (0,0))):=Hxq (setCs_heap [.int .i64 4] 0 [.int .i64 0,.string ⟨#[]⟩,.slice none 0 0,.int .i64 0,.int .i64 0,.string ⟨#[]⟩,.int .i64 0,.int .i64 0,.string ⟨#[]⟩,.int .i64 0,.slice none 0 0,.int .i64 0,.string ⟨#[]⟩,.int .i64 0,.int .i64 0,.string ⟨#[]⟩,.int .i64 0,.slice none 0 0,.int .i64 0,.string ⟨#[]⟩,.int .i64 0,.string ⟨#[]⟩,.int .i64 0,.int .i64 0,.string ⟨#[]⟩,.int .i64 0,.slice none 0 0,.slice none 0 0,.int .i64 (t.line:Nat),.int .i64 (t.col:Nat)] w41 G41.out)
       have H42:=Hxq (H41.out.new HLo.out mS (by simp;omega));have A42:=Hxq (mS.at A41.out (by simp;omega));have T42:=Hxq (mS.at T41.out (by simp;omega));have M42:=Hxq (M41.out.trans mS (by simp;omega))
       have k0:w41.cell? ⟨g,0,none⟩=some (.int .i64 0):=cell_at G41.out 0
       have fg:∀ j,w41.frozen? ⟨g,j,none⟩=false:=fun j=>free_at G41.out j
       have D42:=Hxq (mS.at D41.out (by simp;omega))
       clear mS
       go_upto_region 17 with fail
       generalize (w41.setCell ⟨g,0,none⟩ (.int .i64 4))=w42 at *
       clear k0 fg A41 G41 T41 M41 H41
       obtain ⟨d0,d1,d2,d3,d4,d5,d6,d7,d8,d9⟩:=cells10 D42.out
       have mS:Mod [g] w42 ((((((((((w42.setCell ⟨g,18,none⟩ (.int .i64 ga.fn)).setCell ⟨g,19,none⟩ (.string ga.av)).setCell ⟨g,20,none⟩ (.int .i64 ga.of.k)).setCell ⟨g,21,none⟩ (.string ga.of.v)).setCell ⟨g,22,none⟩ (.int .i64 ga.of.x.k)).setCell ⟨g,23,none⟩ (.int .i64 ga.of.x.n)).setCell ⟨g,24,none⟩ (.string (Lx.ofS ga.of.x.s))).setCell ⟨g,25,none⟩ (.int .i64 ga.of.op)).setCell ⟨g,26,none⟩ (.slice ao no co)).setCell ⟨g,27,none⟩ (.slice ub nb cb)):=setCs_mod g [.int .i64 ga.fn,.string ga.av,.int .i64 ga.of.k,.string ga.of.v,.int .i64 ga.of.x.k,.int .i64 ga.of.x.n,.string (Lx.ofS ga.of.x.s),.int .i64 ga.of.op,.slice ao no co,.slice ub nb cb] 18 w42
       have G43:Hid (((((((((((w42.setCell ⟨g,18,none⟩ (.int .i64 ga.fn)).setCell ⟨g,19,none⟩ (.string ga.av)).setCell ⟨g,20,none⟩ (.int .i64 ga.of.k)).setCell ⟨g,21,none⟩ (.string ga.of.v)).setCell ⟨g,22,none⟩ (.int .i64 ga.of.x.k)).setCell ⟨g,23,none⟩ (.int .i64 ga.of.x.n)).setCell ⟨g,24,none⟩ (.string (Lx.ofS ga.of.x.s))).setCell ⟨g,25,none⟩ (.int .i64 ga.of.op)).setCell ⟨g,26,none⟩ (.slice ao no co)).setCell ⟨g,27,none⟩ (.slice ub nb cb)).heap[g]?=some (.cells #[.int .i64 4,.string ⟨#[]⟩,.slice none 0 0,.int .i64 0,.int .i64 0,.string ⟨#[]⟩,.int .i64 0,.int .i64 0,.string ⟨#[]⟩,.int .i64 0,.slice none 0 0,.int .i64 0,.string ⟨#[]⟩,.int .i64 0,.int .i64 0,.string ⟨#[]⟩,.int .i64 0,.slice none 0 0,.int .i64 ga.fn,.string ga.av,.int .i64 ga.of.k,.string ga.of.v,.int .i64 ga.of.x.k,.int .i64 ga.of.x.n,.string (Lx.ofS ga.of.x.s),.int .i64 ga.of.op,.slice ao no co,.slice ub nb cb,.int .i64 (t.line:Nat),.int .i64 (t.col:Nat)] 50 (0,0))):=Hxq (setCs_heap [.int .i64 ga.fn,.string ga.av,.int .i64 ga.of.k,.string ga.of.v,.int .i64 ga.of.x.k,.int .i64 ga.of.x.n,.string (Lx.ofS ga.of.x.s),.int .i64 ga.of.op,.slice ao no co,.slice ub nb cb] 18 [.int .i64 4,.string ⟨#[]⟩,.slice none 0 0,.int .i64 0,.int .i64 0,.string ⟨#[]⟩,.int .i64 0,.int .i64 0,.string ⟨#[]⟩,.int .i64 0,.slice none 0 0,.int .i64 0,.string ⟨#[]⟩,.int .i64 0,.int .i64 0,.string ⟨#[]⟩,.int .i64 0,.slice none 0 0,.int .i64 0,.string ⟨#[]⟩,.int .i64 0,.string ⟨#[]⟩,.int .i64 0,.int .i64 0,.string ⟨#[]⟩,.int .i64 0,.slice none 0 0,.slice none 0 0,.int .i64 (t.line:Nat),.int .i64 (t.col:Nat)] w42 G42.out)
       have H43:=Hxq (H42.out.new HLo.out mS (by simp;omega));have A43:=Hxq (mS.at A42.out (by simp;omega));have T43:=Hxq (mS.at T42.out (by simp;omega));have M43:=Hxq (M42.out.trans mS (by simp;omega))
       have k0:w42.cell? ⟨g,18,none⟩=some (.int .i64 0):=cell_at G42.out 18
       have k1:w42.cell? ⟨g,19,none⟩=some (.string ⟨#[]⟩):=cell_at G42.out 19
       have k2:w42.cell? ⟨g,20,none⟩=some (.int .i64 0):=cell_at G42.out 20
       have k3:w42.cell? ⟨g,21,none⟩=some (.string ⟨#[]⟩):=cell_at G42.out 21
       have k4:w42.cell? ⟨g,22,none⟩=some (.int .i64 0):=cell_at G42.out 22
       have k5:w42.cell? ⟨g,23,none⟩=some (.int .i64 0):=cell_at G42.out 23
       have k6:w42.cell? ⟨g,24,none⟩=some (.string ⟨#[]⟩):=cell_at G42.out 24
       have k7:w42.cell? ⟨g,25,none⟩=some (.int .i64 0):=cell_at G42.out 25
       have k8:w42.cell? ⟨g,26,none⟩=some (.slice none 0 0):=cell_at G42.out 26
       have k9:w42.cell? ⟨g,27,none⟩=some (.slice none 0 0):=cell_at G42.out 27
       have fg:∀ j,w42.frozen? ⟨g,j,none⟩=false:=fun j=>free_at G42.out j
       clear mS
       go_upto_region 18 with fail
       generalize ((((((((((w42.setCell ⟨g,18,none⟩ (.int .i64 ga.fn)).setCell ⟨g,19,none⟩ (.string ga.av)).setCell ⟨g,20,none⟩ (.int .i64 ga.of.k)).setCell ⟨g,21,none⟩ (.string ga.of.v)).setCell ⟨g,22,none⟩ (.int .i64 ga.of.x.k)).setCell ⟨g,23,none⟩ (.int .i64 ga.of.x.n)).setCell ⟨g,24,none⟩ (.string (Lx.ofS ga.of.x.s))).setCell ⟨g,25,none⟩ (.int .i64 ga.of.op)).setCell ⟨g,26,none⟩ (.slice ao no co)).setCell ⟨g,27,none⟩ (.slice ub nb cb))=w43 at *
       clear k0 k1 k2 k3 k4 k5 k6 k7 k8 k9 fg A42 G42 T42 M42 H42
       clear d0 d1 d2 d3 d4 d5 d6 d7 d8 d9
       go_wp2_with (first | refine wpList_load_row rfl 50 _ rfl g #[.int .i64 4,.string ⟨#[]⟩,.slice none 0 0,.int .i64 0,.int .i64 0,.string ⟨#[]⟩,.int .i64 0,.int .i64 0,.string ⟨#[]⟩,.int .i64 0,.slice none 0 0,.int .i64 0,.string ⟨#[]⟩,.int .i64 0,.int .i64 0,.string ⟨#[]⟩,.int .i64 0,.slice none 0 0,.int .i64 ga.fn,.string ga.av,.int .i64 ga.of.k,.string ga.of.v,.int .i64 ga.of.x.k,.int .i64 ga.of.x.n,.string (Lx.ofS ga.of.x.s),.int .i64 ga.of.op,.slice ao no co,.slice ub nb cb,.int .i64 (t.line:Nat),.int .i64 (t.col:Nat)] 50 (0,0) rfl G43.out _ Tryz.underlying50 rfl Tryz.sizeLit ?_ | refine wpList_store_at rfl 50 _ _ rfl w.heap.size #[.int .i64 4,.string ⟨#[]⟩,.slice none 0 0,.int .i64 0,.int .i64 0,.string ⟨#[]⟩,.int .i64 0,.int .i64 0,.string ⟨#[]⟩,.int .i64 0,.slice none 0 0,.int .i64 0,.string ⟨#[]⟩,.int .i64 0,.int .i64 0,.string ⟨#[]⟩,.int .i64 0,.slice none 0 0,.int .i64 ga.fn,.string ga.av,.int .i64 ga.of.k,.string ga.of.v,.int .i64 ga.of.x.k,.int .i64 ga.of.x.n,.string (Lx.ofS ga.of.x.s),.int .i64 ga.of.op,.slice ao no co,.slice ub nb cb,.int .i64 (t.line:Nat),.int .i64 (t.col:Nat)] #[Value.int .i64 0,Value.string ⟨#[]⟩,Value.slice none 0 0,Value.int .i64 0,Value.int .i64 0,Value.string ⟨#[]⟩,Value.int .i64 0,Value.int .i64 0,Value.string ⟨#[]⟩,Value.int .i64 0,Value.slice none 0 0,Value.int .i64 0,Value.string ⟨#[]⟩,Value.int .i64 0,Value.int .i64 0,Value.string ⟨#[]⟩,Value.int .i64 0,Value.slice none 0 0,Value.int .i64 0,Value.string ⟨#[]⟩,Value.int .i64 0,Value.string ⟨#[]⟩,Value.int .i64 0,Value.int .i64 0,Value.string ⟨#[]⟩,Value.int .i64 0,Value.slice none 0 0,Value.slice none 0 0,Value.int .i64 0,Value.int .i64 0] 50 rfl rfl A43.out Tryz.sizeLit rfl rfl ?_)
       have mR:=Mod.setRow w43 w.heap.size #[.int .i64 4,.string ⟨#[]⟩,.slice none 0 0,.int .i64 0,.int .i64 0,.string ⟨#[]⟩,.int .i64 0,.int .i64 0,.string ⟨#[]⟩,.int .i64 0,.slice none 0 0,.int .i64 0,.string ⟨#[]⟩,.int .i64 0,.int .i64 0,.string ⟨#[]⟩,.int .i64 0,.slice none 0 0,.int .i64 ga.fn,.string ga.av,.int .i64 ga.of.k,.string ga.of.v,.int .i64 ga.of.x.k,.int .i64 ga.of.x.n,.string (Lx.ofS ga.of.x.s),.int .i64 ga.of.op,.slice ao no co,.slice ub nb cb,.int .i64 (t.line:Nat),.int .i64 (t.col:Nat)]
       have hRow:=setRow_heap w43 w.heap.size _ #[.int .i64 4,.string ⟨#[]⟩,.slice none 0 0,.int .i64 0,.int .i64 0,.string ⟨#[]⟩,.int .i64 0,.int .i64 0,.string ⟨#[]⟩,.int .i64 0,.slice none 0 0,.int .i64 0,.string ⟨#[]⟩,.int .i64 0,.int .i64 0,.string ⟨#[]⟩,.int .i64 0,.slice none 0 0,.int .i64 ga.fn,.string ga.av,.int .i64 ga.of.k,.string ga.of.v,.int .i64 ga.of.x.k,.int .i64 ga.of.x.n,.string (Lx.ofS ga.of.x.s),.int .i64 ga.of.op,.slice ao no co,.slice ub nb cb,.int .i64 (t.line:Nat),.int .i64 (t.col:Nat)] _ _ A43.out
       refine bodyPost_ret (res_ct rfl _ _ _ _ _ rfl rfl (load_lit hRow rfl)) rfl ⟨_,rfl,⟨_,rfl,rfl,rfl⟩,⟨jj,H43.out.new HLo.out mR (by simp)⟩,M43.out.trans mR (by simp)⟩
      | ok ga j =>
       have hq:q=.ok (.mk 4 Sy.at0 0 Sy.ex0 Sy.ex0 ga.fn ga.av ga.of ga.body (t.line:Nat) (t.col:Nat)) j:=HQ.out
       subst hq
       clear HQ
       go_wp2_with fail
       refine HAg.out.mono ?_
       rintro e40 w40 ⟨x40,rfl,⟨uo,ub0,rfl,ho40,hb40⟩,h40,m40⟩
       obtain ⟨ao,co,rfl⟩:=ho40.lit
       obtain ⟨ub,cb,rfl⟩:=hb40.lit
       have z40:=m40.size
       have zz40:=lt_of_block G8.out
       have A40:=Hxq (m40.at A8.out hnb);have G40:=Hxq (m40.at G8.out hgb);have T40:=Hxq (m40.at T8.out htb);have M40:=Hxq (M8.out.trans m40 (by simp));have H40:=Lib.hid h40
       have O40:=Hxq (ho40.mono (F':=(fun k=>w.heap.size<k/\k≠g/\k≠tb)) (fun k hk hk2=>by omega))
       have B40:=Hxq (hb40.mono (F':=(fun k=>w.heap.size<k/\k≠g/\k≠tb)) (fun k hk hk2=>by omega))
       clear h40 m40 hb40 ho40
       have m41:=(Mod.refl [] w40).alloc (Obj.cells #[.int .i64 ga.fn,.string ga.av,.int .i64 ga.of.k,.string ga.of.v,.int .i64 ga.of.x.k,.int .i64 ga.of.x.n,.string (Lx.ofS ga.of.x.s),.int .i64 ga.of.op,.slice ao ga.of.args.length co,.slice ub ga.body.length cb] 48)
       have D41:=Hxq (heap_alloc_new w40 (Obj.cells #[.int .i64 ga.fn,.string ga.av,.int .i64 ga.of.k,.string ga.of.v,.int .i64 ga.of.x.k,.int .i64 ga.of.x.n,.string (Lx.ofS ga.of.x.s),.int .i64 ga.of.op,.slice ao ga.of.args.length co,.slice ub ga.body.length cb] 48))
       have O41:=Hxq (O40.out.keep m41 (by simp));have B41:=Hxq (B40.out.keep m41 (by simp))
       unfold agV at *
       simp only at *
       have A41:=Hxq (m41.at A40.out (by simp));have G41:=Hxq (m41.at G40.out (by simp));have T41:=Hxq (m41.at T40.out (by simp));have M41:=Hxq (M40.out.trans m41 (by simp));have H41:=Hxq (H40.out.past m41 (by simp))
       clear m41 A40 G40 T40 M40 H40
       go_upto_region 16 with fail
       generalize w40.alloc (Obj.cells _ 48)=w41 at *
       have mS:Mod [g] w41 (w41.setCell ⟨g,0,none⟩ (.int .i64 4)):=setCs_mod g [.int .i64 4] 0 w41
       have G42:Hid ((w41.setCell ⟨g,0,none⟩ (.int .i64 4)).heap[g]?=some (.cells #[.int .i64 4,.string ⟨#[]⟩,.slice none 0 0,.int .i64 0,.int .i64 0,.string ⟨#[]⟩,.int .i64 0,.int .i64 0,.string ⟨#[]⟩,.int .i64 0,.slice none 0 0,.int .i64 0,.string ⟨#[]⟩,.int .i64 0,.int .i64 0,.string ⟨#[]⟩,.int .i64 0,.slice none 0 0,.int .i64 0,.string ⟨#[]⟩,.int .i64 0,.string ⟨#[]⟩,.int .i64 0,.int .i64 0,.string ⟨#[]⟩,.int .i64 0,.slice none 0 0,.slice none 0 0,.int .i64 (t.line:Nat),.int .i64 (t.col:Nat)] 50 (0,0))):=Hxq (setCs_heap [.int .i64 4] 0 [.int .i64 0,.string ⟨#[]⟩,.slice none 0 0,.int .i64 0,.int .i64 0,.string ⟨#[]⟩,.int .i64 0,.int .i64 0,.string ⟨#[]⟩,.int .i64 0,.slice none 0 0,.int .i64 0,.string ⟨#[]⟩,.int .i64 0,.int .i64 0,.string ⟨#[]⟩,.int .i64 0,.slice none 0 0,.int .i64 0,.string ⟨#[]⟩,.int .i64 0,.string ⟨#[]⟩,.int .i64 0,.int .i64 0,.string ⟨#[]⟩,.int .i64 0,.slice none 0 0,.slice none 0 0,.int .i64 (t.line:Nat),.int .i64 (t.col:Nat)] w41 G41.out)
       have H42:=Hxq (H41.out.new HLo.out mS (by simp;omega));have A42:=Hxq (mS.at A41.out (by simp;omega));have T42:=Hxq (mS.at T41.out (by simp;omega));have M42:=Hxq (M41.out.trans mS (by simp;omega))
       have O42:=Hxq (O41.out.keep mS (fun s hs=>by rw [Msq] at hs;omega))
       have B42:=Hxq (B41.out.keep mS (fun s hs=>by rw [Msq] at hs;omega))
       have k0:w41.cell? ⟨g,0,none⟩=some (.int .i64 0):=cell_at G41.out 0
       have fg:∀ j,w41.frozen? ⟨g,j,none⟩=false:=fun j=>free_at G41.out j
       have D42:=Hxq (mS.at D41.out (by simp;omega))
       clear mS
       go_upto_region 17 with fail
       generalize (w41.setCell ⟨g,0,none⟩ (.int .i64 4))=w42 at *
       clear k0 fg A41 G41 T41 M41 H41
       obtain ⟨d0,d1,d2,d3,d4,d5,d6,d7,d8,d9⟩:=cells10 D42.out
       have mS:Mod [g] w42 ((((((((((w42.setCell ⟨g,18,none⟩ (.int .i64 ga.fn)).setCell ⟨g,19,none⟩ (.string ga.av)).setCell ⟨g,20,none⟩ (.int .i64 ga.of.k)).setCell ⟨g,21,none⟩ (.string ga.of.v)).setCell ⟨g,22,none⟩ (.int .i64 ga.of.x.k)).setCell ⟨g,23,none⟩ (.int .i64 ga.of.x.n)).setCell ⟨g,24,none⟩ (.string (Lx.ofS ga.of.x.s))).setCell ⟨g,25,none⟩ (.int .i64 ga.of.op)).setCell ⟨g,26,none⟩ (.slice ao ga.of.args.length co)).setCell ⟨g,27,none⟩ (.slice ub ga.body.length cb)):=setCs_mod g [.int .i64 ga.fn,.string ga.av,.int .i64 ga.of.k,.string ga.of.v,.int .i64 ga.of.x.k,.int .i64 ga.of.x.n,.string (Lx.ofS ga.of.x.s),.int .i64 ga.of.op,.slice ao ga.of.args.length co,.slice ub ga.body.length cb] 18 w42
       have G43:Hid (((((((((((w42.setCell ⟨g,18,none⟩ (.int .i64 ga.fn)).setCell ⟨g,19,none⟩ (.string ga.av)).setCell ⟨g,20,none⟩ (.int .i64 ga.of.k)).setCell ⟨g,21,none⟩ (.string ga.of.v)).setCell ⟨g,22,none⟩ (.int .i64 ga.of.x.k)).setCell ⟨g,23,none⟩ (.int .i64 ga.of.x.n)).setCell ⟨g,24,none⟩ (.string (Lx.ofS ga.of.x.s))).setCell ⟨g,25,none⟩ (.int .i64 ga.of.op)).setCell ⟨g,26,none⟩ (.slice ao ga.of.args.length co)).setCell ⟨g,27,none⟩ (.slice ub ga.body.length cb)).heap[g]?=some (.cells #[.int .i64 4,.string ⟨#[]⟩,.slice none 0 0,.int .i64 0,.int .i64 0,.string ⟨#[]⟩,.int .i64 0,.int .i64 0,.string ⟨#[]⟩,.int .i64 0,.slice none 0 0,.int .i64 0,.string ⟨#[]⟩,.int .i64 0,.int .i64 0,.string ⟨#[]⟩,.int .i64 0,.slice none 0 0,.int .i64 ga.fn,.string ga.av,.int .i64 ga.of.k,.string ga.of.v,.int .i64 ga.of.x.k,.int .i64 ga.of.x.n,.string (Lx.ofS ga.of.x.s),.int .i64 ga.of.op,.slice ao ga.of.args.length co,.slice ub ga.body.length cb,.int .i64 (t.line:Nat),.int .i64 (t.col:Nat)] 50 (0,0))):=Hxq (setCs_heap [.int .i64 ga.fn,.string ga.av,.int .i64 ga.of.k,.string ga.of.v,.int .i64 ga.of.x.k,.int .i64 ga.of.x.n,.string (Lx.ofS ga.of.x.s),.int .i64 ga.of.op,.slice ao ga.of.args.length co,.slice ub ga.body.length cb] 18 [.int .i64 4,.string ⟨#[]⟩,.slice none 0 0,.int .i64 0,.int .i64 0,.string ⟨#[]⟩,.int .i64 0,.int .i64 0,.string ⟨#[]⟩,.int .i64 0,.slice none 0 0,.int .i64 0,.string ⟨#[]⟩,.int .i64 0,.int .i64 0,.string ⟨#[]⟩,.int .i64 0,.slice none 0 0,.int .i64 0,.string ⟨#[]⟩,.int .i64 0,.string ⟨#[]⟩,.int .i64 0,.int .i64 0,.string ⟨#[]⟩,.int .i64 0,.slice none 0 0,.slice none 0 0,.int .i64 (t.line:Nat),.int .i64 (t.col:Nat)] w42 G42.out)
       have H43:=Hxq (H42.out.new HLo.out mS (by simp;omega));have A43:=Hxq (mS.at A42.out (by simp;omega));have T43:=Hxq (mS.at T42.out (by simp;omega));have M43:=Hxq (M42.out.trans mS (by simp;omega))
       have O43:=Hxq (O42.out.keep mS (fun s hs=>by rw [Msq] at hs;omega))
       have B43:=Hxq (B42.out.keep mS (fun s hs=>by rw [Msq] at hs;omega))
       have k0:w42.cell? ⟨g,18,none⟩=some (.int .i64 0):=cell_at G42.out 18
       have k1:w42.cell? ⟨g,19,none⟩=some (.string ⟨#[]⟩):=cell_at G42.out 19
       have k2:w42.cell? ⟨g,20,none⟩=some (.int .i64 0):=cell_at G42.out 20
       have k3:w42.cell? ⟨g,21,none⟩=some (.string ⟨#[]⟩):=cell_at G42.out 21
       have k4:w42.cell? ⟨g,22,none⟩=some (.int .i64 0):=cell_at G42.out 22
       have k5:w42.cell? ⟨g,23,none⟩=some (.int .i64 0):=cell_at G42.out 23
       have k6:w42.cell? ⟨g,24,none⟩=some (.string ⟨#[]⟩):=cell_at G42.out 24
       have k7:w42.cell? ⟨g,25,none⟩=some (.int .i64 0):=cell_at G42.out 25
       have k8:w42.cell? ⟨g,26,none⟩=some (.slice none 0 0):=cell_at G42.out 26
       have k9:w42.cell? ⟨g,27,none⟩=some (.slice none 0 0):=cell_at G42.out 27
       have fg:∀ j,w42.frozen? ⟨g,j,none⟩=false:=fun j=>free_at G42.out j
       clear mS
       go_upto_region 18 with fail
       generalize ((((((((((w42.setCell ⟨g,18,none⟩ (.int .i64 ga.fn)).setCell ⟨g,19,none⟩ (.string ga.av)).setCell ⟨g,20,none⟩ (.int .i64 ga.of.k)).setCell ⟨g,21,none⟩ (.string ga.of.v)).setCell ⟨g,22,none⟩ (.int .i64 ga.of.x.k)).setCell ⟨g,23,none⟩ (.int .i64 ga.of.x.n)).setCell ⟨g,24,none⟩ (.string (Lx.ofS ga.of.x.s))).setCell ⟨g,25,none⟩ (.int .i64 ga.of.op)).setCell ⟨g,26,none⟩ (.slice ao ga.of.args.length co)).setCell ⟨g,27,none⟩ (.slice ub ga.body.length cb))=w43 at *
       clear k0 k1 k2 k3 k4 k5 k6 k7 k8 k9 fg A42 G42 T42 M42 H42
       clear d0 d1 d2 d3 d4 d5 d6 d7 d8 d9
       go_wp2_with (first | refine wpList_load_row rfl 50 _ rfl g #[.int .i64 4,.string ⟨#[]⟩,.slice none 0 0,.int .i64 0,.int .i64 0,.string ⟨#[]⟩,.int .i64 0,.int .i64 0,.string ⟨#[]⟩,.int .i64 0,.slice none 0 0,.int .i64 0,.string ⟨#[]⟩,.int .i64 0,.int .i64 0,.string ⟨#[]⟩,.int .i64 0,.slice none 0 0,.int .i64 ga.fn,.string ga.av,.int .i64 ga.of.k,.string ga.of.v,.int .i64 ga.of.x.k,.int .i64 ga.of.x.n,.string (Lx.ofS ga.of.x.s),.int .i64 ga.of.op,.slice ao ga.of.args.length co,.slice ub ga.body.length cb,.int .i64 (t.line:Nat),.int .i64 (t.col:Nat)] 50 (0,0) rfl G43.out _ Tryz.underlying50 rfl Tryz.sizeLit ?_ | refine wpList_store_at rfl 50 _ _ rfl w.heap.size #[.int .i64 4,.string ⟨#[]⟩,.slice none 0 0,.int .i64 0,.int .i64 0,.string ⟨#[]⟩,.int .i64 0,.int .i64 0,.string ⟨#[]⟩,.int .i64 0,.slice none 0 0,.int .i64 0,.string ⟨#[]⟩,.int .i64 0,.int .i64 0,.string ⟨#[]⟩,.int .i64 0,.slice none 0 0,.int .i64 ga.fn,.string ga.av,.int .i64 ga.of.k,.string ga.of.v,.int .i64 ga.of.x.k,.int .i64 ga.of.x.n,.string (Lx.ofS ga.of.x.s),.int .i64 ga.of.op,.slice ao ga.of.args.length co,.slice ub ga.body.length cb,.int .i64 (t.line:Nat),.int .i64 (t.col:Nat)] #[Value.int .i64 0,Value.string ⟨#[]⟩,Value.slice none 0 0,Value.int .i64 0,Value.int .i64 0,Value.string ⟨#[]⟩,Value.int .i64 0,Value.int .i64 0,Value.string ⟨#[]⟩,Value.int .i64 0,Value.slice none 0 0,Value.int .i64 0,Value.string ⟨#[]⟩,Value.int .i64 0,Value.int .i64 0,Value.string ⟨#[]⟩,Value.int .i64 0,Value.slice none 0 0,Value.int .i64 0,Value.string ⟨#[]⟩,Value.int .i64 0,Value.string ⟨#[]⟩,Value.int .i64 0,Value.int .i64 0,Value.string ⟨#[]⟩,Value.int .i64 0,Value.slice none 0 0,Value.slice none 0 0,Value.int .i64 0,Value.int .i64 0] 50 rfl rfl A43.out Tryz.sizeLit rfl rfl ?_)
       have mR:=Mod.setRow w43 w.heap.size #[.int .i64 4,.string ⟨#[]⟩,.slice none 0 0,.int .i64 0,.int .i64 0,.string ⟨#[]⟩,.int .i64 0,.int .i64 0,.string ⟨#[]⟩,.int .i64 0,.slice none 0 0,.int .i64 0,.string ⟨#[]⟩,.int .i64 0,.int .i64 0,.string ⟨#[]⟩,.int .i64 0,.slice none 0 0,.int .i64 ga.fn,.string ga.av,.int .i64 ga.of.k,.string ga.of.v,.int .i64 ga.of.x.k,.int .i64 ga.of.x.n,.string (Lx.ofS ga.of.x.s),.int .i64 ga.of.op,.slice ao ga.of.args.length co,.slice ub ga.body.length cb,.int .i64 (t.line:Nat),.int .i64 (t.col:Nat)]
       have hRow:=setRow_heap w43 w.heap.size _ #[.int .i64 4,.string ⟨#[]⟩,.slice none 0 0,.int .i64 0,.int .i64 0,.string ⟨#[]⟩,.int .i64 0,.int .i64 0,.string ⟨#[]⟩,.int .i64 0,.slice none 0 0,.int .i64 0,.string ⟨#[]⟩,.int .i64 0,.int .i64 0,.string ⟨#[]⟩,.int .i64 0,.slice none 0 0,.int .i64 ga.fn,.string ga.av,.int .i64 ga.of.k,.string ga.of.v,.int .i64 ga.of.x.k,.int .i64 ga.of.x.n,.string (Lx.ofS ga.of.x.s),.int .i64 ga.of.op,.slice ao ga.of.args.length co,.slice ub ga.body.length cb,.int .i64 (t.line:Nat),.int .i64 (t.col:Nat)] _ _ A43.out
       have hLB:LB (fun k=>w.heap.size<k/\k≠g/\k≠tb) w43 (.mk 4 Sy.at0 0 Sy.ex0 Sy.ex0 ga.fn ga.av ga.of ga.body (t.line:Nat) (t.col:Nat)) ⟨.slice none 0 0,.slice none 0 0,.slice none 0 0,.slice ao ga.of.args.length co,.slice ub ga.body.length cb⟩:=LB.of .nil .nil .nil O43.out B43.out
       refine bodyPost_ret (res_ct rfl _ _ _ _ _ rfl rfl (load_lit hRow rfl)) rfl ⟨_,rfl,⟨⟨.slice none 0 0,.slice none 0 0,.slice none 0 0,.slice ao ga.of.args.length co,.slice ub ga.body.length cb⟩,rfl,(hLB.keep mR (fun s hs=>by rw [Msq] at hs;omega)).mono (fun k hk _=>by omega)⟩,H43.out.new HLo.out mR (by simp),M43.out.trans mR (by simp)⟩
   ·have HQ:Hid (q=(Sy.atom v i).bind fun a j=>.ok (.mk 1 a 0 Sy.ex0 Sy.ex0 0 (Sy.txt []) Sy.ex0 [] t.line t.col) j):=Lib.hid HR2.out
    clear HR2
    have HAt:=Hxq (ratom_any b ra rc L v false i w7 H7.out hk (by omega))
    rw [Sy.atomB_false] at HAt
    generalize Sy.atom v i=pa at *
    cases pa with
    | err g1 =>
     have hq:q=.err g1:=HQ.out
     subst hq
     clear HQ
     go_wp2_with fail
     refine HAt.out.mono ?_
     rintro e30 w30 ⟨x30,rfl,⟨sa,ua,na,ca,rfl⟩,⟨jj,h30⟩,m30⟩
     have z30:=m30.size
     have zz30:=lt_of_block G7.out
     have A30:=Hxq (m30.at A7.out hnb);have G30:=Hxq (m30.at G7.out hgb);have T30:=Hxq (m30.at T7.out htb);have M30:=Hxq (M7.out.trans m30 (by simp));have H30:=Lib.hid h30
     clear h30 m30
     have m31:=(Mod.refl [] w30).alloc (Obj.cells #[.string sa,.slice ua na ca] 40)
     have D31:=Hxq (heap_alloc_new w30 (Obj.cells #[.string sa,.slice ua na ca] 40))
     have A31:=Hxq (m31.at A30.out (by simp));have G31:=Hxq (m31.at G30.out (by simp));have T31:=Hxq (m31.at T30.out (by simp));have M31:=Hxq (M30.out.trans m31 (by simp));have H31:=Hxq (H30.out.past m31 (by simp))
     clear m31 A30 G30 T30 M30 H30
     go_upto_region 11 with fail
     generalize w30.alloc (Obj.cells _ 40)=w31 at *
     have mS:Mod [g] w31 (w31.setCell ⟨g,0,none⟩ (.int .i64 1)):=setCs_mod g [.int .i64 1] 0 w31
     have G32:Hid ((w31.setCell ⟨g,0,none⟩ (.int .i64 1)).heap[g]?=some (.cells #[.int .i64 1,.string ⟨#[]⟩,.slice none 0 0,.int .i64 0,.int .i64 0,.string ⟨#[]⟩,.int .i64 0,.int .i64 0,.string ⟨#[]⟩,.int .i64 0,.slice none 0 0,.int .i64 0,.string ⟨#[]⟩,.int .i64 0,.int .i64 0,.string ⟨#[]⟩,.int .i64 0,.slice none 0 0,.int .i64 0,.string ⟨#[]⟩,.int .i64 0,.string ⟨#[]⟩,.int .i64 0,.int .i64 0,.string ⟨#[]⟩,.int .i64 0,.slice none 0 0,.slice none 0 0,.int .i64 (t.line:Nat),.int .i64 (t.col:Nat)] 50 (0,0))):=Hxq (setCs_heap [.int .i64 1] 0 [.int .i64 0,.string ⟨#[]⟩,.slice none 0 0,.int .i64 0,.int .i64 0,.string ⟨#[]⟩,.int .i64 0,.int .i64 0,.string ⟨#[]⟩,.int .i64 0,.slice none 0 0,.int .i64 0,.string ⟨#[]⟩,.int .i64 0,.int .i64 0,.string ⟨#[]⟩,.int .i64 0,.slice none 0 0,.int .i64 0,.string ⟨#[]⟩,.int .i64 0,.string ⟨#[]⟩,.int .i64 0,.int .i64 0,.string ⟨#[]⟩,.int .i64 0,.slice none 0 0,.slice none 0 0,.int .i64 (t.line:Nat),.int .i64 (t.col:Nat)] w31 G31.out)
     have H32:=Hxq (H31.out.new HLo.out mS (by simp;omega));have A32:=Hxq (mS.at A31.out (by simp;omega));have T32:=Hxq (mS.at T31.out (by simp;omega));have M32:=Hxq (M31.out.trans mS (by simp;omega))
     have k0:w31.cell? ⟨g,0,none⟩=some (.int .i64 0):=cell_at G31.out 0
     have fg:∀ j,w31.frozen? ⟨g,j,none⟩=false:=fun j=>free_at G31.out j
     have D32:=Hxq (mS.at D31.out (by simp;omega))
     clear mS
     go_upto_region 12 with fail
     generalize (w31.setCell ⟨g,0,none⟩ (.int .i64 1))=w32 at *
     clear k0 fg A31 G31 T31 M31 H31
     obtain ⟨d0,d1⟩:=cells2 D32.out
     have mS:Mod [g] w32 ((w32.setCell ⟨g,1,none⟩ (.string sa)).setCell ⟨g,2,none⟩ (.slice ua na ca)):=setCs_mod g [.string sa,.slice ua na ca] 1 w32
     have G33:Hid (((w32.setCell ⟨g,1,none⟩ (.string sa)).setCell ⟨g,2,none⟩ (.slice ua na ca)).heap[g]?=some (.cells #[.int .i64 1,.string sa,.slice ua na ca,.int .i64 0,.int .i64 0,.string ⟨#[]⟩,.int .i64 0,.int .i64 0,.string ⟨#[]⟩,.int .i64 0,.slice none 0 0,.int .i64 0,.string ⟨#[]⟩,.int .i64 0,.int .i64 0,.string ⟨#[]⟩,.int .i64 0,.slice none 0 0,.int .i64 0,.string ⟨#[]⟩,.int .i64 0,.string ⟨#[]⟩,.int .i64 0,.int .i64 0,.string ⟨#[]⟩,.int .i64 0,.slice none 0 0,.slice none 0 0,.int .i64 (t.line:Nat),.int .i64 (t.col:Nat)] 50 (0,0))):=Hxq (setCs_heap [.string sa,.slice ua na ca] 1 [.int .i64 1,.string ⟨#[]⟩,.slice none 0 0,.int .i64 0,.int .i64 0,.string ⟨#[]⟩,.int .i64 0,.int .i64 0,.string ⟨#[]⟩,.int .i64 0,.slice none 0 0,.int .i64 0,.string ⟨#[]⟩,.int .i64 0,.int .i64 0,.string ⟨#[]⟩,.int .i64 0,.slice none 0 0,.int .i64 0,.string ⟨#[]⟩,.int .i64 0,.string ⟨#[]⟩,.int .i64 0,.int .i64 0,.string ⟨#[]⟩,.int .i64 0,.slice none 0 0,.slice none 0 0,.int .i64 (t.line:Nat),.int .i64 (t.col:Nat)] w32 G32.out)
     have H33:=Hxq (H32.out.new HLo.out mS (by simp;omega));have A33:=Hxq (mS.at A32.out (by simp;omega));have T33:=Hxq (mS.at T32.out (by simp;omega));have M33:=Hxq (M32.out.trans mS (by simp;omega))
     have k0:w32.cell? ⟨g,1,none⟩=some (.string ⟨#[]⟩):=cell_at G32.out 1
     have k1:w32.cell? ⟨g,2,none⟩=some (.slice none 0 0):=cell_at G32.out 2
     have fg:∀ j,w32.frozen? ⟨g,j,none⟩=false:=fun j=>free_at G32.out j
     clear mS
     go_upto_region 13 with fail
     generalize ((w32.setCell ⟨g,1,none⟩ (.string sa)).setCell ⟨g,2,none⟩ (.slice ua na ca))=w33 at *
     clear k0 k1 fg A32 G32 T32 M32 H32
     clear d0 d1
     go_wp2_with (first | refine wpList_load_row rfl 50 _ rfl g #[.int .i64 1,.string sa,.slice ua na ca,.int .i64 0,.int .i64 0,.string ⟨#[]⟩,.int .i64 0,.int .i64 0,.string ⟨#[]⟩,.int .i64 0,.slice none 0 0,.int .i64 0,.string ⟨#[]⟩,.int .i64 0,.int .i64 0,.string ⟨#[]⟩,.int .i64 0,.slice none 0 0,.int .i64 0,.string ⟨#[]⟩,.int .i64 0,.string ⟨#[]⟩,.int .i64 0,.int .i64 0,.string ⟨#[]⟩,.int .i64 0,.slice none 0 0,.slice none 0 0,.int .i64 (t.line:Nat),.int .i64 (t.col:Nat)] 50 (0,0) rfl G33.out _ Tryz.underlying50 rfl Tryz.sizeLit ?_ | refine wpList_store_at rfl 50 _ _ rfl w.heap.size #[.int .i64 1,.string sa,.slice ua na ca,.int .i64 0,.int .i64 0,.string ⟨#[]⟩,.int .i64 0,.int .i64 0,.string ⟨#[]⟩,.int .i64 0,.slice none 0 0,.int .i64 0,.string ⟨#[]⟩,.int .i64 0,.int .i64 0,.string ⟨#[]⟩,.int .i64 0,.slice none 0 0,.int .i64 0,.string ⟨#[]⟩,.int .i64 0,.string ⟨#[]⟩,.int .i64 0,.int .i64 0,.string ⟨#[]⟩,.int .i64 0,.slice none 0 0,.slice none 0 0,.int .i64 (t.line:Nat),.int .i64 (t.col:Nat)] #[Value.int .i64 0,Value.string ⟨#[]⟩,Value.slice none 0 0,Value.int .i64 0,Value.int .i64 0,Value.string ⟨#[]⟩,Value.int .i64 0,Value.int .i64 0,Value.string ⟨#[]⟩,Value.int .i64 0,Value.slice none 0 0,Value.int .i64 0,Value.string ⟨#[]⟩,Value.int .i64 0,Value.int .i64 0,Value.string ⟨#[]⟩,Value.int .i64 0,Value.slice none 0 0,Value.int .i64 0,Value.string ⟨#[]⟩,Value.int .i64 0,Value.string ⟨#[]⟩,Value.int .i64 0,Value.int .i64 0,Value.string ⟨#[]⟩,Value.int .i64 0,Value.slice none 0 0,Value.slice none 0 0,Value.int .i64 0,Value.int .i64 0] 50 rfl rfl A33.out Tryz.sizeLit rfl rfl ?_)
     have mR:=Mod.setRow w33 w.heap.size #[.int .i64 1,.string sa,.slice ua na ca,.int .i64 0,.int .i64 0,.string ⟨#[]⟩,.int .i64 0,.int .i64 0,.string ⟨#[]⟩,.int .i64 0,.slice none 0 0,.int .i64 0,.string ⟨#[]⟩,.int .i64 0,.int .i64 0,.string ⟨#[]⟩,.int .i64 0,.slice none 0 0,.int .i64 0,.string ⟨#[]⟩,.int .i64 0,.string ⟨#[]⟩,.int .i64 0,.int .i64 0,.string ⟨#[]⟩,.int .i64 0,.slice none 0 0,.slice none 0 0,.int .i64 (t.line:Nat),.int .i64 (t.col:Nat)]
     have hRow:=setRow_heap w33 w.heap.size _ #[.int .i64 1,.string sa,.slice ua na ca,.int .i64 0,.int .i64 0,.string ⟨#[]⟩,.int .i64 0,.int .i64 0,.string ⟨#[]⟩,.int .i64 0,.slice none 0 0,.int .i64 0,.string ⟨#[]⟩,.int .i64 0,.int .i64 0,.string ⟨#[]⟩,.int .i64 0,.slice none 0 0,.int .i64 0,.string ⟨#[]⟩,.int .i64 0,.string ⟨#[]⟩,.int .i64 0,.int .i64 0,.string ⟨#[]⟩,.int .i64 0,.slice none 0 0,.slice none 0 0,.int .i64 (t.line:Nat),.int .i64 (t.col:Nat)] _ _ A33.out
     refine bodyPost_ret (res_ct rfl _ _ _ _ _ rfl rfl (load_lit hRow rfl)) rfl ⟨_,rfl,⟨_,rfl,rfl,rfl⟩,⟨jj,H33.out.new HLo.out mR (by simp)⟩,M33.out.trans mR (by simp)⟩
    | ok a j =>
     have hq:q=.ok (.mk 1 a 0 Sy.ex0 Sy.ex0 0 (Sy.txt []) Sy.ex0 [] (t.line:Nat) (t.col:Nat)) j:=HQ.out
     subst hq
     clear HQ
     go_wp2_with fail
     refine HAt.out.mono ?_
     rintro e30 w30 ⟨x30,rfl,⟨ua0,rfl,hb30⟩,h30,m30⟩
     obtain ⟨ua,ca,rfl⟩:=hb30.lit
     have z30:=m30.size
     have zz30:=lt_of_block G7.out
     have A30:=Hxq (m30.at A7.out hnb);have G30:=Hxq (m30.at G7.out hgb);have T30:=Hxq (m30.at T7.out htb);have M30:=Hxq (M7.out.trans m30 (by simp));have H30:=Lib.hid h30
     have Q30:=Hxq (hb30.mono (F':=(fun k=>w.heap.size<k/\k≠g/\k≠tb)) (fun k hk hk2=>by omega))
     clear h30 m30 hb30
     have m31:=(Mod.refl [] w30).alloc (Obj.cells #[.string a.rel,.slice ua a.terms.length ca] 40)
     have D31:=Hxq (heap_alloc_new w30 (Obj.cells #[.string a.rel,.slice ua a.terms.length ca] 40))
     have Q31:=Hxq (Q30.out.keep m31 (by simp))
     have A31:=Hxq (m31.at A30.out (by simp));have G31:=Hxq (m31.at G30.out (by simp));have T31:=Hxq (m31.at T30.out (by simp));have M31:=Hxq (M30.out.trans m31 (by simp));have H31:=Hxq (H30.out.past m31 (by simp))
     clear m31 A30 G30 T30 M30 H30
     go_upto_region 11 with fail
     generalize w30.alloc (Obj.cells _ 40)=w31 at *
     have mS:Mod [g] w31 (w31.setCell ⟨g,0,none⟩ (.int .i64 1)):=setCs_mod g [.int .i64 1] 0 w31
     have G32:Hid ((w31.setCell ⟨g,0,none⟩ (.int .i64 1)).heap[g]?=some (.cells #[.int .i64 1,.string ⟨#[]⟩,.slice none 0 0,.int .i64 0,.int .i64 0,.string ⟨#[]⟩,.int .i64 0,.int .i64 0,.string ⟨#[]⟩,.int .i64 0,.slice none 0 0,.int .i64 0,.string ⟨#[]⟩,.int .i64 0,.int .i64 0,.string ⟨#[]⟩,.int .i64 0,.slice none 0 0,.int .i64 0,.string ⟨#[]⟩,.int .i64 0,.string ⟨#[]⟩,.int .i64 0,.int .i64 0,.string ⟨#[]⟩,.int .i64 0,.slice none 0 0,.slice none 0 0,.int .i64 (t.line:Nat),.int .i64 (t.col:Nat)] 50 (0,0))):=Hxq (setCs_heap [.int .i64 1] 0 [.int .i64 0,.string ⟨#[]⟩,.slice none 0 0,.int .i64 0,.int .i64 0,.string ⟨#[]⟩,.int .i64 0,.int .i64 0,.string ⟨#[]⟩,.int .i64 0,.slice none 0 0,.int .i64 0,.string ⟨#[]⟩,.int .i64 0,.int .i64 0,.string ⟨#[]⟩,.int .i64 0,.slice none 0 0,.int .i64 0,.string ⟨#[]⟩,.int .i64 0,.string ⟨#[]⟩,.int .i64 0,.int .i64 0,.string ⟨#[]⟩,.int .i64 0,.slice none 0 0,.slice none 0 0,.int .i64 (t.line:Nat),.int .i64 (t.col:Nat)] w31 G31.out)
     have H32:=Hxq (H31.out.new HLo.out mS (by simp;omega));have A32:=Hxq (mS.at A31.out (by simp;omega));have T32:=Hxq (mS.at T31.out (by simp;omega));have M32:=Hxq (M31.out.trans mS (by simp;omega))
     have Q32:=Hxq (Q31.out.keep mS (fun s hs=>by rw [Msq] at hs;omega))
     have k0:w31.cell? ⟨g,0,none⟩=some (.int .i64 0):=cell_at G31.out 0
     have fg:∀ j,w31.frozen? ⟨g,j,none⟩=false:=fun j=>free_at G31.out j
     have D32:=Hxq (mS.at D31.out (by simp;omega))
     clear mS
     go_upto_region 12 with fail
     generalize (w31.setCell ⟨g,0,none⟩ (.int .i64 1))=w32 at *
     clear k0 fg A31 G31 T31 M31 H31
     obtain ⟨d0,d1⟩:=cells2 D32.out
     have mS:Mod [g] w32 ((w32.setCell ⟨g,1,none⟩ (.string a.rel)).setCell ⟨g,2,none⟩ (.slice ua a.terms.length ca)):=setCs_mod g [.string a.rel,.slice ua a.terms.length ca] 1 w32
     have G33:Hid (((w32.setCell ⟨g,1,none⟩ (.string a.rel)).setCell ⟨g,2,none⟩ (.slice ua a.terms.length ca)).heap[g]?=some (.cells #[.int .i64 1,.string a.rel,.slice ua a.terms.length ca,.int .i64 0,.int .i64 0,.string ⟨#[]⟩,.int .i64 0,.int .i64 0,.string ⟨#[]⟩,.int .i64 0,.slice none 0 0,.int .i64 0,.string ⟨#[]⟩,.int .i64 0,.int .i64 0,.string ⟨#[]⟩,.int .i64 0,.slice none 0 0,.int .i64 0,.string ⟨#[]⟩,.int .i64 0,.string ⟨#[]⟩,.int .i64 0,.int .i64 0,.string ⟨#[]⟩,.int .i64 0,.slice none 0 0,.slice none 0 0,.int .i64 (t.line:Nat),.int .i64 (t.col:Nat)] 50 (0,0))):=Hxq (setCs_heap [.string a.rel,.slice ua a.terms.length ca] 1 [.int .i64 1,.string ⟨#[]⟩,.slice none 0 0,.int .i64 0,.int .i64 0,.string ⟨#[]⟩,.int .i64 0,.int .i64 0,.string ⟨#[]⟩,.int .i64 0,.slice none 0 0,.int .i64 0,.string ⟨#[]⟩,.int .i64 0,.int .i64 0,.string ⟨#[]⟩,.int .i64 0,.slice none 0 0,.int .i64 0,.string ⟨#[]⟩,.int .i64 0,.string ⟨#[]⟩,.int .i64 0,.int .i64 0,.string ⟨#[]⟩,.int .i64 0,.slice none 0 0,.slice none 0 0,.int .i64 (t.line:Nat),.int .i64 (t.col:Nat)] w32 G32.out)
     have H33:=Hxq (H32.out.new HLo.out mS (by simp;omega));have A33:=Hxq (mS.at A32.out (by simp;omega));have T33:=Hxq (mS.at T32.out (by simp;omega));have M33:=Hxq (M32.out.trans mS (by simp;omega))
     have Q33:=Hxq (Q32.out.keep mS (fun s hs=>by rw [Msq] at hs;omega))
     have k0:w32.cell? ⟨g,1,none⟩=some (.string ⟨#[]⟩):=cell_at G32.out 1
     have k1:w32.cell? ⟨g,2,none⟩=some (.slice none 0 0):=cell_at G32.out 2
     have fg:∀ j,w32.frozen? ⟨g,j,none⟩=false:=fun j=>free_at G32.out j
     clear mS
     go_upto_region 13 with fail
     generalize ((w32.setCell ⟨g,1,none⟩ (.string a.rel)).setCell ⟨g,2,none⟩ (.slice ua a.terms.length ca))=w33 at *
     clear k0 k1 fg A32 G32 T32 M32 H32
     clear d0 d1
     go_wp2_with (first | refine wpList_load_row rfl 50 _ rfl g #[.int .i64 1,.string a.rel,.slice ua a.terms.length ca,.int .i64 0,.int .i64 0,.string ⟨#[]⟩,.int .i64 0,.int .i64 0,.string ⟨#[]⟩,.int .i64 0,.slice none 0 0,.int .i64 0,.string ⟨#[]⟩,.int .i64 0,.int .i64 0,.string ⟨#[]⟩,.int .i64 0,.slice none 0 0,.int .i64 0,.string ⟨#[]⟩,.int .i64 0,.string ⟨#[]⟩,.int .i64 0,.int .i64 0,.string ⟨#[]⟩,.int .i64 0,.slice none 0 0,.slice none 0 0,.int .i64 (t.line:Nat),.int .i64 (t.col:Nat)] 50 (0,0) rfl G33.out _ Tryz.underlying50 rfl Tryz.sizeLit ?_ | refine wpList_store_at rfl 50 _ _ rfl w.heap.size #[.int .i64 1,.string a.rel,.slice ua a.terms.length ca,.int .i64 0,.int .i64 0,.string ⟨#[]⟩,.int .i64 0,.int .i64 0,.string ⟨#[]⟩,.int .i64 0,.slice none 0 0,.int .i64 0,.string ⟨#[]⟩,.int .i64 0,.int .i64 0,.string ⟨#[]⟩,.int .i64 0,.slice none 0 0,.int .i64 0,.string ⟨#[]⟩,.int .i64 0,.string ⟨#[]⟩,.int .i64 0,.int .i64 0,.string ⟨#[]⟩,.int .i64 0,.slice none 0 0,.slice none 0 0,.int .i64 (t.line:Nat),.int .i64 (t.col:Nat)] #[Value.int .i64 0,Value.string ⟨#[]⟩,Value.slice none 0 0,Value.int .i64 0,Value.int .i64 0,Value.string ⟨#[]⟩,Value.int .i64 0,Value.int .i64 0,Value.string ⟨#[]⟩,Value.int .i64 0,Value.slice none 0 0,Value.int .i64 0,Value.string ⟨#[]⟩,Value.int .i64 0,Value.int .i64 0,Value.string ⟨#[]⟩,Value.int .i64 0,Value.slice none 0 0,Value.int .i64 0,Value.string ⟨#[]⟩,Value.int .i64 0,Value.string ⟨#[]⟩,Value.int .i64 0,Value.int .i64 0,Value.string ⟨#[]⟩,Value.int .i64 0,Value.slice none 0 0,Value.slice none 0 0,Value.int .i64 0,Value.int .i64 0] 50 rfl rfl A33.out Tryz.sizeLit rfl rfl ?_)
     have mR:=Mod.setRow w33 w.heap.size #[.int .i64 1,.string a.rel,.slice ua a.terms.length ca,.int .i64 0,.int .i64 0,.string ⟨#[]⟩,.int .i64 0,.int .i64 0,.string ⟨#[]⟩,.int .i64 0,.slice none 0 0,.int .i64 0,.string ⟨#[]⟩,.int .i64 0,.int .i64 0,.string ⟨#[]⟩,.int .i64 0,.slice none 0 0,.int .i64 0,.string ⟨#[]⟩,.int .i64 0,.string ⟨#[]⟩,.int .i64 0,.int .i64 0,.string ⟨#[]⟩,.int .i64 0,.slice none 0 0,.slice none 0 0,.int .i64 (t.line:Nat),.int .i64 (t.col:Nat)]
     have hRow:=setRow_heap w33 w.heap.size _ #[.int .i64 1,.string a.rel,.slice ua a.terms.length ca,.int .i64 0,.int .i64 0,.string ⟨#[]⟩,.int .i64 0,.int .i64 0,.string ⟨#[]⟩,.int .i64 0,.slice none 0 0,.int .i64 0,.string ⟨#[]⟩,.int .i64 0,.int .i64 0,.string ⟨#[]⟩,.int .i64 0,.slice none 0 0,.int .i64 0,.string ⟨#[]⟩,.int .i64 0,.string ⟨#[]⟩,.int .i64 0,.int .i64 0,.string ⟨#[]⟩,.int .i64 0,.slice none 0 0,.slice none 0 0,.int .i64 (t.line:Nat),.int .i64 (t.col:Nat)] _ _ A33.out
     have hLB:LB (fun k=>w.heap.size<k/\k≠g/\k≠tb) w33 (.mk 1 a 0 Sy.ex0 Sy.ex0 0 (Sy.txt []) Sy.ex0 [] (t.line:Nat) (t.col:Nat)) ⟨.slice ua a.terms.length ca,.slice none 0 0,.slice none 0 0,.slice none 0 0,.slice none 0 0⟩:=LB.of Q33.out .nil .nil .nil BB.nil
     refine bodyPost_ret (res_ct rfl _ _ _ _ _ rfl rfl (load_lit hRow rfl)) rfl ⟨_,rfl,⟨⟨.slice ua a.terms.length ca,.slice none 0 0,.slice none 0 0,.slice none 0 0,.slice none 0 0⟩,rfl,(hLB.keep mR (fun s hs=>by rw [Msq] at hs;omega)).mono (fun k hk _=>by omega)⟩,H33.out.new HLo.out mR (by simp),M33.out.trans mR (by simp)⟩
 ·have HQ:Hid (q=(Sy.atom v (i+1)).bind fun a j=>.ok (.mk 2 a 0 Sy.ex0 Sy.ex0 0 (Sy.txt []) Sy.ex0 [] (t.line:Nat) (t.col:Nat)) j):=Lib.hid HR.out
  have hil:=HSL.out rfl
  clear HR HPl HS1 HS2 HP1 HP2 HFn HFL
  obtain ⟨c0,c1,c2,c3,c4,c5,c6,c7,c8,c9,fz⟩:=H3.out.cells
  have hT:=H3.out.to (i+1)
  have hcast:((i+1:Nat):Int)=(i:Int)+1:=by omega
  rw [hcast] at hT
  have zG:=lt_of_block G3.out
  have A20:=Hxq (hT.2.at A3.out hnb);have G20:=Hxq (hT.2.at G3.out hgb);have T20:=Hxq (hT.2.at T3.out htb);have M20:=Hxq (M3.out.trans hT.2 (by simp));have H20:=Lib.hid hT.1
  clear hT hcast
  go_upto_region 5 with fail
  generalize w3.setCell ⟨b,6,none⟩ (.int .i64 ((i:Int)+1))=w20 at *
  clear c0 c1 c2 c3 c4 c5 c6 c7 c8 c9 fz A3 G3 T3 M3 H3
  have HAt:=Hxq (ratom_any b ra rc L v false (i+1) w20 H20.out hk (by omega))
  rw [Sy.atomB_false] at HAt
  generalize Sy.atom v (i+1)=pa at *
  cases pa with
  | err g1 =>
   have hq:q=.err g1:=HQ.out
   subst hq
   clear HQ
   go_wp2_with fail
   refine HAt.out.mono ?_
   rintro e30 w30 ⟨x30,rfl,⟨sa,ua,na,ca,rfl⟩,⟨jj,h30⟩,m30⟩
   have z30:=m30.size
   have zz30:=lt_of_block G20.out
   have A30:=Hxq (m30.at A20.out hnb);have G30:=Hxq (m30.at G20.out hgb);have T30:=Hxq (m30.at T20.out htb);have M30:=Hxq (M20.out.trans m30 (by simp));have H30:=Lib.hid h30
   clear h30 m30
   have m31:=(Mod.refl [] w30).alloc (Obj.cells #[.string sa,.slice ua na ca] 40)
   have D31:=Hxq (heap_alloc_new w30 (Obj.cells #[.string sa,.slice ua na ca] 40))
   have A31:=Hxq (m31.at A30.out (by simp));have G31:=Hxq (m31.at G30.out (by simp));have T31:=Hxq (m31.at T30.out (by simp));have M31:=Hxq (M30.out.trans m31 (by simp));have H31:=Hxq (H30.out.past m31 (by simp))
   clear m31 A30 G30 T30 M30 H30
   go_upto_region 6 with fail
   generalize w30.alloc (Obj.cells _ 40)=w31 at *
   have mS:Mod [g] w31 (w31.setCell ⟨g,0,none⟩ (.int .i64 2)):=setCs_mod g [.int .i64 2] 0 w31
   have G32:Hid ((w31.setCell ⟨g,0,none⟩ (.int .i64 2)).heap[g]?=some (.cells #[.int .i64 2,.string ⟨#[]⟩,.slice none 0 0,.int .i64 0,.int .i64 0,.string ⟨#[]⟩,.int .i64 0,.int .i64 0,.string ⟨#[]⟩,.int .i64 0,.slice none 0 0,.int .i64 0,.string ⟨#[]⟩,.int .i64 0,.int .i64 0,.string ⟨#[]⟩,.int .i64 0,.slice none 0 0,.int .i64 0,.string ⟨#[]⟩,.int .i64 0,.string ⟨#[]⟩,.int .i64 0,.int .i64 0,.string ⟨#[]⟩,.int .i64 0,.slice none 0 0,.slice none 0 0,.int .i64 (t.line:Nat),.int .i64 (t.col:Nat)] 50 (0,0))):=Hxq (setCs_heap [.int .i64 2] 0 [.int .i64 0,.string ⟨#[]⟩,.slice none 0 0,.int .i64 0,.int .i64 0,.string ⟨#[]⟩,.int .i64 0,.int .i64 0,.string ⟨#[]⟩,.int .i64 0,.slice none 0 0,.int .i64 0,.string ⟨#[]⟩,.int .i64 0,.int .i64 0,.string ⟨#[]⟩,.int .i64 0,.slice none 0 0,.int .i64 0,.string ⟨#[]⟩,.int .i64 0,.string ⟨#[]⟩,.int .i64 0,.int .i64 0,.string ⟨#[]⟩,.int .i64 0,.slice none 0 0,.slice none 0 0,.int .i64 (t.line:Nat),.int .i64 (t.col:Nat)] w31 G31.out)
   have H32:=Hxq (H31.out.new HLo.out mS (by simp;omega));have A32:=Hxq (mS.at A31.out (by simp;omega));have T32:=Hxq (mS.at T31.out (by simp;omega));have M32:=Hxq (M31.out.trans mS (by simp;omega))
   have k0:w31.cell? ⟨g,0,none⟩=some (.int .i64 0):=cell_at G31.out 0
   have fg:∀ j,w31.frozen? ⟨g,j,none⟩=false:=fun j=>free_at G31.out j
   have D32:=Hxq (mS.at D31.out (by simp;omega))
   clear mS
   go_upto_region 7 with fail
   generalize (w31.setCell ⟨g,0,none⟩ (.int .i64 2))=w32 at *
   clear k0 fg A31 G31 T31 M31 H31
   obtain ⟨d0,d1⟩:=cells2 D32.out
   have mS:Mod [g] w32 ((w32.setCell ⟨g,1,none⟩ (.string sa)).setCell ⟨g,2,none⟩ (.slice ua na ca)):=setCs_mod g [.string sa,.slice ua na ca] 1 w32
   have G33:Hid (((w32.setCell ⟨g,1,none⟩ (.string sa)).setCell ⟨g,2,none⟩ (.slice ua na ca)).heap[g]?=some (.cells #[.int .i64 2,.string sa,.slice ua na ca,.int .i64 0,.int .i64 0,.string ⟨#[]⟩,.int .i64 0,.int .i64 0,.string ⟨#[]⟩,.int .i64 0,.slice none 0 0,.int .i64 0,.string ⟨#[]⟩,.int .i64 0,.int .i64 0,.string ⟨#[]⟩,.int .i64 0,.slice none 0 0,.int .i64 0,.string ⟨#[]⟩,.int .i64 0,.string ⟨#[]⟩,.int .i64 0,.int .i64 0,.string ⟨#[]⟩,.int .i64 0,.slice none 0 0,.slice none 0 0,.int .i64 (t.line:Nat),.int .i64 (t.col:Nat)] 50 (0,0))):=Hxq (setCs_heap [.string sa,.slice ua na ca] 1 [.int .i64 2,.string ⟨#[]⟩,.slice none 0 0,.int .i64 0,.int .i64 0,.string ⟨#[]⟩,.int .i64 0,.int .i64 0,.string ⟨#[]⟩,.int .i64 0,.slice none 0 0,.int .i64 0,.string ⟨#[]⟩,.int .i64 0,.int .i64 0,.string ⟨#[]⟩,.int .i64 0,.slice none 0 0,.int .i64 0,.string ⟨#[]⟩,.int .i64 0,.string ⟨#[]⟩,.int .i64 0,.int .i64 0,.string ⟨#[]⟩,.int .i64 0,.slice none 0 0,.slice none 0 0,.int .i64 (t.line:Nat),.int .i64 (t.col:Nat)] w32 G32.out)
   have H33:=Hxq (H32.out.new HLo.out mS (by simp;omega));have A33:=Hxq (mS.at A32.out (by simp;omega));have T33:=Hxq (mS.at T32.out (by simp;omega));have M33:=Hxq (M32.out.trans mS (by simp;omega))
   have k0:w32.cell? ⟨g,1,none⟩=some (.string ⟨#[]⟩):=cell_at G32.out 1
   have k1:w32.cell? ⟨g,2,none⟩=some (.slice none 0 0):=cell_at G32.out 2
   have fg:∀ j,w32.frozen? ⟨g,j,none⟩=false:=fun j=>free_at G32.out j
   clear mS
   go_upto_region 8 with fail
   generalize ((w32.setCell ⟨g,1,none⟩ (.string sa)).setCell ⟨g,2,none⟩ (.slice ua na ca))=w33 at *
   clear k0 k1 fg A32 G32 T32 M32 H32
   clear d0 d1
   go_wp2_with (first | refine wpList_load_row rfl 50 _ rfl g #[.int .i64 2,.string sa,.slice ua na ca,.int .i64 0,.int .i64 0,.string ⟨#[]⟩,.int .i64 0,.int .i64 0,.string ⟨#[]⟩,.int .i64 0,.slice none 0 0,.int .i64 0,.string ⟨#[]⟩,.int .i64 0,.int .i64 0,.string ⟨#[]⟩,.int .i64 0,.slice none 0 0,.int .i64 0,.string ⟨#[]⟩,.int .i64 0,.string ⟨#[]⟩,.int .i64 0,.int .i64 0,.string ⟨#[]⟩,.int .i64 0,.slice none 0 0,.slice none 0 0,.int .i64 (t.line:Nat),.int .i64 (t.col:Nat)] 50 (0,0) rfl G33.out _ Tryz.underlying50 rfl Tryz.sizeLit ?_ | refine wpList_store_at rfl 50 _ _ rfl w.heap.size #[.int .i64 2,.string sa,.slice ua na ca,.int .i64 0,.int .i64 0,.string ⟨#[]⟩,.int .i64 0,.int .i64 0,.string ⟨#[]⟩,.int .i64 0,.slice none 0 0,.int .i64 0,.string ⟨#[]⟩,.int .i64 0,.int .i64 0,.string ⟨#[]⟩,.int .i64 0,.slice none 0 0,.int .i64 0,.string ⟨#[]⟩,.int .i64 0,.string ⟨#[]⟩,.int .i64 0,.int .i64 0,.string ⟨#[]⟩,.int .i64 0,.slice none 0 0,.slice none 0 0,.int .i64 (t.line:Nat),.int .i64 (t.col:Nat)] #[Value.int .i64 0,Value.string ⟨#[]⟩,Value.slice none 0 0,Value.int .i64 0,Value.int .i64 0,Value.string ⟨#[]⟩,Value.int .i64 0,Value.int .i64 0,Value.string ⟨#[]⟩,Value.int .i64 0,Value.slice none 0 0,Value.int .i64 0,Value.string ⟨#[]⟩,Value.int .i64 0,Value.int .i64 0,Value.string ⟨#[]⟩,Value.int .i64 0,Value.slice none 0 0,Value.int .i64 0,Value.string ⟨#[]⟩,Value.int .i64 0,Value.string ⟨#[]⟩,Value.int .i64 0,Value.int .i64 0,Value.string ⟨#[]⟩,Value.int .i64 0,Value.slice none 0 0,Value.slice none 0 0,Value.int .i64 0,Value.int .i64 0] 50 rfl rfl A33.out Tryz.sizeLit rfl rfl ?_)
   have mR:=Mod.setRow w33 w.heap.size #[.int .i64 2,.string sa,.slice ua na ca,.int .i64 0,.int .i64 0,.string ⟨#[]⟩,.int .i64 0,.int .i64 0,.string ⟨#[]⟩,.int .i64 0,.slice none 0 0,.int .i64 0,.string ⟨#[]⟩,.int .i64 0,.int .i64 0,.string ⟨#[]⟩,.int .i64 0,.slice none 0 0,.int .i64 0,.string ⟨#[]⟩,.int .i64 0,.string ⟨#[]⟩,.int .i64 0,.int .i64 0,.string ⟨#[]⟩,.int .i64 0,.slice none 0 0,.slice none 0 0,.int .i64 (t.line:Nat),.int .i64 (t.col:Nat)]
   have hRow:=setRow_heap w33 w.heap.size _ #[.int .i64 2,.string sa,.slice ua na ca,.int .i64 0,.int .i64 0,.string ⟨#[]⟩,.int .i64 0,.int .i64 0,.string ⟨#[]⟩,.int .i64 0,.slice none 0 0,.int .i64 0,.string ⟨#[]⟩,.int .i64 0,.int .i64 0,.string ⟨#[]⟩,.int .i64 0,.slice none 0 0,.int .i64 0,.string ⟨#[]⟩,.int .i64 0,.string ⟨#[]⟩,.int .i64 0,.int .i64 0,.string ⟨#[]⟩,.int .i64 0,.slice none 0 0,.slice none 0 0,.int .i64 (t.line:Nat),.int .i64 (t.col:Nat)] _ _ A33.out
   refine bodyPost_ret (res_ct rfl _ _ _ _ _ rfl rfl (load_lit hRow rfl)) rfl ⟨_,rfl,⟨_,rfl,rfl,rfl⟩,⟨jj,H33.out.new HLo.out mR (by simp)⟩,M33.out.trans mR (by simp)⟩
  | ok a j =>
   have hq:q=.ok (.mk 2 a 0 Sy.ex0 Sy.ex0 0 (Sy.txt []) Sy.ex0 [] (t.line:Nat) (t.col:Nat)) j:=HQ.out
   subst hq
   clear HQ
   go_wp2_with fail
   refine HAt.out.mono ?_
   rintro e30 w30 ⟨x30,rfl,⟨ua0,rfl,hb30⟩,h30,m30⟩
   obtain ⟨ua,ca,rfl⟩:=hb30.lit
   have z30:=m30.size
   have zz30:=lt_of_block G20.out
   have A30:=Hxq (m30.at A20.out hnb);have G30:=Hxq (m30.at G20.out hgb);have T30:=Hxq (m30.at T20.out htb);have M30:=Hxq (M20.out.trans m30 (by simp));have H30:=Lib.hid h30
   have Q30:=Hxq (hb30.mono (F':=(fun k=>w.heap.size<k/\k≠g/\k≠tb)) (fun k hk hk2=>by omega))
   clear h30 m30 hb30
   have m31:=(Mod.refl [] w30).alloc (Obj.cells #[.string a.rel,.slice ua a.terms.length ca] 40)
   have D31:=Hxq (heap_alloc_new w30 (Obj.cells #[.string a.rel,.slice ua a.terms.length ca] 40))
   have Q31:=Hxq (Q30.out.keep m31 (by simp))
   have A31:=Hxq (m31.at A30.out (by simp));have G31:=Hxq (m31.at G30.out (by simp));have T31:=Hxq (m31.at T30.out (by simp));have M31:=Hxq (M30.out.trans m31 (by simp));have H31:=Hxq (H30.out.past m31 (by simp))
   clear m31 A30 G30 T30 M30 H30
   go_upto_region 6 with fail
   generalize w30.alloc (Obj.cells _ 40)=w31 at *
   have mS:Mod [g] w31 (w31.setCell ⟨g,0,none⟩ (.int .i64 2)):=setCs_mod g [.int .i64 2] 0 w31
   have G32:Hid ((w31.setCell ⟨g,0,none⟩ (.int .i64 2)).heap[g]?=some (.cells #[.int .i64 2,.string ⟨#[]⟩,.slice none 0 0,.int .i64 0,.int .i64 0,.string ⟨#[]⟩,.int .i64 0,.int .i64 0,.string ⟨#[]⟩,.int .i64 0,.slice none 0 0,.int .i64 0,.string ⟨#[]⟩,.int .i64 0,.int .i64 0,.string ⟨#[]⟩,.int .i64 0,.slice none 0 0,.int .i64 0,.string ⟨#[]⟩,.int .i64 0,.string ⟨#[]⟩,.int .i64 0,.int .i64 0,.string ⟨#[]⟩,.int .i64 0,.slice none 0 0,.slice none 0 0,.int .i64 (t.line:Nat),.int .i64 (t.col:Nat)] 50 (0,0))):=Hxq (setCs_heap [.int .i64 2] 0 [.int .i64 0,.string ⟨#[]⟩,.slice none 0 0,.int .i64 0,.int .i64 0,.string ⟨#[]⟩,.int .i64 0,.int .i64 0,.string ⟨#[]⟩,.int .i64 0,.slice none 0 0,.int .i64 0,.string ⟨#[]⟩,.int .i64 0,.int .i64 0,.string ⟨#[]⟩,.int .i64 0,.slice none 0 0,.int .i64 0,.string ⟨#[]⟩,.int .i64 0,.string ⟨#[]⟩,.int .i64 0,.int .i64 0,.string ⟨#[]⟩,.int .i64 0,.slice none 0 0,.slice none 0 0,.int .i64 (t.line:Nat),.int .i64 (t.col:Nat)] w31 G31.out)
   have H32:=Hxq (H31.out.new HLo.out mS (by simp;omega));have A32:=Hxq (mS.at A31.out (by simp;omega));have T32:=Hxq (mS.at T31.out (by simp;omega));have M32:=Hxq (M31.out.trans mS (by simp;omega))
   have Q32:=Hxq (Q31.out.keep mS (fun s hs=>by rw [Msq] at hs;omega))
   have k0:w31.cell? ⟨g,0,none⟩=some (.int .i64 0):=cell_at G31.out 0
   have fg:∀ j,w31.frozen? ⟨g,j,none⟩=false:=fun j=>free_at G31.out j
   have D32:=Hxq (mS.at D31.out (by simp;omega))
   clear mS
   go_upto_region 7 with fail
   generalize (w31.setCell ⟨g,0,none⟩ (.int .i64 2))=w32 at *
   clear k0 fg A31 G31 T31 M31 H31
   obtain ⟨d0,d1⟩:=cells2 D32.out
   have mS:Mod [g] w32 ((w32.setCell ⟨g,1,none⟩ (.string a.rel)).setCell ⟨g,2,none⟩ (.slice ua a.terms.length ca)):=setCs_mod g [.string a.rel,.slice ua a.terms.length ca] 1 w32
   have G33:Hid (((w32.setCell ⟨g,1,none⟩ (.string a.rel)).setCell ⟨g,2,none⟩ (.slice ua a.terms.length ca)).heap[g]?=some (.cells #[.int .i64 2,.string a.rel,.slice ua a.terms.length ca,.int .i64 0,.int .i64 0,.string ⟨#[]⟩,.int .i64 0,.int .i64 0,.string ⟨#[]⟩,.int .i64 0,.slice none 0 0,.int .i64 0,.string ⟨#[]⟩,.int .i64 0,.int .i64 0,.string ⟨#[]⟩,.int .i64 0,.slice none 0 0,.int .i64 0,.string ⟨#[]⟩,.int .i64 0,.string ⟨#[]⟩,.int .i64 0,.int .i64 0,.string ⟨#[]⟩,.int .i64 0,.slice none 0 0,.slice none 0 0,.int .i64 (t.line:Nat),.int .i64 (t.col:Nat)] 50 (0,0))):=Hxq (setCs_heap [.string a.rel,.slice ua a.terms.length ca] 1 [.int .i64 2,.string ⟨#[]⟩,.slice none 0 0,.int .i64 0,.int .i64 0,.string ⟨#[]⟩,.int .i64 0,.int .i64 0,.string ⟨#[]⟩,.int .i64 0,.slice none 0 0,.int .i64 0,.string ⟨#[]⟩,.int .i64 0,.int .i64 0,.string ⟨#[]⟩,.int .i64 0,.slice none 0 0,.int .i64 0,.string ⟨#[]⟩,.int .i64 0,.string ⟨#[]⟩,.int .i64 0,.int .i64 0,.string ⟨#[]⟩,.int .i64 0,.slice none 0 0,.slice none 0 0,.int .i64 (t.line:Nat),.int .i64 (t.col:Nat)] w32 G32.out)
   have H33:=Hxq (H32.out.new HLo.out mS (by simp;omega));have A33:=Hxq (mS.at A32.out (by simp;omega));have T33:=Hxq (mS.at T32.out (by simp;omega));have M33:=Hxq (M32.out.trans mS (by simp;omega))
   have Q33:=Hxq (Q32.out.keep mS (fun s hs=>by rw [Msq] at hs;omega))
   have k0:w32.cell? ⟨g,1,none⟩=some (.string ⟨#[]⟩):=cell_at G32.out 1
   have k1:w32.cell? ⟨g,2,none⟩=some (.slice none 0 0):=cell_at G32.out 2
   have fg:∀ j,w32.frozen? ⟨g,j,none⟩=false:=fun j=>free_at G32.out j
   clear mS
   go_upto_region 8 with fail
   generalize ((w32.setCell ⟨g,1,none⟩ (.string a.rel)).setCell ⟨g,2,none⟩ (.slice ua a.terms.length ca))=w33 at *
   clear k0 k1 fg A32 G32 T32 M32 H32
   clear d0 d1
   go_wp2_with (first | refine wpList_load_row rfl 50 _ rfl g #[.int .i64 2,.string a.rel,.slice ua a.terms.length ca,.int .i64 0,.int .i64 0,.string ⟨#[]⟩,.int .i64 0,.int .i64 0,.string ⟨#[]⟩,.int .i64 0,.slice none 0 0,.int .i64 0,.string ⟨#[]⟩,.int .i64 0,.int .i64 0,.string ⟨#[]⟩,.int .i64 0,.slice none 0 0,.int .i64 0,.string ⟨#[]⟩,.int .i64 0,.string ⟨#[]⟩,.int .i64 0,.int .i64 0,.string ⟨#[]⟩,.int .i64 0,.slice none 0 0,.slice none 0 0,.int .i64 (t.line:Nat),.int .i64 (t.col:Nat)] 50 (0,0) rfl G33.out _ Tryz.underlying50 rfl Tryz.sizeLit ?_ | refine wpList_store_at rfl 50 _ _ rfl w.heap.size #[.int .i64 2,.string a.rel,.slice ua a.terms.length ca,.int .i64 0,.int .i64 0,.string ⟨#[]⟩,.int .i64 0,.int .i64 0,.string ⟨#[]⟩,.int .i64 0,.slice none 0 0,.int .i64 0,.string ⟨#[]⟩,.int .i64 0,.int .i64 0,.string ⟨#[]⟩,.int .i64 0,.slice none 0 0,.int .i64 0,.string ⟨#[]⟩,.int .i64 0,.string ⟨#[]⟩,.int .i64 0,.int .i64 0,.string ⟨#[]⟩,.int .i64 0,.slice none 0 0,.slice none 0 0,.int .i64 (t.line:Nat),.int .i64 (t.col:Nat)] #[Value.int .i64 0,Value.string ⟨#[]⟩,Value.slice none 0 0,Value.int .i64 0,Value.int .i64 0,Value.string ⟨#[]⟩,Value.int .i64 0,Value.int .i64 0,Value.string ⟨#[]⟩,Value.int .i64 0,Value.slice none 0 0,Value.int .i64 0,Value.string ⟨#[]⟩,Value.int .i64 0,Value.int .i64 0,Value.string ⟨#[]⟩,Value.int .i64 0,Value.slice none 0 0,Value.int .i64 0,Value.string ⟨#[]⟩,Value.int .i64 0,Value.string ⟨#[]⟩,Value.int .i64 0,Value.int .i64 0,Value.string ⟨#[]⟩,Value.int .i64 0,Value.slice none 0 0,Value.slice none 0 0,Value.int .i64 0,Value.int .i64 0] 50 rfl rfl A33.out Tryz.sizeLit rfl rfl ?_)
   have mR:=Mod.setRow w33 w.heap.size #[.int .i64 2,.string a.rel,.slice ua a.terms.length ca,.int .i64 0,.int .i64 0,.string ⟨#[]⟩,.int .i64 0,.int .i64 0,.string ⟨#[]⟩,.int .i64 0,.slice none 0 0,.int .i64 0,.string ⟨#[]⟩,.int .i64 0,.int .i64 0,.string ⟨#[]⟩,.int .i64 0,.slice none 0 0,.int .i64 0,.string ⟨#[]⟩,.int .i64 0,.string ⟨#[]⟩,.int .i64 0,.int .i64 0,.string ⟨#[]⟩,.int .i64 0,.slice none 0 0,.slice none 0 0,.int .i64 (t.line:Nat),.int .i64 (t.col:Nat)]
   have hRow:=setRow_heap w33 w.heap.size _ #[.int .i64 2,.string a.rel,.slice ua a.terms.length ca,.int .i64 0,.int .i64 0,.string ⟨#[]⟩,.int .i64 0,.int .i64 0,.string ⟨#[]⟩,.int .i64 0,.slice none 0 0,.int .i64 0,.string ⟨#[]⟩,.int .i64 0,.int .i64 0,.string ⟨#[]⟩,.int .i64 0,.slice none 0 0,.int .i64 0,.string ⟨#[]⟩,.int .i64 0,.string ⟨#[]⟩,.int .i64 0,.int .i64 0,.string ⟨#[]⟩,.int .i64 0,.slice none 0 0,.slice none 0 0,.int .i64 (t.line:Nat),.int .i64 (t.col:Nat)] _ _ A33.out
   have hLB:LB (fun k=>w.heap.size<k/\k≠g/\k≠tb) w33 (.mk 2 a 0 Sy.ex0 Sy.ex0 0 (Sy.txt []) Sy.ex0 [] (t.line:Nat) (t.col:Nat)) ⟨.slice ua a.terms.length ca,.slice none 0 0,.slice none 0 0,.slice none 0 0,.slice none 0 0⟩:=LB.of Q33.out .nil .nil .nil BB.nil
   refine bodyPost_ret (res_ct rfl _ _ _ _ _ rfl rfl (load_lit hRow rfl)) rfl ⟨_,rfl,⟨⟨.slice ua a.terms.length ca,.slice none 0 0,.slice none 0 0,.slice none 0 0,.slice none 0 0⟩,rfl,(hLB.keep mR (fun s hs=>by rw [Msq] at hs;omega)).mono (fun k hk _=>by omega)⟩,H33.out.new HLo.out mR (by simp),M33.out.trans mR (by simp)⟩
end Go.Proofs.YtppigckioalhhaaGreatDoorR
