/- THE TEXTS MERGED: SyLit. -/
import Derived.Test.YtbfaclljbbfknaaGreatDoorKP12
namespace Go.Proofs.YtbfaclljbbfknaaGreatDoor
open Go.RowKit
set_option linter.unusedVariables false
set_option linter.unusedSimpArgs false
set_option maxRecDepth 100000
theorem litF_eq (v:Sy.Env) (k br i:Nat):Sy.litF v (k+1) br i =
  if Sy.sign (v.tk i) [110,111,116]=true then (Sy.atom v (i+1)).bind fun a j=>.ok (.mk 2 a 0 Sy.ex0 Sy.ex0 0 (Sy.txt []) Sy.ex0 [] (v.tk i).line (v.tk i).col) j
  else if Sy.plain (v.tk i)=true/\Sy.sign (v.tk (i+1)) [40]=true then (Sy.atom v i).bind fun a j=>.ok (.mk 1 a 0 Sy.ex0 Sy.ex0 0 (Sy.txt []) Sy.ex0 [] (v.tk i).line (v.tk i).col) j
  else if (v.tk i).kind=2/\Sy.sign (v.tk (i+1)) [61]=true/\0<Sy.fnOf (v.tk (i+2)) then
   (Sy.aggOf v (Sy.litF v k (br+1)) br i).bind fun g j=>.ok (.mk 4 Sy.at0 0 Sy.ex0 Sy.ex0 g.fn g.av g.of g.body (v.tk i).line (v.tk i).col) j
  else (Sy.expr v i).bind fun l j=>if Sy.cmpOf (v.tk j)=0 then .err (v.give 40 j)
   else (Sy.expr v (j+1)).bind fun r j2=>.ok (.mk 3 Sy.at0 (Sy.cmpOf (v.tk j):Nat) l r 0 (Sy.txt []) Sy.ex0 [] (v.tk i).line (v.tk i).col) j2:=by rw [Sy.litF]
theorem build_lit (l c:Int) (w:World):(Instr.build 40 #[(6,.agg #[.int .i64 l,.int .i64 c])]).run Tryz.prog w=.ok (.agg #[.int .i64 0,.string ⟨#[]⟩,.slice none 0 0,.int .i64 0,.int .i64 0,.string ⟨#[]⟩,.int .i64 0,.int .i64 0,.string ⟨#[]⟩,.int .i64 0,.slice none 0 0,.int .i64 0,.string ⟨#[]⟩,.int .i64 0,.int .i64 0,.string ⟨#[]⟩,.int .i64 0,.slice none 0 0,.int .i64 0,.string ⟨#[]⟩,.int .i64 0,.string ⟨#[]⟩,.int .i64 0,.int .i64 0,.string ⟨#[]⟩,.int .i64 0,.slice none 0 0,.slice none 0 0,.int .i64 l,.int .i64 c]) w:=run_build w 40 _ _ (by kernel_rfl)
set_option maxHeartbeats 16000000 in
theorem lit_of (b:Nat) (ra:Option Addr) (rc:Nat) (f:Value) (v:Sy.Env) (k br:Nat) (hv:EnvOk v) (hAg:AgC b ra rc f v k br):LiC b ra rc f v (k+1) br:=by
 intro i w h hi
 have hlen:=hv.len
 have mA:=(Mod.refl [] w).alloc (Obj.cells #[.int .i64 0,.string ⟨#[]⟩,.slice none 0 0,.int .i64 0,.int .i64 0,.string ⟨#[]⟩,.int .i64 0,.int .i64 0,.string ⟨#[]⟩,.int .i64 0,.slice none 0 0,.int .i64 0,.string ⟨#[]⟩,.int .i64 0,.int .i64 0,.string ⟨#[]⟩,.int .i64 0,.slice none 0 0,.int .i64 0,.string ⟨#[]⟩,.int .i64 0,.string ⟨#[]⟩,.int .i64 0,.int .i64 0,.string ⟨#[]⟩,.int .i64 0,.slice none 0 0,.slice none 0 0,.int .i64 0,.int .i64 0] 40)
 have hA:=h.past mA (by simp)
 have eA:=heap_alloc_new w (Obj.cells #[.int .i64 0,.string ⟨#[]⟩,.slice none 0 0,.int .i64 0,.int .i64 0,.string ⟨#[]⟩,.int .i64 0,.int .i64 0,.string ⟨#[]⟩,.int .i64 0,.slice none 0 0,.int .i64 0,.string ⟨#[]⟩,.int .i64 0,.int .i64 0,.string ⟨#[]⟩,.int .i64 0,.slice none 0 0,.int .i64 0,.string ⟨#[]⟩,.int .i64 0,.string ⟨#[]⟩,.int .i64 0,.int .i64 0,.string ⟨#[]⟩,.int .i64 0,.slice none 0 0,.slice none 0 0,.int .i64 0,.int .i64 0] 40)
 have HP:=Hxq (peek0 b ra rc f v i _ hA hv (by omega))
 have HP1:=Hxq (fun w h=>peek1 b ra rc f v i w h hv (by omega))
 have HP2:=Hxq (fun w h=>peek2 b ra rc f v i w h hv (by omega))
 have HMy:=Hxq (fun w h=>may_any b ra rc f v i [110,111,116] { data:=#[110,111,116] } w h hv (by omega) rfl (by decide))
 have HPl:=Hxq (fun w=>plain_any (v.tk i) w (hv.tbyte i))
 have HS1:=Hxq (fun w=>sign_any (v.tk (i+1)) [40] { data:=#[40] } w rfl (hv.tbyte (i+1)) (by decide))
 have HS2:=Hxq (fun w=>sign_any (v.tk (i+1)) [61] { data:=#[61] } w rfl (hv.tbyte (i+1)) (by decide))
 have HFn:=Hxq (fun w=>function_any (v.tk (i+2)) w (hv.tbyte (i+2)))
 have HR:=Hxq (litF_eq v k br i)
 have hsl:=fun h=>Sy.sign_lt (v:=v) (i:=i) (s:=[110,111,116]) h
 have hfl:0<Sy.fnOf (v.tk (i+2))->i+2<v.ws.length:=fun h=>Sy.kind_lt (Sy.placeF_pos _ _ h)
 have HLo:=Lib.hid h.low
 have hbl:=h.lt
 have HA:=Lib.hid hA;have EA:=Lib.hid eA;have MA:=Lib.hid mA
 have hnb:w.heap.size∉[b]:=by simp;omega
 clear h hA eA mA
 generalize hq:Sy.litF v (k+1) br i=q at *
 generalize Sy.sign (v.tk i) [110,111,116]=rn at *
 generalize Sy.plain (v.tk i)=pl at *
 generalize Sy.sign (v.tk (i+1)) [40]=rp at *
 generalize Sy.sign (v.tk (i+1)) [61]=re at *
 generalize Sy.fnOf (v.tk (i+2))=fnn at *
 generalize v.tk (i+1)=t1 at *
 generalize v.tk (i+2)=t2 at *
 generalize v.tk i=t at *
 clear hq
 have HSL:=Lib.hid hsl;have HFL:=Lib.hid hfl
 clear hsl hfl
 go_enter Tryz.func18,Tryz.ntmps18
 go_upto_region 1 with fail
 generalize w.alloc (Obj.cells #[.int .i64 0,.string ⟨#[]⟩,.slice none 0 0,.int .i64 0,.int .i64 0,.string ⟨#[]⟩,.int .i64 0,.int .i64 0,.string ⟨#[]⟩,.int .i64 0,.slice none 0 0,.int .i64 0,.string ⟨#[]⟩,.int .i64 0,.int .i64 0,.string ⟨#[]⟩,.int .i64 0,.slice none 0 0,.int .i64 0,.string ⟨#[]⟩,.int .i64 0,.string ⟨#[]⟩,.int .i64 0,.int .i64 0,.string ⟨#[]⟩,.int .i64 0,.slice none 0 0,.slice none 0 0,.int .i64 0,.int .i64 0] 40)=wA at *
 go_wp2_with fail
 refine HP.out.mono ?_
 rintro e1 w1 ⟨rfl,m1⟩
 have A1:=Hxq (m1.at EA.out (by simp));have H1:=Hxq (HA.out.past m1 (by simp));have M1:=Hxq ((MA.out.mono (T:=[b]) (by simp)).trans m1 (by simp))
 have z1:=lt_of_block A1.out
 have mB:=(Mod.refl [] w1).alloc (Obj.cells (tokC t) 93)
 have bB:=heap_alloc_new w1 (Obj.cells (tokC t) 93)
 have zB:(w1.alloc (Obj.cells (tokC t) 93)).heap.size=w1.heap.size+1:=by simp
 have AB:=Hxq (mB.at A1.out (by simp));have HB:=Hxq (H1.out.past mB (by simp));have MB:=Hxq (M1.out.trans mB (by simp));have TB:=Lib.hid bB
 clear m1 HP mB bB A1 H1 M1 HA EA MA
 unfold tokC at *
 go_upto_region 2 with fail
 generalize w1.alloc (Obj.cells _ 93)=wB at *
 obtain ⟨x0,x1,x2,x3,x4,x5,x6⟩:=tok_cells TB.out
 have mC:=(Mod.refl [] wB).alloc (Obj.cells #[.int .i64 0,.string ⟨#[]⟩,.slice none 0 0,.int .i64 0,.int .i64 0,.string ⟨#[]⟩,.int .i64 0,.int .i64 0,.string ⟨#[]⟩,.int .i64 0,.slice none 0 0,.int .i64 0,.string ⟨#[]⟩,.int .i64 0,.int .i64 0,.string ⟨#[]⟩,.int .i64 0,.slice none 0 0,.int .i64 0,.string ⟨#[]⟩,.int .i64 0,.string ⟨#[]⟩,.int .i64 0,.int .i64 0,.string ⟨#[]⟩,.int .i64 0,.slice none 0 0,.slice none 0 0,.int .i64 (t.line:Nat),.int .i64 (t.col:Nat)] 40)
 have cC:=heap_alloc_new wB (Obj.cells #[.int .i64 0,.string ⟨#[]⟩,.slice none 0 0,.int .i64 0,.int .i64 0,.string ⟨#[]⟩,.int .i64 0,.int .i64 0,.string ⟨#[]⟩,.int .i64 0,.slice none 0 0,.int .i64 0,.string ⟨#[]⟩,.int .i64 0,.int .i64 0,.string ⟨#[]⟩,.int .i64 0,.slice none 0 0,.int .i64 0,.string ⟨#[]⟩,.int .i64 0,.string ⟨#[]⟩,.int .i64 0,.int .i64 0,.string ⟨#[]⟩,.int .i64 0,.slice none 0 0,.slice none 0 0,.int .i64 (t.line:Nat),.int .i64 (t.col:Nat)] 40)
 have A2:=Hxq (mC.at AB.out (by simp));have H2:=Hxq (HB.out.past mC (by simp));have M2:=Hxq (MB.out.trans mC (by simp));have T2:=Hxq (mC.at TB.out (by simp));have G2:=Lib.hid cC
 clear mC cC AB HB MB TB
 go_upto_region 10 with (first | refine wpList_built rfl 40 6 _ rfl (.agg #[.int .i64 (t.line:Nat),.int .i64 (t.col:Nat)]) rfl #[.int .i64 0,.string ⟨#[]⟩,.slice none 0 0,.int .i64 0,.int .i64 0,.string ⟨#[]⟩,.int .i64 0,.int .i64 0,.string ⟨#[]⟩,.int .i64 0,.slice none 0 0,.int .i64 0,.string ⟨#[]⟩,.int .i64 0,.int .i64 0,.string ⟨#[]⟩,.int .i64 0,.slice none 0 0,.int .i64 0,.string ⟨#[]⟩,.int .i64 0,.string ⟨#[]⟩,.int .i64 0,.int .i64 0,.string ⟨#[]⟩,.int .i64 0,.slice none 0 0,.slice none 0 0,.int .i64 (t.line:Nat),.int .i64 (t.col:Nat)] (build_lit _ _ _) ?_ | refine wpList_store_new rfl 40 _ _ rfl wB (w1.heap.size+1) #[.int .i64 0,.string ⟨#[]⟩,.slice none 0 0,.int .i64 0,.int .i64 0,.string ⟨#[]⟩,.int .i64 0,.int .i64 0,.string ⟨#[]⟩,.int .i64 0,.slice none 0 0,.int .i64 0,.string ⟨#[]⟩,.int .i64 0,.int .i64 0,.string ⟨#[]⟩,.int .i64 0,.slice none 0 0,.int .i64 0,.string ⟨#[]⟩,.int .i64 0,.string ⟨#[]⟩,.int .i64 0,.int .i64 0,.string ⟨#[]⟩,.int .i64 0,.slice none 0 0,.slice none 0 0,.int .i64 (t.line:Nat),.int .i64 (t.col:Nat)] #[.int .i64 0,.string ⟨#[]⟩,.slice none 0 0,.int .i64 0,.int .i64 0,.string ⟨#[]⟩,.int .i64 0,.int .i64 0,.string ⟨#[]⟩,.int .i64 0,.slice none 0 0,.int .i64 0,.string ⟨#[]⟩,.int .i64 0,.int .i64 0,.string ⟨#[]⟩,.int .i64 0,.slice none 0 0,.int .i64 0,.string ⟨#[]⟩,.int .i64 0,.string ⟨#[]⟩,.int .i64 0,.int .i64 0,.string ⟨#[]⟩,.int .i64 0,.slice none 0 0,.slice none 0 0,.int .i64 0,.int .i64 0] 40 rfl rfl rfl zB.symm Tryz.sizeLit rfl rfl ?_)
 generalize wB.alloc (Obj.cells _ 40)=w2 at *
 clear x0 x1 x2 x3 x4 x5 x6
 rw [zB] at G2
 clear zB
 generalize hgg:w1.heap.size+1=g at *
 generalize htt:w1.heap.size=tb at *
 have hgb:g∉[b]:=by simp;omega
 have htb:tb∉[b]:=by simp;omega
 go_wp2_with fail
 refine (HMy.out w2 H2.out).mono ?_
 rintro e3 w3 ⟨rfl,h3,m3⟩
 have z3:=m3.size
 have zz3:=lt_of_block G2.out
 have A3:=Hxq (m3.at A2.out hnb);have G3:=Hxq (m3.at G2.out hgb);have T3:=Hxq (m3.at T2.out htb);have M3:=Hxq (M2.out.trans m3 (by simp));have H3:=Lib.hid h3
 clear h3 m3 A2 G2 T2 M2 H2 HMy
 cases rn
 ·have H3':Hid (RdP w3 b ra rc f v i):=Lib.hid H3.out
  clear H3
  have H3:=H3'
  clear H3'
  have HR2:Hid (q=if (pl && rp)=true then (Sy.atom v i).bind fun a j=>.ok (.mk 1 a 0 Sy.ex0 Sy.ex0 0 (Sy.txt []) Sy.ex0 [] t.line t.col) j
   else if (decide (t.kind=2) && (re && decide (0<fnn)))=true then
    (Sy.aggOf v (Sy.litF v k (br+1)) br i).bind fun g j=>.ok (.mk 4 Sy.at0 0 Sy.ex0 Sy.ex0 g.fn g.av g.of g.body t.line t.col) j
   else (Sy.expr v i).bind fun l j=>if Sy.cmpOf (v.tk j)=0 then .err (v.give 40 j)
    else (Sy.expr v (j+1)).bind fun r j2=>.ok (.mk 3 Sy.at0 (Sy.cmpOf (v.tk j):Nat) l r 0 (Sy.txt []) Sy.ex0 [] t.line t.col) j2):=Hxq (by
   rw [HR.out];simp only [Bool.and_eq_true,decide_eq_true_eq];simp)
  clear HR
  go_upto_region 12 with fail
  go_cut [49] (fun cv wx=>cv=.bool (pl && rp)/\Mod [] w3 wx)
  case first =>
   obtain ⟨x0,x1,x2,x3,x4,x5,x6⟩:=tok_cells T3.out
   go_wp2_with fail
   refine (HPl.out w3).mono ?_
   rintro e4 w4 ⟨rfl,m4⟩
   have H4:=Hxq (H3.out.past m4 (by simp));have N4:=Lib.hid m4
   clear m4
   cases pl
   ·go_wp2_with fail
    go_meet
    exact ⟨rfl,N4.out⟩
   ·go_wp2_with fail
    refine (HP1.out w4 H4.out).mono ?_
    rintro e5 w5 ⟨rfl,m5⟩
    have N5:=Hxq (N4.out.trans m5 (by simp))
    clear m5
    go_wp2_with fail
    refine (HS1.out w5).mono ?_
    rintro e6 w6 ⟨rfl,m6⟩
    have N6:=Hxq (N5.out.trans m6 (by simp))
    clear m6
    go_wp2_with fail
    go_meet
    exact ⟨rfl,N6.out⟩
  case rest =>
   obtain ⟨rfl,m7⟩:=hcut
   obtain ⟨w7,hw7⟩:∃ w7,w7=wc:=⟨_,rfl⟩
   subst hw7
   have A7:=Hxq (m7.at A3.out (by simp));have G7:=Hxq (m7.at G3.out (by simp));have T7:=Hxq (m7.at T3.out (by simp));have M7:=Hxq (M3.out.trans m7 (by simp));have H7:=Hxq (H3.out.past m7 (by simp))
   clear m7 A3 G3 T3 M3 H3
   clear HPl HS1
   generalize (pl && rp)=rc at *
   cases rc
   ·have HR4:Hid (q=if (decide (t.kind=2) && (re && decide (0<fnn)))=true then
      (Sy.aggOf v (Sy.litF v k (br+1)) br i).bind fun g j=>.ok (.mk 4 Sy.at0 0 Sy.ex0 Sy.ex0 g.fn g.av g.of g.body t.line t.col) j
     else (Sy.expr v i).bind fun l j=>(if Sy.cmpOf (v.tk j)=0 then .err (v.give 40 j) else (Sy.expr v (j+1)).bind fun r j2=>.ok (.mk 3 Sy.at0 (Sy.cmpOf (v.tk j):Nat) l r 0 (Sy.txt []) Sy.ex0 [] t.line t.col) j2)):=Lib.hid HR2.out
    clear HR2
    go_upto_region 14 with fail
    go_cut [61] (fun cv wx=>cv=.bool (decide (t.kind=2) && (re && decide (0<fnn)))/\Mod [] w7 wx)
    case first =>
     obtain ⟨x0,x1,x2,x3,x4,x5,x6⟩:=tok_cells T7.out
     by_cases k2:t.kind=2
     ·have b2:((t.kind:Int) == 2)=true:=by rw [k2];rfl
      have HB2:Hid (decide (t.kind=2)=true):=Hxq (decide_eq_true k2)
      clear k2
      go_wp2_with fail
      refine (HP1.out w7 H7.out).mono ?_
      rintro e8 w8 ⟨rfl,m8⟩
      have N8:=Lib.hid m8
      clear m8
      go_wp2_with fail
      refine (HS2.out w8).mono ?_
      rintro e9 w9 ⟨rfl,m9⟩
      have N9:=Hxq (N8.out.trans m9 (by simp))
      clear m9
      cases re
      ·go_wp2_with fail
       go_meet
       exact ⟨by rw [HB2.out];rfl,N9.out⟩
      ·have H9:=Hxq (H7.out.past N9.out (by simp))
       go_wp2_with fail
       refine (HP2.out w9 H9.out).mono ?_
       rintro e10 w10 ⟨rfl,m10⟩
       have N10:=Hxq (N9.out.trans m10 (by simp))
       clear m10
       go_wp2_with fail
       refine (HFn.out w10).mono ?_
       rintro e11 w11 ⟨rfl,m11⟩
       have N11:=Hxq (N10.out.trans m11 (by simp))
       clear m11
       have hfd:decide ((fnn:Int) > 0)=decide (0<fnn):=by rw [Bool.eq_iff_iff];simp
       have hfe:decide ((0:Int)<(fnn:Int))=decide (0<fnn):=by rw [Bool.eq_iff_iff];simp
       have HFD:=Lib.hid hfd;have HFE:=Lib.hid hfe
       clear hfd hfe
       go_wp2_with fail
       go_meet
       exact ⟨by rw [HB2.out,Bool.true_and,Bool.true_and],N11.out⟩
     ·have b2:((t.kind:Int) == 2)=false:=by rw [beq_eq_false_iff_ne];omega
      have HB2:Hid (decide (t.kind=2)=false):=Hxq (decide_eq_false k2)
      clear k2
      go_wp2_with fail
      go_meet
      exact ⟨by rw [HB2.out];rfl,Mod.refl _ _⟩
    case rest =>
     obtain ⟨rfl,m8⟩:=hcut
     obtain ⟨w8,hw8⟩:∃ w8,w8=wc:=⟨_,rfl⟩
     subst hw8
     have A8:=Hxq (m8.at A7.out (by simp));have G8:=Hxq (m8.at G7.out (by simp));have T8:=Hxq (m8.at T7.out (by simp));have M8:=Hxq (M7.out.trans m8 (by simp));have H8:=Hxq (H7.out.past m8 (by simp))
     clear m8 A7 G7 T7 M7 H7
     clear HP1 HP2 HS2 HFn
     have hrg:(decide (t.kind=2) && (re && decide (0<fnn)))=true->0<fnn:=fun h=>by
      simp only [Bool.and_eq_true,decide_eq_true_eq] at h
      exact h.2.2
     generalize (decide (t.kind=2) && (re && decide (0<fnn)))=rg at *
     cases rg
     ·clear hrg
      have HQ:Hid (q=((Sy.exprF v 60 1 0 i).bind fun r j=>.ok r.1 j).bind fun l j=>(if Sy.cmpOf (v.tk j)=0 then .err (v.give 40 j) else (Sy.expr v (j+1)).bind fun r j2=>.ok (.mk 3 Sy.at0 (Sy.cmpOf (v.tk j):Nat) l r 0 (Sy.txt []) Sy.ex0 [] t.line t.col) j2)):=Lib.hid HR4.out
      clear HR4
      have mS:Mod [g] w8 (w8.setCell ⟨g,0,none⟩ (.int .i64 3)):=setCs_mod g [.int .i64 3] 0 w8
      have G50:Hid ((w8.setCell ⟨g,0,none⟩ (.int .i64 3)).heap[g]?=some (.cells #[.int .i64 3,.string ⟨#[]⟩,.slice none 0 0,.int .i64 0,.int .i64 0,.string ⟨#[]⟩,.int .i64 0,.int .i64 0,.string ⟨#[]⟩,.int .i64 0,.slice none 0 0,.int .i64 0,.string ⟨#[]⟩,.int .i64 0,.int .i64 0,.string ⟨#[]⟩,.int .i64 0,.slice none 0 0,.int .i64 0,.string ⟨#[]⟩,.int .i64 0,.string ⟨#[]⟩,.int .i64 0,.int .i64 0,.string ⟨#[]⟩,.int .i64 0,.slice none 0 0,.slice none 0 0,.int .i64 (t.line:Nat),.int .i64 (t.col:Nat)] 40 (0,0))):=Hxq (setCs_heap [.int .i64 3] 0 [.int .i64 0,.string ⟨#[]⟩,.slice none 0 0,.int .i64 0,.int .i64 0,.string ⟨#[]⟩,.int .i64 0,.int .i64 0,.string ⟨#[]⟩,.int .i64 0,.slice none 0 0,.int .i64 0,.string ⟨#[]⟩,.int .i64 0,.int .i64 0,.string ⟨#[]⟩,.int .i64 0,.slice none 0 0,.int .i64 0,.string ⟨#[]⟩,.int .i64 0,.string ⟨#[]⟩,.int .i64 0,.int .i64 0,.string ⟨#[]⟩,.int .i64 0,.slice none 0 0,.slice none 0 0,.int .i64 (t.line:Nat),.int .i64 (t.col:Nat)] w8 G8.out)
      have H50:=Hxq (H8.out.new HLo.out mS (by simp;omega));have A50:=Hxq (mS.at A8.out (by simp;omega));have T50:=Hxq (mS.at T8.out (by simp;omega));have M50:=Hxq (M8.out.trans mS (by simp;omega))
      have k0:w8.cell? ⟨g,0,none⟩=some (.int .i64 0):=cell_at G8.out 0
      have fg:∀ j,w8.frozen? ⟨g,j,none⟩=false:=fun j=>free_at G8.out j
      clear mS
      go_upto_region 4 with fail
      generalize (w8.setCell ⟨g,0,none⟩ (.int .i64 3))=w50 at *
      clear k0 fg A8 G8 T8 M8 H8
      have HE:=Hxq (expr_any b ra rc f v i w50 H50.out hv hi)
      have hadvE:=Sy.adv_exprF v 60 1 0 (by omega) i
      generalize Sy.exprF v 60 1 0 i=px at *
      cases px with
      | err g1 =>
       have hq:q=.err g1:=HQ.out
       subst hq
       clear HQ hadvE
       go_wp2_with fail
       refine HE.out.mono ?_
       rintro e51 w51 ⟨rfl,m51⟩
       have M51:=Hxq (M50.out.trans m51 (by simp))
       clear m51
       unfold stopE
       go_wp2_with fail
       exact ⟨rfl,rfl,M51.out⟩
      | ok r n0 =>
       obtain ⟨el,dl⟩:=r
       have hn0:=hadvE _ n0 hi rfl
       have HQ1:Hid (q=if Sy.cmpOf (v.tk n0)=0 then .err (v.give 40 n0) else (Sy.expr v (n0+1)).bind fun r j2=>.ok (.mk 3 Sy.at0 (Sy.cmpOf (v.tk n0):Nat) el r 0 (Sy.txt []) Sy.ex0 [] (t.line:Nat) (t.col:Nat)) j2):=Lib.hid HQ.out
       clear HQ hadvE
       go_wp2_with fail
       refine HE.out.mono ?_
       rintro e52 w52 ⟨y52,rfl,⟨u52,rfl,hb52⟩,h52,m52⟩
       obtain ⟨al,cl,rfl⟩:=hb52.lit
       have z52:=m52.size
       have zz52:=lt_of_block G50.out
       have A52:=Hxq (m52.at A50.out hnb);have G52:=Hxq (m52.at G50.out hgb);have T52:=Hxq (m52.at T50.out htb);have M52:=Hxq (M50.out.trans m52 (by simp));have H52:=Lib.hid h52
       have L52:=Hxq (hb52.mono (F':=(fun k=>w.heap.size<k/\k≠g/\k≠tb)) (fun k hk hk2=>by omega))
       clear h52 m52 hb52 HE
       have mS:Mod [g] w52 (((((((w52.setCell ⟨g,4,none⟩ (.int .i64 el.k)).setCell ⟨g,5,none⟩ (.string el.v)).setCell ⟨g,6,none⟩ (.int .i64 el.x.k)).setCell ⟨g,7,none⟩ (.int .i64 el.x.n)).setCell ⟨g,8,none⟩ (.string (Lx.ofS el.x.s))).setCell ⟨g,9,none⟩ (.int .i64 el.op)).setCell ⟨g,10,none⟩ (.slice al el.args.length cl)):=setCs_mod g [.int .i64 el.k,.string el.v,.int .i64 el.x.k,.int .i64 el.x.n,.string (Lx.ofS el.x.s),.int .i64 el.op,.slice al el.args.length cl] 4 w52
       have G53:Hid ((((((((w52.setCell ⟨g,4,none⟩ (.int .i64 el.k)).setCell ⟨g,5,none⟩ (.string el.v)).setCell ⟨g,6,none⟩ (.int .i64 el.x.k)).setCell ⟨g,7,none⟩ (.int .i64 el.x.n)).setCell ⟨g,8,none⟩ (.string (Lx.ofS el.x.s))).setCell ⟨g,9,none⟩ (.int .i64 el.op)).setCell ⟨g,10,none⟩ (.slice al el.args.length cl)).heap[g]?=some (.cells #[.int .i64 3,.string ⟨#[]⟩,.slice none 0 0,.int .i64 0,.int .i64 el.k,.string el.v,.int .i64 el.x.k,.int .i64 el.x.n,.string (Lx.ofS el.x.s),.int .i64 el.op,.slice al el.args.length cl,.int .i64 0,.string ⟨#[]⟩,.int .i64 0,.int .i64 0,.string ⟨#[]⟩,.int .i64 0,.slice none 0 0,.int .i64 0,.string ⟨#[]⟩,.int .i64 0,.string ⟨#[]⟩,.int .i64 0,.int .i64 0,.string ⟨#[]⟩,.int .i64 0,.slice none 0 0,.slice none 0 0,.int .i64 (t.line:Nat),.int .i64 (t.col:Nat)] 40 (0,0))):=Hxq (setCs_heap [.int .i64 el.k,.string el.v,.int .i64 el.x.k,.int .i64 el.x.n,.string (Lx.ofS el.x.s),.int .i64 el.op,.slice al el.args.length cl] 4 [.int .i64 3,.string ⟨#[]⟩,.slice none 0 0,.int .i64 0,.int .i64 0,.string ⟨#[]⟩,.int .i64 0,.int .i64 0,.string ⟨#[]⟩,.int .i64 0,.slice none 0 0,.int .i64 0,.string ⟨#[]⟩,.int .i64 0,.int .i64 0,.string ⟨#[]⟩,.int .i64 0,.slice none 0 0,.int .i64 0,.string ⟨#[]⟩,.int .i64 0,.string ⟨#[]⟩,.int .i64 0,.int .i64 0,.string ⟨#[]⟩,.int .i64 0,.slice none 0 0,.slice none 0 0,.int .i64 (t.line:Nat),.int .i64 (t.col:Nat)] w52 G52.out)
       have H53:=Hxq (H52.out.new HLo.out mS (by simp;omega));have A53:=Hxq (mS.at A52.out (by simp;omega));have T53:=Hxq (mS.at T52.out (by simp;omega));have M53:=Hxq (M52.out.trans mS (by simp;omega))
       have L53:=Hxq (L52.out.keep mS (fun s hs=>by rw [Msq] at hs;omega))
       have k0:w52.cell? ⟨g,4,none⟩=some (.int .i64 0):=cell_at G52.out 4
       have k1:w52.cell? ⟨g,5,none⟩=some (.string ⟨#[]⟩):=cell_at G52.out 5
       have k2:w52.cell? ⟨g,6,none⟩=some (.int .i64 0):=cell_at G52.out 6
       have k3:w52.cell? ⟨g,7,none⟩=some (.int .i64 0):=cell_at G52.out 7
       have k4:w52.cell? ⟨g,8,none⟩=some (.string ⟨#[]⟩):=cell_at G52.out 8
       have k5:w52.cell? ⟨g,9,none⟩=some (.int .i64 0):=cell_at G52.out 9
       have k6:w52.cell? ⟨g,10,none⟩=some (.slice none 0 0):=cell_at G52.out 10
       have fg:∀ j,w52.frozen? ⟨g,j,none⟩=false:=fun j=>free_at G52.out j
       clear mS
       unfold exV
       simp only
       go_upto_region 5 with fail
       generalize (((((((w52.setCell ⟨g,4,none⟩ (.int .i64 el.k)).setCell ⟨g,5,none⟩ (.string el.v)).setCell ⟨g,6,none⟩ (.int .i64 el.x.k)).setCell ⟨g,7,none⟩ (.int .i64 el.x.n)).setCell ⟨g,8,none⟩ (.string (Lx.ofS el.x.s))).setCell ⟨g,9,none⟩ (.int .i64 el.op)).setCell ⟨g,10,none⟩ (.slice al el.args.length cl))=w53 at *
       clear k0 k1 k2 k3 k4 k5 k6 fg A52 G52 T52 M52 H52
       clear L52
       have hnl:Sy.cmpOf (v.tk n0)≠0->n0<v.ws.length:=fun hh=>Sy.kind_lt (Nat.pos_iff_ne_zero.1 (Nat.pos_of_ne_zero (Sy.placeF_pos _ _ (Nat.pos_of_ne_zero hh))))
       have HPk:=Hxq (peek0 b ra rc f v n0 w53 H53.out hv (by omega))
       have HPc:=Hxq (fun g w hc=>place_any (v.tk n0) g 6 [[61],[33,61],[60],[60,61],[62],[62,61]] w (hv.tbyte n0) (by decide) (by decide) hc)
       have hcm:Sy.place (v.tk n0) [[61],[33,61],[60],[60,61],[62],[62,61]]=Sy.cmpOf (v.tk n0):=rfl
       rw [hcm] at HPc
       clear hcm
       generalize Sy.cmpOf (v.tk n0)=opn at *
       generalize v.tk n0=t3 at *
       go_wp2_with fail
       refine HPk.out.mono ?_
       rintro e54 w54 ⟨rfl,m54⟩
       have L54:=Hxq (L53.out.keep m54 (by simp))
       have A54:=Hxq (m54.at A53.out (by simp));have G54:=Hxq (m54.at G53.out (by simp));have T54:=Hxq (m54.at T53.out (by simp));have M54:=Hxq (M53.out.trans m54 (by simp));have H54:=Hxq (H53.out.past m54 (by simp))
       clear m54 A53 G53 T53 M53 H53
       clear L53
       go_wp2_with fail
       have hsz:(w54.alloc (Obj.cells #[.string { data:=#[61] },.string { data:=#[33,61] },.string { data:=#[60] },.string { data:=#[60,61] },.string { data:=#[62] },.string { data:=#[62,61] }] 9)).heap.size=w54.heap.size+1:=by simp
       have mS0:=(Mod.refl [] w54).alloc (Obj.cells #[.string { data:=#[61] },.string { data:=#[33,61] },.string { data:=#[60] },.string { data:=#[60,61] },.string { data:=#[62] },.string { data:=#[62,61] }] 9)
       have e54b:=heap_alloc_new w54 (Obj.cells #[.string { data:=#[61] },.string { data:=#[33,61] },.string { data:=#[60] },.string { data:=#[60,61] },.string { data:=#[62] },.string { data:=#[62,61] }] 9)
       generalize w54.alloc (Obj.cells _ 9)=wS at *
       refine (HPc.out _ _ (fun i hi=>?_)).mono ?_
       ·have:i=0\/i=1\/i=2\/i=3\/i=4\/i=5:=by simp at hi;omega
        rcases this with rfl | rfl | rfl | rfl | rfl | rfl
        ·exact cell_at e54b 0
        ·exact cell_at e54b 1
        ·exact cell_at e54b 2
        ·exact cell_at e54b 3
        ·exact cell_at e54b 4
        ·exact cell_at e54b 5
       ·rintro e55 w55 ⟨rfl,m55a⟩
        have m55:=mS0.trans m55a (by simp)
        have L55:=Hxq (L54.out.keep m55 (by simp))
        have A55:=Hxq (m55.at A54.out (by simp));have G55:=Hxq (m55.at G54.out (by simp));have T55:=Hxq (m55.at T54.out (by simp));have M55:=Hxq (M54.out.trans m55 (by simp));have H55:=Hxq (H54.out.past m55 (by simp))
        clear m55 A54 G54 T54 M54 H54
        clear m55a mS0 e54b hsz L54
        have mS:Mod [g] w55 (w55.setCell ⟨g,3,none⟩ (.int .i64 (opn:Nat))):=setCs_mod g [.int .i64 (opn:Nat)] 3 w55
        have G56:Hid ((w55.setCell ⟨g,3,none⟩ (.int .i64 (opn:Nat))).heap[g]?=some (.cells #[.int .i64 3,.string ⟨#[]⟩,.slice none 0 0,.int .i64 (opn:Nat),.int .i64 el.k,.string el.v,.int .i64 el.x.k,.int .i64 el.x.n,.string (Lx.ofS el.x.s),.int .i64 el.op,.slice al el.args.length cl,.int .i64 0,.string ⟨#[]⟩,.int .i64 0,.int .i64 0,.string ⟨#[]⟩,.int .i64 0,.slice none 0 0,.int .i64 0,.string ⟨#[]⟩,.int .i64 0,.string ⟨#[]⟩,.int .i64 0,.int .i64 0,.string ⟨#[]⟩,.int .i64 0,.slice none 0 0,.slice none 0 0,.int .i64 (t.line:Nat),.int .i64 (t.col:Nat)] 40 (0,0))):=Hxq (setCs_heap [.int .i64 (opn:Nat)] 3 [.int .i64 3,.string ⟨#[]⟩,.slice none 0 0,.int .i64 0,.int .i64 el.k,.string el.v,.int .i64 el.x.k,.int .i64 el.x.n,.string (Lx.ofS el.x.s),.int .i64 el.op,.slice al el.args.length cl,.int .i64 0,.string ⟨#[]⟩,.int .i64 0,.int .i64 0,.string ⟨#[]⟩,.int .i64 0,.slice none 0 0,.int .i64 0,.string ⟨#[]⟩,.int .i64 0,.string ⟨#[]⟩,.int .i64 0,.int .i64 0,.string ⟨#[]⟩,.int .i64 0,.slice none 0 0,.slice none 0 0,.int .i64 (t.line:Nat),.int .i64 (t.col:Nat)] w55 G55.out)
        have H56:=Hxq (H55.out.new HLo.out mS (by simp;omega));have A56:=Hxq (mS.at A55.out (by simp;omega));have T56:=Hxq (mS.at T55.out (by simp;omega));have M56:=Hxq (M55.out.trans mS (by simp;omega))
        have L56:=Hxq (L55.out.keep mS (fun s hs=>by rw [Msq] at hs;omega))
        have k0:w55.cell? ⟨g,3,none⟩=some (.int .i64 0):=cell_at G55.out 3
        have fg:∀ j,w55.frozen? ⟨g,j,none⟩=false:=fun j=>free_at G55.out j
        clear mS
        go_upto_region 6 with fail
        generalize (w55.setCell ⟨g,3,none⟩ (.int .i64 (opn:Nat)))=w56 at *
        clear k0 fg A55 G55 T55 M55 H55
        clear L55
        have k3:w56.cell? ⟨g,3,none⟩=some (.int .i64 (opn:Nat)):=cell_at G56.out 3
        by_cases ho:opn=0
        ·have hq:q=.err (v.give 40 n0):=by rw [HQ1.out,if_pos ho]
         subst hq
         have hoI:((opn:Int) == 0)=true:=by simp;omega
         clear HQ1 ho
         go_wp2_with fail
         refine (give_any b ra rc f v n0 40 w56 H56.out hv (by omega)).mono ?_
         rintro e57 w57 ⟨rfl,m57⟩
         have M57:=Hxq (M56.out.trans m57 (by simp))
         clear m57
         unfold stopE
         go_wp2_with fail
         exact ⟨rfl,rfl,M57.out⟩
        ·have HQ2:Hid (q=((Sy.exprF v 60 1 0 (n0+1)).bind fun r j=>.ok r.1 j).bind fun r j2=>.ok (.mk 3 Sy.at0 (opn:Nat) el r 0 (Sy.txt []) Sy.ex0 [] (t.line:Nat) (t.col:Nat)) j2):=Hxq (by rw [HQ1.out,if_neg ho];rfl)
         have hoI:((opn:Int) == 0)=false:=by rw [beq_eq_false_iff_ne];omega
         have hnl2:=hnl ho
         clear HQ1 ho hnl
         obtain ⟨c0,c1,c2,c3,c4,c5,fz⟩:=H56.out.cells
         have hT:=H56.out.to (n0+1)
         have hcast:((n0+1:Nat):Int)=(n0:Int)+1:=by omega
         rw [hcast] at hT
         have zG:=lt_of_block G56.out
         have A57:=Hxq (hT.2.at A56.out hnb);have G57:=Hxq (hT.2.at G56.out hgb);have T57:=Hxq (hT.2.at T56.out htb);have M57:=Hxq (M56.out.trans hT.2 (by simp));have L57:=Hxq (L56.out.keep hT.2 (fun s hs=>by rw [Msq] at hs;omega));have H57:=Lib.hid hT.1
         clear hT hcast
         go_upto_region 9 with fail
         generalize w56.setCell ⟨b,1,none⟩ (.int .i64 ((n0:Int)+1))=w57 at *
         clear c0 c1 c2 c3 c4 c5 fz A56 G56 T56 M56 L56 H56 k3 hoI
         have HE:=Hxq (expr_any b ra rc f v (n0+1) w57 H57.out hv hnl2)
         generalize Sy.exprF v 60 1 0 (n0+1)=px2 at *
         cases px2 with
         | err g1 =>
          have hq:q=.err g1:=HQ2.out
          subst hq
          clear HQ2
          go_wp2_with fail
          refine HE.out.mono ?_
          rintro e58 w58 ⟨rfl,m58⟩
          have M58:=Hxq (M57.out.trans m58 (by simp))
          clear m58
          unfold stopE
          go_wp2_with fail
          exact ⟨rfl,rfl,M58.out⟩
         | ok r n1 =>
          obtain ⟨er,dr⟩:=r
          have hq:q=.ok (.mk 3 Sy.at0 (opn:Nat) el er 0 (Sy.txt []) Sy.ex0 [] (t.line:Nat) (t.col:Nat)) n1:=HQ2.out
          subst hq
          clear HQ2
          go_wp2_with fail
          refine HE.out.mono ?_
          rintro e58 w58 ⟨y58,rfl,⟨u58,rfl,hb58⟩,h58,m58⟩
          obtain ⟨ar,cr,rfl⟩:=hb58.lit
          have z58:=m58.size
          have zz58:=lt_of_block G57.out
          have A58:=Hxq (m58.at A57.out hnb);have G58:=Hxq (m58.at G57.out hgb);have T58:=Hxq (m58.at T57.out htb);have M58:=Hxq (M57.out.trans m58 (by simp));have H58:=Lib.hid h58
          have L58:=Hxq (L57.out.keep m58 (fun s hs=>by rw [Msq] at hs;omega))
          have R58:=Hxq (hb58.mono (F':=(fun k=>w.heap.size<k/\k≠g/\k≠tb)) (fun k hk hk2=>by omega))
          clear h58 m58 hb58 HE
          have mS:Mod [g] w58 (((((((w58.setCell ⟨g,11,none⟩ (.int .i64 er.k)).setCell ⟨g,12,none⟩ (.string er.v)).setCell ⟨g,13,none⟩ (.int .i64 er.x.k)).setCell ⟨g,14,none⟩ (.int .i64 er.x.n)).setCell ⟨g,15,none⟩ (.string (Lx.ofS er.x.s))).setCell ⟨g,16,none⟩ (.int .i64 er.op)).setCell ⟨g,17,none⟩ (.slice ar er.args.length cr)):=setCs_mod g [.int .i64 er.k,.string er.v,.int .i64 er.x.k,.int .i64 er.x.n,.string (Lx.ofS er.x.s),.int .i64 er.op,.slice ar er.args.length cr] 11 w58
          have G59:Hid ((((((((w58.setCell ⟨g,11,none⟩ (.int .i64 er.k)).setCell ⟨g,12,none⟩ (.string er.v)).setCell ⟨g,13,none⟩ (.int .i64 er.x.k)).setCell ⟨g,14,none⟩ (.int .i64 er.x.n)).setCell ⟨g,15,none⟩ (.string (Lx.ofS er.x.s))).setCell ⟨g,16,none⟩ (.int .i64 er.op)).setCell ⟨g,17,none⟩ (.slice ar er.args.length cr)).heap[g]?=some (.cells #[.int .i64 3,.string ⟨#[]⟩,.slice none 0 0,.int .i64 (opn:Nat),.int .i64 el.k,.string el.v,.int .i64 el.x.k,.int .i64 el.x.n,.string (Lx.ofS el.x.s),.int .i64 el.op,.slice al el.args.length cl,.int .i64 er.k,.string er.v,.int .i64 er.x.k,.int .i64 er.x.n,.string (Lx.ofS er.x.s),.int .i64 er.op,.slice ar er.args.length cr,.int .i64 0,.string ⟨#[]⟩,.int .i64 0,.string ⟨#[]⟩,.int .i64 0,.int .i64 0,.string ⟨#[]⟩,.int .i64 0,.slice none 0 0,.slice none 0 0,.int .i64 (t.line:Nat),.int .i64 (t.col:Nat)] 40 (0,0))):=Hxq (setCs_heap [.int .i64 er.k,.string er.v,.int .i64 er.x.k,.int .i64 er.x.n,.string (Lx.ofS er.x.s),.int .i64 er.op,.slice ar er.args.length cr] 11 [.int .i64 3,.string ⟨#[]⟩,.slice none 0 0,.int .i64 (opn:Nat),.int .i64 el.k,.string el.v,.int .i64 el.x.k,.int .i64 el.x.n,.string (Lx.ofS el.x.s),.int .i64 el.op,.slice al el.args.length cl,.int .i64 0,.string ⟨#[]⟩,.int .i64 0,.int .i64 0,.string ⟨#[]⟩,.int .i64 0,.slice none 0 0,.int .i64 0,.string ⟨#[]⟩,.int .i64 0,.string ⟨#[]⟩,.int .i64 0,.int .i64 0,.string ⟨#[]⟩,.int .i64 0,.slice none 0 0,.slice none 0 0,.int .i64 (t.line:Nat),.int .i64 (t.col:Nat)] w58 G58.out)
          have H59:=Hxq (H58.out.new HLo.out mS (by simp;omega));have A59:=Hxq (mS.at A58.out (by simp;omega));have T59:=Hxq (mS.at T58.out (by simp;omega));have M59:=Hxq (M58.out.trans mS (by simp;omega))
          have L59:=Hxq (L58.out.keep mS (fun s hs=>by rw [Msq] at hs;omega))
          have R59:=Hxq (R58.out.keep mS (fun s hs=>by rw [Msq] at hs;omega))
          have k0:w58.cell? ⟨g,11,none⟩=some (.int .i64 0):=cell_at G58.out 11
          have k1:w58.cell? ⟨g,12,none⟩=some (.string ⟨#[]⟩):=cell_at G58.out 12
          have k2:w58.cell? ⟨g,13,none⟩=some (.int .i64 0):=cell_at G58.out 13
          have k3:w58.cell? ⟨g,14,none⟩=some (.int .i64 0):=cell_at G58.out 14
          have k4:w58.cell? ⟨g,15,none⟩=some (.string ⟨#[]⟩):=cell_at G58.out 15
          have k5:w58.cell? ⟨g,16,none⟩=some (.int .i64 0):=cell_at G58.out 16
          have k6:w58.cell? ⟨g,17,none⟩=some (.slice none 0 0):=cell_at G58.out 17
          have fg:∀ j,w58.frozen? ⟨g,j,none⟩=false:=fun j=>free_at G58.out j
          clear mS
          unfold exV
          simp only
          go_upto_region 16 with fail
          generalize (((((((w58.setCell ⟨g,11,none⟩ (.int .i64 er.k)).setCell ⟨g,12,none⟩ (.string er.v)).setCell ⟨g,13,none⟩ (.int .i64 er.x.k)).setCell ⟨g,14,none⟩ (.int .i64 er.x.n)).setCell ⟨g,15,none⟩ (.string (Lx.ofS er.x.s))).setCell ⟨g,16,none⟩ (.int .i64 er.op)).setCell ⟨g,17,none⟩ (.slice ar er.args.length cr))=w59 at *
          clear k0 k1 k2 k3 k4 k5 k6 fg A58 G58 T58 M58 H58
          clear L58 R58
          go_wp2_with (first | refine wpList_load_row rfl 40 _ rfl g #[.int .i64 3,.string ⟨#[]⟩,.slice none 0 0,.int .i64 (opn:Nat),.int .i64 el.k,.string el.v,.int .i64 el.x.k,.int .i64 el.x.n,.string (Lx.ofS el.x.s),.int .i64 el.op,.slice al el.args.length cl,.int .i64 er.k,.string er.v,.int .i64 er.x.k,.int .i64 er.x.n,.string (Lx.ofS er.x.s),.int .i64 er.op,.slice ar er.args.length cr,.int .i64 0,.string ⟨#[]⟩,.int .i64 0,.string ⟨#[]⟩,.int .i64 0,.int .i64 0,.string ⟨#[]⟩,.int .i64 0,.slice none 0 0,.slice none 0 0,.int .i64 (t.line:Nat),.int .i64 (t.col:Nat)] 40 (0,0) rfl G59.out _ Tryz.underlying40 rfl Tryz.sizeLit ?_ | refine wpList_store_at rfl 40 _ _ rfl w.heap.size #[.int .i64 3,.string ⟨#[]⟩,.slice none 0 0,.int .i64 (opn:Nat),.int .i64 el.k,.string el.v,.int .i64 el.x.k,.int .i64 el.x.n,.string (Lx.ofS el.x.s),.int .i64 el.op,.slice al el.args.length cl,.int .i64 er.k,.string er.v,.int .i64 er.x.k,.int .i64 er.x.n,.string (Lx.ofS er.x.s),.int .i64 er.op,.slice ar er.args.length cr,.int .i64 0,.string ⟨#[]⟩,.int .i64 0,.string ⟨#[]⟩,.int .i64 0,.int .i64 0,.string ⟨#[]⟩,.int .i64 0,.slice none 0 0,.slice none 0 0,.int .i64 (t.line:Nat),.int .i64 (t.col:Nat)] #[.int .i64 0,.string ⟨#[]⟩,.slice none 0 0,.int .i64 0,.int .i64 0,.string ⟨#[]⟩,.int .i64 0,.int .i64 0,.string ⟨#[]⟩,.int .i64 0,.slice none 0 0,.int .i64 0,.string ⟨#[]⟩,.int .i64 0,.int .i64 0,.string ⟨#[]⟩,.int .i64 0,.slice none 0 0,.int .i64 0,.string ⟨#[]⟩,.int .i64 0,.string ⟨#[]⟩,.int .i64 0,.int .i64 0,.string ⟨#[]⟩,.int .i64 0,.slice none 0 0,.slice none 0 0,.int .i64 0,.int .i64 0] 40 rfl rfl A59.out Tryz.sizeLit rfl rfl ?_)
          have mR:=Mod.setRow w59 w.heap.size #[.int .i64 3,.string ⟨#[]⟩,.slice none 0 0,.int .i64 (opn:Nat),.int .i64 el.k,.string el.v,.int .i64 el.x.k,.int .i64 el.x.n,.string (Lx.ofS el.x.s),.int .i64 el.op,.slice al el.args.length cl,.int .i64 er.k,.string er.v,.int .i64 er.x.k,.int .i64 er.x.n,.string (Lx.ofS er.x.s),.int .i64 er.op,.slice ar er.args.length cr,.int .i64 0,.string ⟨#[]⟩,.int .i64 0,.string ⟨#[]⟩,.int .i64 0,.int .i64 0,.string ⟨#[]⟩,.int .i64 0,.slice none 0 0,.slice none 0 0,.int .i64 (t.line:Nat),.int .i64 (t.col:Nat)]
          have hRow:=setRow_heap w59 w.heap.size _ #[.int .i64 3,.string ⟨#[]⟩,.slice none 0 0,.int .i64 (opn:Nat),.int .i64 el.k,.string el.v,.int .i64 el.x.k,.int .i64 el.x.n,.string (Lx.ofS el.x.s),.int .i64 el.op,.slice al el.args.length cl,.int .i64 er.k,.string er.v,.int .i64 er.x.k,.int .i64 er.x.n,.string (Lx.ofS er.x.s),.int .i64 er.op,.slice ar er.args.length cr,.int .i64 0,.string ⟨#[]⟩,.int .i64 0,.string ⟨#[]⟩,.int .i64 0,.int .i64 0,.string ⟨#[]⟩,.int .i64 0,.slice none 0 0,.slice none 0 0,.int .i64 (t.line:Nat),.int .i64 (t.col:Nat)] _ _ A59.out
          have hLB:LB (fun k=>w.heap.size<k/\k≠g/\k≠tb) w59 (.mk 3 Sy.at0 (opn:Nat) el er 0 (Sy.txt []) Sy.ex0 [] (t.line:Nat) (t.col:Nat)) ⟨.slice none 0 0,.slice al el.args.length cl,.slice ar er.args.length cr,.slice none 0 0,.slice none 0 0⟩:=LB.of .nil L59.out R59.out .nil BB.nil
          refine bodyPost_ret (results_cell_row rfl _ _ _ _ _ _ _ rfl hRow Tryz.underlying40 rfl Tryz.sizeLit) rfl ⟨_,rfl,⟨⟨.slice none 0 0,.slice al el.args.length cl,.slice ar er.args.length cr,.slice none 0 0,.slice none 0 0⟩,rfl,(hLB.keep mR (fun s hs=>by rw [Msq] at hs;omega)).mono (fun k hk _=>by omega)⟩,H59.out.new HLo.out mR (by simp),M59.out.trans mR (by simp)⟩
     ·have hfl:=HFL.out (hrg rfl)
      clear hrg
      have HQ:Hid (q=(Sy.aggOf v (Sy.litF v k (br+1)) br i).bind fun g j=>.ok (.mk 4 Sy.at0 0 Sy.ex0 Sy.ex0 g.fn g.av g.of g.body t.line t.col) j):=Lib.hid HR4.out
      clear HR4
      have HAg:=Hxq (hAg i w8 H8.out (by omega))
      generalize Sy.aggOf v (Sy.litF v k (br+1)) br i=pa at *
      cases pa with
      | err g1 =>
       have hq:q=.err g1:=HQ.out
       subst hq
       clear HQ
       go_wp2_with fail
       refine HAg.out.mono ?_
       rintro e40 w40 ⟨rfl,m40⟩
       have M40:=Hxq (M8.out.trans m40 (by simp))
       clear m40
       unfold stopE
       go_wp2_with fail
       exact ⟨rfl,rfl,M40.out⟩
      | ok ga j =>
       have hq:q=.ok (.mk 4 Sy.at0 0 Sy.ex0 Sy.ex0 ga.fn ga.av ga.of ga.body (t.line:Nat) (t.col:Nat)) j:=HQ.out
       subst hq
       clear HQ
       go_wp2_with fail
       refine HAg.out.mono ?_
       rintro e41 w41 ⟨y41,rfl,⟨uo,ub0,rfl,ho41,hb41⟩,h41,m41⟩
       obtain ⟨ao,co,rfl⟩:=ho41.lit
       obtain ⟨ub,cb,rfl⟩:=hb41.lit
       have z41:=m41.size
       have zz41:=lt_of_block G8.out
       have A41:=Hxq (m41.at A8.out hnb);have G41:=Hxq (m41.at G8.out hgb);have T41:=Hxq (m41.at T8.out htb);have M41:=Hxq (M8.out.trans m41 (by simp));have H41:=Lib.hid h41
       have O41:=Hxq (ho41.mono (F':=(fun k=>w.heap.size<k/\k≠g/\k≠tb)) (fun k hk hk2=>by omega))
       have B41:=Hxq (hb41.mono (F':=(fun k=>w.heap.size<k/\k≠g/\k≠tb)) (fun k hk hk2=>by omega))
       clear h41 m41 hb41 ho41
       have mS0:Mod [g] w41 (w41.setCell ⟨g,0,none⟩ (.int .i64 4)):=setCs_mod g [.int .i64 4] 0 w41
       have G41b:Hid ((w41.setCell ⟨g,0,none⟩ (.int .i64 4)).heap[g]?=some (.cells #[.int .i64 4,.string ⟨#[]⟩,.slice none 0 0,.int .i64 0,.int .i64 0,.string ⟨#[]⟩,.int .i64 0,.int .i64 0,.string ⟨#[]⟩,.int .i64 0,.slice none 0 0,.int .i64 0,.string ⟨#[]⟩,.int .i64 0,.int .i64 0,.string ⟨#[]⟩,.int .i64 0,.slice none 0 0,.int .i64 0,.string ⟨#[]⟩,.int .i64 0,.string ⟨#[]⟩,.int .i64 0,.int .i64 0,.string ⟨#[]⟩,.int .i64 0,.slice none 0 0,.slice none 0 0,.int .i64 (t.line:Nat),.int .i64 (t.col:Nat)] 40 (0,0))):=Hxq (setCs_heap [.int .i64 4] 0 [.int .i64 0,.string ⟨#[]⟩,.slice none 0 0,.int .i64 0,.int .i64 0,.string ⟨#[]⟩,.int .i64 0,.int .i64 0,.string ⟨#[]⟩,.int .i64 0,.slice none 0 0,.int .i64 0,.string ⟨#[]⟩,.int .i64 0,.int .i64 0,.string ⟨#[]⟩,.int .i64 0,.slice none 0 0,.int .i64 0,.string ⟨#[]⟩,.int .i64 0,.string ⟨#[]⟩,.int .i64 0,.int .i64 0,.string ⟨#[]⟩,.int .i64 0,.slice none 0 0,.slice none 0 0,.int .i64 (t.line:Nat),.int .i64 (t.col:Nat)] w41 G41.out)
       have mS1:Mod [g] (w41.setCell ⟨g,0,none⟩ (.int .i64 4)) (((((((((((w41.setCell ⟨g,0,none⟩ (.int .i64 4)).setCell ⟨g,18,none⟩ (.int .i64 ga.fn)).setCell ⟨g,19,none⟩ (.string ga.av)).setCell ⟨g,20,none⟩ (.int .i64 ga.of.k)).setCell ⟨g,21,none⟩ (.string ga.of.v)).setCell ⟨g,22,none⟩ (.int .i64 ga.of.x.k)).setCell ⟨g,23,none⟩ (.int .i64 ga.of.x.n)).setCell ⟨g,24,none⟩ (.string (Lx.ofS ga.of.x.s))).setCell ⟨g,25,none⟩ (.int .i64 ga.of.op)).setCell ⟨g,26,none⟩ (.slice ao ga.of.args.length co)).setCell ⟨g,27,none⟩ (.slice ub ga.body.length cb)):=setCs_mod g [.int .i64 ga.fn,.string ga.av,.int .i64 ga.of.k,.string ga.of.v,.int .i64 ga.of.x.k,.int .i64 ga.of.x.n,.string (Lx.ofS ga.of.x.s),.int .i64 ga.of.op,.slice ao ga.of.args.length co,.slice ub ga.body.length cb] 18 _
       have mS:=mS0.trans mS1 (by simp)
       have G42:Hid ((((((((((((w41.setCell ⟨g,0,none⟩ (.int .i64 4)).setCell ⟨g,18,none⟩ (.int .i64 ga.fn)).setCell ⟨g,19,none⟩ (.string ga.av)).setCell ⟨g,20,none⟩ (.int .i64 ga.of.k)).setCell ⟨g,21,none⟩ (.string ga.of.v)).setCell ⟨g,22,none⟩ (.int .i64 ga.of.x.k)).setCell ⟨g,23,none⟩ (.int .i64 ga.of.x.n)).setCell ⟨g,24,none⟩ (.string (Lx.ofS ga.of.x.s))).setCell ⟨g,25,none⟩ (.int .i64 ga.of.op)).setCell ⟨g,26,none⟩ (.slice ao ga.of.args.length co)).setCell ⟨g,27,none⟩ (.slice ub ga.body.length cb)).heap[g]?=some (.cells #[.int .i64 4,.string ⟨#[]⟩,.slice none 0 0,.int .i64 0,.int .i64 0,.string ⟨#[]⟩,.int .i64 0,.int .i64 0,.string ⟨#[]⟩,.int .i64 0,.slice none 0 0,.int .i64 0,.string ⟨#[]⟩,.int .i64 0,.int .i64 0,.string ⟨#[]⟩,.int .i64 0,.slice none 0 0,.int .i64 ga.fn,.string ga.av,.int .i64 ga.of.k,.string ga.of.v,.int .i64 ga.of.x.k,.int .i64 ga.of.x.n,.string (Lx.ofS ga.of.x.s),.int .i64 ga.of.op,.slice ao ga.of.args.length co,.slice ub ga.body.length cb,.int .i64 (t.line:Nat),.int .i64 (t.col:Nat)] 40 (0,0))):=Hxq (setCs_heap [.int .i64 ga.fn,.string ga.av,.int .i64 ga.of.k,.string ga.of.v,.int .i64 ga.of.x.k,.int .i64 ga.of.x.n,.string (Lx.ofS ga.of.x.s),.int .i64 ga.of.op,.slice ao ga.of.args.length co,.slice ub ga.body.length cb] 18 [.int .i64 4,.string ⟨#[]⟩,.slice none 0 0,.int .i64 0,.int .i64 0,.string ⟨#[]⟩,.int .i64 0,.int .i64 0,.string ⟨#[]⟩,.int .i64 0,.slice none 0 0,.int .i64 0,.string ⟨#[]⟩,.int .i64 0,.int .i64 0,.string ⟨#[]⟩,.int .i64 0,.slice none 0 0,.int .i64 0,.string ⟨#[]⟩,.int .i64 0,.string ⟨#[]⟩,.int .i64 0,.int .i64 0,.string ⟨#[]⟩,.int .i64 0,.slice none 0 0,.slice none 0 0,.int .i64 (t.line:Nat),.int .i64 (t.col:Nat)] _ G41b.out)
       have H42:=Hxq (H41.out.new HLo.out mS (by simp;omega));have A42:=Hxq (mS.at A41.out (by simp;omega));have T42:=Hxq (mS.at T41.out (by simp;omega));have M42:=Hxq (M41.out.trans mS (by simp;omega))
       have O42:=Hxq (O41.out.keep mS (fun s hs=>by rw [Msq] at hs;omega))
       have B42:=Hxq (B41.out.keep mS (fun s hs=>by rw [Msq] at hs;omega))
       have k0:w41.cell? ⟨g,0,none⟩=some (.int .i64 0):=cell_at G41.out 0
       have k1:(w41.setCell ⟨g,0,none⟩ (.int .i64 4)).cell? ⟨g,18,none⟩=some (.int .i64 0):=cell_at G41b.out 18
       have k2:(w41.setCell ⟨g,0,none⟩ (.int .i64 4)).cell? ⟨g,19,none⟩=some (.string ⟨#[]⟩):=cell_at G41b.out 19
       have k3:(w41.setCell ⟨g,0,none⟩ (.int .i64 4)).cell? ⟨g,20,none⟩=some (.int .i64 0):=cell_at G41b.out 20
       have k4:(w41.setCell ⟨g,0,none⟩ (.int .i64 4)).cell? ⟨g,21,none⟩=some (.string ⟨#[]⟩):=cell_at G41b.out 21
       have k5:(w41.setCell ⟨g,0,none⟩ (.int .i64 4)).cell? ⟨g,22,none⟩=some (.int .i64 0):=cell_at G41b.out 22
       have k6:(w41.setCell ⟨g,0,none⟩ (.int .i64 4)).cell? ⟨g,23,none⟩=some (.int .i64 0):=cell_at G41b.out 23
       have k7:(w41.setCell ⟨g,0,none⟩ (.int .i64 4)).cell? ⟨g,24,none⟩=some (.string ⟨#[]⟩):=cell_at G41b.out 24
       have k8:(w41.setCell ⟨g,0,none⟩ (.int .i64 4)).cell? ⟨g,25,none⟩=some (.int .i64 0):=cell_at G41b.out 25
       have k9:(w41.setCell ⟨g,0,none⟩ (.int .i64 4)).cell? ⟨g,26,none⟩=some (.slice none 0 0):=cell_at G41b.out 26
       have k10:(w41.setCell ⟨g,0,none⟩ (.int .i64 4)).cell? ⟨g,27,none⟩=some (.slice none 0 0):=cell_at G41b.out 27
       have fg:∀ j,w41.frozen? ⟨g,j,none⟩=false:=fun j=>free_at G41.out j
       have fg2:∀ j,(w41.setCell ⟨g,0,none⟩ (.int .i64 4)).frozen? ⟨g,j,none⟩=false:=fun j=>free_at G41b.out j
       clear mS mS0 mS1 G41b
       unfold agV
       simp only
       go_upto_region 16 with fail
       generalize (((((((((((w41.setCell ⟨g,0,none⟩ (.int .i64 4)).setCell ⟨g,18,none⟩ (.int .i64 ga.fn)).setCell ⟨g,19,none⟩ (.string ga.av)).setCell ⟨g,20,none⟩ (.int .i64 ga.of.k)).setCell ⟨g,21,none⟩ (.string ga.of.v)).setCell ⟨g,22,none⟩ (.int .i64 ga.of.x.k)).setCell ⟨g,23,none⟩ (.int .i64 ga.of.x.n)).setCell ⟨g,24,none⟩ (.string (Lx.ofS ga.of.x.s))).setCell ⟨g,25,none⟩ (.int .i64 ga.of.op)).setCell ⟨g,26,none⟩ (.slice ao ga.of.args.length co)).setCell ⟨g,27,none⟩ (.slice ub ga.body.length cb))=w42 at *
       clear k0 k1 k2 k3 k4 k5 k6 k7 k8 k9 k10 fg fg2 A41 G41 T41 M41 H41
       go_wp2_with (first | refine wpList_load_row rfl 40 _ rfl g #[.int .i64 4,.string ⟨#[]⟩,.slice none 0 0,.int .i64 0,.int .i64 0,.string ⟨#[]⟩,.int .i64 0,.int .i64 0,.string ⟨#[]⟩,.int .i64 0,.slice none 0 0,.int .i64 0,.string ⟨#[]⟩,.int .i64 0,.int .i64 0,.string ⟨#[]⟩,.int .i64 0,.slice none 0 0,.int .i64 ga.fn,.string ga.av,.int .i64 ga.of.k,.string ga.of.v,.int .i64 ga.of.x.k,.int .i64 ga.of.x.n,.string (Lx.ofS ga.of.x.s),.int .i64 ga.of.op,.slice ao ga.of.args.length co,.slice ub ga.body.length cb,.int .i64 (t.line:Nat),.int .i64 (t.col:Nat)] 40 (0,0) rfl G42.out _ Tryz.underlying40 rfl Tryz.sizeLit ?_ | refine wpList_store_at rfl 40 _ _ rfl w.heap.size #[.int .i64 4,.string ⟨#[]⟩,.slice none 0 0,.int .i64 0,.int .i64 0,.string ⟨#[]⟩,.int .i64 0,.int .i64 0,.string ⟨#[]⟩,.int .i64 0,.slice none 0 0,.int .i64 0,.string ⟨#[]⟩,.int .i64 0,.int .i64 0,.string ⟨#[]⟩,.int .i64 0,.slice none 0 0,.int .i64 ga.fn,.string ga.av,.int .i64 ga.of.k,.string ga.of.v,.int .i64 ga.of.x.k,.int .i64 ga.of.x.n,.string (Lx.ofS ga.of.x.s),.int .i64 ga.of.op,.slice ao ga.of.args.length co,.slice ub ga.body.length cb,.int .i64 (t.line:Nat),.int .i64 (t.col:Nat)] #[.int .i64 0,.string ⟨#[]⟩,.slice none 0 0,.int .i64 0,.int .i64 0,.string ⟨#[]⟩,.int .i64 0,.int .i64 0,.string ⟨#[]⟩,.int .i64 0,.slice none 0 0,.int .i64 0,.string ⟨#[]⟩,.int .i64 0,.int .i64 0,.string ⟨#[]⟩,.int .i64 0,.slice none 0 0,.int .i64 0,.string ⟨#[]⟩,.int .i64 0,.string ⟨#[]⟩,.int .i64 0,.int .i64 0,.string ⟨#[]⟩,.int .i64 0,.slice none 0 0,.slice none 0 0,.int .i64 0,.int .i64 0] 40 rfl rfl A42.out Tryz.sizeLit rfl rfl ?_)
       have mR:=Mod.setRow w42 w.heap.size #[.int .i64 4,.string ⟨#[]⟩,.slice none 0 0,.int .i64 0,.int .i64 0,.string ⟨#[]⟩,.int .i64 0,.int .i64 0,.string ⟨#[]⟩,.int .i64 0,.slice none 0 0,.int .i64 0,.string ⟨#[]⟩,.int .i64 0,.int .i64 0,.string ⟨#[]⟩,.int .i64 0,.slice none 0 0,.int .i64 ga.fn,.string ga.av,.int .i64 ga.of.k,.string ga.of.v,.int .i64 ga.of.x.k,.int .i64 ga.of.x.n,.string (Lx.ofS ga.of.x.s),.int .i64 ga.of.op,.slice ao ga.of.args.length co,.slice ub ga.body.length cb,.int .i64 (t.line:Nat),.int .i64 (t.col:Nat)]
       have hRow:=setRow_heap w42 w.heap.size _ #[.int .i64 4,.string ⟨#[]⟩,.slice none 0 0,.int .i64 0,.int .i64 0,.string ⟨#[]⟩,.int .i64 0,.int .i64 0,.string ⟨#[]⟩,.int .i64 0,.slice none 0 0,.int .i64 0,.string ⟨#[]⟩,.int .i64 0,.int .i64 0,.string ⟨#[]⟩,.int .i64 0,.slice none 0 0,.int .i64 ga.fn,.string ga.av,.int .i64 ga.of.k,.string ga.of.v,.int .i64 ga.of.x.k,.int .i64 ga.of.x.n,.string (Lx.ofS ga.of.x.s),.int .i64 ga.of.op,.slice ao ga.of.args.length co,.slice ub ga.body.length cb,.int .i64 (t.line:Nat),.int .i64 (t.col:Nat)] _ _ A42.out
       have hLB:LB (fun k=>w.heap.size<k/\k≠g/\k≠tb) w42 (.mk 4 Sy.at0 0 Sy.ex0 Sy.ex0 ga.fn ga.av ga.of ga.body (t.line:Nat) (t.col:Nat)) ⟨.slice none 0 0,.slice none 0 0,.slice none 0 0,.slice ao ga.of.args.length co,.slice ub ga.body.length cb⟩:=LB.of .nil .nil .nil O42.out B42.out
       refine bodyPost_ret (results_cell_row rfl _ _ _ _ _ _ _ rfl hRow Tryz.underlying40 rfl Tryz.sizeLit) rfl ⟨_,rfl,⟨⟨.slice none 0 0,.slice none 0 0,.slice none 0 0,.slice ao ga.of.args.length co,.slice ub ga.body.length cb⟩,rfl,(hLB.keep mR (fun s hs=>by rw [Msq] at hs;omega)).mono (fun k hk _=>by omega)⟩,H42.out.new HLo.out mR (by simp),M42.out.trans mR (by simp)⟩
   ·have HQ:Hid (q=(Sy.atom v i).bind fun a j=>.ok (.mk 1 a 0 Sy.ex0 Sy.ex0 0 (Sy.txt []) Sy.ex0 [] t.line t.col) j):=Lib.hid HR2.out
    clear HR2
    have HAt:=Hxq (atom_any b ra rc f v i w7 H7.out hv (by omega))
    generalize Sy.atom v i=pa at *
    cases pa with
    | err g1 =>
     have hq:q=.err g1:=HQ.out
     subst hq
     clear HQ
     go_wp2_with fail
     refine HAt.out.mono ?_
     rintro e30 w30 ⟨rfl,m30⟩
     have M30:=Hxq (M7.out.trans m30 (by simp))
     clear m30
     unfold stopE
     go_wp2_with fail
     exact ⟨rfl,rfl,M30.out⟩
    | ok a j =>
     have hq:q=.ok (.mk 1 a 0 Sy.ex0 Sy.ex0 0 (Sy.txt []) Sy.ex0 [] (t.line:Nat) (t.col:Nat)) j:=HQ.out
     subst hq
     clear HQ
     go_wp2_with fail
     refine HAt.out.mono ?_
     rintro e31 w31 ⟨y31,rfl,⟨ua0,rfl,hb31⟩,h31,m31⟩
     obtain ⟨ua,ca,rfl⟩:=hb31.lit
     have z31:=m31.size
     have zz31:=lt_of_block G7.out
     have A31:=Hxq (m31.at A7.out hnb);have G31:=Hxq (m31.at G7.out hgb);have T31:=Hxq (m31.at T7.out htb);have M31:=Hxq (M7.out.trans m31 (by simp));have H31:=Lib.hid h31
     have Q31:=Hxq (hb31.mono (F':=(fun k=>w.heap.size<k/\k≠g/\k≠tb)) (fun k hk hk2=>by omega))
     clear h31 m31 hb31
     have mS:Mod [g] w31 (((w31.setCell ⟨g,0,none⟩ (.int .i64 1)).setCell ⟨g,1,none⟩ (.string a.rel)).setCell ⟨g,2,none⟩ (.slice ua a.terms.length ca)):=setCs_mod g [.int .i64 1,.string a.rel,.slice ua a.terms.length ca] 0 w31
     have G32:Hid ((((w31.setCell ⟨g,0,none⟩ (.int .i64 1)).setCell ⟨g,1,none⟩ (.string a.rel)).setCell ⟨g,2,none⟩ (.slice ua a.terms.length ca)).heap[g]?=some (.cells #[.int .i64 1,.string a.rel,.slice ua a.terms.length ca,.int .i64 0,.int .i64 0,.string ⟨#[]⟩,.int .i64 0,.int .i64 0,.string ⟨#[]⟩,.int .i64 0,.slice none 0 0,.int .i64 0,.string ⟨#[]⟩,.int .i64 0,.int .i64 0,.string ⟨#[]⟩,.int .i64 0,.slice none 0 0,.int .i64 0,.string ⟨#[]⟩,.int .i64 0,.string ⟨#[]⟩,.int .i64 0,.int .i64 0,.string ⟨#[]⟩,.int .i64 0,.slice none 0 0,.slice none 0 0,.int .i64 (t.line:Nat),.int .i64 (t.col:Nat)] 40 (0,0))):=Hxq (setCs_heap [.int .i64 1,.string a.rel,.slice ua a.terms.length ca] 0 [.int .i64 0,.string ⟨#[]⟩,.slice none 0 0,.int .i64 0,.int .i64 0,.string ⟨#[]⟩,.int .i64 0,.int .i64 0,.string ⟨#[]⟩,.int .i64 0,.slice none 0 0,.int .i64 0,.string ⟨#[]⟩,.int .i64 0,.int .i64 0,.string ⟨#[]⟩,.int .i64 0,.slice none 0 0,.int .i64 0,.string ⟨#[]⟩,.int .i64 0,.string ⟨#[]⟩,.int .i64 0,.int .i64 0,.string ⟨#[]⟩,.int .i64 0,.slice none 0 0,.slice none 0 0,.int .i64 (t.line:Nat),.int .i64 (t.col:Nat)] w31 G31.out)
     have H32:=Hxq (H31.out.new HLo.out mS (by simp;omega));have A32:=Hxq (mS.at A31.out (by simp;omega));have T32:=Hxq (mS.at T31.out (by simp;omega));have M32:=Hxq (M31.out.trans mS (by simp;omega))
     have Q32:=Hxq (Q31.out.keep mS (fun s hs=>by rw [Msq] at hs;omega))
     have k0:w31.cell? ⟨g,0,none⟩=some (.int .i64 0):=cell_at G31.out 0
     have k1:w31.cell? ⟨g,1,none⟩=some (.string ⟨#[]⟩):=cell_at G31.out 1
     have k2:w31.cell? ⟨g,2,none⟩=some (.slice none 0 0):=cell_at G31.out 2
     have fg:∀ j,w31.frozen? ⟨g,j,none⟩=false:=fun j=>free_at G31.out j
     clear mS
     go_upto_region 16 with fail
     generalize (((w31.setCell ⟨g,0,none⟩ (.int .i64 1)).setCell ⟨g,1,none⟩ (.string a.rel)).setCell ⟨g,2,none⟩ (.slice ua a.terms.length ca))=w32 at *
     clear k0 k1 k2 fg A31 G31 T31 M31 H31
     go_wp2_with (first | refine wpList_load_row rfl 40 _ rfl g #[.int .i64 1,.string a.rel,.slice ua a.terms.length ca,.int .i64 0,.int .i64 0,.string ⟨#[]⟩,.int .i64 0,.int .i64 0,.string ⟨#[]⟩,.int .i64 0,.slice none 0 0,.int .i64 0,.string ⟨#[]⟩,.int .i64 0,.int .i64 0,.string ⟨#[]⟩,.int .i64 0,.slice none 0 0,.int .i64 0,.string ⟨#[]⟩,.int .i64 0,.string ⟨#[]⟩,.int .i64 0,.int .i64 0,.string ⟨#[]⟩,.int .i64 0,.slice none 0 0,.slice none 0 0,.int .i64 (t.line:Nat),.int .i64 (t.col:Nat)] 40 (0,0) rfl G32.out _ Tryz.underlying40 rfl Tryz.sizeLit ?_ | refine wpList_store_at rfl 40 _ _ rfl w.heap.size #[.int .i64 1,.string a.rel,.slice ua a.terms.length ca,.int .i64 0,.int .i64 0,.string ⟨#[]⟩,.int .i64 0,.int .i64 0,.string ⟨#[]⟩,.int .i64 0,.slice none 0 0,.int .i64 0,.string ⟨#[]⟩,.int .i64 0,.int .i64 0,.string ⟨#[]⟩,.int .i64 0,.slice none 0 0,.int .i64 0,.string ⟨#[]⟩,.int .i64 0,.string ⟨#[]⟩,.int .i64 0,.int .i64 0,.string ⟨#[]⟩,.int .i64 0,.slice none 0 0,.slice none 0 0,.int .i64 (t.line:Nat),.int .i64 (t.col:Nat)] #[.int .i64 0,.string ⟨#[]⟩,.slice none 0 0,.int .i64 0,.int .i64 0,.string ⟨#[]⟩,.int .i64 0,.int .i64 0,.string ⟨#[]⟩,.int .i64 0,.slice none 0 0,.int .i64 0,.string ⟨#[]⟩,.int .i64 0,.int .i64 0,.string ⟨#[]⟩,.int .i64 0,.slice none 0 0,.int .i64 0,.string ⟨#[]⟩,.int .i64 0,.string ⟨#[]⟩,.int .i64 0,.int .i64 0,.string ⟨#[]⟩,.int .i64 0,.slice none 0 0,.slice none 0 0,.int .i64 0,.int .i64 0] 40 rfl rfl A32.out Tryz.sizeLit rfl rfl ?_)
     have mR:=Mod.setRow w32 w.heap.size #[.int .i64 1,.string a.rel,.slice ua a.terms.length ca,.int .i64 0,.int .i64 0,.string ⟨#[]⟩,.int .i64 0,.int .i64 0,.string ⟨#[]⟩,.int .i64 0,.slice none 0 0,.int .i64 0,.string ⟨#[]⟩,.int .i64 0,.int .i64 0,.string ⟨#[]⟩,.int .i64 0,.slice none 0 0,.int .i64 0,.string ⟨#[]⟩,.int .i64 0,.string ⟨#[]⟩,.int .i64 0,.int .i64 0,.string ⟨#[]⟩,.int .i64 0,.slice none 0 0,.slice none 0 0,.int .i64 (t.line:Nat),.int .i64 (t.col:Nat)]
     have hRow:=setRow_heap w32 w.heap.size _ #[.int .i64 1,.string a.rel,.slice ua a.terms.length ca,.int .i64 0,.int .i64 0,.string ⟨#[]⟩,.int .i64 0,.int .i64 0,.string ⟨#[]⟩,.int .i64 0,.slice none 0 0,.int .i64 0,.string ⟨#[]⟩,.int .i64 0,.int .i64 0,.string ⟨#[]⟩,.int .i64 0,.slice none 0 0,.int .i64 0,.string ⟨#[]⟩,.int .i64 0,.string ⟨#[]⟩,.int .i64 0,.int .i64 0,.string ⟨#[]⟩,.int .i64 0,.slice none 0 0,.slice none 0 0,.int .i64 (t.line:Nat),.int .i64 (t.col:Nat)] _ _ A32.out
     have hLB:LB (fun k=>w.heap.size<k/\k≠g/\k≠tb) w32 (.mk 1 a 0 Sy.ex0 Sy.ex0 0 (Sy.txt []) Sy.ex0 [] (t.line:Nat) (t.col:Nat)) ⟨.slice ua a.terms.length ca,.slice none 0 0,.slice none 0 0,.slice none 0 0,.slice none 0 0⟩:=LB.of Q32.out .nil .nil .nil BB.nil
     refine bodyPost_ret (results_cell_row rfl _ _ _ _ _ _ _ rfl hRow Tryz.underlying40 rfl Tryz.sizeLit) rfl ⟨_,rfl,⟨⟨.slice ua a.terms.length ca,.slice none 0 0,.slice none 0 0,.slice none 0 0,.slice none 0 0⟩,rfl,(hLB.keep mR (fun s hs=>by rw [Msq] at hs;omega)).mono (fun k hk _=>by omega)⟩,H32.out.new HLo.out mR (by simp),M32.out.trans mR (by simp)⟩
 ·have H3':Hid (RdP w3 b ra rc f v (i+1)):=Lib.hid H3.out
  clear H3
  have H3:=H3'
  clear H3'
  have hil:=HSL.out rfl
  have HQ:Hid (q=(Sy.atom v (i+1)).bind fun a j=>.ok (.mk 2 a 0 Sy.ex0 Sy.ex0 0 (Sy.txt []) Sy.ex0 [] t.line t.col) j):=Lib.hid HR.out
  clear HR
  have HAt:=Hxq (atom_any b ra rc f v (i+1) w3 H3.out hv (by omega))
  generalize Sy.atom v (i+1)=pa at *
  cases pa with
  | err g1 =>
   have hq:q=.err g1:=HQ.out
   subst hq
   clear HQ
   go_wp2_with fail
   refine HAt.out.mono ?_
   rintro e30 w30 ⟨rfl,m30⟩
   have M30:=Hxq (M3.out.trans m30 (by simp))
   clear m30
   unfold stopE
   go_wp2_with fail
   exact ⟨rfl,rfl,M30.out⟩
  | ok a j =>
   have hq:q=.ok (.mk 2 a 0 Sy.ex0 Sy.ex0 0 (Sy.txt []) Sy.ex0 [] (t.line:Nat) (t.col:Nat)) j:=HQ.out
   subst hq
   clear HQ
   go_wp2_with fail
   refine HAt.out.mono ?_
   rintro e31 w31 ⟨y31,rfl,⟨ua0,rfl,hb31⟩,h31,m31⟩
   obtain ⟨ua,ca,rfl⟩:=hb31.lit
   have z31:=m31.size
   have zz31:=lt_of_block G3.out
   have A31:=Hxq (m31.at A3.out hnb);have G31:=Hxq (m31.at G3.out hgb);have T31:=Hxq (m31.at T3.out htb);have M31:=Hxq (M3.out.trans m31 (by simp));have H31:=Lib.hid h31
   have Q31:=Hxq (hb31.mono (F':=(fun k=>w.heap.size<k/\k≠g/\k≠tb)) (fun k hk hk2=>by omega))
   clear h31 m31 hb31
   have mS:Mod [g] w31 (((w31.setCell ⟨g,0,none⟩ (.int .i64 2)).setCell ⟨g,1,none⟩ (.string a.rel)).setCell ⟨g,2,none⟩ (.slice ua a.terms.length ca)):=setCs_mod g [.int .i64 2,.string a.rel,.slice ua a.terms.length ca] 0 w31
   have G32:Hid ((((w31.setCell ⟨g,0,none⟩ (.int .i64 2)).setCell ⟨g,1,none⟩ (.string a.rel)).setCell ⟨g,2,none⟩ (.slice ua a.terms.length ca)).heap[g]?=some (.cells #[.int .i64 2,.string a.rel,.slice ua a.terms.length ca,.int .i64 0,.int .i64 0,.string ⟨#[]⟩,.int .i64 0,.int .i64 0,.string ⟨#[]⟩,.int .i64 0,.slice none 0 0,.int .i64 0,.string ⟨#[]⟩,.int .i64 0,.int .i64 0,.string ⟨#[]⟩,.int .i64 0,.slice none 0 0,.int .i64 0,.string ⟨#[]⟩,.int .i64 0,.string ⟨#[]⟩,.int .i64 0,.int .i64 0,.string ⟨#[]⟩,.int .i64 0,.slice none 0 0,.slice none 0 0,.int .i64 (t.line:Nat),.int .i64 (t.col:Nat)] 40 (0,0))):=Hxq (setCs_heap [.int .i64 2,.string a.rel,.slice ua a.terms.length ca] 0 [.int .i64 0,.string ⟨#[]⟩,.slice none 0 0,.int .i64 0,.int .i64 0,.string ⟨#[]⟩,.int .i64 0,.int .i64 0,.string ⟨#[]⟩,.int .i64 0,.slice none 0 0,.int .i64 0,.string ⟨#[]⟩,.int .i64 0,.int .i64 0,.string ⟨#[]⟩,.int .i64 0,.slice none 0 0,.int .i64 0,.string ⟨#[]⟩,.int .i64 0,.string ⟨#[]⟩,.int .i64 0,.int .i64 0,.string ⟨#[]⟩,.int .i64 0,.slice none 0 0,.slice none 0 0,.int .i64 (t.line:Nat),.int .i64 (t.col:Nat)] w31 G31.out)
   have H32:=Hxq (H31.out.new HLo.out mS (by simp;omega));have A32:=Hxq (mS.at A31.out (by simp;omega));have T32:=Hxq (mS.at T31.out (by simp;omega));have M32:=Hxq (M31.out.trans mS (by simp;omega))
   have Q32:=Hxq (Q31.out.keep mS (fun s hs=>by rw [Msq] at hs;omega))
   have k0:w31.cell? ⟨g,0,none⟩=some (.int .i64 0):=cell_at G31.out 0
   have k1:w31.cell? ⟨g,1,none⟩=some (.string ⟨#[]⟩):=cell_at G31.out 1
   have k2:w31.cell? ⟨g,2,none⟩=some (.slice none 0 0):=cell_at G31.out 2
   have fg:∀ j,w31.frozen? ⟨g,j,none⟩=false:=fun j=>free_at G31.out j
   clear mS
   go_upto_region 16 with fail
   generalize (((w31.setCell ⟨g,0,none⟩ (.int .i64 2)).setCell ⟨g,1,none⟩ (.string a.rel)).setCell ⟨g,2,none⟩ (.slice ua a.terms.length ca))=w32 at *
   clear k0 k1 k2 fg A31 G31 T31 M31 H31
   go_wp2_with (first | refine wpList_load_row rfl 40 _ rfl g #[.int .i64 2,.string a.rel,.slice ua a.terms.length ca,.int .i64 0,.int .i64 0,.string ⟨#[]⟩,.int .i64 0,.int .i64 0,.string ⟨#[]⟩,.int .i64 0,.slice none 0 0,.int .i64 0,.string ⟨#[]⟩,.int .i64 0,.int .i64 0,.string ⟨#[]⟩,.int .i64 0,.slice none 0 0,.int .i64 0,.string ⟨#[]⟩,.int .i64 0,.string ⟨#[]⟩,.int .i64 0,.int .i64 0,.string ⟨#[]⟩,.int .i64 0,.slice none 0 0,.slice none 0 0,.int .i64 (t.line:Nat),.int .i64 (t.col:Nat)] 40 (0,0) rfl G32.out _ Tryz.underlying40 rfl Tryz.sizeLit ?_ | refine wpList_store_at rfl 40 _ _ rfl w.heap.size #[.int .i64 2,.string a.rel,.slice ua a.terms.length ca,.int .i64 0,.int .i64 0,.string ⟨#[]⟩,.int .i64 0,.int .i64 0,.string ⟨#[]⟩,.int .i64 0,.slice none 0 0,.int .i64 0,.string ⟨#[]⟩,.int .i64 0,.int .i64 0,.string ⟨#[]⟩,.int .i64 0,.slice none 0 0,.int .i64 0,.string ⟨#[]⟩,.int .i64 0,.string ⟨#[]⟩,.int .i64 0,.int .i64 0,.string ⟨#[]⟩,.int .i64 0,.slice none 0 0,.slice none 0 0,.int .i64 (t.line:Nat),.int .i64 (t.col:Nat)] #[.int .i64 0,.string ⟨#[]⟩,.slice none 0 0,.int .i64 0,.int .i64 0,.string ⟨#[]⟩,.int .i64 0,.int .i64 0,.string ⟨#[]⟩,.int .i64 0,.slice none 0 0,.int .i64 0,.string ⟨#[]⟩,.int .i64 0,.int .i64 0,.string ⟨#[]⟩,.int .i64 0,.slice none 0 0,.int .i64 0,.string ⟨#[]⟩,.int .i64 0,.string ⟨#[]⟩,.int .i64 0,.int .i64 0,.string ⟨#[]⟩,.int .i64 0,.slice none 0 0,.slice none 0 0,.int .i64 0,.int .i64 0] 40 rfl rfl A32.out Tryz.sizeLit rfl rfl ?_)
   have mR:=Mod.setRow w32 w.heap.size #[.int .i64 2,.string a.rel,.slice ua a.terms.length ca,.int .i64 0,.int .i64 0,.string ⟨#[]⟩,.int .i64 0,.int .i64 0,.string ⟨#[]⟩,.int .i64 0,.slice none 0 0,.int .i64 0,.string ⟨#[]⟩,.int .i64 0,.int .i64 0,.string ⟨#[]⟩,.int .i64 0,.slice none 0 0,.int .i64 0,.string ⟨#[]⟩,.int .i64 0,.string ⟨#[]⟩,.int .i64 0,.int .i64 0,.string ⟨#[]⟩,.int .i64 0,.slice none 0 0,.slice none 0 0,.int .i64 (t.line:Nat),.int .i64 (t.col:Nat)]
   have hRow:=setRow_heap w32 w.heap.size _ #[.int .i64 2,.string a.rel,.slice ua a.terms.length ca,.int .i64 0,.int .i64 0,.string ⟨#[]⟩,.int .i64 0,.int .i64 0,.string ⟨#[]⟩,.int .i64 0,.slice none 0 0,.int .i64 0,.string ⟨#[]⟩,.int .i64 0,.int .i64 0,.string ⟨#[]⟩,.int .i64 0,.slice none 0 0,.int .i64 0,.string ⟨#[]⟩,.int .i64 0,.string ⟨#[]⟩,.int .i64 0,.int .i64 0,.string ⟨#[]⟩,.int .i64 0,.slice none 0 0,.slice none 0 0,.int .i64 (t.line:Nat),.int .i64 (t.col:Nat)] _ _ A32.out
   have hLB:LB (fun k=>w.heap.size<k/\k≠g/\k≠tb) w32 (.mk 2 a 0 Sy.ex0 Sy.ex0 0 (Sy.txt []) Sy.ex0 [] (t.line:Nat) (t.col:Nat)) ⟨.slice ua a.terms.length ca,.slice none 0 0,.slice none 0 0,.slice none 0 0,.slice none 0 0⟩:=LB.of Q32.out .nil .nil .nil BB.nil
   refine bodyPost_ret (results_cell_row rfl _ _ _ _ _ _ _ rfl hRow Tryz.underlying40 rfl Tryz.sizeLit) rfl ⟨_,rfl,⟨⟨.slice ua a.terms.length ca,.slice none 0 0,.slice none 0 0,.slice none 0 0,.slice none 0 0⟩,rfl,(hLB.keep mR (fun s hs=>by rw [Msq] at hs;omega)).mono (fun k hk _=>by omega)⟩,H32.out.new HLo.out mR (by simp),M32.out.trans mR (by simp)⟩
end Go.Proofs.YtbfaclljbbfknaaGreatDoor
