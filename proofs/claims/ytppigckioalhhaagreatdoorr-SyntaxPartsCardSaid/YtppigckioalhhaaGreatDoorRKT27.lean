/- THE TEXTS MERGED: RpAgg. -/
import Derived.Test.YtppigckioalhhaaGreatDoorRKT1
import Derived.Test.YtppigckioalhhaaGreatDoorRKT21
import Derived.Test.YtppigckioalhhaaGreatDoorRKT24
import Derived.Test.YtppigckioalhhaaGreatDoorRKT26
import Derived.Test.YtppigckioalhhaaGreatDoorRKT13
namespace Go.Proofs.YtppigckioalhhaaGreatDoorR
open Go.RowKit
set_option linter.unusedVariables false
set_option linter.unusedSimpArgs false
set_option maxRecDepth 100000
def badG (x:Value):Prop:=∃ (g:Sy.Ag) (a:Option Addr) (n c:Nat) (a2:Option Addr) (n2 c2:Nat),x=.agg (agV g (.slice a n c) (.slice a2 n2 c2))
def badL (x:Value):Prop:=∃ C:Array Value,x=.agg C/\C.size=30/\C.toList.all (·.oneCell')=true
def RlC (b:Nat) (ra:Option Addr) (rc:Nat) (L:LX) (v:Sy.Env) (k br:Nat):Prop:=∀ (i:Nat) (w:World),RpP w b ra rc L v i nf0->i<=v.ws.length ->
 Calls Tryz.prog 44 #[.pointer (some ⟨b,0,none⟩),.int .i64 (br:Nat)] w (RRes b ra rc L v (Sy.litF v k br i) (valL w.heap.size) badL w)
def RbC (b:Nat) (ra:Option Addr) (rc:Nat) (L:LX) (v:Sy.Env) (k br:Nat):Prop:=∀ (i:Nat) (w:World),RpP w b ra rc L v i nf0->i<=v.ws.length ->
 Calls Tryz.prog 67 #[.pointer (some ⟨b,0,none⟩),.int .i64 (br:Nat)] w (RRes b ra rc L v (Sy.bodyOf v (Sy.litF v k br) i) (valB w.heap.size) (fun x=>x=.slice none 0 0) w)
def RaC (b:Nat) (ra:Option Addr) (rc:Nat) (L:LX) (v:Sy.Env) (k br:Nat):Prop:=∀ (i:Nat) (w:World),RpP w b ra rc L v i nf0->i+3<=v.ws.length ->
 Calls Tryz.prog 82 #[.pointer (some ⟨b,0,none⟩),.int .i64 (br:Nat)] w (RRes b ra rc L v (Sy.aggOf v (Sy.litF v k (br+1)) br i) (valG w.heap.size) badG w)
theorem Tryz.sizeAgR:(Tryz.prog.info? 48).map (·.size)=some 10:=by kernel_rfl
theorem load_ag {w:World} {b:Nat} {C:Array Value} {T:TypeId} {fr:Nat × Nat} (hg:w.heap[b]?=some (.cells C T fr)) (hc:C.size=10):(loadVar 48 ⟨b,0,none⟩).run Tryz.prog w=.ok (.agg C) w :=
 run_loadVar_row (P:=Tryz.prog) w b T 48 C fr _ hg Tryz.underlying48 rfl (by rw [Tryz.sizeAgR,hc])
set_option maxHeartbeats 16000000 in
theorem ra_of (b:Nat) (ra:Option Addr) (rc:Nat) (L:LX) (v:Sy.Env) (k br:Nat) (hk:EnvK v) (hbr:br<=16) (hB0:br<16->RbC b ra rc L v k (br+1)):RaC b ra rc L v k br:=by
 intro i w h hi
 have hv:=hk.ok
 have hlen:=hv.len
 have mA:=(Mod.refl [] w).alloc (Obj.cells #[.int .i64 0,.string ⟨#[]⟩,.int .i64 0,.string ⟨#[]⟩,.int .i64 0,.int .i64 0,.string ⟨#[]⟩,.int .i64 0,.slice none 0 0,.slice none 0 0] 48)
 have hA:=h.past mA (by simp)
 have eA:=heap_alloc_new w (Obj.cells #[.int .i64 0,.string ⟨#[]⟩,.int .i64 0,.string ⟨#[]⟩,.int .i64 0,.int .i64 0,.string ⟨#[]⟩,.int .i64 0,.slice none 0 0,.slice none 0 0] 48)
 have zA:(w.alloc (Obj.cells #[.int .i64 0,.string ⟨#[]⟩,.int .i64 0,.string ⟨#[]⟩,.int .i64 0,.int .i64 0,.string ⟨#[]⟩,.int .i64 0,.slice none 0 0,.slice none 0 0] 48)).heap.size=w.heap.size+1:=by simp
 have HP:=Hxq (rword0 b ra rc L v i nf0 _ hA hv (by omega))
 have HP2:=Hxq (fun w h=>rword2 b ra rc L v i nf0 w h hv (by omega))
 have HFn:=Hxq (fun w=>rfunction_any (v.tk (i+2)) (hk.tk (i+2)) w (hv.tbyte (i+2)))
 have HR:=Hxq (aggOf_eq v (Sy.litF v k (br+1)) br i)
 have HIs:=Hxq (fun w h=>ris_any b ra rc L v (i+3) nf0 [123] { data:=#[123] } w h hv (by omega) rfl (by decide))
 have HTk:=Hxq (fun w h=>rtake_any b ra rc L v (i+3) [123] { data:=#[123] } w h hv (by omega) rfl (by decide))
 have HT2:=Hxq (fun j w h (hj:j<=v.ws.length)=>rtake_any b ra rc L v j [58] { data:=#[58] } w h hv (by omega) rfl (by decide))
 have HT3:=Hxq (fun j w h (hj:j<=v.ws.length)=>rtake_any b ra rc L v j [125] { data:=#[125] } w h hv (by omega) rfl (by decide))
 have HS:=Hxq (fun w h=>rstop_any b ra rc L v (i+3) 41 w h hv (by omega))
 have HE:=Hxq (fun j w h hj=>rexpr_any b ra rc L v j w h hk hj)
 have hadvE:=Sy.adv_expr v
 have hadvM:=fun j=>Sy.adv_must v [58] j
 have hadvB:=Sy.adv_bodyOf (Sy.adv_litF v k (br+1))
 have hmadv:=Sy.adv_must v [123] (i+3)
 have hms:∀ a j,Sy.must v [123] (i+3)=.ok a j->Sy.sign (v.tk (i+3)) [123]=true:=fun a j hm=>by
  unfold Sy.must at hm
  split at hm
  ·assumption
  ·cases hm
 have HLo:=Lib.hid h.low
 have hbl:=h.lt
 have HA:=Lib.hid hA;have EA:=Lib.hid eA;have MA:=Lib.hid mA
 have hnb:w.heap.size∉[b]:=by simp;omega
 clear h hA eA mA hk
 generalize Sy.sign (v.tk (i+3)) [123]=rp at *
 generalize Sy.must v [123] (i+3)=pm at *
 generalize hq:Sy.aggOf v (Sy.litF v k (br+1)) br i=q at *
 generalize Sy.fnOf (v.tk (i+2))=fnn at *
 generalize v.tk (i+2)=t2 at *
 generalize v.tk i=t at *
 have HMS:=Lib.hid hms;have HMA:=Lib.hid hmadv;have HAE:=Lib.hid hadvE;have HAM:=Lib.hid hadvM;have HAB:=Lib.hid hadvB
 clear hq hms hmadv hadvE hadvM hadvB
 go_enter Tryz.func82,Tryz.ntmps82
 go_upto_region 1 with fail
 generalize w.alloc (Obj.cells #[.int .i64 0,.string ⟨#[]⟩,.int .i64 0,.string ⟨#[]⟩,.int .i64 0,.int .i64 0,.string ⟨#[]⟩,.int .i64 0,.slice none 0 0,.slice none 0 0] 48)=wA at *
 go_wp2_with fail
 refine HP.out.mono ?_
 rintro e1 w1 ⟨rfl,m1⟩
 have A1:=Hxq (m1.at EA.out (by simp));have H1:=Hxq (HA.out.past m1 (by simp));have M1:=Hxq ((MA.out.mono (T:=[b]) (by simp)).trans m1 (by simp))
 clear m1 HP
 have hfd:=fun w=>field_text t w
 unfold tokC
 go_wp2_with fail
 refine (HP2.out w1 H1.out).mono ?_
 rintro e2 w2 ⟨rfl,m2⟩
 have A2:=Hxq (m2.at A1.out (by simp));have H2:=Hxq (H1.out.past m2 (by simp));have M2:=Hxq (M1.out.trans m2 (by simp))
 clear m2 HP2
 go_wp2_with fail
 refine (HFn.out w2).mono ?_
 rintro e3 w3 ⟨rfl,m3⟩
 have A3:=Hxq (m3.at A2.out (by simp));have H3:=Hxq (H2.out.past m3 (by simp));have M3:=Hxq (M2.out.trans m3 (by simp))
 clear m3 HFn
 have z3:=lt_of_block A3.out
 have mD:=(Mod.refl [] w3).alloc (Obj.cells #[.int .i64 (fnn:Nat),.string (Lx.ofS t.text),.int .i64 0,.string ⟨#[]⟩,.int .i64 0,.int .i64 0,.string ⟨#[]⟩,.int .i64 0,.slice none 0 0,.slice none 0 0] 48)
 have dD:=heap_alloc_new w3 (Obj.cells #[.int .i64 (fnn:Nat),.string (Lx.ofS t.text),.int .i64 0,.string ⟨#[]⟩,.int .i64 0,.int .i64 0,.string ⟨#[]⟩,.int .i64 0,.slice none 0 0,.slice none 0 0] 48)
 have HD:=Hxq (H3.out.past mD (by simp));have MD:=Hxq (M3.out.trans mD (by simp));have AD:=Hxq (mD.at A3.out (by simp));have DD:=Lib.hid dD
 clear mD dD
 go_upto_region 2 with fail
 generalize w3.alloc (Obj.cells _ 48)=wD at *
 clear hfd
 have hgb:w3.heap.size∉[b]:=by simp;omega
 generalize hgg:w3.heap.size=g at *
 obtain ⟨c0,c1,c2,c3,c4,c5,c6,c7,c8,c9,fz⟩:=HD.out.cells
 have hT:=HD.out.to (i+3)
 have hcast:((i+3:Nat):Int)=(i:Int)+3:=by omega
 rw [hcast] at hT
 have A4:=Hxq (hT.2.at AD.out hnb);have G4:=Hxq (hT.2.at DD.out hgb);have M4:=Hxq (MD.out.trans hT.2 (by simp));have H4:=Lib.hid hT.1
 clear hT hcast
 go_upto_region 3 with fail
 generalize wD.setCell ⟨b,6,none⟩ (.int .i64 ((i:Int)+3))=w4 at *
 clear c0 c1 c2 c3 c4 c5 c6 c7 c8 c9 fz HA EA MA A1 H1 M1 A2 H2 M2 A3 H3 M3 HD MD AD DD zA
 go_wp2_with fail
 refine (HIs.out w4 H4.out).mono ?_
 rintro e5 w5 ⟨rfl,m5⟩
 have A5:=Hxq (m5.at A4.out (by simp));have G5:=Hxq (m5.at G4.out (by simp));have M5:=Hxq (M4.out.trans m5 (by simp));have H5:=Hxq (H4.out.past m5 (by simp))
 clear m5 A4 G4 M4 H4 HIs
 by_cases hc:rp=true/\16<=br
 ·have hq:q=.err (v.give 41 (i+3)):=by rw [HR.out,if_pos hc]
  subst hq
  obtain ⟨rfl,hc2⟩:=hc
  have hI:(br:Int)+1 > 16:=by omega
  have hJ:(16:Int)<(br:Int)+1:=by omega
  clear HR
  have mD:=(Mod.refl [] w5).drew
  have HK:=Hxq (HS.out w5.drew (H5.out.past mD (by simp)))
  clear mD
  go_upto_region 4 with fail
  have Q0:=Hxq (show w5.cell? ⟨g,0,none⟩=some (.int .i64 (fnn:Nat)) from cell_at G5.out 0)
  have Q1:=Hxq (show w5.cell? ⟨g,1,none⟩=some (.string (Lx.ofS t.text)) from cell_at G5.out 1)
  have Q2:=Hxq (show w5.cell? ⟨g,2,none⟩=some (.int .i64 0) from cell_at G5.out 2)
  have Q3:=Hxq (show w5.cell? ⟨g,3,none⟩=some (.string ⟨#[]⟩) from cell_at G5.out 3)
  have Q4:=Hxq (show w5.cell? ⟨g,4,none⟩=some (.int .i64 0) from cell_at G5.out 4)
  have Q5:=Hxq (show w5.cell? ⟨g,5,none⟩=some (.int .i64 0) from cell_at G5.out 5)
  have Q6:=Hxq (show w5.cell? ⟨g,6,none⟩=some (.string ⟨#[]⟩) from cell_at G5.out 6)
  have Q7:=Hxq (show w5.cell? ⟨g,7,none⟩=some (.int .i64 0) from cell_at G5.out 7)
  have Q8:=Hxq (show w5.cell? ⟨g,8,none⟩=some (.slice none 0 0) from cell_at G5.out 8)
  have Q9:=Hxq (show w5.cell? ⟨g,9,none⟩=some (.slice none 0 0) from cell_at G5.out 9)
  refine wp_region_held_drew (S:=(fun w':World=>Mod [b,w.heap.size] w5 w')) (by kernel_rfl) (by (try dsimp only);exact (Mod.refl [b,w.heap.size] w5).drew) (fun hHeld=>?_)
  refine Tkq 0 (v:=?_) (by assumption) ?_ ?_ ?_
  rotate_left 1
  ·refine .inl ⟨by rfl,?_⟩;intro w hSw;have s0:=hSw.cell Q0.out (by simp;omega);have s1:=hSw.cell Q1.out (by simp;omega);have s2:=hSw.cell Q2.out (by simp;omega);have s3:=hSw.cell Q3.out (by simp;omega);have s4:=hSw.cell Q4.out (by simp;omega);have s5:=hSw.cell Q5.out (by simp;omega);have s6:=hSw.cell Q6.out (by simp;omega);have s7:=hSw.cell Q7.out (by simp;omega);have s8:=hSw.cell Q8.out (by simp;omega);have s9:=hSw.cell Q9.out (by simp;omega);clear hSw;go_simp
   all_goals with_reducible rfl
  ·exact fun _ _ _ h=>h
  try simp only [Act.put,Lq1,Lq2,Lq3]
  refine Tkq 1 (v:=?_) (by assumption) ?_ ?_ ?_
  rotate_left 1
  ·refine .inl ⟨by rfl,?_⟩;intro w hSw;have s0:=hSw.cell Q0.out (by simp;omega);have s1:=hSw.cell Q1.out (by simp;omega);have s2:=hSw.cell Q2.out (by simp;omega);have s3:=hSw.cell Q3.out (by simp;omega);have s4:=hSw.cell Q4.out (by simp;omega);have s5:=hSw.cell Q5.out (by simp;omega);have s6:=hSw.cell Q6.out (by simp;omega);have s7:=hSw.cell Q7.out (by simp;omega);have s8:=hSw.cell Q8.out (by simp;omega);have s9:=hSw.cell Q9.out (by simp;omega);clear hSw;go_simp
   all_goals with_reducible rfl
  ·exact fun _ _ _ h=>h
  try simp only [Act.put,Lq1,Lq2,Lq3]
  refine wpAnyH_ready (rs:=[2]) (by kernel_rfl) (by simp) ?_
  refine AllReadyH.cons (o:=?_) ?_ ?_ AllReadyH.nil
  rotate_left 1
  ·(simp only [Gq1,Gq2,Gq3])<;>rfl
  intro K hK
  go_simp
  refine HK.out.mono ?_
  rintro e6 w6 ⟨rfl,h6,m6⟩
  have N6:=Hxq ((Mod.refl [b] w5).drew.trans m6 (by simp));have H6:=Lib.hid h6
  clear m6 h6
  refine hK.out _ _ (by (try dsimp only);exact N6.out.mono (by simp)) (fun hHeld=>?_)
  clear hK K
  try simp only [Act.put,Lq1,Lq2,Lq3]
  refine wpAnyH_ready (rs:=[3]) (by kernel_rfl) (by simp) ?_
  refine AllReadyH.cons (o:=?_) ?_ ?_ AllReadyH.nil
  rotate_left 1
  ·(simp only [Gq1,Gq2,Gq3])<;>rfl
  intro K hK
  have Aw6:=Hxq (N6.out.at A5.out (by simp;omega))
  obtain ⟨r0,r1,r2,r3,r4,r5,r6,r7,r8,r9⟩:=cells10 Aw6.out
  have fA:∀ j,w6.frozen? ⟨w.heap.size,j,none⟩=false:=fun j=>free_at Aw6.out j
  have mR:=setCs_mod w.heap.size [.int .i64 (fnn:Nat),.string (Lx.ofS t.text),.int .i64 0,.string ⟨#[]⟩,.int .i64 0,.int .i64 0,.string ⟨#[]⟩,.int .i64 0,.slice none 0 0,.slice none 0 0] 0 w6
  have NR:=Hxq ((N6.out.mono (T:=[b,w.heap.size]) (by simp)).trans (mR.mono (T:=[b,w.heap.size]) (by simp)) (by simp))
  clear mR
  go_simp
  refine hK.out _ _ (by (try dsimp only);exact NR.out) (fun hHeld=>?_)
  clear hK K
  try simp only [Act.put,Lq1,Lq2,Lq3]
  refine Tkq 4 (v:=?_) (by assumption) ?_ ?_ ?_
  rotate_left 1
  ·refine .inl ⟨by rfl,?_⟩;intro w hSw;have s0:=hSw.cell Q0.out (by simp;omega);have s1:=hSw.cell Q1.out (by simp;omega);have s2:=hSw.cell Q2.out (by simp;omega);have s3:=hSw.cell Q3.out (by simp;omega);have s4:=hSw.cell Q4.out (by simp;omega);have s5:=hSw.cell Q5.out (by simp;omega);have s6:=hSw.cell Q6.out (by simp;omega);have s7:=hSw.cell Q7.out (by simp;omega);have s8:=hSw.cell Q8.out (by simp;omega);have s9:=hSw.cell Q9.out (by simp;omega);clear hSw;go_simp
   all_goals with_reducible rfl
  ·exact fun _ _ _ h=>h
  try simp only [Act.put,Lq1,Lq2,Lq3]
  refine wpAnyH_done (by kernel_rfl) ?_ _
  clear r0 r1 r2 r3 r4 r5 r6 r7 r8 r9 fA
  go_wp2_with fail
  have mR:=setCs_mod w.heap.size [.int .i64 (fnn:Nat),.string (Lx.ofS t.text),.int .i64 0,.string ⟨#[]⟩,.int .i64 0,.int .i64 0,.string ⟨#[]⟩,.int .i64 0,.slice none 0 0,.slice none 0 0] 0 w6
  have M6:=Hxq (M5.out.trans N6.out (by simp))
  refine bodyPost_ret (res_ct rfl _ _ _ _ _ rfl rfl (load_ag (setCs_row (vs:=[.int .i64 (fnn:Nat),.string (Lx.ofS t.text),.int .i64 0,.string ⟨#[]⟩,.int .i64 0,.int .i64 0,.string ⟨#[]⟩,.int .i64 0,.slice none 0 0,.slice none 0 0]) Aw6.out rfl) rfl)) rfl ⟨_,rfl,?_,⟨_,H6.out.new HLo.out mR (by simp)⟩,M6.out.trans mR (by simp)⟩
  exact ⟨⟨(fnn:Nat),Lx.ofS t.text,Sy.ex0,[]⟩,none,0,0,none,0,0,rfl⟩
 ·have HR5:Hid (q=pm.bind fun _ j =>
    (if fnn≠1 then (Sy.expr v j).bind fun e j=>(Sy.must v [58] j).bind fun _ j=>.ok e j else .ok Sy.ex0 j).bind fun o j =>
     (Sy.bodyOf v (Sy.litF v k (br+1)) j).bind fun b j=>(Sy.must v [125] j).bind fun _ j=>.ok ⟨(fnn:Nat),Sy.txt t.text,o,b⟩ j):=Hxq (by rw [HR.out,if_neg hc])
  have hpa:rp=true->br<16:=fun h=>Nat.lt_of_not_le (fun hh=>hc ⟨h,hh⟩)
  have HTK:=Hxq (HTk.out w5 H5.out)
  clear HR hc HTk HS
  cases pm with
  | err g1 =>
   have hq:q=.err g1:=HR5.out
   subst hq
   clear HR5
   cases rp
   all_goals (
    try have hI:¬ (br:Int)+1 > 16:=by have:=hpa rfl;omega
    try have hJ:¬ (16:Int)<(br:Int)+1:=by have:=hpa rfl;omega
    clear hpa
    go_wp2_with fail
    refine HTK.out.mono ?_
    rintro e6 w6 ⟨rfl,⟨jj,h6⟩,m6⟩
    have A6:=Hxq (m6.at A5.out hnb);have G6:=Hxq (m6.at G5.out hgb);have M6:=Hxq (M5.out.trans m6 (by simp));have H6:=Lib.hid h6
    clear m6 h6
    obtain ⟨x0,x1,x2,x3,x4,x5,x6,x7,x8,x9⟩:=cells10 G6.out
    obtain ⟨r0,r1,r2,r3,r4,r5,r6,r7,r8,r9⟩:=cells10 A6.out
    have fA:∀ j,w6.frozen? ⟨w.heap.size,j,none⟩=false:=fun j=>free_at A6.out j
    go_wp2_with fail
    have mR:=setCs_mod w.heap.size [.int .i64 (fnn:Nat),.string (Lx.ofS t.text),.int .i64 0,.string ⟨#[]⟩,.int .i64 0,.int .i64 0,.string ⟨#[]⟩,.int .i64 0,.slice none 0 0,.slice none 0 0] 0 w6
    refine bodyPost_ret (res_ct rfl _ _ _ _ _ rfl rfl (load_ag (setCs_row (vs:=[.int .i64 (fnn:Nat),.string (Lx.ofS t.text),.int .i64 0,.string ⟨#[]⟩,.int .i64 0,.int .i64 0,.string ⟨#[]⟩,.int .i64 0,.slice none 0 0,.slice none 0 0]) A6.out rfl) rfl)) rfl ⟨_,rfl,?_,⟨jj,H6.out.new HLo.out mR (by simp)⟩,M6.out.trans mR (by simp)⟩
    exact ⟨⟨(fnn:Nat),Lx.ofS t.text,Sy.ex0,[]⟩,none,0,0,none,0,0,rfl⟩
    )
  | ok uu j =>
   have hj:=HMA.out uu j hi rfl
   have hrp:=HMS.out uu j rfl
   subst hrp
   have hab:=hpa rfl
   have HB:=Hxq (hB0 hab)
   have hI:¬ (br:Int)+1 > 16:=by omega
   have hJ:¬ (16:Int)<(br:Int)+1:=by omega
   have HR6:Hid (q=(if fnn≠1 then (Sy.expr v j).bind fun e j=>(Sy.must v [58] j).bind fun _ j=>.ok e j else .ok Sy.ex0 j).bind fun o j =>
     (Sy.bodyOf v (Sy.litF v k (br+1)) j).bind fun b j=>(Sy.must v [125] j).bind fun _ j=>.ok ⟨(fnn:Nat),Sy.txt t.text,o,b⟩ j):=Lib.hid HR5.out
   clear HR5 hpa hB0
   go_wp2_with fail
   refine HTK.out.mono ?_
   rintro e6 w6 ⟨rfl,h6,m6⟩
   have A6:=Hxq (m6.at A5.out hnb);have G6:=Hxq (m6.at G5.out hgb);have M6:=Hxq (M5.out.trans m6 (by simp));have H6:=Lib.hid h6
   have z6:=lt_of_block G6.out
   clear m6 h6 A5 G5 M5 H5 HTK hI hJ
   have x0:w6.cell? ⟨g,0,none⟩=some (.int .i64 (fnn:Nat)):=cell_at G6.out 0
   by_cases hf:fnn=1
   ·have HQ:Hid (q=(Sy.bodyOf v (Sy.litF v k (br+1)) j).bind fun b j=>(Sy.must v [125] j).bind fun _ j=>.ok ⟨(fnn:Nat),Sy.txt t.text,Sy.ex0,b⟩ j):=Hxq (by rw [HR6.out,if_neg (by omega)];rfl)
    have hfI:((fnn:Int) != 1)=false:=by simp;omega
    clear HR6 HE HT2
    have O6:Hid (EB (fun k=>w.heap.size<k/\k≠g) w6 Sy.ex0 (.slice none Sy.ex0.args.length 0)):=Lib.hid .nil
    clear hf
    go_upto_region 12 with fail
    clear x0 hfI
    have G7:Hid (w6.heap[g]?=some (.cells #[.int .i64 (fnn:Nat),.string (Lx.ofS t.text),.int .i64 Sy.ex0.k,.string Sy.ex0.v,.int .i64 Sy.ex0.x.k,.int .i64 Sy.ex0.x.n,.string (Lx.ofS Sy.ex0.x.s),.int .i64 Sy.ex0.op,.slice none Sy.ex0.args.length 0,.slice none 0 0] 48 (0,0))):=Lib.hid G6.out
    clear G6
    obtain ⟨ex,hex⟩:∃ ex,Sy.ex0=ex:=⟨_,rfl⟩
    rw [hex] at HQ O6 G7
    clear hex
    obtain ⟨ua,ca,O7,G7⟩:∃ (ua:Option Addr) (ca:Nat),Hid (EB (fun k=>w.heap.size<k/\k≠g) w6 ex (.slice ua ex.args.length ca))/\Hid (w6.heap[g]?=some (.cells #[.int .i64 (fnn:Nat),.string (Lx.ofS t.text),.int .i64 ex.k,.string ex.v,.int .i64 ex.x.k,.int .i64 ex.x.n,.string (Lx.ofS ex.x.s),.int .i64 ex.op,.slice ua ex.args.length ca,.slice none 0 0] 48 (0,0))):=⟨none,0,O6,G7⟩
    clear O6
    have HB1:=Hxq (HB.out j w6 H6.out hj.2)
    have hab2:=HAB.out j
    clear HB
    generalize Sy.bodyOf v (Sy.litF v k (br+1)) j=pb at *
    have zG:=lt_of_block G7.out
    go_wp2_with fail
    refine HB1.out.mono ?_
    cases pb with
    | err g1 =>
     have hq:q=.err g1:=HQ.out
     subst hq
     clear HQ hab2
     rintro e10 w10 ⟨x10,rfl,rfl,⟨jj,h10⟩,m10⟩
     have A10:=Hxq (m10.at A6.out hnb);have G10:=Hxq (m10.at G7.out hgb);have M10:=Hxq (M6.out.trans m10 (by simp));have H10:=Lib.hid h10
     have c9:w10.cell? ⟨g,9,none⟩=some (.slice none 0 0):=cell_at G10.out 9
     have fg:∀ j,w10.frozen? ⟨g,j,none⟩=false:=fun j=>free_at G10.out j
     have mS:=setCs_mod g [.slice none 0 0] 9 w10
     have G11:Hid ((w10.setCell ⟨g,9,none⟩ (.slice none 0 0)).heap[g]?=some (.cells #[.int .i64 (fnn:Nat),.string (Lx.ofS t.text),.int .i64 ex.k,.string ex.v,.int .i64 ex.x.k,.int .i64 ex.x.n,.string (Lx.ofS ex.x.s),.int .i64 ex.op,.slice ua ex.args.length ca,.slice none 0 0] 48 (0,0))):=Hxq (setCs_heap [.slice none 0 0] 9 [.int .i64 (fnn:Nat),.string (Lx.ofS t.text),.int .i64 ex.k,.string ex.v,.int .i64 ex.x.k,.int .i64 ex.x.n,.string (Lx.ofS ex.x.s),.int .i64 ex.op,.slice ua ex.args.length ca,.slice none 0 0] w10 G10.out)
     have mS:Mod [g] w10 (w10.setCell ⟨g,9,none⟩ (.slice none 0 0)):=mS
     have H11:=Hxq (h10.new HLo.out mS (by simp;omega));have A11:=Hxq (mS.at A10.out (by simp;omega));have M11:=Hxq (M10.out.trans mS (by simp;omega))
     clear h10 m10 mS A10 G10 M10
     go_upto_region 14 with fail
     generalize w10.setCell ⟨g,9,none⟩ (.slice none 0 0)=w11 at *
     clear c9 fg
     have Q0:=Hxq (show w11.cell? ⟨g,0,none⟩=some (.int .i64 (fnn:Nat)) from cell_at G11.out 0)
     have Q1:=Hxq (show w11.cell? ⟨g,1,none⟩=some (.string (Lx.ofS t.text)) from cell_at G11.out 1)
     have Q2:=Hxq (show w11.cell? ⟨g,2,none⟩=some (.int .i64 ex.k) from cell_at G11.out 2)
     have Q3:=Hxq (show w11.cell? ⟨g,3,none⟩=some (.string ex.v) from cell_at G11.out 3)
     have Q4:=Hxq (show w11.cell? ⟨g,4,none⟩=some (.int .i64 ex.x.k) from cell_at G11.out 4)
     have Q5:=Hxq (show w11.cell? ⟨g,5,none⟩=some (.int .i64 ex.x.n) from cell_at G11.out 5)
     have Q6:=Hxq (show w11.cell? ⟨g,6,none⟩=some (.string (Lx.ofS ex.x.s)) from cell_at G11.out 6)
     have Q7:=Hxq (show w11.cell? ⟨g,7,none⟩=some (.int .i64 ex.op) from cell_at G11.out 7)
     have Q8:=Hxq (show w11.cell? ⟨g,8,none⟩=some (.slice ua ex.args.length ca) from cell_at G11.out 8)
     have Q9:=Hxq (show w11.cell? ⟨g,9,none⟩=some (.slice none 0 0) from cell_at G11.out 9)
     refine wp_region_held_drew (S:=(fun w':World=>Mod [b,w.heap.size] w11 w')) (by kernel_rfl) (by (try dsimp only);exact (Mod.refl [b,w.heap.size] w11).drew) (fun hHeld=>?_)
     refine Tkq 0 (v:=?_) (by assumption) ?_ ?_ ?_
     rotate_left 1
     ·refine .inl ⟨by rfl,?_⟩;intro w hSw;have s0:=hSw.cell Q0.out (by simp;omega);have s1:=hSw.cell Q1.out (by simp;omega);have s2:=hSw.cell Q2.out (by simp;omega);have s3:=hSw.cell Q3.out (by simp;omega);have s4:=hSw.cell Q4.out (by simp;omega);have s5:=hSw.cell Q5.out (by simp;omega);have s6:=hSw.cell Q6.out (by simp;omega);have s7:=hSw.cell Q7.out (by simp;omega);have s8:=hSw.cell Q8.out (by simp;omega);have s9:=hSw.cell Q9.out (by simp;omega);clear hSw;go_simp
      all_goals with_reducible rfl
     ·exact fun _ _ _ h=>h
     try simp only [Act.put,Lq1,Lq2,Lq3]
     refine Tkq 1 (v:=?_) (by assumption) ?_ ?_ ?_
     rotate_left 1
     ·refine .inl ⟨by rfl,?_⟩;intro w hSw;have s0:=hSw.cell Q0.out (by simp;omega);have s1:=hSw.cell Q1.out (by simp;omega);have s2:=hSw.cell Q2.out (by simp;omega);have s3:=hSw.cell Q3.out (by simp;omega);have s4:=hSw.cell Q4.out (by simp;omega);have s5:=hSw.cell Q5.out (by simp;omega);have s6:=hSw.cell Q6.out (by simp;omega);have s7:=hSw.cell Q7.out (by simp;omega);have s8:=hSw.cell Q8.out (by simp;omega);have s9:=hSw.cell Q9.out (by simp;omega);clear hSw;go_simp
      all_goals with_reducible rfl
     ·exact fun _ _ _ h=>h
     try simp only [Act.put,Lq1,Lq2,Lq3]
     refine Tkq 2 (v:=?_) (by assumption) ?_ ?_ ?_
     rotate_left 1
     ·refine .inl ⟨by rfl,?_⟩;intro w hSw;have s0:=hSw.cell Q0.out (by simp;omega);have s1:=hSw.cell Q1.out (by simp;omega);have s2:=hSw.cell Q2.out (by simp;omega);have s3:=hSw.cell Q3.out (by simp;omega);have s4:=hSw.cell Q4.out (by simp;omega);have s5:=hSw.cell Q5.out (by simp;omega);have s6:=hSw.cell Q6.out (by simp;omega);have s7:=hSw.cell Q7.out (by simp;omega);have s8:=hSw.cell Q8.out (by simp;omega);have s9:=hSw.cell Q9.out (by simp;omega);clear hSw;go_simp
      all_goals with_reducible rfl
     ·exact fun _ _ _ h=>h
     try simp only [Act.put,Lq1,Lq2,Lq3]
     refine wpAnyH_take (i:=3) (oi:=?_) (v:=undef) ?_ ?_ ?_ ?_ ?_ ?_ (by assumption) ?_
     rotate_left 1
     ·(simp only [Gq1,Gq2,Gq3])<;>rfl
     ·kernel_rfl
     ·kernel_rfl
     ·kernel_rfl
     rotate_left 1
     ·exact Or.inr ⟨by rfl,rfl⟩
     rotate_left 1
     ·exact fun _ _ _ h=>h
     try simp only [Act.put,Lq1,Lq2,Lq3]
     refine wpAnyH_take (i:=4) (oi:=?_) (v:=undef) ?_ ?_ ?_ ?_ ?_ ?_ (by assumption) ?_
     rotate_left 1
     ·(simp only [Gq1,Gq2,Gq3])<;>rfl
     ·kernel_rfl
     ·kernel_rfl
     ·kernel_rfl
     rotate_left 1
     ·exact Or.inr ⟨by rfl,rfl⟩
     rotate_left 1
     ·exact fun _ _ _ h=>h
     try simp only [Act.put,Lq1,Lq2,Lq3]
     refine Tkq 5 (v:=?_) (by assumption) ?_ ?_ ?_
     rotate_left 1
     ·refine .inl ⟨by rfl,?_⟩;intro w hSw;have s0:=hSw.cell Q0.out (by simp;omega);have s1:=hSw.cell Q1.out (by simp;omega);have s2:=hSw.cell Q2.out (by simp;omega);have s3:=hSw.cell Q3.out (by simp;omega);have s4:=hSw.cell Q4.out (by simp;omega);have s5:=hSw.cell Q5.out (by simp;omega);have s6:=hSw.cell Q6.out (by simp;omega);have s7:=hSw.cell Q7.out (by simp;omega);have s8:=hSw.cell Q8.out (by simp;omega);have s9:=hSw.cell Q9.out (by simp;omega);clear hSw;go_simp
      all_goals with_reducible rfl
     ·exact fun _ _ _ h=>h
     try simp only [Act.put,Lq1,Lq2,Lq3]
     refine wpAnyH_ready (rs:=[6]) (by kernel_rfl) (by simp) ?_
     refine AllReadyH.cons (o:=?_) ?_ ?_ AllReadyH.nil
     rotate_left 1
     ·(simp only [Gq1,Gq2,Gq3])<;>rfl
     intro K hK
     obtain ⟨r0,r1,r2,r3,r4,r5,r6,r7,r8,r9⟩:=cells10 A11.out
     have fA:∀ j,w11.frozen? ⟨w.heap.size,j,none⟩=false:=fun j=>free_at A11.out j
     have mR:=(setCs_mod w.heap.size [.int .i64 (fnn:Nat),.string (Lx.ofS t.text),.int .i64 ex.k,.string ex.v,.int .i64 ex.x.k,.int .i64 ex.x.n,.string (Lx.ofS ex.x.s),.int .i64 ex.op,.slice ua ex.args.length ca,.slice none 0 0] 0 w11).drew
     have NR:=Hxq (mR.mono (T:=[b,w.heap.size]) (by simp))
     clear mR
     go_simp
     refine hK.out _ _ (by (try dsimp only);exact NR.out) (fun hHeld=>?_)
     clear hK K
     try simp only [Act.put,Lq1,Lq2,Lq3]
     refine Tkq 7 (v:=?_) (by assumption) ?_ ?_ ?_
     rotate_left 1
     ·refine .inl ⟨by rfl,?_⟩;intro w hSw;have s0:=hSw.cell Q0.out (by simp;omega);have s1:=hSw.cell Q1.out (by simp;omega);have s2:=hSw.cell Q2.out (by simp;omega);have s3:=hSw.cell Q3.out (by simp;omega);have s4:=hSw.cell Q4.out (by simp;omega);have s5:=hSw.cell Q5.out (by simp;omega);have s6:=hSw.cell Q6.out (by simp;omega);have s7:=hSw.cell Q7.out (by simp;omega);have s8:=hSw.cell Q8.out (by simp;omega);have s9:=hSw.cell Q9.out (by simp;omega);clear hSw;go_simp
      all_goals with_reducible rfl
     ·exact fun _ _ _ h=>h
     try simp only [Act.put,Lq1,Lq2,Lq3]
     refine wpAnyH_done (by kernel_rfl) ?_ _
     clear r0 r1 r2 r3 r4 r5 r6 r7 r8 r9 fA
     go_wp2_with fail
     have mR:=(setCs_mod w.heap.size [.int .i64 (fnn:Nat),.string (Lx.ofS t.text),.int .i64 ex.k,.string ex.v,.int .i64 ex.x.k,.int .i64 ex.x.n,.string (Lx.ofS ex.x.s),.int .i64 ex.op,.slice ua ex.args.length ca,.slice none 0 0] 0 w11).drew
     refine bodyPost_ret (res_ct rfl _ _ _ _ _ rfl rfl (load_ag (drew_cells (setCs_row (vs:=[.int .i64 (fnn:Nat),.string (Lx.ofS t.text),.int .i64 ex.k,.string ex.v,.int .i64 ex.x.k,.int .i64 ex.x.n,.string (Lx.ofS ex.x.s),.int .i64 ex.op,.slice ua ex.args.length ca,.slice none 0 0]) A11.out rfl)) rfl)) rfl ⟨_,rfl,?_,⟨jj,H11.out.new HLo.out mR (by simp)⟩,M11.out.trans mR (by simp)⟩
     exact ⟨⟨(fnn:Nat),Lx.ofS t.text,ex,[]⟩,ua,ex.args.length,ca,none,0,0,rfl⟩
    | ok bd n3 =>
     have hn3:=hab2 bd n3 hj.2 rfl
     have HQ3:Hid (q=(Sy.must v [125] n3).bind fun _ j=>.ok ⟨(fnn:Nat),Sy.txt t.text,ex,bd⟩ j):=Lib.hid HQ.out
     clear HQ hab2
     rintro e10 w10 ⟨x10,rfl,hb10,h10,m10⟩
     unfold valB at hb10
     obtain ⟨ub,cb,rfl⟩:=hb10.lit
     have z10:=m10.size
     have A10:=Hxq (m10.at A6.out hnb);have G10:=Hxq (m10.at G7.out hgb);have M10:=Hxq (M6.out.trans m10 (by simp));have O10:=Hxq (O7.out.keep m10 (fun s hs=>by rw [Msq] at hs;omega))
     have zl:=lt_of_block A6.out
     have B10:=Hxq (hb10.mono (F':=fun k=>w.heap.size<k/\k≠g) (fun k hk hk2=>by omega))
     have c9:w10.cell? ⟨g,9,none⟩=some (.slice none 0 0):=cell_at G10.out 9
     have fg:∀ j,w10.frozen? ⟨g,j,none⟩=false:=fun j=>free_at G10.out j
     have mS:Mod [g] w10 (w10.setCell ⟨g,9,none⟩ (.slice ub bd.length cb)):=setCs_mod g [.slice ub bd.length cb] 9 w10
     have G11:Hid ((w10.setCell ⟨g,9,none⟩ (.slice ub bd.length cb)).heap[g]?=some (.cells #[.int .i64 (fnn:Nat),.string (Lx.ofS t.text),.int .i64 ex.k,.string ex.v,.int .i64 ex.x.k,.int .i64 ex.x.n,.string (Lx.ofS ex.x.s),.int .i64 ex.op,.slice ua ex.args.length ca,.slice ub bd.length cb] 48 (0,0))):=Hxq (setCs_heap [.slice ub bd.length cb] 9 [.int .i64 (fnn:Nat),.string (Lx.ofS t.text),.int .i64 ex.k,.string ex.v,.int .i64 ex.x.k,.int .i64 ex.x.n,.string (Lx.ofS ex.x.s),.int .i64 ex.op,.slice ua ex.args.length ca,.slice none 0 0] w10 G10.out)
     have H11:=Hxq (h10.new HLo.out mS (by simp;omega));have A11:=Hxq (mS.at A10.out (by simp;omega));have M11:=Hxq (M10.out.trans mS (by simp;omega));have O11:=Hxq (O10.out.keep mS (fun s hs=>by rw [Msq] at hs;omega));have B11:=Hxq (B10.out.keep mS (fun s hs=>by rw [Msq] at hs;omega))
     clear h10 m10 mS A10 G10 M10 O10 B10 hb10
     go_upto_region 14 with fail
     generalize w10.setCell ⟨g,9,none⟩ (.slice ub bd.length cb)=w11 at *
     clear c9 fg
     have mD:=(Mod.refl [] w11).drew
     have HK:=Hxq (HT3.out n3 w11.drew (H11.out.past mD (by simp)) hn3.2)
     clear mD
     generalize Sy.must v [125] n3=pm3 at *
     cases pm3 with
     | err g1 =>
      have hq:q=.err g1:=HQ3.out
      subst hq
      clear HQ3
      have Q0:=Hxq (show w11.cell? ⟨g,0,none⟩=some (.int .i64 (fnn:Nat)) from cell_at G11.out 0)
      have Q1:=Hxq (show w11.cell? ⟨g,1,none⟩=some (.string (Lx.ofS t.text)) from cell_at G11.out 1)
      have Q2:=Hxq (show w11.cell? ⟨g,2,none⟩=some (.int .i64 ex.k) from cell_at G11.out 2)
      have Q3:=Hxq (show w11.cell? ⟨g,3,none⟩=some (.string ex.v) from cell_at G11.out 3)
      have Q4:=Hxq (show w11.cell? ⟨g,4,none⟩=some (.int .i64 ex.x.k) from cell_at G11.out 4)
      have Q5:=Hxq (show w11.cell? ⟨g,5,none⟩=some (.int .i64 ex.x.n) from cell_at G11.out 5)
      have Q6:=Hxq (show w11.cell? ⟨g,6,none⟩=some (.string (Lx.ofS ex.x.s)) from cell_at G11.out 6)
      have Q7:=Hxq (show w11.cell? ⟨g,7,none⟩=some (.int .i64 ex.op) from cell_at G11.out 7)
      have Q8:=Hxq (show w11.cell? ⟨g,8,none⟩=some (.slice ua ex.args.length ca) from cell_at G11.out 8)
      have Q9:=Hxq (show w11.cell? ⟨g,9,none⟩=some (.slice ub bd.length cb) from cell_at G11.out 9)
      refine wp_region_held_drew (S:=(fun w':World=>Mod [b,w.heap.size] w11 w')) (by kernel_rfl) (by (try dsimp only);exact (Mod.refl [b,w.heap.size] w11).drew) (fun hHeld=>?_)
      refine Tkq 0 (v:=?_) (by assumption) ?_ ?_ ?_
      rotate_left 1
      ·refine .inl ⟨by rfl,?_⟩;intro w hSw;have s0:=hSw.cell Q0.out (by simp;omega);have s1:=hSw.cell Q1.out (by simp;omega);have s2:=hSw.cell Q2.out (by simp;omega);have s3:=hSw.cell Q3.out (by simp;omega);have s4:=hSw.cell Q4.out (by simp;omega);have s5:=hSw.cell Q5.out (by simp;omega);have s6:=hSw.cell Q6.out (by simp;omega);have s7:=hSw.cell Q7.out (by simp;omega);have s8:=hSw.cell Q8.out (by simp;omega);have s9:=hSw.cell Q9.out (by simp;omega);clear hSw;go_simp
       all_goals with_reducible rfl
      ·exact fun _ _ _ h=>h
      try simp only [Act.put,Lq1,Lq2,Lq3]
      refine Tkq 1 (v:=?_) (by assumption) ?_ ?_ ?_
      rotate_left 1
      ·refine .inl ⟨by rfl,?_⟩;intro w hSw;have s0:=hSw.cell Q0.out (by simp;omega);have s1:=hSw.cell Q1.out (by simp;omega);have s2:=hSw.cell Q2.out (by simp;omega);have s3:=hSw.cell Q3.out (by simp;omega);have s4:=hSw.cell Q4.out (by simp;omega);have s5:=hSw.cell Q5.out (by simp;omega);have s6:=hSw.cell Q6.out (by simp;omega);have s7:=hSw.cell Q7.out (by simp;omega);have s8:=hSw.cell Q8.out (by simp;omega);have s9:=hSw.cell Q9.out (by simp;omega);clear hSw;go_simp
       all_goals with_reducible rfl
      ·exact fun _ _ _ h=>h
      try simp only [Act.put,Lq1,Lq2,Lq3]
      refine Tkq 2 (v:=?_) (by assumption) ?_ ?_ ?_
      rotate_left 1
      ·refine .inl ⟨by rfl,?_⟩;intro w hSw;have s0:=hSw.cell Q0.out (by simp;omega);have s1:=hSw.cell Q1.out (by simp;omega);have s2:=hSw.cell Q2.out (by simp;omega);have s3:=hSw.cell Q3.out (by simp;omega);have s4:=hSw.cell Q4.out (by simp;omega);have s5:=hSw.cell Q5.out (by simp;omega);have s6:=hSw.cell Q6.out (by simp;omega);have s7:=hSw.cell Q7.out (by simp;omega);have s8:=hSw.cell Q8.out (by simp;omega);have s9:=hSw.cell Q9.out (by simp;omega);clear hSw;go_simp
       all_goals with_reducible rfl
      ·exact fun _ _ _ h=>h
      try simp only [Act.put,Lq1,Lq2,Lq3]
      refine Tkq 3 (v:=?_) (by assumption) ?_ ?_ ?_
      rotate_left 1
      ·refine .inl ⟨by rfl,?_⟩;intro w hSw;have s0:=hSw.cell Q0.out (by simp;omega);have s1:=hSw.cell Q1.out (by simp;omega);have s2:=hSw.cell Q2.out (by simp;omega);have s3:=hSw.cell Q3.out (by simp;omega);have s4:=hSw.cell Q4.out (by simp;omega);have s5:=hSw.cell Q5.out (by simp;omega);have s6:=hSw.cell Q6.out (by simp;omega);have s7:=hSw.cell Q7.out (by simp;omega);have s8:=hSw.cell Q8.out (by simp;omega);have s9:=hSw.cell Q9.out (by simp;omega);clear hSw;go_simp
       all_goals with_reducible rfl
      ·exact fun _ _ _ h=>h
      try simp only [Act.put,Lq1,Lq2,Lq3]
      refine wpAnyH_ready (rs:=[4]) (by kernel_rfl) (by simp) ?_
      refine AllReadyH.cons (o:=?_) ?_ ?_ AllReadyH.nil
      rotate_left 1
      ·(simp only [Gq1,Gq2,Gq3])<;>rfl
      intro K hK
      go_simp
      refine HK.out.mono ?_
      rintro e12 w12 ⟨rfl,⟨jj,h12⟩,m12⟩
      have N12:=Hxq ((Mod.refl [b] w11).drew.trans m12 (by simp));have H12:=Lib.hid h12
      clear m12 h12
      refine hK.out _ _ (by (try dsimp only);exact N12.out.mono (by simp)) (fun hHeld=>?_)
      clear hK K
      try simp only [Act.put,Lq1,Lq2,Lq3]
      refine Tkq 5 (v:=?_) (by assumption) ?_ ?_ ?_
      rotate_left 1
      ·refine .inl ⟨by rfl,?_⟩;intro w hSw;have s0:=hSw.cell Q0.out (by simp;omega);have s1:=hSw.cell Q1.out (by simp;omega);have s2:=hSw.cell Q2.out (by simp;omega);have s3:=hSw.cell Q3.out (by simp;omega);have s4:=hSw.cell Q4.out (by simp;omega);have s5:=hSw.cell Q5.out (by simp;omega);have s6:=hSw.cell Q6.out (by simp;omega);have s7:=hSw.cell Q7.out (by simp;omega);have s8:=hSw.cell Q8.out (by simp;omega);have s9:=hSw.cell Q9.out (by simp;omega);clear hSw;go_simp
       all_goals with_reducible rfl
      ·exact fun _ _ _ h=>h
      try simp only [Act.put,Lq1,Lq2,Lq3]
      refine wpAnyH_ready (rs:=[6]) (by kernel_rfl) (by simp) ?_
      refine AllReadyH.cons (o:=?_) ?_ ?_ AllReadyH.nil
      rotate_left 1
      ·(simp only [Gq1,Gq2,Gq3])<;>rfl
      intro K hK
      have Aw12:=Hxq (N12.out.at A11.out (by simp;omega))
      obtain ⟨r0,r1,r2,r3,r4,r5,r6,r7,r8,r9⟩:=cells10 Aw12.out
      have fA:∀ j,w12.frozen? ⟨w.heap.size,j,none⟩=false:=fun j=>free_at Aw12.out j
      have mR:=setCs_mod w.heap.size [.int .i64 (fnn:Nat),.string (Lx.ofS t.text),.int .i64 ex.k,.string ex.v,.int .i64 ex.x.k,.int .i64 ex.x.n,.string (Lx.ofS ex.x.s),.int .i64 ex.op,.slice ua ex.args.length ca,.slice ub bd.length cb] 0 w12
      have NR:=Hxq ((N12.out.mono (T:=[b,w.heap.size]) (by simp)).trans (mR.mono (T:=[b,w.heap.size]) (by simp)) (by simp))
      clear mR
      go_simp
      refine hK.out _ _ (by (try dsimp only);exact NR.out) (fun hHeld=>?_)
      clear hK K
      try simp only [Act.put,Lq1,Lq2,Lq3]
      refine Tkq 7 (v:=?_) (by assumption) ?_ ?_ ?_
      rotate_left 1
      ·refine .inl ⟨by rfl,?_⟩;intro w hSw;have s0:=hSw.cell Q0.out (by simp;omega);have s1:=hSw.cell Q1.out (by simp;omega);have s2:=hSw.cell Q2.out (by simp;omega);have s3:=hSw.cell Q3.out (by simp;omega);have s4:=hSw.cell Q4.out (by simp;omega);have s5:=hSw.cell Q5.out (by simp;omega);have s6:=hSw.cell Q6.out (by simp;omega);have s7:=hSw.cell Q7.out (by simp;omega);have s8:=hSw.cell Q8.out (by simp;omega);have s9:=hSw.cell Q9.out (by simp;omega);clear hSw;go_simp
       all_goals with_reducible rfl
      ·exact fun _ _ _ h=>h
      try simp only [Act.put,Lq1,Lq2,Lq3]
      refine wpAnyH_done (by kernel_rfl) ?_ _
      clear r0 r1 r2 r3 r4 r5 r6 r7 r8 r9 fA
      go_wp2_with fail
      have mR:=setCs_mod w.heap.size [.int .i64 (fnn:Nat),.string (Lx.ofS t.text),.int .i64 ex.k,.string ex.v,.int .i64 ex.x.k,.int .i64 ex.x.n,.string (Lx.ofS ex.x.s),.int .i64 ex.op,.slice ua ex.args.length ca,.slice ub bd.length cb] 0 w12
      have M12:=Hxq (M11.out.trans N12.out (by simp))
      refine bodyPost_ret (res_ct rfl _ _ _ _ _ rfl rfl (load_ag (setCs_row (vs:=[.int .i64 (fnn:Nat),.string (Lx.ofS t.text),.int .i64 ex.k,.string ex.v,.int .i64 ex.x.k,.int .i64 ex.x.n,.string (Lx.ofS ex.x.s),.int .i64 ex.op,.slice ua ex.args.length ca,.slice ub bd.length cb]) Aw12.out rfl) rfl)) rfl ⟨_,rfl,?_,⟨jj,H12.out.new HLo.out mR (by simp)⟩,M12.out.trans mR (by simp)⟩
      exact ⟨⟨(fnn:Nat),Lx.ofS t.text,ex,[]⟩,ua,ex.args.length,ca,ub,bd.length,cb,rfl⟩
     | ok uu3 n4 =>
      have hq:q=.ok ⟨(fnn:Nat),Sy.txt t.text,ex,bd⟩ n4:=HQ3.out
      subst hq
      clear HQ3
      have Q0:=Hxq (show w11.cell? ⟨g,0,none⟩=some (.int .i64 (fnn:Nat)) from cell_at G11.out 0)
      have Q1:=Hxq (show w11.cell? ⟨g,1,none⟩=some (.string (Lx.ofS t.text)) from cell_at G11.out 1)
      have Q2:=Hxq (show w11.cell? ⟨g,2,none⟩=some (.int .i64 ex.k) from cell_at G11.out 2)
      have Q3:=Hxq (show w11.cell? ⟨g,3,none⟩=some (.string ex.v) from cell_at G11.out 3)
      have Q4:=Hxq (show w11.cell? ⟨g,4,none⟩=some (.int .i64 ex.x.k) from cell_at G11.out 4)
      have Q5:=Hxq (show w11.cell? ⟨g,5,none⟩=some (.int .i64 ex.x.n) from cell_at G11.out 5)
      have Q6:=Hxq (show w11.cell? ⟨g,6,none⟩=some (.string (Lx.ofS ex.x.s)) from cell_at G11.out 6)
      have Q7:=Hxq (show w11.cell? ⟨g,7,none⟩=some (.int .i64 ex.op) from cell_at G11.out 7)
      have Q8:=Hxq (show w11.cell? ⟨g,8,none⟩=some (.slice ua ex.args.length ca) from cell_at G11.out 8)
      have Q9:=Hxq (show w11.cell? ⟨g,9,none⟩=some (.slice ub bd.length cb) from cell_at G11.out 9)
      refine wp_region_held_drew (S:=(fun w':World=>Mod [b,w.heap.size] w11 w')) (by kernel_rfl) (by (try dsimp only);exact (Mod.refl [b,w.heap.size] w11).drew) (fun hHeld=>?_)
      refine Tkq 0 (v:=?_) (by assumption) ?_ ?_ ?_
      rotate_left 1
      ·refine .inl ⟨by rfl,?_⟩;intro w hSw;have s0:=hSw.cell Q0.out (by simp;omega);have s1:=hSw.cell Q1.out (by simp;omega);have s2:=hSw.cell Q2.out (by simp;omega);have s3:=hSw.cell Q3.out (by simp;omega);have s4:=hSw.cell Q4.out (by simp;omega);have s5:=hSw.cell Q5.out (by simp;omega);have s6:=hSw.cell Q6.out (by simp;omega);have s7:=hSw.cell Q7.out (by simp;omega);have s8:=hSw.cell Q8.out (by simp;omega);have s9:=hSw.cell Q9.out (by simp;omega);clear hSw;go_simp
       all_goals with_reducible rfl
      ·exact fun _ _ _ h=>h
      try simp only [Act.put,Lq1,Lq2,Lq3]
      refine Tkq 1 (v:=?_) (by assumption) ?_ ?_ ?_
      rotate_left 1
      ·refine .inl ⟨by rfl,?_⟩;intro w hSw;have s0:=hSw.cell Q0.out (by simp;omega);have s1:=hSw.cell Q1.out (by simp;omega);have s2:=hSw.cell Q2.out (by simp;omega);have s3:=hSw.cell Q3.out (by simp;omega);have s4:=hSw.cell Q4.out (by simp;omega);have s5:=hSw.cell Q5.out (by simp;omega);have s6:=hSw.cell Q6.out (by simp;omega);have s7:=hSw.cell Q7.out (by simp;omega);have s8:=hSw.cell Q8.out (by simp;omega);have s9:=hSw.cell Q9.out (by simp;omega);clear hSw;go_simp
       all_goals with_reducible rfl
      ·exact fun _ _ _ h=>h
      try simp only [Act.put,Lq1,Lq2,Lq3]
      refine Tkq 2 (v:=?_) (by assumption) ?_ ?_ ?_
      rotate_left 1
      ·refine .inl ⟨by rfl,?_⟩;intro w hSw;have s0:=hSw.cell Q0.out (by simp;omega);have s1:=hSw.cell Q1.out (by simp;omega);have s2:=hSw.cell Q2.out (by simp;omega);have s3:=hSw.cell Q3.out (by simp;omega);have s4:=hSw.cell Q4.out (by simp;omega);have s5:=hSw.cell Q5.out (by simp;omega);have s6:=hSw.cell Q6.out (by simp;omega);have s7:=hSw.cell Q7.out (by simp;omega);have s8:=hSw.cell Q8.out (by simp;omega);have s9:=hSw.cell Q9.out (by simp;omega);clear hSw;go_simp
       all_goals with_reducible rfl
      ·exact fun _ _ _ h=>h
      try simp only [Act.put,Lq1,Lq2,Lq3]
      refine Tkq 3 (v:=?_) (by assumption) ?_ ?_ ?_
      rotate_left 1
      ·refine .inl ⟨by rfl,?_⟩;intro w hSw;have s0:=hSw.cell Q0.out (by simp;omega);have s1:=hSw.cell Q1.out (by simp;omega);have s2:=hSw.cell Q2.out (by simp;omega);have s3:=hSw.cell Q3.out (by simp;omega);have s4:=hSw.cell Q4.out (by simp;omega);have s5:=hSw.cell Q5.out (by simp;omega);have s6:=hSw.cell Q6.out (by simp;omega);have s7:=hSw.cell Q7.out (by simp;omega);have s8:=hSw.cell Q8.out (by simp;omega);have s9:=hSw.cell Q9.out (by simp;omega);clear hSw;go_simp
       all_goals with_reducible rfl
      ·exact fun _ _ _ h=>h
      try simp only [Act.put,Lq1,Lq2,Lq3]
      refine wpAnyH_ready (rs:=[4]) (by kernel_rfl) (by simp) ?_
      refine AllReadyH.cons (o:=?_) ?_ ?_ AllReadyH.nil
      rotate_left 1
      ·(simp only [Gq1,Gq2,Gq3])<;>rfl
      intro K hK
      go_simp
      refine HK.out.mono ?_
      rintro e12 w12 ⟨rfl,h12,m12⟩
      have N12:=Hxq ((Mod.refl [b] w11).drew.trans m12 (by simp));have H12:=Lib.hid h12
      have O12:=Hxq (O11.out.keep N12.out (fun s hs=>by rw [Msq] at hs;omega));have B12:=Hxq (B11.out.keep N12.out (fun s hs=>by rw [Msq] at hs;omega))
      clear m12 h12
      refine hK.out _ _ (by (try dsimp only);exact N12.out.mono (by simp)) (fun hHeld=>?_)
      clear hK K
      try simp only [Act.put,Lq1,Lq2,Lq3]
      refine Tkq 5 (v:=?_) (by assumption) ?_ ?_ ?_
      rotate_left 1
      ·refine .inl ⟨by rfl,?_⟩;intro w hSw;have s0:=hSw.cell Q0.out (by simp;omega);have s1:=hSw.cell Q1.out (by simp;omega);have s2:=hSw.cell Q2.out (by simp;omega);have s3:=hSw.cell Q3.out (by simp;omega);have s4:=hSw.cell Q4.out (by simp;omega);have s5:=hSw.cell Q5.out (by simp;omega);have s6:=hSw.cell Q6.out (by simp;omega);have s7:=hSw.cell Q7.out (by simp;omega);have s8:=hSw.cell Q8.out (by simp;omega);have s9:=hSw.cell Q9.out (by simp;omega);clear hSw;go_simp
       all_goals with_reducible rfl
      ·exact fun _ _ _ h=>h
      try simp only [Act.put,Lq1,Lq2,Lq3]
      refine wpAnyH_ready (rs:=[6]) (by kernel_rfl) (by simp) ?_
      refine AllReadyH.cons (o:=?_) ?_ ?_ AllReadyH.nil
      rotate_left 1
      ·(simp only [Gq1,Gq2,Gq3])<;>rfl
      intro K hK
      have Aw12:=Hxq (N12.out.at A11.out (by simp;omega))
      obtain ⟨r0,r1,r2,r3,r4,r5,r6,r7,r8,r9⟩:=cells10 Aw12.out
      have fA:∀ j,w12.frozen? ⟨w.heap.size,j,none⟩=false:=fun j=>free_at Aw12.out j
      have mR:=setCs_mod w.heap.size [.int .i64 (fnn:Nat),.string (Lx.ofS t.text),.int .i64 ex.k,.string ex.v,.int .i64 ex.x.k,.int .i64 ex.x.n,.string (Lx.ofS ex.x.s),.int .i64 ex.op,.slice ua ex.args.length ca,.slice ub bd.length cb] 0 w12
      have NR:=Hxq ((N12.out.mono (T:=[b,w.heap.size]) (by simp)).trans (mR.mono (T:=[b,w.heap.size]) (by simp)) (by simp))
      clear mR
      go_simp
      refine hK.out _ _ (by (try dsimp only);exact NR.out) (fun hHeld=>?_)
      clear hK K
      try simp only [Act.put,Lq1,Lq2,Lq3]
      refine Tkq 7 (v:=?_) (by assumption) ?_ ?_ ?_
      rotate_left 1
      ·refine .inl ⟨by rfl,?_⟩;intro w hSw;have s0:=hSw.cell Q0.out (by simp;omega);have s1:=hSw.cell Q1.out (by simp;omega);have s2:=hSw.cell Q2.out (by simp;omega);have s3:=hSw.cell Q3.out (by simp;omega);have s4:=hSw.cell Q4.out (by simp;omega);have s5:=hSw.cell Q5.out (by simp;omega);have s6:=hSw.cell Q6.out (by simp;omega);have s7:=hSw.cell Q7.out (by simp;omega);have s8:=hSw.cell Q8.out (by simp;omega);have s9:=hSw.cell Q9.out (by simp;omega);clear hSw;go_simp
       all_goals with_reducible rfl
      ·exact fun _ _ _ h=>h
      try simp only [Act.put,Lq1,Lq2,Lq3]
      refine wpAnyH_done (by kernel_rfl) ?_ _
      clear r0 r1 r2 r3 r4 r5 r6 r7 r8 r9 fA
      go_wp2_with fail
      have mR:=setCs_mod w.heap.size [.int .i64 (fnn:Nat),.string (Lx.ofS t.text),.int .i64 ex.k,.string ex.v,.int .i64 ex.x.k,.int .i64 ex.x.n,.string (Lx.ofS ex.x.s),.int .i64 ex.op,.slice ua ex.args.length ca,.slice ub bd.length cb] 0 w12
      have M12:=Hxq (M11.out.trans N12.out (by simp))
      refine bodyPost_ret (res_ct rfl _ _ _ _ _ rfl rfl (load_ag (setCs_row (vs:=[.int .i64 (fnn:Nat),.string (Lx.ofS t.text),.int .i64 ex.k,.string ex.v,.int .i64 ex.x.k,.int .i64 ex.x.n,.string (Lx.ofS ex.x.s),.int .i64 ex.op,.slice ua ex.args.length ca,.slice ub bd.length cb]) Aw12.out rfl) rfl)) rfl ⟨_,rfl,?_,H12.out.new HLo.out mR (by simp),M12.out.trans mR (by simp)⟩
      exact ⟨.slice ua ex.args.length ca,.slice ub bd.length cb,rfl,(O12.out.keep mR (fun s hs=>by rw [Msq] at hs;omega)).mono (fun k hk _=>Nat.le_of_lt hk.1),(B12.out.keep mR (fun s hs=>by rw [Msq] at hs;omega)).mono (fun k hk _=>Nat.le_of_lt hk.1)⟩
   ·have HQ:Hid (q=((Sy.expr v j).bind fun e j=>(Sy.must v [58] j).bind fun _ j=>.ok e j).bind fun o j =>
     (Sy.bodyOf v (Sy.litF v k (br+1)) j).bind fun b j=>(Sy.must v [125] j).bind fun _ j=>.ok ⟨(fnn:Nat),Sy.txt t.text,o,b⟩ j):=Hxq (by rw [HR6.out,if_pos hf])
    have hfI:((fnn:Int) != 1)=true:=by rw [bne_iff_ne];omega
    have HX:=Hxq (HE.out j w6 H6.out hj.2)
    have hae:=HAE.out j
    clear HR6 hf HE HAE
    generalize Sy.expr v j=px at *
    cases px with
    | err g1 =>
     have hq:q=.err g1:=HQ.out
     subst hq
     clear HQ hae
     go_wp2_with fail
     refine HX.out.mono ?_
     rintro e7 w7 ⟨x7,rfl,rfl,⟨jj,h7⟩,m7⟩
     have mE:=(Mod.refl [] w7).alloc (Obj.cells #[Value.int IntKind.i64 0,Value.string ⟨#[]⟩,Value.int IntKind.i64 0,Value.int IntKind.i64 0,Value.string ⟨#[]⟩,Value.int IntKind.i64 0,Value.slice none 0 0] 45)
     have A7:=Hxq (mE.at (m7.at A6.out hnb) (by have:=lt_of_block (m7.at A6.out hnb);simp));have G7:=Hxq (mE.at (m7.at G6.out hgb) (by have:=lt_of_block (m7.at G6.out hgb);simp));have M7:=Hxq ((M6.out.trans m7 (by simp)).trans mE (by simp));have H7:=Hxq (h7.past mE (by simp))
     clear m7 h7 mE x0 hfI
     go_upto_region 9 with fail
     generalize w7.alloc (Obj.cells _ 45)=wE at *
     obtain ⟨x0,x1,x2,x3,x4,x5,x6,x7,x8,x9⟩:=cells10 G7.out
     obtain ⟨r0,r1,r2,r3,r4,r5,r6,r7,r8,r9⟩:=cells10 A7.out
     have fA:∀ j,wE.frozen? ⟨w.heap.size,j,none⟩=false:=fun j=>free_at A7.out j
     go_wp2_with fail
     have mR:=setCs_mod w.heap.size [.int .i64 (fnn:Nat),.string (Lx.ofS t.text),.int .i64 0,.string ⟨#[]⟩,.int .i64 0,.int .i64 0,.string ⟨#[]⟩,.int .i64 0,.slice none 0 0,.slice none 0 0] 0 wE
     refine bodyPost_ret (res_ct rfl _ _ _ _ _ rfl rfl (load_ag (setCs_row (vs:=[.int .i64 (fnn:Nat),.string (Lx.ofS t.text),.int .i64 0,.string ⟨#[]⟩,.int .i64 0,.int .i64 0,.string ⟨#[]⟩,.int .i64 0,.slice none 0 0,.slice none 0 0]) A7.out rfl) rfl)) rfl ⟨_,rfl,?_,⟨jj,H7.out.new HLo.out mR (by simp)⟩,M7.out.trans mR (by simp)⟩
     exact ⟨⟨(fnn:Nat),Lx.ofS t.text,Sy.ex0,[]⟩,none,0,0,none,0,0,rfl⟩
    | ok ex n =>
     have hn:=hae ex n hj.2 rfl
     have HQ2:Hid (q=((Sy.must v [58] n).bind fun _ j=>.ok ex j).bind fun o j =>
      (Sy.bodyOf v (Sy.litF v k (br+1)) j).bind fun b j=>(Sy.must v [125] j).bind fun _ j=>.ok ⟨(fnn:Nat),Sy.txt t.text,o,b⟩ j):=Lib.hid HQ.out
     clear HQ hae
     go_wp2_with fail
     refine HX.out.mono ?_
     rintro e7 w7 ⟨x7,rfl,⟨u7,rfl,hb7⟩,h7,m7⟩
     obtain ⟨ua,ca,rfl⟩:=hb7.lit
     have zz7:=lt_of_block G6.out
     have z7:=m7.size
     have mE:=(Mod.refl [] w7).alloc (Obj.cells (exV ex (.slice ua ex.args.length ca)) 45)
     have eE:=heap_alloc_new w7 (Obj.cells (exV ex (.slice ua ex.args.length ca)) 45)
     have A7:=Hxq (mE.at (m7.at A6.out hnb) (by have:=lt_of_block (m7.at A6.out hnb);simp));have G7:=Hxq (mE.at (m7.at G6.out hgb) (by have:=lt_of_block (m7.at G6.out hgb);simp));have M7:=Hxq ((M6.out.trans m7 (by simp)).trans mE (by simp));have H7:=Hxq (h7.past mE (by simp));have D7:=Lib.hid eE
     have O7:=Hxq ((hb7.mono (F':=fun k=>w.heap.size<k/\k≠g) (fun k hk hk2=>by omega)).keep mE (by simp))
     have hz7:w7.heap.size∉[b]:=by have:=H7.out.lt;have:=h7.lt;simp;omega
     have hzg:g<w7.heap.size:=by omega
     have HT:=Hxq (HT2.out n _ H7.out hn.2)
     have ham:=HAM.out n
     clear m7 h7 mE eE x0 hfI hb7 HX A6 G6 M6 H6
     unfold exV at *
     simp only at *
     go_upto_region 9 with fail
     generalize w7.alloc (Obj.cells _ 45)=wE at *
     generalize Sy.must v [58] n=pm2 at *
     cases pm2 with
     | err g1 =>
      have hq:q=.err g1:=HQ2.out
      subst hq
      clear HQ2 ham
      go_wp2_with fail
      refine HT.out.mono ?_
      rintro e8 w8 ⟨rfl,⟨jj,h8⟩,m8⟩
      have A8:=Hxq (m8.at A7.out hnb);have G8:=Hxq (m8.at G7.out hgb);have M8:=Hxq (M7.out.trans m8 (by simp));have H8:=Lib.hid h8
      clear m8 h8
      obtain ⟨x0,x1,x2,x3,x4,x5,x6,x7,x8,x9⟩:=cells10 G8.out
      obtain ⟨r0,r1,r2,r3,r4,r5,r6,r7,r8,r9⟩:=cells10 A8.out
      have fA:∀ j,w8.frozen? ⟨w.heap.size,j,none⟩=false:=fun j=>free_at A8.out j
      go_wp2_with fail
      have mR:=setCs_mod w.heap.size [.int .i64 (fnn:Nat),.string (Lx.ofS t.text),.int .i64 0,.string ⟨#[]⟩,.int .i64 0,.int .i64 0,.string ⟨#[]⟩,.int .i64 0,.slice none 0 0,.slice none 0 0] 0 w8
      refine bodyPost_ret (res_ct rfl _ _ _ _ _ rfl rfl (load_ag (setCs_row (vs:=[.int .i64 (fnn:Nat),.string (Lx.ofS t.text),.int .i64 0,.string ⟨#[]⟩,.int .i64 0,.int .i64 0,.string ⟨#[]⟩,.int .i64 0,.slice none 0 0,.slice none 0 0]) A8.out rfl) rfl)) rfl ⟨_,rfl,?_,⟨jj,H8.out.new HLo.out mR (by simp)⟩,M8.out.trans mR (by simp)⟩
      exact ⟨⟨(fnn:Nat),Lx.ofS t.text,Sy.ex0,[]⟩,none,0,0,none,0,0,rfl⟩
     | ok uu2 n2 =>
      have hn2:=ham uu2 n2 hn.2 rfl
      have HQ:Hid (q=(Sy.bodyOf v (Sy.litF v k (br+1)) n2).bind fun b j=>(Sy.must v [125] j).bind fun _ j=>.ok ⟨(fnn:Nat),Sy.txt t.text,ex,b⟩ j):=Lib.hid HQ2.out
      clear HQ2 ham
      go_wp2_with fail
      refine HT.out.mono ?_
      rintro e8 w8 ⟨rfl,h8,m8⟩
      have A8:=Hxq (m8.at A7.out hnb);have G8:=Hxq (m8.at G7.out hgb);have M8:=Hxq (M7.out.trans m8 (by simp));have H8:=Lib.hid h8;have D8:=Hxq (m8.at D7.out hz7);have O8:=Hxq (O7.out.keep m8 (fun s hs=>by rw [Msq] at hs;omega))
      have zG8:=lt_of_block G8.out
      clear m8 h8 A7 G7 M7 H7 D7 O7 HT
      obtain ⟨y0,y1,y2,y3,y4,y5,y6⟩:=cells7 D8.out
      obtain ⟨x0,x1,x2,x3,x4,x5,x6,x7,x8,x9⟩:=cells10 G8.out
      have fG:∀ j,w8.frozen? ⟨g,j,none⟩=false:=fun j=>free_at G8.out j
      have mS:=setCs_mod g [.int .i64 ex.k,.string ex.v,.int .i64 ex.x.k,.int .i64 ex.x.n,.string (Lx.ofS ex.x.s),.int .i64 ex.op,.slice ua ex.args.length ca] 2 w8
      have G9:Hid ((setCs w8 g 2 [.int .i64 ex.k,.string ex.v,.int .i64 ex.x.k,.int .i64 ex.x.n,.string (Lx.ofS ex.x.s),.int .i64 ex.op,.slice ua ex.args.length ca]).heap[g]?=some (.cells #[.int .i64 (fnn:Nat),.string (Lx.ofS t.text),.int .i64 ex.k,.string ex.v,.int .i64 ex.x.k,.int .i64 ex.x.n,.string (Lx.ofS ex.x.s),.int .i64 ex.op,.slice ua ex.args.length ca,.slice none 0 0] 48 (0,0))):=Hxq (setCs_heap [.int .i64 ex.k,.string ex.v,.int .i64 ex.x.k,.int .i64 ex.x.n,.string (Lx.ofS ex.x.s),.int .i64 ex.op,.slice ua ex.args.length ca] 2 [.int .i64 (fnn:Nat),.string (Lx.ofS t.text),.int .i64 0,.string ⟨#[]⟩,.int .i64 0,.int .i64 0,.string ⟨#[]⟩,.int .i64 0,.slice none 0 0,.slice none 0 0] w8 G8.out)
      have H9:=Hxq (H8.out.new HLo.out mS (by simp;omega));have A9:=Hxq (mS.at A8.out (by simp;omega));have M9:=Hxq (M8.out.trans mS (by simp;omega));have O9:=Hxq (O8.out.keep mS (fun s hs=>by rw [Msq] at hs;omega))
      clear mS
      go_upto_region 12 with fail
      generalize hw9:setCs w8 g 2 [.int .i64 ex.k,.string ex.v,.int .i64 ex.x.k,.int .i64 ex.x.n,.string (Lx.ofS ex.x.s),.int .i64 ex.op,.slice ua ex.args.length ca]=w9 at *
      have hw9':(((((((w8.setCell ⟨g,2,none⟩ (.int .i64 ex.k)).setCell ⟨g,3,none⟩ (.string ex.v)).setCell ⟨g,4,none⟩ (.int .i64 ex.x.k)).setCell ⟨g,5,none⟩ (.int .i64 ex.x.n)).setCell ⟨g,6,none⟩ (.string (Lx.ofS ex.x.s))).setCell ⟨g,7,none⟩ (.int .i64 ex.op)).setCell ⟨g,8,none⟩ (.slice ua ex.args.length ca))=w9:=hw9
      rw [hw9']
      clear hw9 hw9' y0 y1 y2 y3 y4 y5 y6 x0 x1 x2 x3 x4 x5 x6 x7 x8 x9 fG A8 G8 M8 H8 D8 O8 hz7
      have HB1:=Hxq (HB.out n2 w9 H9.out hn2.2)
      have hab2:=HAB.out n2
      clear HB
      generalize Sy.bodyOf v (Sy.litF v k (br+1)) n2=pb at *
      have zG:=lt_of_block G9.out
      go_wp2_with fail
      refine HB1.out.mono ?_
      cases pb with
      | err g1 =>
       have hq:q=.err g1:=HQ.out
       subst hq
       clear HQ hab2
       rintro e10 w10 ⟨x10,rfl,rfl,⟨jj,h10⟩,m10⟩
       have A10:=Hxq (m10.at A9.out hnb);have G10:=Hxq (m10.at G9.out hgb);have M10:=Hxq (M9.out.trans m10 (by simp));have H10:=Lib.hid h10
       have c9:w10.cell? ⟨g,9,none⟩=some (.slice none 0 0):=cell_at G10.out 9
       have fg:∀ j,w10.frozen? ⟨g,j,none⟩=false:=fun j=>free_at G10.out j
       have mS:=setCs_mod g [.slice none 0 0] 9 w10
       have G11:Hid ((w10.setCell ⟨g,9,none⟩ (.slice none 0 0)).heap[g]?=some (.cells #[.int .i64 (fnn:Nat),.string (Lx.ofS t.text),.int .i64 ex.k,.string ex.v,.int .i64 ex.x.k,.int .i64 ex.x.n,.string (Lx.ofS ex.x.s),.int .i64 ex.op,.slice ua ex.args.length ca,.slice none 0 0] 48 (0,0))):=Hxq (setCs_heap [.slice none 0 0] 9 [.int .i64 (fnn:Nat),.string (Lx.ofS t.text),.int .i64 ex.k,.string ex.v,.int .i64 ex.x.k,.int .i64 ex.x.n,.string (Lx.ofS ex.x.s),.int .i64 ex.op,.slice ua ex.args.length ca,.slice none 0 0] w10 G10.out)
       have mS:Mod [g] w10 (w10.setCell ⟨g,9,none⟩ (.slice none 0 0)):=mS
       have H11:=Hxq (h10.new HLo.out mS (by simp;omega));have A11:=Hxq (mS.at A10.out (by simp;omega));have M11:=Hxq (M10.out.trans mS (by simp;omega))
       clear h10 m10 mS A10 G10 M10
       go_upto_region 14 with fail
       generalize w10.setCell ⟨g,9,none⟩ (.slice none 0 0)=w11 at *
       clear c9 fg
       have Q0:=Hxq (show w11.cell? ⟨g,0,none⟩=some (.int .i64 (fnn:Nat)) from cell_at G11.out 0)
       have Q1:=Hxq (show w11.cell? ⟨g,1,none⟩=some (.string (Lx.ofS t.text)) from cell_at G11.out 1)
       have Q2:=Hxq (show w11.cell? ⟨g,2,none⟩=some (.int .i64 ex.k) from cell_at G11.out 2)
       have Q3:=Hxq (show w11.cell? ⟨g,3,none⟩=some (.string ex.v) from cell_at G11.out 3)
       have Q4:=Hxq (show w11.cell? ⟨g,4,none⟩=some (.int .i64 ex.x.k) from cell_at G11.out 4)
       have Q5:=Hxq (show w11.cell? ⟨g,5,none⟩=some (.int .i64 ex.x.n) from cell_at G11.out 5)
       have Q6:=Hxq (show w11.cell? ⟨g,6,none⟩=some (.string (Lx.ofS ex.x.s)) from cell_at G11.out 6)
       have Q7:=Hxq (show w11.cell? ⟨g,7,none⟩=some (.int .i64 ex.op) from cell_at G11.out 7)
       have Q8:=Hxq (show w11.cell? ⟨g,8,none⟩=some (.slice ua ex.args.length ca) from cell_at G11.out 8)
       have Q9:=Hxq (show w11.cell? ⟨g,9,none⟩=some (.slice none 0 0) from cell_at G11.out 9)
       refine wp_region_held_drew (S:=(fun w':World=>Mod [b,w.heap.size] w11 w')) (by kernel_rfl) (by (try dsimp only);exact (Mod.refl [b,w.heap.size] w11).drew) (fun hHeld=>?_)
       refine Tkq 0 (v:=?_) (by assumption) ?_ ?_ ?_
       rotate_left 1
       ·refine .inl ⟨by rfl,?_⟩;intro w hSw;have s0:=hSw.cell Q0.out (by simp;omega);have s1:=hSw.cell Q1.out (by simp;omega);have s2:=hSw.cell Q2.out (by simp;omega);have s3:=hSw.cell Q3.out (by simp;omega);have s4:=hSw.cell Q4.out (by simp;omega);have s5:=hSw.cell Q5.out (by simp;omega);have s6:=hSw.cell Q6.out (by simp;omega);have s7:=hSw.cell Q7.out (by simp;omega);have s8:=hSw.cell Q8.out (by simp;omega);have s9:=hSw.cell Q9.out (by simp;omega);clear hSw;go_simp
        all_goals with_reducible rfl
       ·exact fun _ _ _ h=>h
       try simp only [Act.put,Lq1,Lq2,Lq3]
       refine Tkq 1 (v:=?_) (by assumption) ?_ ?_ ?_
       rotate_left 1
       ·refine .inl ⟨by rfl,?_⟩;intro w hSw;have s0:=hSw.cell Q0.out (by simp;omega);have s1:=hSw.cell Q1.out (by simp;omega);have s2:=hSw.cell Q2.out (by simp;omega);have s3:=hSw.cell Q3.out (by simp;omega);have s4:=hSw.cell Q4.out (by simp;omega);have s5:=hSw.cell Q5.out (by simp;omega);have s6:=hSw.cell Q6.out (by simp;omega);have s7:=hSw.cell Q7.out (by simp;omega);have s8:=hSw.cell Q8.out (by simp;omega);have s9:=hSw.cell Q9.out (by simp;omega);clear hSw;go_simp
        all_goals with_reducible rfl
       ·exact fun _ _ _ h=>h
       try simp only [Act.put,Lq1,Lq2,Lq3]
       refine Tkq 2 (v:=?_) (by assumption) ?_ ?_ ?_
       rotate_left 1
       ·refine .inl ⟨by rfl,?_⟩;intro w hSw;have s0:=hSw.cell Q0.out (by simp;omega);have s1:=hSw.cell Q1.out (by simp;omega);have s2:=hSw.cell Q2.out (by simp;omega);have s3:=hSw.cell Q3.out (by simp;omega);have s4:=hSw.cell Q4.out (by simp;omega);have s5:=hSw.cell Q5.out (by simp;omega);have s6:=hSw.cell Q6.out (by simp;omega);have s7:=hSw.cell Q7.out (by simp;omega);have s8:=hSw.cell Q8.out (by simp;omega);have s9:=hSw.cell Q9.out (by simp;omega);clear hSw;go_simp
        all_goals with_reducible rfl
       ·exact fun _ _ _ h=>h
       try simp only [Act.put,Lq1,Lq2,Lq3]
       refine wpAnyH_take (i:=3) (oi:=?_) (v:=undef) ?_ ?_ ?_ ?_ ?_ ?_ (by assumption) ?_
       rotate_left 1
       ·(simp only [Gq1,Gq2,Gq3])<;>rfl
       ·kernel_rfl
       ·kernel_rfl
       ·kernel_rfl
       rotate_left 1
       ·exact Or.inr ⟨by rfl,rfl⟩
       rotate_left 1
       ·exact fun _ _ _ h=>h
       try simp only [Act.put,Lq1,Lq2,Lq3]
       refine wpAnyH_take (i:=4) (oi:=?_) (v:=undef) ?_ ?_ ?_ ?_ ?_ ?_ (by assumption) ?_
       rotate_left 1
       ·(simp only [Gq1,Gq2,Gq3])<;>rfl
       ·kernel_rfl
       ·kernel_rfl
       ·kernel_rfl
       rotate_left 1
       ·exact Or.inr ⟨by rfl,rfl⟩
       rotate_left 1
       ·exact fun _ _ _ h=>h
       try simp only [Act.put,Lq1,Lq2,Lq3]
       refine Tkq 5 (v:=?_) (by assumption) ?_ ?_ ?_
       rotate_left 1
       ·refine .inl ⟨by rfl,?_⟩;intro w hSw;have s0:=hSw.cell Q0.out (by simp;omega);have s1:=hSw.cell Q1.out (by simp;omega);have s2:=hSw.cell Q2.out (by simp;omega);have s3:=hSw.cell Q3.out (by simp;omega);have s4:=hSw.cell Q4.out (by simp;omega);have s5:=hSw.cell Q5.out (by simp;omega);have s6:=hSw.cell Q6.out (by simp;omega);have s7:=hSw.cell Q7.out (by simp;omega);have s8:=hSw.cell Q8.out (by simp;omega);have s9:=hSw.cell Q9.out (by simp;omega);clear hSw;go_simp
        all_goals with_reducible rfl
       ·exact fun _ _ _ h=>h
       try simp only [Act.put,Lq1,Lq2,Lq3]
       refine wpAnyH_ready (rs:=[6]) (by kernel_rfl) (by simp) ?_
       refine AllReadyH.cons (o:=?_) ?_ ?_ AllReadyH.nil
       rotate_left 1
       ·(simp only [Gq1,Gq2,Gq3])<;>rfl
       intro K hK
       obtain ⟨r0,r1,r2,r3,r4,r5,r6,r7,r8,r9⟩:=cells10 A11.out
       have fA:∀ j,w11.frozen? ⟨w.heap.size,j,none⟩=false:=fun j=>free_at A11.out j
       have mR:=(setCs_mod w.heap.size [.int .i64 (fnn:Nat),.string (Lx.ofS t.text),.int .i64 ex.k,.string ex.v,.int .i64 ex.x.k,.int .i64 ex.x.n,.string (Lx.ofS ex.x.s),.int .i64 ex.op,.slice ua ex.args.length ca,.slice none 0 0] 0 w11).drew
       have NR:=Hxq (mR.mono (T:=[b,w.heap.size]) (by simp))
       clear mR
       go_simp
       refine hK.out _ _ (by (try dsimp only);exact NR.out) (fun hHeld=>?_)
       clear hK K
       try simp only [Act.put,Lq1,Lq2,Lq3]
       refine Tkq 7 (v:=?_) (by assumption) ?_ ?_ ?_
       rotate_left 1
       ·refine .inl ⟨by rfl,?_⟩;intro w hSw;have s0:=hSw.cell Q0.out (by simp;omega);have s1:=hSw.cell Q1.out (by simp;omega);have s2:=hSw.cell Q2.out (by simp;omega);have s3:=hSw.cell Q3.out (by simp;omega);have s4:=hSw.cell Q4.out (by simp;omega);have s5:=hSw.cell Q5.out (by simp;omega);have s6:=hSw.cell Q6.out (by simp;omega);have s7:=hSw.cell Q7.out (by simp;omega);have s8:=hSw.cell Q8.out (by simp;omega);have s9:=hSw.cell Q9.out (by simp;omega);clear hSw;go_simp
        all_goals with_reducible rfl
       ·exact fun _ _ _ h=>h
       try simp only [Act.put,Lq1,Lq2,Lq3]
       refine wpAnyH_done (by kernel_rfl) ?_ _
       clear r0 r1 r2 r3 r4 r5 r6 r7 r8 r9 fA
       go_wp2_with fail
       have mR:=(setCs_mod w.heap.size [.int .i64 (fnn:Nat),.string (Lx.ofS t.text),.int .i64 ex.k,.string ex.v,.int .i64 ex.x.k,.int .i64 ex.x.n,.string (Lx.ofS ex.x.s),.int .i64 ex.op,.slice ua ex.args.length ca,.slice none 0 0] 0 w11).drew
       refine bodyPost_ret (res_ct rfl _ _ _ _ _ rfl rfl (load_ag (drew_cells (setCs_row (vs:=[.int .i64 (fnn:Nat),.string (Lx.ofS t.text),.int .i64 ex.k,.string ex.v,.int .i64 ex.x.k,.int .i64 ex.x.n,.string (Lx.ofS ex.x.s),.int .i64 ex.op,.slice ua ex.args.length ca,.slice none 0 0]) A11.out rfl)) rfl)) rfl ⟨_,rfl,?_,⟨jj,H11.out.new HLo.out mR (by simp)⟩,M11.out.trans mR (by simp)⟩
       exact ⟨⟨(fnn:Nat),Lx.ofS t.text,ex,[]⟩,ua,ex.args.length,ca,none,0,0,rfl⟩
      | ok bd n3 =>
       have hn3:=hab2 bd n3 hn2.2 rfl
       have HQ3:Hid (q=(Sy.must v [125] n3).bind fun _ j=>.ok ⟨(fnn:Nat),Sy.txt t.text,ex,bd⟩ j):=Lib.hid HQ.out
       clear HQ hab2
       rintro e10 w10 ⟨x10,rfl,hb10,h10,m10⟩
       unfold valB at hb10
       obtain ⟨ub,cb,rfl⟩:=hb10.lit
       have z10:=m10.size
       have A10:=Hxq (m10.at A9.out hnb);have G10:=Hxq (m10.at G9.out hgb);have M10:=Hxq (M9.out.trans m10 (by simp));have O10:=Hxq (O9.out.keep m10 (fun s hs=>by rw [Msq] at hs;omega))
       have zl:=lt_of_block A9.out
       have B10:=Hxq (hb10.mono (F':=fun k=>w.heap.size<k/\k≠g) (fun k hk hk2=>by omega))
       have c9:w10.cell? ⟨g,9,none⟩=some (.slice none 0 0):=cell_at G10.out 9
       have fg:∀ j,w10.frozen? ⟨g,j,none⟩=false:=fun j=>free_at G10.out j
       have mS:Mod [g] w10 (w10.setCell ⟨g,9,none⟩ (.slice ub bd.length cb)):=setCs_mod g [.slice ub bd.length cb] 9 w10
       have G11:Hid ((w10.setCell ⟨g,9,none⟩ (.slice ub bd.length cb)).heap[g]?=some (.cells #[.int .i64 (fnn:Nat),.string (Lx.ofS t.text),.int .i64 ex.k,.string ex.v,.int .i64 ex.x.k,.int .i64 ex.x.n,.string (Lx.ofS ex.x.s),.int .i64 ex.op,.slice ua ex.args.length ca,.slice ub bd.length cb] 48 (0,0))):=Hxq (setCs_heap [.slice ub bd.length cb] 9 [.int .i64 (fnn:Nat),.string (Lx.ofS t.text),.int .i64 ex.k,.string ex.v,.int .i64 ex.x.k,.int .i64 ex.x.n,.string (Lx.ofS ex.x.s),.int .i64 ex.op,.slice ua ex.args.length ca,.slice none 0 0] w10 G10.out)
       have H11:=Hxq (h10.new HLo.out mS (by simp;omega));have A11:=Hxq (mS.at A10.out (by simp;omega));have M11:=Hxq (M10.out.trans mS (by simp;omega));have O11:=Hxq (O10.out.keep mS (fun s hs=>by rw [Msq] at hs;omega));have B11:=Hxq (B10.out.keep mS (fun s hs=>by rw [Msq] at hs;omega))
       clear h10 m10 mS A10 G10 M10 O10 B10 hb10
       go_upto_region 14 with fail
       generalize w10.setCell ⟨g,9,none⟩ (.slice ub bd.length cb)=w11 at *
       clear c9 fg
       have mD:=(Mod.refl [] w11).drew
       have HK:=Hxq (HT3.out n3 w11.drew (H11.out.past mD (by simp)) hn3.2)
       clear mD
       generalize Sy.must v [125] n3=pm3 at *
       cases pm3 with
       | err g1 =>
        have hq:q=.err g1:=HQ3.out
        subst hq
        clear HQ3
        have Q0:=Hxq (show w11.cell? ⟨g,0,none⟩=some (.int .i64 (fnn:Nat)) from cell_at G11.out 0)
        have Q1:=Hxq (show w11.cell? ⟨g,1,none⟩=some (.string (Lx.ofS t.text)) from cell_at G11.out 1)
        have Q2:=Hxq (show w11.cell? ⟨g,2,none⟩=some (.int .i64 ex.k) from cell_at G11.out 2)
        have Q3:=Hxq (show w11.cell? ⟨g,3,none⟩=some (.string ex.v) from cell_at G11.out 3)
        have Q4:=Hxq (show w11.cell? ⟨g,4,none⟩=some (.int .i64 ex.x.k) from cell_at G11.out 4)
        have Q5:=Hxq (show w11.cell? ⟨g,5,none⟩=some (.int .i64 ex.x.n) from cell_at G11.out 5)
        have Q6:=Hxq (show w11.cell? ⟨g,6,none⟩=some (.string (Lx.ofS ex.x.s)) from cell_at G11.out 6)
        have Q7:=Hxq (show w11.cell? ⟨g,7,none⟩=some (.int .i64 ex.op) from cell_at G11.out 7)
        have Q8:=Hxq (show w11.cell? ⟨g,8,none⟩=some (.slice ua ex.args.length ca) from cell_at G11.out 8)
        have Q9:=Hxq (show w11.cell? ⟨g,9,none⟩=some (.slice ub bd.length cb) from cell_at G11.out 9)
        refine wp_region_held_drew (S:=(fun w':World=>Mod [b,w.heap.size] w11 w')) (by kernel_rfl) (by (try dsimp only);exact (Mod.refl [b,w.heap.size] w11).drew) (fun hHeld=>?_)
        refine Tkq 0 (v:=?_) (by assumption) ?_ ?_ ?_
        rotate_left 1
        ·refine .inl ⟨by rfl,?_⟩;intro w hSw;have s0:=hSw.cell Q0.out (by simp;omega);have s1:=hSw.cell Q1.out (by simp;omega);have s2:=hSw.cell Q2.out (by simp;omega);have s3:=hSw.cell Q3.out (by simp;omega);have s4:=hSw.cell Q4.out (by simp;omega);have s5:=hSw.cell Q5.out (by simp;omega);have s6:=hSw.cell Q6.out (by simp;omega);have s7:=hSw.cell Q7.out (by simp;omega);have s8:=hSw.cell Q8.out (by simp;omega);have s9:=hSw.cell Q9.out (by simp;omega);clear hSw;go_simp
         all_goals with_reducible rfl
        ·exact fun _ _ _ h=>h
        try simp only [Act.put,Lq1,Lq2,Lq3]
        refine Tkq 1 (v:=?_) (by assumption) ?_ ?_ ?_
        rotate_left 1
        ·refine .inl ⟨by rfl,?_⟩;intro w hSw;have s0:=hSw.cell Q0.out (by simp;omega);have s1:=hSw.cell Q1.out (by simp;omega);have s2:=hSw.cell Q2.out (by simp;omega);have s3:=hSw.cell Q3.out (by simp;omega);have s4:=hSw.cell Q4.out (by simp;omega);have s5:=hSw.cell Q5.out (by simp;omega);have s6:=hSw.cell Q6.out (by simp;omega);have s7:=hSw.cell Q7.out (by simp;omega);have s8:=hSw.cell Q8.out (by simp;omega);have s9:=hSw.cell Q9.out (by simp;omega);clear hSw;go_simp
         all_goals with_reducible rfl
        ·exact fun _ _ _ h=>h
        try simp only [Act.put,Lq1,Lq2,Lq3]
        refine Tkq 2 (v:=?_) (by assumption) ?_ ?_ ?_
        rotate_left 1
        ·refine .inl ⟨by rfl,?_⟩;intro w hSw;have s0:=hSw.cell Q0.out (by simp;omega);have s1:=hSw.cell Q1.out (by simp;omega);have s2:=hSw.cell Q2.out (by simp;omega);have s3:=hSw.cell Q3.out (by simp;omega);have s4:=hSw.cell Q4.out (by simp;omega);have s5:=hSw.cell Q5.out (by simp;omega);have s6:=hSw.cell Q6.out (by simp;omega);have s7:=hSw.cell Q7.out (by simp;omega);have s8:=hSw.cell Q8.out (by simp;omega);have s9:=hSw.cell Q9.out (by simp;omega);clear hSw;go_simp
         all_goals with_reducible rfl
        ·exact fun _ _ _ h=>h
        try simp only [Act.put,Lq1,Lq2,Lq3]
        refine Tkq 3 (v:=?_) (by assumption) ?_ ?_ ?_
        rotate_left 1
        ·refine .inl ⟨by rfl,?_⟩;intro w hSw;have s0:=hSw.cell Q0.out (by simp;omega);have s1:=hSw.cell Q1.out (by simp;omega);have s2:=hSw.cell Q2.out (by simp;omega);have s3:=hSw.cell Q3.out (by simp;omega);have s4:=hSw.cell Q4.out (by simp;omega);have s5:=hSw.cell Q5.out (by simp;omega);have s6:=hSw.cell Q6.out (by simp;omega);have s7:=hSw.cell Q7.out (by simp;omega);have s8:=hSw.cell Q8.out (by simp;omega);have s9:=hSw.cell Q9.out (by simp;omega);clear hSw;go_simp
         all_goals with_reducible rfl
        ·exact fun _ _ _ h=>h
        try simp only [Act.put,Lq1,Lq2,Lq3]
        refine wpAnyH_ready (rs:=[4]) (by kernel_rfl) (by simp) ?_
        refine AllReadyH.cons (o:=?_) ?_ ?_ AllReadyH.nil
        rotate_left 1
        ·(simp only [Gq1,Gq2,Gq3])<;>rfl
        intro K hK
        go_simp
        refine HK.out.mono ?_
        rintro e12 w12 ⟨rfl,⟨jj,h12⟩,m12⟩
        have N12:=Hxq ((Mod.refl [b] w11).drew.trans m12 (by simp));have H12:=Lib.hid h12
        clear m12 h12
        refine hK.out _ _ (by (try dsimp only);exact N12.out.mono (by simp)) (fun hHeld=>?_)
        clear hK K
        try simp only [Act.put,Lq1,Lq2,Lq3]
        refine Tkq 5 (v:=?_) (by assumption) ?_ ?_ ?_
        rotate_left 1
        ·refine .inl ⟨by rfl,?_⟩;intro w hSw;have s0:=hSw.cell Q0.out (by simp;omega);have s1:=hSw.cell Q1.out (by simp;omega);have s2:=hSw.cell Q2.out (by simp;omega);have s3:=hSw.cell Q3.out (by simp;omega);have s4:=hSw.cell Q4.out (by simp;omega);have s5:=hSw.cell Q5.out (by simp;omega);have s6:=hSw.cell Q6.out (by simp;omega);have s7:=hSw.cell Q7.out (by simp;omega);have s8:=hSw.cell Q8.out (by simp;omega);have s9:=hSw.cell Q9.out (by simp;omega);clear hSw;go_simp
         all_goals with_reducible rfl
        ·exact fun _ _ _ h=>h
        try simp only [Act.put,Lq1,Lq2,Lq3]
        refine wpAnyH_ready (rs:=[6]) (by kernel_rfl) (by simp) ?_
        refine AllReadyH.cons (o:=?_) ?_ ?_ AllReadyH.nil
        rotate_left 1
        ·(simp only [Gq1,Gq2,Gq3])<;>rfl
        intro K hK
        have Aw12:=Hxq (N12.out.at A11.out (by simp;omega))
        obtain ⟨r0,r1,r2,r3,r4,r5,r6,r7,r8,r9⟩:=cells10 Aw12.out
        have fA:∀ j,w12.frozen? ⟨w.heap.size,j,none⟩=false:=fun j=>free_at Aw12.out j
        have mR:=setCs_mod w.heap.size [.int .i64 (fnn:Nat),.string (Lx.ofS t.text),.int .i64 ex.k,.string ex.v,.int .i64 ex.x.k,.int .i64 ex.x.n,.string (Lx.ofS ex.x.s),.int .i64 ex.op,.slice ua ex.args.length ca,.slice ub bd.length cb] 0 w12
        have NR:=Hxq ((N12.out.mono (T:=[b,w.heap.size]) (by simp)).trans (mR.mono (T:=[b,w.heap.size]) (by simp)) (by simp))
        clear mR
        go_simp
        refine hK.out _ _ (by (try dsimp only);exact NR.out) (fun hHeld=>?_)
        clear hK K
        try simp only [Act.put,Lq1,Lq2,Lq3]
        refine Tkq 7 (v:=?_) (by assumption) ?_ ?_ ?_
        rotate_left 1
        ·refine .inl ⟨by rfl,?_⟩;intro w hSw;have s0:=hSw.cell Q0.out (by simp;omega);have s1:=hSw.cell Q1.out (by simp;omega);have s2:=hSw.cell Q2.out (by simp;omega);have s3:=hSw.cell Q3.out (by simp;omega);have s4:=hSw.cell Q4.out (by simp;omega);have s5:=hSw.cell Q5.out (by simp;omega);have s6:=hSw.cell Q6.out (by simp;omega);have s7:=hSw.cell Q7.out (by simp;omega);have s8:=hSw.cell Q8.out (by simp;omega);have s9:=hSw.cell Q9.out (by simp;omega);clear hSw;go_simp
         all_goals with_reducible rfl
        ·exact fun _ _ _ h=>h
        try simp only [Act.put,Lq1,Lq2,Lq3]
        refine wpAnyH_done (by kernel_rfl) ?_ _
        clear r0 r1 r2 r3 r4 r5 r6 r7 r8 r9 fA
        go_wp2_with fail
        have mR:=setCs_mod w.heap.size [.int .i64 (fnn:Nat),.string (Lx.ofS t.text),.int .i64 ex.k,.string ex.v,.int .i64 ex.x.k,.int .i64 ex.x.n,.string (Lx.ofS ex.x.s),.int .i64 ex.op,.slice ua ex.args.length ca,.slice ub bd.length cb] 0 w12
        have M12:=Hxq (M11.out.trans N12.out (by simp))
        refine bodyPost_ret (res_ct rfl _ _ _ _ _ rfl rfl (load_ag (setCs_row (vs:=[.int .i64 (fnn:Nat),.string (Lx.ofS t.text),.int .i64 ex.k,.string ex.v,.int .i64 ex.x.k,.int .i64 ex.x.n,.string (Lx.ofS ex.x.s),.int .i64 ex.op,.slice ua ex.args.length ca,.slice ub bd.length cb]) Aw12.out rfl) rfl)) rfl ⟨_,rfl,?_,⟨jj,H12.out.new HLo.out mR (by simp)⟩,M12.out.trans mR (by simp)⟩
        exact ⟨⟨(fnn:Nat),Lx.ofS t.text,ex,[]⟩,ua,ex.args.length,ca,ub,bd.length,cb,rfl⟩
       | ok uu3 n4 =>
        have hq:q=.ok ⟨(fnn:Nat),Sy.txt t.text,ex,bd⟩ n4:=HQ3.out
        subst hq
        clear HQ3
        have Q0:=Hxq (show w11.cell? ⟨g,0,none⟩=some (.int .i64 (fnn:Nat)) from cell_at G11.out 0)
        have Q1:=Hxq (show w11.cell? ⟨g,1,none⟩=some (.string (Lx.ofS t.text)) from cell_at G11.out 1)
        have Q2:=Hxq (show w11.cell? ⟨g,2,none⟩=some (.int .i64 ex.k) from cell_at G11.out 2)
        have Q3:=Hxq (show w11.cell? ⟨g,3,none⟩=some (.string ex.v) from cell_at G11.out 3)
        have Q4:=Hxq (show w11.cell? ⟨g,4,none⟩=some (.int .i64 ex.x.k) from cell_at G11.out 4)
        have Q5:=Hxq (show w11.cell? ⟨g,5,none⟩=some (.int .i64 ex.x.n) from cell_at G11.out 5)
        have Q6:=Hxq (show w11.cell? ⟨g,6,none⟩=some (.string (Lx.ofS ex.x.s)) from cell_at G11.out 6)
        have Q7:=Hxq (show w11.cell? ⟨g,7,none⟩=some (.int .i64 ex.op) from cell_at G11.out 7)
        have Q8:=Hxq (show w11.cell? ⟨g,8,none⟩=some (.slice ua ex.args.length ca) from cell_at G11.out 8)
        have Q9:=Hxq (show w11.cell? ⟨g,9,none⟩=some (.slice ub bd.length cb) from cell_at G11.out 9)
        refine wp_region_held_drew (S:=(fun w':World=>Mod [b,w.heap.size] w11 w')) (by kernel_rfl) (by (try dsimp only);exact (Mod.refl [b,w.heap.size] w11).drew) (fun hHeld=>?_)
        refine Tkq 0 (v:=?_) (by assumption) ?_ ?_ ?_
        rotate_left 1
        ·refine .inl ⟨by rfl,?_⟩;intro w hSw;have s0:=hSw.cell Q0.out (by simp;omega);have s1:=hSw.cell Q1.out (by simp;omega);have s2:=hSw.cell Q2.out (by simp;omega);have s3:=hSw.cell Q3.out (by simp;omega);have s4:=hSw.cell Q4.out (by simp;omega);have s5:=hSw.cell Q5.out (by simp;omega);have s6:=hSw.cell Q6.out (by simp;omega);have s7:=hSw.cell Q7.out (by simp;omega);have s8:=hSw.cell Q8.out (by simp;omega);have s9:=hSw.cell Q9.out (by simp;omega);clear hSw;go_simp
         all_goals with_reducible rfl
        ·exact fun _ _ _ h=>h
        try simp only [Act.put,Lq1,Lq2,Lq3]
        refine Tkq 1 (v:=?_) (by assumption) ?_ ?_ ?_
        rotate_left 1
        ·refine .inl ⟨by rfl,?_⟩;intro w hSw;have s0:=hSw.cell Q0.out (by simp;omega);have s1:=hSw.cell Q1.out (by simp;omega);have s2:=hSw.cell Q2.out (by simp;omega);have s3:=hSw.cell Q3.out (by simp;omega);have s4:=hSw.cell Q4.out (by simp;omega);have s5:=hSw.cell Q5.out (by simp;omega);have s6:=hSw.cell Q6.out (by simp;omega);have s7:=hSw.cell Q7.out (by simp;omega);have s8:=hSw.cell Q8.out (by simp;omega);have s9:=hSw.cell Q9.out (by simp;omega);clear hSw;go_simp
         all_goals with_reducible rfl
        ·exact fun _ _ _ h=>h
        try simp only [Act.put,Lq1,Lq2,Lq3]
        refine Tkq 2 (v:=?_) (by assumption) ?_ ?_ ?_
        rotate_left 1
        ·refine .inl ⟨by rfl,?_⟩;intro w hSw;have s0:=hSw.cell Q0.out (by simp;omega);have s1:=hSw.cell Q1.out (by simp;omega);have s2:=hSw.cell Q2.out (by simp;omega);have s3:=hSw.cell Q3.out (by simp;omega);have s4:=hSw.cell Q4.out (by simp;omega);have s5:=hSw.cell Q5.out (by simp;omega);have s6:=hSw.cell Q6.out (by simp;omega);have s7:=hSw.cell Q7.out (by simp;omega);have s8:=hSw.cell Q8.out (by simp;omega);have s9:=hSw.cell Q9.out (by simp;omega);clear hSw;go_simp
         all_goals with_reducible rfl
        ·exact fun _ _ _ h=>h
        try simp only [Act.put,Lq1,Lq2,Lq3]
        refine Tkq 3 (v:=?_) (by assumption) ?_ ?_ ?_
        rotate_left 1
        ·refine .inl ⟨by rfl,?_⟩;intro w hSw;have s0:=hSw.cell Q0.out (by simp;omega);have s1:=hSw.cell Q1.out (by simp;omega);have s2:=hSw.cell Q2.out (by simp;omega);have s3:=hSw.cell Q3.out (by simp;omega);have s4:=hSw.cell Q4.out (by simp;omega);have s5:=hSw.cell Q5.out (by simp;omega);have s6:=hSw.cell Q6.out (by simp;omega);have s7:=hSw.cell Q7.out (by simp;omega);have s8:=hSw.cell Q8.out (by simp;omega);have s9:=hSw.cell Q9.out (by simp;omega);clear hSw;go_simp
         all_goals with_reducible rfl
        ·exact fun _ _ _ h=>h
        try simp only [Act.put,Lq1,Lq2,Lq3]
        refine wpAnyH_ready (rs:=[4]) (by kernel_rfl) (by simp) ?_
        refine AllReadyH.cons (o:=?_) ?_ ?_ AllReadyH.nil
        rotate_left 1
        ·(simp only [Gq1,Gq2,Gq3])<;>rfl
        intro K hK
        go_simp
        refine HK.out.mono ?_
        rintro e12 w12 ⟨rfl,h12,m12⟩
        have N12:=Hxq ((Mod.refl [b] w11).drew.trans m12 (by simp));have H12:=Lib.hid h12
        have O12:=Hxq (O11.out.keep N12.out (fun s hs=>by rw [Msq] at hs;omega));have B12:=Hxq (B11.out.keep N12.out (fun s hs=>by rw [Msq] at hs;omega))
        clear m12 h12
        refine hK.out _ _ (by (try dsimp only);exact N12.out.mono (by simp)) (fun hHeld=>?_)
        clear hK K
        try simp only [Act.put,Lq1,Lq2,Lq3]
        refine Tkq 5 (v:=?_) (by assumption) ?_ ?_ ?_
        rotate_left 1
        ·refine .inl ⟨by rfl,?_⟩;intro w hSw;have s0:=hSw.cell Q0.out (by simp;omega);have s1:=hSw.cell Q1.out (by simp;omega);have s2:=hSw.cell Q2.out (by simp;omega);have s3:=hSw.cell Q3.out (by simp;omega);have s4:=hSw.cell Q4.out (by simp;omega);have s5:=hSw.cell Q5.out (by simp;omega);have s6:=hSw.cell Q6.out (by simp;omega);have s7:=hSw.cell Q7.out (by simp;omega);have s8:=hSw.cell Q8.out (by simp;omega);have s9:=hSw.cell Q9.out (by simp;omega);clear hSw;go_simp
         all_goals with_reducible rfl
        ·exact fun _ _ _ h=>h
        try simp only [Act.put,Lq1,Lq2,Lq3]
        refine wpAnyH_ready (rs:=[6]) (by kernel_rfl) (by simp) ?_
        refine AllReadyH.cons (o:=?_) ?_ ?_ AllReadyH.nil
        rotate_left 1
        ·(simp only [Gq1,Gq2,Gq3])<;>rfl
        intro K hK
        have Aw12:=Hxq (N12.out.at A11.out (by simp;omega))
        obtain ⟨r0,r1,r2,r3,r4,r5,r6,r7,r8,r9⟩:=cells10 Aw12.out
        have fA:∀ j,w12.frozen? ⟨w.heap.size,j,none⟩=false:=fun j=>free_at Aw12.out j
        have mR:=setCs_mod w.heap.size [.int .i64 (fnn:Nat),.string (Lx.ofS t.text),.int .i64 ex.k,.string ex.v,.int .i64 ex.x.k,.int .i64 ex.x.n,.string (Lx.ofS ex.x.s),.int .i64 ex.op,.slice ua ex.args.length ca,.slice ub bd.length cb] 0 w12
        have NR:=Hxq ((N12.out.mono (T:=[b,w.heap.size]) (by simp)).trans (mR.mono (T:=[b,w.heap.size]) (by simp)) (by simp))
        clear mR
        go_simp
        refine hK.out _ _ (by (try dsimp only);exact NR.out) (fun hHeld=>?_)
        clear hK K
        try simp only [Act.put,Lq1,Lq2,Lq3]
        refine Tkq 7 (v:=?_) (by assumption) ?_ ?_ ?_
        rotate_left 1
        ·refine .inl ⟨by rfl,?_⟩;intro w hSw;have s0:=hSw.cell Q0.out (by simp;omega);have s1:=hSw.cell Q1.out (by simp;omega);have s2:=hSw.cell Q2.out (by simp;omega);have s3:=hSw.cell Q3.out (by simp;omega);have s4:=hSw.cell Q4.out (by simp;omega);have s5:=hSw.cell Q5.out (by simp;omega);have s6:=hSw.cell Q6.out (by simp;omega);have s7:=hSw.cell Q7.out (by simp;omega);have s8:=hSw.cell Q8.out (by simp;omega);have s9:=hSw.cell Q9.out (by simp;omega);clear hSw;go_simp
         all_goals with_reducible rfl
        ·exact fun _ _ _ h=>h
        try simp only [Act.put,Lq1,Lq2,Lq3]
        refine wpAnyH_done (by kernel_rfl) ?_ _
        clear r0 r1 r2 r3 r4 r5 r6 r7 r8 r9 fA
        go_wp2_with fail
        have mR:=setCs_mod w.heap.size [.int .i64 (fnn:Nat),.string (Lx.ofS t.text),.int .i64 ex.k,.string ex.v,.int .i64 ex.x.k,.int .i64 ex.x.n,.string (Lx.ofS ex.x.s),.int .i64 ex.op,.slice ua ex.args.length ca,.slice ub bd.length cb] 0 w12
        have M12:=Hxq (M11.out.trans N12.out (by simp))
        refine bodyPost_ret (res_ct rfl _ _ _ _ _ rfl rfl (load_ag (setCs_row (vs:=[.int .i64 (fnn:Nat),.string (Lx.ofS t.text),.int .i64 ex.k,.string ex.v,.int .i64 ex.x.k,.int .i64 ex.x.n,.string (Lx.ofS ex.x.s),.int .i64 ex.op,.slice ua ex.args.length ca,.slice ub bd.length cb]) Aw12.out rfl) rfl)) rfl ⟨_,rfl,?_,H12.out.new HLo.out mR (by simp),M12.out.trans mR (by simp)⟩
        exact ⟨.slice ua ex.args.length ca,.slice ub bd.length cb,rfl,(O12.out.keep mR (fun s hs=>by rw [Msq] at hs;omega)).mono (fun k hk _=>Nat.le_of_lt hk.1),(B12.out.keep mR (fun s hs=>by rw [Msq] at hs;omega)).mono (fun k hk _=>Nat.le_of_lt hk.1)⟩
end Go.Proofs.YtppigckioalhhaaGreatDoorR
