/- THE TEXTS MERGED: RpOp SyTok3 SyOpd. -/
import Derived.Test.YtppigckioalhhaaGreatDoorRKS1
import Derived.Test.YtppigckioalhhaaGreatDoorRKS10
import Derived.Test.YtppigckioalhhaaGreatDoorRKS9
namespace Go.Proofs.YtppigckioalhhaaGreatDoorR
open Go.RowKit
set_option linter.unusedVariables false
set_option linter.unusedSimpArgs false
set_option maxRecDepth 100000
namespace Sy
/-- a word's operation, of one line of the grammar -/
def opOf (high:Bool) (t:Lx.Tok):Nat :=
 if high=true then (if sign t [42]=true then 3 else if sign t [47]=true then 4 else if sign t [109,111,100]=true then 5 else 0)
 else (if sign t [43]=true then 1 else if sign t [45]=true then 2 else 0)
theorem sign_text {t:Lx.Tok} {s:List Nat} (h:sign t s=true):t.text=s:=by
 unfold sign at h
 simp only [Bool.and_eq_true,decide_eq_true_eq] at h
 exact h.1
theorem sign_other {t:Lx.Tok} {s u:List Nat} (h:sign t s=true) (hu:s≠u):sign t u=false:=by
 cases hh:sign t u with
 | false=>rfl
 | true=>exact absurd ((sign_text h).symm.trans (sign_text hh)) hu
theorem opOf_level (high:Bool) (t:Lx.Tok):opOf high t=if (level t).1=(if high=true then 2 else 1) then (level t).2 else 0:=by
 unfold opOf level
 by_cases h1:sign t [43]=true
 ·rw [sign_other h1 (u:=[42]) (by decide),sign_other h1 (u:=[47]) (by decide),sign_other h1 (u:=[109,111,100]) (by decide)]
  cases high <;> simp [h1]
 ·by_cases h2:sign t [45]=true
  ·rw [sign_other h2 (u:=[42]) (by decide),sign_other h2 (u:=[47]) (by decide),sign_other h2 (u:=[109,111,100]) (by decide)]
   cases high <;> simp [h1,h2]
  ·by_cases h3:sign t [42]=true
   ·cases high <;> simp [h1,h2,h3]
   ·by_cases h4:sign t [47]=true
    ·cases high <;> simp [h1,h2,h3,h4]
    ·by_cases h5:sign t [109,111,100]=true
     ·cases high <;> simp [h1,h2,h3,h4,h5]
     ·cases high <;> simp [h1,h2,h3,h4,h5]
theorem opOf_pos (high:Bool) (t:Lx.Tok):opOf high t=0 ↔ (level t).1≠(if high=true then 2 else 1):=by
 have h0:(level t).1≠0->(level t).2≠0:=by
  unfold level
  repeat' split
  all_goals simp
 rw [opOf_level]
 by_cases h:(level t).1=(if high=true then 2 else 1)
 ·rw [if_pos h]
  have h2:(level t).2≠0:=h0 (by rw [h];cases high <;> simp)
  exact ⟨fun e=>absurd e h2,fun e=>absurd h e⟩
 ·rw [if_neg h]
  exact ⟨fun _=>h,fun _=>rfl⟩
end Sy
set_option maxHeartbeats 4000000 in
theorem roperation_any (high:Bool) (t:Lx.Tok) (hk:Lx.TokK t) (w:World) (ht:∀ c∈t.text,c<256) :
  Calls Tryz.prog 132 #[.agg (tokC t),.bool high] w fun e w'=>e=.returned (.int .i64 (Sy.opOf high t:Nat))/\Mod [] w w':=by
 have eA:=heap_alloc_new w (Obj.cells (tokC t) 74)
 have mA:=(Mod.refl [] w).alloc (Obj.cells (tokC t) 74)
 have EA:=Lib.hid eA;have MA:=Lib.hid mA
 obtain ⟨x0,x1,x2,x3,x4,x5,x6⟩:=tok_cells eA
 have HO:Hid (Sy.opOf high t=if high=true then (if Sy.sign t [42]=true then 3 else if Sy.sign t [47]=true then 4 else if Sy.sign t [109,111,100]=true then 5 else 0) else (if Sy.sign t [43]=true then 1 else if Sy.sign t [45]=true then 2 else 0)):=Lib.hid rfl
 have S1:=Hxq (fun w=>rmark_sign (t:=t) (l:=[43]) (s:={ data:=#[43] }) hk rfl w rfl ht (by decide))
 have S2:=Hxq (fun w=>rmark_sign (t:=t) (l:=[45]) (s:={ data:=#[45] }) hk rfl w rfl ht (by decide))
 have S3:=Hxq (fun w=>rmark_sign (t:=t) (l:=[42]) (s:={ data:=#[42] }) hk rfl w rfl ht (by decide))
 have S4:=Hxq (fun w=>rmark_sign (t:=t) (l:=[47]) (s:={ data:=#[47] }) hk rfl w rfl ht (by decide))
 have hmo:Sy.sign t [109,111,100]=(decide (t.kind=1) && decide (t.text=[109,111,100])):=by rw [<-Sy.nm_sign hk (by rfl)];rfl
 have hq:=ofS_beq (a:=t.text) (l:=[109,111,100]) ht (by decide)
 rw [hmo] at HO
 generalize Sy.sign t [43]=r1 at *
 generalize Sy.sign t [45]=r2 at *
 generalize Sy.sign t [42]=r3 at *
 generalize Sy.sign t [47]=r4 at *
 generalize decide (t.text=[109,111,100])=r5 at *
 generalize Sy.opOf high t=q at *
 clear eA mA ht hk hmo
 unfold tokC at *
 have hq:((Lx.ofS t.text).toList == [109,111,100])=r5:=by rw [<-hq,toList_ofS [109,111,100]];rfl
 cases high
 ·go_enter Tryz.func132,Tryz.ntmps132
  go_wp2_with fail
  refine (S1.out _).mono ?_
  rintro e1 w1 ⟨rfl,m1⟩
  have E1:=Hxq (m1.at EA.out (by simp));have M1:=Hxq (MA.out.trans m1 (by simp))
  clear m1 x0 x1 x2 x3 x4 x5 x6
  obtain ⟨x0,x1,x2,x3,x4,x5,x6⟩:=tok_cells (t:=t) E1.out
  cases r1
  ·go_wp2_with fail
   refine (S2.out _).mono ?_
   rintro e2 w2 ⟨rfl,m2⟩
   have E2:=Hxq (m2.at E1.out (by simp));have M2:=Hxq (M1.out.trans m2 (by simp))
   clear m2 x0 x1 x2 x3 x4 x5 x6
   obtain ⟨x0,x1,x2,x3,x4,x5,x6⟩:=tok_cells (t:=t) E2.out
   cases r2
   ·have hq2:q=0:=HO.out
    subst hq2
    clear HO
    go_wp2_with fail
    go_ret
    exact ⟨rfl,M2.out⟩
   ·have hq2:q=2:=HO.out
    subst hq2
    clear HO
    go_wp2_with fail
    go_ret
    exact ⟨rfl,M2.out⟩
  ·have hq2:q=1:=HO.out
   subst hq2
   clear HO
   go_wp2_with fail
   go_ret
   exact ⟨rfl,M1.out⟩
 ·go_enter Tryz.func132,Tryz.ntmps132
  go_wp2_with fail
  refine (S3.out _).mono ?_
  rintro e1 w1 ⟨rfl,m1⟩
  have E1:=Hxq (m1.at EA.out (by simp));have M1:=Hxq (MA.out.trans m1 (by simp))
  clear m1 x0 x1 x2 x3 x4 x5 x6
  obtain ⟨x0,x1,x2,x3,x4,x5,x6⟩:=tok_cells (t:=t) E1.out
  cases r3
  ·go_wp2_with fail
   refine (S4.out _).mono ?_
   rintro e2 w2 ⟨rfl,m2⟩
   have E2:=Hxq (m2.at E1.out (by simp));have M2:=Hxq (M1.out.trans m2 (by simp))
   clear m2 x0 x1 x2 x3 x4 x5 x6
   obtain ⟨x0,x1,x2,x3,x4,x5,x6⟩:=tok_cells (t:=t) E2.out
   cases r4
   ·by_cases k1:t.kind=1
    ·have b1:((t.kind:Int) == 1)=true:=by rw [k1];rfl
     have HO2:Hid (q=if r5=true then 5 else 0):=Hxq (by rw [HO.out,decide_eq_true k1];simp)
     clear k1 HO
     cases r5
     ·have hq2:q=0:=HO2.out
      subst hq2
      clear HO2
      go_wp2_with fail
      go_ret
      exact ⟨rfl,M2.out⟩
     ·have hq2:q=5:=HO2.out
      subst hq2
      clear HO2
      go_wp2_with fail
      go_ret
      exact ⟨rfl,M2.out⟩
    ·have b1:((t.kind:Int) == 1)=false:=by rw [beq_eq_false_iff_ne];omega
     have HO2:Hid (q=0):=Hxq (by rw [HO.out,decide_eq_false k1];simp)
     clear k1 HO
     have hq2:q=0:=HO2.out
     subst hq2
     clear HO2
     go_wp2_with fail
     go_ret
     exact ⟨rfl,M2.out⟩
   ·have hq2:q=4:=HO.out
    subst hq2
    clear HO
    go_wp2_with fail
    go_ret
    exact ⟨rfl,M2.out⟩
  ·have hq2:q=3:=HO.out
   subst hq2
   clear HO
   go_wp2_with fail
   go_ret
   exact ⟨rfl,M1.out⟩
set_option maxHeartbeats 4000000 in
theorem rbegins_any (t:Lx.Tok) (hk:Lx.TokK t) (w:World) (ht:∀ c∈t.text,c<256) :
  Calls Tryz.prog 155 #[.agg (tokC t)] w fun e w'=>e=.returned (.bool (Sy.operand t))/\Mod [] w w':=by
 have eA:=heap_alloc_new w (Obj.cells (tokC t) 74)
 have mA:=(Mod.refl [] w).alloc (Obj.cells (tokC t) 74)
 have EA:=Lib.hid eA;have MA:=Lib.hid mA
 obtain ⟨x0,x1,x2,x3,x4,x5,x6⟩:=tok_cells eA
 have HO:Hid (Sy.operand t=(Sy.sign t [45] || (Sy.sign t [40] || (decide (t.kind=2) || (decide (t.kind=3) || (decide (t.kind=4) || Sy.plain t)))))):=Hxq (by
  unfold Sy.operand
  cases Sy.sign t [45] <;> cases Sy.sign t [40] <;> cases Sy.plain t <;> cases decide (t.kind=2) <;> cases decide (t.kind=3) <;> cases decide (t.kind=4) <;> rfl)
 have HP:=Hxq (fun w=>rname_any t w ht)
 have S1:=Hxq (fun w=>rmark_sign (t:=t) (l:=[45]) (s:={ data:=#[45] }) hk rfl w rfl ht (by decide))
 have S2:=Hxq (fun w=>rmark_sign (t:=t) (l:=[40]) (s:={ data:=#[40] }) hk rfl w rfl ht (by decide))
 generalize Sy.plain t=rp at *
 generalize Sy.sign t [45]=r1 at *
 generalize Sy.sign t [40]=r2 at *
 generalize Sy.operand t=q at *
 clear eA mA ht hk
 unfold tokC at *
 go_enter Tryz.func155,Tryz.ntmps155
 go_wp2_with fail
 refine (S1.out _).mono ?_
 rintro e1 w1 ⟨rfl,m1⟩
 have E1:=Hxq (m1.at EA.out (by simp));have M1:=Hxq (MA.out.trans m1 (by simp))
 clear m1 x0 x1 x2 x3 x4 x5 x6
 obtain ⟨x0,x1,x2,x3,x4,x5,x6⟩:=tok_cells (t:=t) E1.out
 cases r1
 ·go_wp2_with fail
  refine (S2.out _).mono ?_
  rintro e2 w2 ⟨rfl,m2⟩
  have E2:=Hxq (m2.at E1.out (by simp));have M2:=Hxq (M1.out.trans m2 (by simp))
  clear m2 x0 x1 x2 x3 x4 x5 x6
  obtain ⟨x0,x1,x2,x3,x4,x5,x6⟩:=tok_cells (t:=t) E2.out
  cases r2
  ·by_cases h2:t.kind=2
   ·have k2:((t.kind:Int) == 2)=true:=by rw [h2];rfl
    have HQ:Hid (q=true):=Hxq (by rw [HO.out,decide_eq_true h2];simp)
    clear h2 HO
    go_wp2_with fail
    go_ret
    exact ⟨by rw [HQ.out];rfl,M2.out⟩
   have k2:((t.kind:Int) == 2)=false:=by rw [beq_eq_false_iff_ne];omega
   by_cases h3:t.kind=3
   ·have k3:((t.kind:Int) == 3)=true:=by rw [h3];rfl
    have HQ:Hid (q=true):=Hxq (by rw [HO.out,decide_eq_true h3];simp)
    clear h2 h3 HO
    go_wp2_with fail
    go_ret
    exact ⟨by rw [HQ.out];rfl,M2.out⟩
   have k3:((t.kind:Int) == 3)=false:=by rw [beq_eq_false_iff_ne];omega
   by_cases h4:t.kind=4
   ·have k4:((t.kind:Int) == 4)=true:=by rw [h4];rfl
    have HQ:Hid (q=true):=Hxq (by rw [HO.out,decide_eq_true h4];simp)
    clear h2 h3 h4 HO
    go_wp2_with fail
    go_ret
    exact ⟨by rw [HQ.out];rfl,M2.out⟩
   have k4:((t.kind:Int) == 4)=false:=by rw [beq_eq_false_iff_ne];omega
   have HQ:Hid (q=rp):=Hxq (by rw [HO.out,decide_eq_false h2,decide_eq_false h3,decide_eq_false h4];rfl)
   clear h2 h3 h4 HO
   go_wp2_with fail
   refine (HP.out _).mono ?_
   rintro e3 w3 ⟨rfl,m3⟩
   have E3:=Hxq (m3.at E2.out (by simp));have M3:=Hxq (M2.out.trans m3 (by simp))
   clear m3 x0 x1 x2 x3 x4 x5 x6
   obtain ⟨x0,x1,x2,x3,x4,x5,x6⟩:=tok_cells (t:=t) E3.out
   go_wp2_with fail
   go_ret
   exact ⟨by rw [HQ.out];rfl,M3.out⟩
  ·have HQ:Hid (q=true):=Hxq (by rw [HO.out];rfl)
   clear HO
   go_wp2_with fail
   go_ret
   exact ⟨by rw [HQ.out];rfl,M2.out⟩
 ·have HQ:Hid (q=true):=Hxq (by rw [HO.out];rfl)
  clear HO
  go_wp2_with fail
  go_ret
  exact ⟨by rw [HQ.out];rfl,M1.out⟩
open Go.RowKit
set_option linter.unusedVariables false
set_option linter.unusedSimpArgs false
set_option maxRecDepth 100000
theorem function_any (t:Lx.Tok) (w:World) (ht:∀ c∈t.text,c<256) :
  Calls Tryz.prog 73 #[.agg (tokC t)] w fun e w'=>e=.returned (.int .i64 (Sy.fnOf t:Nat))/\Mod [] w w':=by
 have eA:=heap_alloc_new w (Obj.cells (tokC t) 74)
 have mA:=(Mod.refl [] w).alloc (Obj.cells (tokC t) 74)
 obtain ⟨x0,x1,x2,x3,x4,x5,x6⟩:=tok_cells eA
 have HA:=Lib.hid mA
 have HP:=Hxq (fun g w hc=>place_any t g 4 [[99,111,117,110,116],[115,117,109],[109,105,110],[109,97,120]] w ht (by decide) (by decide) hc)
 clear eA mA ht
 unfold tokC at *
 go_enter Tryz.func73,Tryz.ntmps73
 go_wp2_with fail
 have hsz:(w.alloc (Obj.cells #[Value.int .i64 (t.kind:Nat),Value.string (Lx.ofS t.text),Value.int .i64 (t.vk:Nat),Value.int .i64 (t.num:Nat),Value.string (Lx.ofS t.sym),Value.int .i64 (t.line:Nat),Value.int .i64 (t.col:Nat)] 74)).heap.size=w.heap.size+1:=by simp
 generalize w.alloc (Obj.cells _ 74)=wA at *
 refine (HP.out _ _ (fun i hi=>?_)).mono ?_
 ·have eB:=alloc_at (w0:=wA) (n:=w.heap.size+1) (Obj.cells #[Value.string { data:=#[99,111,117,110,116] },Value.string { data:=#[115,117,109] },Value.string { data:=#[109,105,110] },Value.string { data:=#[109,97,120] }] 9) hsz
  have:i=0\/i=1\/i=2\/i=3:=by simp at hi;omega
  rcases this with rfl | rfl | rfl | rfl
  ·exact cell_at eB 0
  ·exact cell_at eB 1
  ·exact cell_at eB 2
  ·exact cell_at eB 3
 ·rintro e1 w1 ⟨rfl,m1⟩
  have M1:=Hxq ((HA.out.alloc _).trans m1 (by simp))
  clear m1
  go_wp2_with fail
  go_ret
  exact ⟨rfl,M1.out⟩
theorem level_eq (t:Lx.Tok):Sy.level t=if Sy.sign t [43]=true then (1,1) else if Sy.sign t [45]=true then (1,2) else if Sy.sign t [42]=true then (2,3) else if Sy.sign t [47]=true then (2,4) else if Sy.sign t [109,111,100]=true then (2,5) else (0,0):=rfl
def levV:Array Value:=#[Value.string { data:=#[43] },Value.string { data:=#[45] },Value.string { data:=#[42] },Value.string { data:=#[47] },Value.string { data:=#[109,111,100] }]
theorem lev_index (k:Int) (h:0<=k/\k<5) (w:World):(Instr.index 196 (.agg #[Value.string { data:=#[43] },Value.string { data:=#[45] },Value.string { data:=#[42] },Value.string { data:=#[47] },Value.string { data:=#[109,111,100] }]) (.int .i64 k)).run Tryz.prog w=.ok (levV.getD k.toNat undef) w:=by
 have:k=0\/k=1\/k=2\/k=3\/k=4:=by omega
 rcases this with rfl | rfl | rfl | rfl | rfl <;> rfl
set_option maxHeartbeats 2000000 in
theorem level_any (t:Lx.Tok) (w:World) (ht:∀ c∈t.text,c<256) :
  Calls Tryz.prog 109 #[.agg (tokC t)] w fun e w'=>e=.returned (.tuple #[.int .i64 ((Sy.level t).1:Nat),.int .i64 ((Sy.level t).2:Nat)])/\Mod [] w w':=by
 have eA:=heap_alloc_new w (Obj.cells (tokC t) 74)
 have mA:=(Mod.refl [] w).alloc (Obj.cells (tokC t) 74)
 have EA:=Lib.hid eA;have MA:=Lib.hid mA
 have HL:=Hxq (level_eq t)
 have S0:=Hxq (fun w=>sign_any t [43] { data:=#[43] } w rfl ht (by decide))
 have S1:=Hxq (fun w=>sign_any t [45] { data:=#[45] } w rfl ht (by decide))
 have S2:=Hxq (fun w=>sign_any t [42] { data:=#[42] } w rfl ht (by decide))
 have S3:=Hxq (fun w=>sign_any t [47] { data:=#[47] } w rfl ht (by decide))
 have S4:=Hxq (fun w=>sign_any t [109,111,100] { data:=#[109,111,100] } w rfl ht (by decide))
 generalize Sy.sign t [43]=r0 at *
 generalize Sy.sign t [45]=r1 at *
 generalize Sy.sign t [42]=r2 at *
 generalize Sy.sign t [47]=r3 at *
 generalize Sy.sign t [109,111,100]=r4 at *
 generalize Sy.level t=q at *
 clear eA mA ht
 unfold tokC at *
 go_enter Tryz.func109,Tryz.ntmps109
 go_wp2_with fail
 generalize w.alloc (Obj.cells _ 74)=wA at *
 go_loopg [7] 5 (fun gk iv wr=>∃ k:Nat,5=gk+k/\iv=.int .i64 (k:Nat)/\Mod [] wA wr/\(∀ j,j<k->[r0,r1,r2,r3,r4][j]?=some false))
 case atStart=>exact ⟨0,rfl,rfl,Mod.refl _ _,fun j h=>by omega⟩
 case round =>
  obtain ⟨k,hg,rfl,hm,hb⟩:=hrel
  obtain ⟨x0,x1,x2,x3,x4,x5,x6⟩:=tok_cells (hm.at EA.out (by simp))
  have HM:=Lib.hid hm
  have:k=0\/k=1\/k=2\/k=3\/k=4\/k=5:=by omega
  rcases this with rfl | rfl | rfl | rfl | rfl | rfl
  ·have HG:=Lib.hid hg
   have hix:=fun w=>lev_index 0 (by omega) w
   simp only [levV] at hix
   clear hg hm hb
   simp only [Int.ofNat_zero,Int.ofNat_one,Int.cast_ofNat_Int]
   go_wp2_with fail
   refine (S0.out wr).mono ?_
   rintro e1 w1 ⟨rfl,m1⟩
   have M1:=Hxq (HM.out.trans m1 (by simp))
   clear m1 x0 x1 x2 x3 x4 x5 x6 hix
   cases r0
   ·go_wp2_with fail
    go_roundg (gk - 1)
    case measure=>have:=HG.out;omega
    case rel=>exact ⟨1,by have:=HG.out;omega,by go_num,M1.out,fun j h=>by
     have:j=0:=by omega
     rcases this with rfl <;> rfl⟩
   ·have HQ:Hid (q=(1,1)):=Lib.hid HL.out
    clear HL
    go_wp2_with fail
    go_ret2
    exact ⟨by rw [HQ.out];rfl,MA.out.trans M1.out (by simp)⟩
  ·have HG:=Lib.hid hg
   have hix:=fun w=>lev_index 1 (by omega) w
   simp only [levV] at hix
   obtain rfl:r0=false:=by simpa using hb 0 (by omega)
   clear hg hm hb
   simp only [Int.ofNat_zero,Int.ofNat_one,Int.cast_ofNat_Int]
   go_wp2_with fail
   refine (S1.out wr).mono ?_
   rintro e1 w1 ⟨rfl,m1⟩
   have M1:=Hxq (HM.out.trans m1 (by simp))
   clear m1 x0 x1 x2 x3 x4 x5 x6 hix
   cases r1
   ·go_wp2_with fail
    go_roundg (gk - 1)
    case measure=>have:=HG.out;omega
    case rel=>exact ⟨2,by have:=HG.out;omega,by go_num,M1.out,fun j h=>by
     have:j=0\/j=1:=by omega
     rcases this with rfl | rfl <;> rfl⟩
   ·have HQ:Hid (q=(1,2)):=Lib.hid HL.out
    clear HL
    go_wp2_with fail
    go_ret2
    exact ⟨by rw [HQ.out];rfl,MA.out.trans M1.out (by simp)⟩
  ·have HG:=Lib.hid hg
   have hix:=fun w=>lev_index 2 (by omega) w
   simp only [levV] at hix
   obtain rfl:r0=false:=by simpa using hb 0 (by omega)
   obtain rfl:r1=false:=by simpa using hb 1 (by omega)
   clear hg hm hb
   simp only [Int.ofNat_zero,Int.ofNat_one,Int.cast_ofNat_Int]
   go_wp2_with fail
   refine (S2.out wr).mono ?_
   rintro e1 w1 ⟨rfl,m1⟩
   have M1:=Hxq (HM.out.trans m1 (by simp))
   clear m1 x0 x1 x2 x3 x4 x5 x6 hix
   cases r2
   ·go_wp2_with fail
    go_roundg (gk - 1)
    case measure=>have:=HG.out;omega
    case rel=>exact ⟨3,by have:=HG.out;omega,by go_num,M1.out,fun j h=>by
     have:j=0\/j=1\/j=2:=by omega
     rcases this with rfl | rfl | rfl <;> rfl⟩
   ·have HQ:Hid (q=(2,3)):=Lib.hid HL.out
    clear HL
    go_wp2_with fail
    go_ret2
    exact ⟨by rw [HQ.out];rfl,MA.out.trans M1.out (by simp)⟩
  ·have HG:=Lib.hid hg
   have hix:=fun w=>lev_index 3 (by omega) w
   simp only [levV] at hix
   obtain rfl:r0=false:=by simpa using hb 0 (by omega)
   obtain rfl:r1=false:=by simpa using hb 1 (by omega)
   obtain rfl:r2=false:=by simpa using hb 2 (by omega)
   clear hg hm hb
   simp only [Int.ofNat_zero,Int.ofNat_one,Int.cast_ofNat_Int]
   go_wp2_with fail
   refine (S3.out wr).mono ?_
   rintro e1 w1 ⟨rfl,m1⟩
   have M1:=Hxq (HM.out.trans m1 (by simp))
   clear m1 x0 x1 x2 x3 x4 x5 x6 hix
   cases r3
   ·go_wp2_with fail
    go_roundg (gk - 1)
    case measure=>have:=HG.out;omega
    case rel=>exact ⟨4,by have:=HG.out;omega,by go_num,M1.out,fun j h=>by
     have:j=0\/j=1\/j=2\/j=3:=by omega
     rcases this with rfl | rfl | rfl | rfl <;> rfl⟩
   ·have HQ:Hid (q=(2,4)):=Lib.hid HL.out
    clear HL
    go_wp2_with fail
    go_ret2
    exact ⟨by rw [HQ.out];rfl,MA.out.trans M1.out (by simp)⟩
  ·have HG:=Lib.hid hg
   have hix:=fun w=>lev_index 4 (by omega) w
   simp only [levV] at hix
   obtain rfl:r0=false:=by simpa using hb 0 (by omega)
   obtain rfl:r1=false:=by simpa using hb 1 (by omega)
   obtain rfl:r2=false:=by simpa using hb 2 (by omega)
   obtain rfl:r3=false:=by simpa using hb 3 (by omega)
   clear hg hm hb
   simp only [Int.ofNat_zero,Int.ofNat_one,Int.cast_ofNat_Int]
   go_wp2_with fail
   refine (S4.out wr).mono ?_
   rintro e1 w1 ⟨rfl,m1⟩
   have M1:=Hxq (HM.out.trans m1 (by simp))
   clear m1 x0 x1 x2 x3 x4 x5 x6 hix
   cases r4
   ·go_wp2_with fail
    go_roundg (gk - 1)
    case measure=>have:=HG.out;omega
    case rel=>exact ⟨5,by have:=HG.out;omega,by go_num,M1.out,fun j h=>by
     have:j=0\/j=1\/j=2\/j=3\/j=4:=by omega
     rcases this with rfl | rfl | rfl | rfl | rfl <;> rfl⟩
   ·have HQ:Hid (q=(2,5)):=Lib.hid HL.out
    clear HL
    go_wp2_with fail
    go_ret2
    exact ⟨by rw [HQ.out];rfl,MA.out.trans M1.out (by simp)⟩
  ·obtain rfl:r0=false:=by simpa using hb 0 (by omega)
   obtain rfl:r1=false:=by simpa using hb 1 (by omega)
   obtain rfl:r2=false:=by simpa using hb 2 (by omega)
   obtain rfl:r3=false:=by simpa using hb 3 (by omega)
   obtain rfl:r4=false:=by simpa using hb 4 (by omega)
   have HQ:Hid (q=(0,0)):=Lib.hid HL.out
   clear hg hm hb HL
   simp only [Int.ofNat_zero,Int.ofNat_one,Int.cast_ofNat_Int]
   go_wp2_with fail
   go_ret2
   exact ⟨by rw [HQ.out];rfl,MA.out.trans HM.out (by simp)⟩
set_option maxHeartbeats 1000000 in
theorem operand_any (t:Lx.Tok) (w:World) (ht:∀ c∈t.text,c<256) :
  Calls Tryz.prog 130 #[.agg (tokC t)] w fun e w'=>e=.returned (.bool (Sy.operand t))/\Mod [] w w':=by
 have eA:=heap_alloc_new w (Obj.cells (tokC t) 74)
 have mA:=(Mod.refl [] w).alloc (Obj.cells (tokC t) 74)
 have EA:=Lib.hid eA;have MA:=Lib.hid mA
 obtain ⟨x0,x1,x2,x3,x4,x5,x6⟩:=tok_cells eA
 have HO:Hid (Sy.operand t=(decide (t.kind=2) || (decide (t.kind=3) || (decide (t.kind=4) || (Sy.plain t || (Sy.sign t [45] || Sy.sign t [40])))))):=Lib.hid rfl
 have HP:=Hxq (fun w=>plain_any t w ht)
 have S1:=Hxq (fun w=>sign_any t [45] { data:=#[45] } w rfl ht (by decide))
 have S2:=Hxq (fun w=>sign_any t [40] { data:=#[40] } w rfl ht (by decide))
 generalize Sy.plain t=rp at *
 generalize Sy.sign t [45]=r1 at *
 generalize Sy.sign t [40]=r2 at *
 generalize Sy.operand t=q at *
 clear eA mA ht
 unfold tokC at *
 by_cases h2:t.kind=2
 ·have k2:((t.kind:Int) == 2)=true:=by rw [h2];rfl
  have HQ:Hid (q=true):=Hxq (by rw [HO.out,decide_eq_true h2];simp)
  clear h2 HO
  go_enter Tryz.func130,Tryz.ntmps130
  go_wp2_with fail
  go_ret
  exact ⟨by rw [HQ.out];rfl,MA.out⟩
 have k2:((t.kind:Int) == 2)=false:=by rw [beq_eq_false_iff_ne];omega
 by_cases h3:t.kind=3
 ·have k3:((t.kind:Int) == 3)=true:=by rw [h3];rfl
  have HQ:Hid (q=true):=Hxq (by rw [HO.out,decide_eq_true h3];simp)
  clear h2 h3 HO
  go_enter Tryz.func130,Tryz.ntmps130
  go_wp2_with fail
  go_ret
  exact ⟨by rw [HQ.out];rfl,MA.out⟩
 have k3:((t.kind:Int) == 3)=false:=by rw [beq_eq_false_iff_ne];omega
 by_cases h4:t.kind=4
 ·have k4:((t.kind:Int) == 4)=true:=by rw [h4];rfl
  have HQ:Hid (q=true):=Hxq (by rw [HO.out,decide_eq_true h4];simp)
  clear h2 h3 h4 HO
  go_enter Tryz.func130,Tryz.ntmps130
  go_wp2_with fail
  go_ret
  exact ⟨by rw [HQ.out];rfl,MA.out⟩
 have k4:((t.kind:Int) == 4)=false:=by rw [beq_eq_false_iff_ne];omega
 have HO2:Hid (q=(rp || (r1 || r2))):=Hxq (by rw [HO.out,decide_eq_false h2,decide_eq_false h3,decide_eq_false h4];rfl)
 clear h2 h3 h4 HO
 go_enter Tryz.func130,Tryz.ntmps130
 go_wp2_with fail
 refine (HP.out _).mono ?_
 rintro e1 w1 ⟨rfl,m1⟩
 have E1:=Hxq (m1.at EA.out (by simp));have M1:=Hxq (MA.out.trans m1 (by simp))
 clear m1 x0 x1 x2 x3 x4 x5 x6
 obtain ⟨x0,x1,x2,x3,x4,x5,x6⟩:=tok_cells (t:=t) E1.out
 cases rp
 ·go_wp2_with fail
  refine (S1.out _).mono ?_
  rintro e2 w2 ⟨rfl,m2⟩
  have E2:=Hxq (m2.at E1.out (by simp));have M2:=Hxq (M1.out.trans m2 (by simp))
  clear m2 x0 x1 x2 x3 x4 x5 x6
  obtain ⟨x0,x1,x2,x3,x4,x5,x6⟩:=tok_cells (t:=t) E2.out
  cases r1
  ·go_wp2_with fail
   refine (S2.out _).mono ?_
   rintro e3 w3 ⟨rfl,m3⟩
   have M3:=Hxq (M2.out.trans m3 (by simp))
   clear m3 x0 x1 x2 x3 x4 x5 x6
   have HQ:Hid (q=r2):=Lib.hid HO2.out
   clear HO2
   go_wp2_with fail
   go_ret
   exact ⟨by rw [HQ.out];rfl,M3.out⟩
  ·have HQ:Hid (q=true):=Lib.hid HO2.out
   clear HO2
   go_wp2_with fail
   go_ret
   exact ⟨by rw [HQ.out];rfl,M2.out⟩
 ·have HQ:Hid (q=true):=Lib.hid HO2.out
  clear HO2
  go_wp2_with fail
  go_ret
  exact ⟨by rw [HQ.out];rfl,M1.out⟩
end Go.Proofs.YtppigckioalhhaaGreatDoorR
