/- THE TEXTS MERGED: P5Fn P5Plain P5Arg P5Atom. -/
import Derived.Test.YtohnmnfhmbmoaaaGreatDoorKG24
namespace Go.Proofs.YtohnmnfhmbmoaaaGreatDoor
open Go.RowKit
set_option linter.unusedVariables false
set_option linter.unusedSimpArgs false
set_option maxRecDepth 100000
/-- a text of the reference: of what is well made, that text; else it is marked; at most n bytes -/
def TxV (o:Option (List Nat)) (n:Nat) (v:Value):Prop:=∃ (s:ByteArray) (b:Bool),v=.agg #[.string s,.bool b]/\s.size<=n/\(∀ t,o=some t->b=false/\s=Lx.ofS t)/\(o=none->b=true)
def TxR (o:Option (List Nat)) (n:Nat) (w:World) (e:Ending) (w':World):Prop:=∃ v,e=.returned v/\TxV o n v/\Mod [] w w'
/-- how much the reference's expression binds -/
def rbinds (e:Pr.Ex):Nat:=if e.k=4 then (if e.op=1\/e.op=2 then 1 else if e.op=3\/e.op=4\/e.op=5 then 2 else 3) else 4
theorem rbinds_any (e:Pr.Ex) (u:Value) (w:World):Calls Tryz.prog 146 #[.agg (exV e u)] w fun e' w'=>e'=.returned (.int .i64 (rbinds e:Nat))/\Mod [] w w':=by
 have HM:=Hxq ((Mod.refl [] w).alloc (Obj.cells (exV e u) 38))
 unfold exV at *
 by_cases h:e.k=4
 ·have hB:(e.k != 4)=false:=by rw [h];rfl
  by_cases ho:e.op=1\/e.op=2\/e.op=3\/e.op=4\/e.op=5
  ·obtain ⟨k,v,x,op,args⟩:=e
   simp only [Pr.Ex.k,Pr.Ex.op] at *
   subst h
   rcases ho with rfl | rfl | rfl | rfl | rfl
   all_goals (
    clear hB
    go_enter Tryz.func146,Tryz.ntmps146
    go_wp2_with fail
    go_ret
    exact ⟨rfl,HM.out⟩)
  ·have n1:(e.op == 1)=false:=by rw [beq_eq_false_iff_ne];omega
   have n2:(e.op == 2)=false:=by rw [beq_eq_false_iff_ne];omega
   have n3:(e.op == 3)=false:=by rw [beq_eq_false_iff_ne];omega
   have n4:(e.op == 4)=false:=by rw [beq_eq_false_iff_ne];omega
   have n5:(e.op == 5)=false:=by rw [beq_eq_false_iff_ne];omega
   have HE:Hid (rbinds e=3):=Hxq (by unfold rbinds;rw [if_pos h,if_neg (by omega),if_neg (by omega)])
   clear h ho
   go_enter Tryz.func146,Tryz.ntmps146
   go_wp2_with fail
   go_ret
   exact ⟨by rw [HE.out];rfl,HM.out⟩
 ·have hB:(e.k != 4)=true:=by rw [bne_iff_ne];exact h
  have HE:Hid (rbinds e=4):=Hxq (if_neg h)
  clear h
  go_enter Tryz.func146,Tryz.ntmps146
  go_wp2_with fail
  go_ret
  exact ⟨by rw [HE.out];rfl,HM.out⟩
/-- the printer's and the reference's, of what is well made -/
theorem rbinds_eq {e:Pr.Ex} (h:¬ (e.k=4/\Pr.strength e.op=0)):rbinds e=Pr.binds e:=by
 unfold rbinds Pr.binds
 by_cases hk:e.k=4
 ·rw [if_pos hk,if_pos hk]
  have h2:Pr.strength e.op≠0:=fun q=>h ⟨hk,q⟩
  unfold Pr.strength at h2 ⊢
  by_cases g1:e.op=1\/e.op=2
  ·rw [if_pos g1,if_pos g1]
  ·rw [if_neg g1] at h2 ⊢
   rw [if_neg g1]
   by_cases g2:e.op=3\/e.op=4\/e.op=5
   ·rw [if_pos g2,if_pos g2]
   ·rw [if_neg g2] at h2 ⊢
    rw [if_neg g2]
    by_cases g3:e.op=6
    ·rw [if_pos g3]
    ·rw [if_neg g3] at h2;exact absurd rfl h2
 ·rw [if_neg hk,if_neg hk]
theorem pE_bad {e:Pr.Ex} (h:e.k=4/\Pr.strength e.op=0) (k:Nat):Pr.pE k e=none:=by
 cases k with
 | zero=>rfl
 | succ k=>rw [Pr.pE_op _ _ h.1,if_neg (by omega)]
def rsign (op:Int):List Nat:=if op=1 then [32,43,32] else if op=2 then [32,45,32] else if op=3 then [32,42,32] else if op=4 then [32,47,32] else [32,109,111,100,32]
theorem rsign_any (op:Int) (w:World):Calls Tryz.prog 147 #[.int .i64 op] w fun e w'=>e=.returned (.string (Lx.ofS (rsign op)))/\w'=w:=by
 by_cases h:op=1\/op=2\/op=3\/op=4
 ·rcases h with rfl | rfl | rfl | rfl
  all_goals (
   go_enter Tryz.func147,Tryz.ntmps147
   go_wp2_with fail
   go_ret
   exact ⟨rfl,rfl⟩)
 ·have n1:(op == 1)=false:=by rw [beq_eq_false_iff_ne];omega
  have n2:(op == 2)=false:=by rw [beq_eq_false_iff_ne];omega
  have n3:(op == 3)=false:=by rw [beq_eq_false_iff_ne];omega
  have n4:(op == 4)=false:=by rw [beq_eq_false_iff_ne];omega
  have HE:Hid (rsign op=[32,109,111,100,32]):=Hxq (by unfold rsign;rw [if_neg (by omega),if_neg (by omega),if_neg (by omega),if_neg (by omega)])
  clear h
  go_enter Tryz.func147,Tryz.ntmps147
  go_wp2_with fail
  go_ret
  exact ⟨by rw [HE.out];rfl,rfl⟩
theorem rcompared_any (op:Int) (w:World):Calls Tryz.prog 126 #[.int .i64 op] w fun e w'=>e=.returned (.string (Lx.ofS (Pr.cmp op)))/\w'=w:=by
 by_cases h:op=1\/op=2\/op=3\/op=4\/op=5
 ·rcases h with rfl | rfl | rfl | rfl | rfl
  all_goals (
   go_enter Tryz.func126,Tryz.ntmps126
   go_wp2_with fail
   go_ret
   exact ⟨rfl,rfl⟩)
 ·have n1:(op == 1)=false:=by rw [beq_eq_false_iff_ne];omega
  have n2:(op == 2)=false:=by rw [beq_eq_false_iff_ne];omega
  have n3:(op == 3)=false:=by rw [beq_eq_false_iff_ne];omega
  have n4:(op == 4)=false:=by rw [beq_eq_false_iff_ne];omega
  have n5:(op == 5)=false:=by rw [beq_eq_false_iff_ne];omega
  have HE:Hid (Pr.cmp op=[32,62,61,32]):=Hxq (by unfold Pr.cmp;rw [if_neg (by omega),if_neg (by omega),if_neg (by omega),if_neg (by omega),if_neg (by omega)])
  clear h
  go_enter Tryz.func126,Tryz.ntmps126
  go_wp2_with fail
  go_ret
  exact ⟨by rw [HE.out];rfl,rfl⟩
theorem rcalled_any (f:Int) (w:World):Calls Tryz.prog 148 #[.int .i64 f] w fun e w'=>e=.returned (.string (Lx.ofS (Pr.word f)))/\w'=w:=by
 by_cases h:f=1\/f=2\/f=3
 ·rcases h with rfl | rfl | rfl
  all_goals (
   go_enter Tryz.func148,Tryz.ntmps148
   go_wp2_with fail
   go_ret
   exact ⟨rfl,rfl⟩)
 ·have n1:(f == 1)=false:=by rw [beq_eq_false_iff_ne];omega
  have n2:(f == 2)=false:=by rw [beq_eq_false_iff_ne];omega
  have n3:(f == 3)=false:=by rw [beq_eq_false_iff_ne];omega
  have HE:Hid (Pr.word f=[109,97,120]):=Hxq (by unfold Pr.word;rw [if_neg (by omega),if_neg (by omega),if_neg (by omega)])
  clear h
  go_enter Tryz.func148,Tryz.ntmps148
  go_wp2_with fail
  go_ret
  exact ⟨by rw [HE.out];rfl,rfl⟩
theorem rnoExpr_any (e:Pr.Ex) (a:Option Addr) (c:Nat) (w:World):Calls Tryz.prog 123 #[.agg (exV e (.slice a e.args.length c))] w fun e' w'=>e'=.returned (.bool (Pr.noExpr e))/\Mod [] w w':=by
 have hve:=fun W=>veq_run e.x W
 have hE:Pr.noExpr e=(decide (e.k=0) && (decide (e.v.size=0) && (decide (e.x=Va.zero) && (decide (e.op=0) && decide (e.args.length=0))))):=rfl
 have hem:=toList_isEmpty e.v
 have hl:((e.args.length:Int) == 0)=decide (e.args.length=0):=by rw [Bool.eq_iff_iff,beq_iff_eq,decide_eq_true_eq];omega
 rw [hE]
 clear hE
 generalize decide (e.x=Va.zero)=bx at *
 generalize decide (e.args.length=0)=bl at *
 unfold exV at *
 go_enter Tryz.func123,Tryz.ntmps123
 go_wp2_with fail
 all_goals go_ret
 all_goals exact ⟨ret_bool (by simp_all),(Mod.refl [] w).alloc _⟩
theorem vne_run (x:Va.Val) (W:World):(binOp .neq 35 (.agg #[.int .i64 x.k,.int .i64 x.n,.string (Lx.ofS x.s)]) (.agg #[.int .i64 0,.int .i64 0,.string ⟨#[]⟩])).run Tryz.prog W=.ok (.bool (!decide (x=Va.zero))) W:=by
 obtain ⟨k,n,s⟩:=x
 have hs:=ofS_nil s
 by_cases h1:k=0
 ·subst h1
  by_cases h2:n=0
  ·subst h2
   by_cases h3:s=[]
   ·subst h3
    rw [show decide ((⟨0,0,[]⟩:Va.Val)=Va.zero)=true from by decide]
    go_simp
   ·rw [decide_eq_false h3] at hs
    rw [decide_eq_false (fun e=>h3 (by injection e))]
    go_simp
  ·rw [decide_eq_false (fun e=>h2 (by injection e))]
   have h2B:(n == 0)=false:=by rw [beq_eq_false_iff_ne];exact h2
   go_simp
 ·rw [decide_eq_false (fun e=>h1 (by injection e))]
  have h1B:(k == 0)=false:=by rw [beq_eq_false_iff_ne];exact h1
  go_simp
def plO (k:Int) (s:ByteArray) (x:Va.Val):Option (List Nat) :=
 if k=1 then (if Va.variable_ (Cod.str s)=true/\x=Va.zero then some (Cod.str s) else none) else (if s.size=0/\Va.may x=true then some (Va.text x) else none)
set_option maxHeartbeats 2000000 in
theorem rplain_any (k:Int) (s:ByteArray) (x:Va.Val) (hx:x.Ok) (hs:s.size<=140737488000000) (w:World) (hG:GlobV w) :
  Calls Tryz.prog 92 #[.int .i64 k,.string s,.agg (valV x)] w (TxR (plO k s x) (s.size+300) w):=by
 have hne:=fun W=>vne_run x W
 have hm0:=((Mod.refl [] w).alloc (Obj.cells (valV x) 35)).alloc (Obj.cells #[.string ⟨#[]⟩,.bool false] 92)
 have HV:=Hxq (fun w=>vVariable_any s (by omega) w)
 have HT:=Hxq (fun w (h:GlobV w)=>vText_any x hx w h)
 have HG:=Hxq (hG.past hm0 (by simp))
 have hem:=toList_isEmpty s
 have e1:=two_b w (valV x) #[.string ⟨#[]⟩,.bool false] 35 92
 have e0:=two_a w (valV x) #[.string ⟨#[]⟩,.bool false] 35 92
 unfold valV at *
 by_cases h1:k=1
 ·have hB:(k == 1)=true:=by rw [beq_iff_eq];exact h1
  have HE:Hid (plO k s x=if Va.variable_ (Cod.str s)=true/\x=Va.zero then some (Cod.str s) else none):=Hxq (if_pos h1)
  clear h1
  go_enter Tryz.func92,Tryz.ntmps92
  go_upto_region 1 with fail
  generalize (w.alloc (Obj.cells _ 35)).alloc (Obj.cells _ 92)=w0 at *
  have M0:=Lib.hid hm0;have E0:=Lib.hid e0;have E1:=Lib.hid e1
  clear hm0 e0 e1
  go_wp2_with fail
  refine (HV.out w0).mono ?_
  rintro e w1 ⟨rfl,hww⟩
  subst hww
  have a0:=cell_at E0.out 0;have a1:=cell_at E0.out 1;have a2:=cell_at E0.out 2;have b0:=cell_at E1.out 0;have b1:=cell_at E1.out 1
  simp only [List.getElem?_toArray,List.getElem?_cons_zero,List.getElem?_cons_succ] at a0 a1 a2 b0 b1
  have fA:∀ j,w1.frozen? ⟨w.heap.size+1,j,none⟩=false:=fun j=>free_at E1.out j
  have hbz:x=Va.zero ↔ decide (x=Va.zero)=true:=by simp
  generalize decide (x=Va.zero)=bz at *
  have HBZ:=Lib.hid hbz
  clear hbz
  have hz1:=M0.out.size
  cases hv:Va.variable_ (Cod.str s)
  all_goals (
   rw [hv] at HE
   have HVV:=Lib.hid hv
   clear hv
   go_wp2_with fail)
  ·refine bodyPost_ret (results_cell_row rfl _ _ _ _ _ _ _ rfl (setCs_row (vs:=[.string s,.bool true]) E1.out rfl) Tryz.underlying92 rfl (by kernel_rfl)) rfl ⟨_,rfl,⟨s,true,rfl,by omega,fun t ht=>?_,fun _=>rfl⟩,M0.out.trans (setCs_mod (w.heap.size+1) [.string s,.bool true] 0 w1) (fun t ht=>.inr (by rw [Msq] at ht;omega))⟩
   rw [HE.out,if_neg (by simp)] at ht;cases ht
  ·refine bodyPost_ret (results_cell_row rfl _ _ _ _ _ _ _ rfl (setCs_row (vs:=[.string s,.bool (!bz)]) E1.out rfl) Tryz.underlying92 rfl (by kernel_rfl)) rfl ⟨_,rfl,⟨s,!bz,rfl,by omega,fun t ht=>?_,fun hn=>?_⟩,M0.out.trans (setCs_mod (w.heap.size+1) [.string s,.bool (!bz)] 0 w1) (fun t ht=>.inr (by rw [Msq] at ht;omega))⟩
   ·rw [HE.out] at ht
    split at ht
    ·rename_i h
     cases ht
     rw [HBZ.out.1 h.2]
     exact ⟨rfl,(Lx.ofS_str s).symm⟩
    ·cases ht
   ·rw [HE.out] at hn
    split at hn
    ·cases hn
    ·rename_i h
     cases bz with
     | true=>exact absurd ⟨trivial,HBZ.out.2 rfl⟩ h
     | false=>rfl
 ·have hB:(k == 1)=false:=by rw [beq_eq_false_iff_ne];exact h1
  have HE:Hid (plO k s x=if s.size=0/\Va.may x=true then some (Va.text x) else none):=Hxq (if_neg h1)
  have HL:=Hxq (fun (h:Va.may x=true)=>(Va.rguess_text hx.byte h).2.1)
  clear h1
  go_enter Tryz.func92,Tryz.ntmps92
  go_upto_region 1 with fail
  generalize (w.alloc (Obj.cells _ 35)).alloc (Obj.cells _ 92)=w0 at *
  have M0:=Lib.hid hm0;have E0:=Lib.hid e0;have E1:=Lib.hid e1
  clear hm0 e0 e1
  have a0:=cell_at E0.out 0;have a1:=cell_at E0.out 1;have a2:=cell_at E0.out 2
  simp only [List.getElem?_toArray,List.getElem?_cons_zero,List.getElem?_cons_succ] at a0 a1 a2
  go_wp2_with fail
  refine (HT.out w0 HG.out).mono ?_
  rintro e w1 ⟨rfl,m1⟩
  have E1:=Hxq (m1.at E1.out (by simp));have M1:=Hxq (M0.out.trans m1 (by simp))
  clear m1 a0 a1 a2
  have b0:=cell_at E1.out 0;have b1:=cell_at E1.out 1
  simp only [List.getElem?_toArray,List.getElem?_cons_zero,List.getElem?_cons_succ] at b0 b1
  have fA:∀ j,w1.frozen? ⟨w.heap.size+1,j,none⟩=false:=fun j=>free_at E1.out j
  have hz1:=M0.out.size
  unfold txtV chk
  cases hv:Va.may x
  all_goals (
   rw [hv] at HE HL
   have HVV:=Lib.hid hv
   clear hv)
  ·rw [if_neg (by decide),if_neg (by decide)]
   go_wp2_with fail
   refine bodyPost_ret (results_cell_row rfl _ _ _ _ _ _ _ rfl (setCs_row (vs:=[.string (Lx.ofS []),.bool true]) E1.out rfl) Tryz.underlying92 rfl (by kernel_rfl)) rfl ⟨_,rfl,⟨Lx.ofS [],true,rfl,Nat.zero_le _,fun t ht=>?_,fun _=>rfl⟩,M1.out.trans (setCs_mod (w.heap.size+1) [.string (Lx.ofS []),.bool true] 0 w1) (fun t ht=>.inr (by rw [Msq] at ht;omega))⟩
   rw [HE.out,if_neg (by simp)] at ht;cases ht
  ·rw [if_pos rfl,if_pos rfl]
   have hlt:=HL.out rfl
   have hszt:(Lx.ofS (Va.text x)).size=(Va.text x).length:=ofS_size _
   have HST:Hid ((Lx.ofS (Va.text x)).size<=s.size+300):=Hxq (by omega)
   clear hszt hlt
   have hbz:s.size=0 ↔ decide (s.size=0)=true:=by simp
   generalize decide (s.size=0)=bz at *
   have HBZ:=Lib.hid hbz
   clear hbz
   go_wp2_with fail
   refine bodyPost_ret (results_cell_row rfl _ _ _ _ _ _ _ rfl (setCs_row (vs:=[.string (Lx.ofS (Va.text x)),.bool (!bz)]) E1.out rfl) Tryz.underlying92 rfl (by kernel_rfl)) rfl ⟨_,rfl,⟨Lx.ofS (Va.text x),!bz,rfl,HST.out,fun t ht=>?_,fun hn=>?_⟩,M1.out.trans (setCs_mod (w.heap.size+1) [.string (Lx.ofS (Va.text x)),.bool (!bz)] 0 w1) (fun t ht=>.inr (by rw [Msq] at ht;omega))⟩
   ·rw [HE.out] at ht
    split at ht
    ·rename_i h
     cases ht
     rw [HBZ.out.1 h.1]
     exact ⟨rfl,rfl⟩
    ·cases ht
   ·rw [HE.out] at hn
    split at hn
    ·cases hn
    ·rename_i h
     cases bz with
     | true=>exact absurd ⟨HBZ.out.2 rfl,trivial⟩ h
     | false=>rfl
theorem ofS_appR (a b:List Nat):Lx.ofS (a++b)=Lx.ofS a++Lx.ofS b:=by
 apply ByteArray.ext
 simp [Lx.ofS,ByteArray.data_append]
theorem wrap_size (s:ByteArray):({ data:=#[40] }++s++{ data:=#[41] }:ByteArray).size=s.size+2:=by
 have h1:({ data:=#[40] }:ByteArray).size=1:=rfl
 have h2:({ data:=#[41] }:ByteArray).size=1:=rfl
 rw [ByteArray.size_append,ByteArray.size_append,h1,h2]
 omega
theorem wrap_ofS (x:List Nat):({ data:=#[40] }++Lx.ofS x++{ data:=#[41] }:ByteArray)=Lx.ofS (40 :: (x++[41])):=by
 have h1:({ data:=#[40] }:ByteArray)=Lx.ofS [40]:=rfl
 have h2:({ data:=#[41] }:ByteArray)=Lx.ofS [41]:=rfl
 rw [h1,h2,<-ofS_appR,<-ofS_appR]
 rfl
def ExR (k:Nat):Prop:=∀ (e:Pr.Ex) (u:Value) (d:Int) (w:World),d=(k:Int) - 1->EOk w e u->GlobV w->exWt e<=140737488000000 ->
 Calls Tryz.prog 125 #[.agg (exV e u),.int .i64 d] w (TxR (Pr.pE k e) (exWt e) w)
def wrapO (o:Option (List Nat)):Option (List Nat):=o.map (fun t=>40 :: (t++[41]))
def argO (j:Nat) (m:Bool) (e:Pr.Ex):Option (List Nat):=if m then wrapO (Pr.pE j e) else Pr.pE (j+1) e
set_option maxHeartbeats 2000000 in
theorem rarg_any (j:Nat) (hj:j<=20) (h0:ExR j) (h1:ExR (j+1)) (e:Pr.Ex) (u:Value) (m:Bool) (w:World) (hE:EOk w e u) (hG:GlobV w) (hw:exWt e+2<=140737488000000) :
  Calls Tryz.prog 145 #[.agg (exV e u),.bool m,.int .i64 (j:Int)] w (TxR (argO j m e) (exWt e+2) w):=by
 have hm0:=((Mod.refl [] w).alloc (Obj.cells (exV e u) 38)).alloc (Obj.cells #[.string ⟨#[]⟩,.bool false] 92)
 have e0:=two_a w (exV e u) #[.string ⟨#[]⟩,.bool false] 38 92
 have e1:=two_b w (exV e u) #[.string ⟨#[]⟩,.bool false] 38 92
 have zA:((w.alloc (Obj.cells (exV e u) 38)).alloc (Obj.cells #[.string ⟨#[]⟩,.bool false] 92)).heap.size=w.heap.size+2:=by simp
 obtain ⟨ua,uc,rfl⟩:=hE.lit
 have HE:=Lib.hid hE;have HG:=Lib.hid hG;have H0:=Lib.hid h0;have H1:=Lib.hid h1
 clear h0 h1 hE hG
 cases m with
 | false =>
  unfold argO
  rw [if_neg (by decide)]
  go_enter Tryz.func145,Tryz.ntmps145
  go_upto_region 1 with fail
  generalize (w.alloc (Obj.cells _ 38)).alloc (Obj.cells _ 92)=w0 at *
  have M0:=Lib.hid hm0;have E0:=Lib.hid e0;have E1:=Lib.hid e1
  clear hm0 e0 e1
  have HC:Hid (Calls Tryz.prog 125 #[.agg (exV e (.slice ua e.args.length uc)),.int .i64 (j:Int)] w0 (TxR (Pr.pE (j+1) e) (exWt e) w0)):=Hxq (H1.out e _ _ w0 (by omega) (HE.out.past M0.out) (HG.out.past M0.out (by simp)) (by omega))
  unfold exV at HC E0
  have x0:=cell_at E0.out 0;have x1:=cell_at E0.out 1;have x2:=cell_at E0.out 2;have x3:=cell_at E0.out 3;have x4:=cell_at E0.out 4;have x5:=cell_at E0.out 5;have x6:=cell_at E0.out 6
  simp only [List.getElem?_toArray,List.getElem?_cons_zero,List.getElem?_cons_succ] at x0 x1 x2 x3 x4 x5 x6
  go_wp2_with fail
  refine HC.out.mono ?_
  rintro e' w1 ⟨v,rfl,⟨s,b,rfl,hs,ht,hn⟩,m1⟩
  have E1:=Hxq (m1.at E1.out (by simp));have M1:=Hxq (M0.out.trans m1 (by simp))
  have b0:=cell_at E1.out 0;have b1:=cell_at E1.out 1
  simp only [List.getElem?_toArray,List.getElem?_cons_zero,List.getElem?_cons_succ] at b0 b1
  have fA:∀ j,w1.frozen? ⟨w.heap.size+1,j,none⟩=false:=fun j=>free_at E1.out j
  have HTN:=Hxq (And.intro ht hn)
  clear m1 x0 x1 x2 x3 x4 x5 x6 HC ht hn
  go_wp2_with fail
  refine bodyPost_ret (results_cell_row rfl _ _ _ _ _ _ _ rfl (setCs_row (vs:=[.string s,.bool b]) E1.out rfl) Tryz.underlying92 rfl (by kernel_rfl)) rfl ⟨_,rfl,⟨s,b,rfl,by omega,HTN.out.1,HTN.out.2⟩,M1.out.trans (setCs_mod (w.heap.size+1) [.string s,.bool b] 0 w1) (fun t ht=>.inr (by rw [Msq] at ht;omega))⟩
 | true =>
  unfold argO
  rw [if_pos rfl]
  go_enter Tryz.func145,Tryz.ntmps145
  go_upto_region 1 with fail
  generalize (w.alloc (Obj.cells _ 38)).alloc (Obj.cells _ 92)=w0 at *
  have M0:=Lib.hid hm0;have E0:=Lib.hid e0;have E1:=Lib.hid e1
  clear hm0 e0 e1
  have HC:Hid (Calls Tryz.prog 125 #[.agg (exV e (.slice ua e.args.length uc)),.int .i64 ((j:Int) - 1)] w0 (TxR (Pr.pE j e) (exWt e) w0)):=Hxq (H0.out e _ _ w0 rfl (HE.out.past M0.out) (HG.out.past M0.out (by simp)) (by omega))
  unfold exV at HC E0
  have x0:=cell_at E0.out 0;have x1:=cell_at E0.out 1;have x2:=cell_at E0.out 2;have x3:=cell_at E0.out 3;have x4:=cell_at E0.out 4;have x5:=cell_at E0.out 5;have x6:=cell_at E0.out 6
  simp only [List.getElem?_toArray,List.getElem?_cons_zero,List.getElem?_cons_succ] at x0 x1 x2 x3 x4 x5 x6
  go_wp2_with fail
  refine HC.out.mono ?_
  rintro e' w1 ⟨v,rfl,⟨s,b,rfl,hs,ht,hn⟩,m1⟩
  have mB:=(Mod.refl [] w1).alloc (Obj.cells #[.string s,.bool b] 92)
  have xB:=heap_alloc_new w1 (Obj.cells #[.string s,.bool b] 92)
  have E1:=Hxq (mB.at (m1.at E1.out (by simp)) (by simp));have M1:=Hxq ((M0.out.trans m1 (by simp)).trans mB (by simp))
  have HTN:=Hxq (And.intro ht hn)
  clear m1 x0 x1 x2 x3 x4 x5 x6 HC ht hn mB
  go_upto_region 4 with fail
  generalize w1.alloc (Obj.cells _ 92)=w2 at *
  generalize w1.heap.size=p2 at *
  have c0:=cell_at xB 0;have c1:=cell_at xB 1;have b0:=cell_at E1.out 0;have b1:=cell_at E1.out 1
  simp only [List.getElem?_toArray,List.getElem?_cons_zero,List.getElem?_cons_succ] at c0 c1 b0 b1
  have fA:∀ j,w2.frozen? ⟨w.heap.size+1,j,none⟩=false:=fun j=>free_at E1.out j
  have XB:=Lib.hid xB
  clear xB
  cases b
  ·go_wp2_with fail
   generalize hS:({ data:=#[40] }++s++{ data:=#[41] }:ByteArray)=S2
   refine bodyPost_ret (results_cell_row rfl _ _ _ _ _ _ _ rfl (setCs_row (vs:=[.string S2,.bool (decide ((j:Int)<1))]) E1.out rfl) Tryz.underlying92 rfl (by kernel_rfl)) rfl ⟨_,rfl,⟨S2,(decide ((j:Int)<1)),rfl,by rw [<-hS,wrap_size];omega,fun t ht=>?_,fun hn=>?_⟩,M1.out.trans (setCs_mod (w.heap.size+1) [.string S2,.bool (decide ((j:Int)<1))] 0 w2) (fun t ht=>.inr (by rw [Msq] at ht;omega))⟩
   ·obtain ⟨x,hx,rfl⟩:=Option.map_eq_some_iff.1 ht
    have hj1:1<=j:=by
     cases j with
     | zero=>simp [Pr.pE] at hx
     | succ j=>omega
    refine ⟨decide_eq_false (by omega),?_⟩
    rw [<-hS,(HTN.out.1 x hx).2]
    exact wrap_ofS x
   ·have:=HTN.out.2 (Option.map_eq_none_iff.1 hn)
    cases this
  ·go_wp2_with fail
   generalize hS:({ data:=#[40] }++s++{ data:=#[41] }:ByteArray)=S2
   refine bodyPost_ret (results_cell_row rfl _ _ _ _ _ _ _ rfl (setCs_row (vs:=[.string S2,.bool true]) E1.out rfl) Tryz.underlying92 rfl (by kernel_rfl)) rfl ⟨_,rfl,⟨S2,true,rfl,by rw [<-hS,wrap_size];omega,fun t ht=>?_,fun hn=>?_⟩,M1.out.trans (setCs_mod (w.heap.size+1) [.string S2,.bool true] 0 w2) (fun t ht=>.inr (by rw [Msq] at ht;omega))⟩
   ·obtain ⟨x,hx,rfl⟩:=Option.map_eq_some_iff.1 ht
    have:=(HTN.out.1 x hx).1
    cases this
   ·rfl
/-- a text and whether it is marked: TxV's two parts -/
def TxS (o:Option (List Nat)) (n:Nat) (s:ByteArray) (b:Bool):Prop:=s.size<=n/\(∀ t,o=some t->b=false/\s=Lx.ofS t)/\(o=none->b=true)
theorem TxS.app {o1 o2:Option (List Nat)} {n1 n2:Nat} {s1 s2:ByteArray} {b1 b2:Bool} (h:TxS o1 n1 s1 b1) (k:TxS o2 n2 s2 b2):TxS (cat o1 o2) (n1+n2) (s1++s2) (b1 || b2):=by
 refine ⟨by rw [ByteArray.size_append];have:=h.1;have:=k.1;omega,fun t ht=>?_,fun hn=>?_⟩
 ·cases o1 with
  | none=>cases ht
  | some x =>
   cases o2 with
   | none=>cases ht
   | some y =>
    rw [cat_some] at ht
    cases ht
    have q1:=h.2.1 x rfl
    have q2:=k.2.1 y rfl
    exact ⟨by rw [q1.1,q2.1];rfl,by rw [q1.2,q2.2,ofS_appR]⟩
 ·cases o1 with
  | none=>rw [h.2.2 rfl];rfl
  | some x =>
   cases o2 with
   | none=>rw [k.2.2 rfl];simp
   | some y=>rw [cat_some] at hn;cases hn
theorem TxS.lit (l:List Nat) (s:ByteArray) (hs:s=Lx.ofS l):TxS (some l) s.size s false:=⟨Nat.le_refl _,fun t ht=>by cases ht;exact ⟨rfl,hs⟩,fun hn=>by cases hn⟩
theorem TxS.le {o:Option (List Nat)} {n m:Nat} {s:ByteArray} {b:Bool} (h:TxS o n s b) (hm:n<=m):TxS o m s b:=⟨Nat.le_trans h.1 hm,h.2⟩
theorem TxS.of {o o':Option (List Nat)} {n:Nat} {s:ByteArray} {b b':Bool} (h:TxS o n s b) (ho:o'=o) (hb:b'=b):TxS o' n s b':=by rw [ho,hb];exact h
/-- a term's text out of plain's -/
theorem pT_plO {t:Pr.Term} (h:t.k=1\/t.k=2):Pr.pT t=plO t.k t.v t.x:=by
 unfold Pr.pT plO
 rcases h with h | h
 ·rw [if_pos h,if_pos h]
 ·have h1:t.k≠1:=by omega
  rw [if_neg h1,if_neg h1,if_pos h]
structure RAt (w:World) (rel:ByteArray) (ad:Option Addr) (n c:Nat) (so:ByteArray) (bo:Bool) (wx:World):Prop where
 a:wx.heap[w.heap.size]?=some (.cells #[.string rel,.slice ad n c] 42 (0,0))
 r:wx.heap[w.heap.size+1]?=some (.cells #[.string ⟨#[]⟩,.bool false] 92 (0,0))
 o:wx.heap[w.heap.size+2]?=some (.cells #[.string so,.bool bo] 92 (0,0))
 m:Mod [] w wx
 z:w.heap.size+3<=wx.heap.size
theorem RAt.step {w:World} {rel:ByteArray} {ad:Option Addr} {n c:Nat} {so:ByteArray} {bo:Bool} {wx wy:World} (h:RAt w rel ad n c so bo wx) (m:Mod [] wx wy):RAt w rel ad n c so bo wy :=
 ⟨m.at h.a (by simp),m.at h.r (by simp),m.at h.o (by simp),h.m.trans m (by simp),Nat.le_trans h.z m.size⟩
theorem RAt.above {w:World} {rel:ByteArray} {ad:Option Addr} {n c:Nat} {so:ByteArray} {bo:Bool} {wx wy:World} {S:List Nat} (h:RAt w rel ad n c so bo wx) (m:Mod S wx wy) (hS:∀ t∈S,w.heap.size+3<=t):RAt w rel ad n c so bo wy :=
 ⟨m.at h.a (fun g=>by have:=hS _ g;omega),m.at h.r (fun g=>by have:=hS _ g;omega),m.at h.o (fun g=>by have:=hS _ g;omega),h.m.trans m (fun t ht=>.inr (by have:=hS t ht;omega)),Nat.le_trans h.z m.size⟩
theorem RAt.set0 {w:World} {rel:ByteArray} {ad:Option Addr} {n c:Nat} {so:ByteArray} {bo:Bool} {wx:World} (h:RAt w rel ad n c so bo wx) (s:ByteArray):RAt w rel ad n c s bo (wx.setCell ⟨w.heap.size+2,0,none⟩ (.string s)):=by
 have m:=(Mod.refl [w.heap.size+2] wx).setCell (p:=⟨w.heap.size+2,0,none⟩) (.inl (by simp)) (.string s)
 exact ⟨m.at h.a (by simp),m.at h.r (by simp),by rw [setCell_at h.o];rfl,h.m.trans m (fun t ht=>.inr (by rw [Msq] at ht;omega)),Nat.le_trans h.z m.size⟩
theorem RAt.set1 {w:World} {rel:ByteArray} {ad:Option Addr} {n c:Nat} {so:ByteArray} {bo:Bool} {wx:World} (h:RAt w rel ad n c so bo wx) (b:Bool):RAt w rel ad n c so b (wx.setCell ⟨w.heap.size+2,1,none⟩ (.bool b)):=by
 have m:=(Mod.refl [w.heap.size+2] wx).setCell (p:=⟨w.heap.size+2,1,none⟩) (.inl (by simp)) (.bool b)
 exact ⟨m.at h.a (by simp),m.at h.r (by simp),by rw [setCell_at h.o];rfl,h.m.trans m (fun t ht=>.inr (by rw [Msq] at ht;omega)),Nat.le_trans h.z m.size⟩
set_option maxHeartbeats 4000000 in
theorem ratom_any (a:Pr.Atom) (tu:Value) (w:World) (hT:TOk w a.terms tu) (hG:GlobV w) (hlen:2 * aWt a<=140737488000000) :
  Calls Tryz.prog 60 #[.agg #[.string a.rel,tu]] w (TxR (Pr.pA a) (2 * aWt a) w):=by
 rw [pA_eq]
 obtain ⟨rel,ts⟩:=a
 obtain ⟨ad,c,rfl⟩:=hT.lit
 have hW:aWt ⟨rel,ts⟩=rel.size+300+tsWt ts:=rfl
 have hTL:=tsWt_len ts
 rw [hW] at hlen ⊢
 clear hW
 dsimp only at hT ⊢
 have hm0:=((Mod.refl [] w).alloc (Obj.cells #[.string rel,.slice ad ts.length c] 42)).alloc (Obj.cells #[.string ⟨#[]⟩,.bool false] 92)
 have e0:=two_a w #[.string rel,.slice ad ts.length c] #[.string ⟨#[]⟩,.bool false] 42 92
 have e1:=two_b w #[.string rel,.slice ad ts.length c] #[.string ⟨#[]⟩,.bool false] 42 92
 have zA:((w.alloc (Obj.cells #[.string rel,.slice ad ts.length c] 42)).alloc (Obj.cells #[.string ⟨#[]⟩,.bool false] 92)).heap.size=w.heap.size+2:=by simp
 have HN:=Hxq (fun w=>vName_any rel (by omega) w)
 have HT:=Lib.hid hT;have HG:=Lib.hid hG
 clear hT hG
 go_enter Tryz.func60,Tryz.ntmps60
 go_upto_region 1 with fail
 generalize (w.alloc (Obj.cells _ 42)).alloc (Obj.cells _ 92)=w0 at *
 have M0:=Lib.hid hm0;have E0:=Lib.hid e0;have E1:=Lib.hid e1;have ZA:=Lib.hid zA
 clear hm0 e0 e1 zA
 have x0:=cell_at E0.out 0;have x1:=cell_at E0.out 1
 simp only [List.getElem?_toArray,List.getElem?_cons_zero,List.getElem?_cons_succ] at x0 x1
 go_wp2_with fail
 refine (HN.out w0).mono ?_
 rintro e w1 ⟨rfl,hww⟩
 subst hww
 have HH:Hid (headO rel=if Va.name (Cod.str rel)=true then some (Cod.str rel++[40]) else none):=Lib.hid rfl
 generalize Va.name (Cod.str rel)=bn at *
 go_upto_region 3 with fail
 have mB:=(Mod.refl [] w1).alloc (Obj.cells #[.string (rel++{ data:=#[40] }),.bool (!bn)] 92)
 have xB:=heap_alloc_new w1 (Obj.cells #[.string (rel++{ data:=#[40] }),.bool (!bn)] 92)
 have zB:(w1.alloc (Obj.cells #[.string (rel++{ data:=#[40] }),.bool (!bn)] 92)).heap.size=w.heap.size+3:=by simp [ZA.out]
 rw [ZA.out] at xB ⊢
 have RA:=Hxq (RAt.mk (mB.at E0.out (by simp)) (mB.at E1.out (by simp)) xB (M0.out.trans mB (by simp)) (Nat.le_of_eq zB.symm))
 have HB:=Hxq (show TxS (headO rel) (rel.size+1) (rel++{ data:=#[40] }) (!bn) from ⟨Nat.le_of_eq (by rw [ByteArray.size_append];rfl),fun t ht=>by
  rw [HH.out] at ht
  cases bn with
  | false=>rw [if_neg (by decide)] at ht;cases ht
  | true =>
   rw [if_pos rfl] at ht
   cases ht
   refine ⟨rfl,?_⟩
   rw [ofS_appR,Lx.ofS_str]
   rfl,fun hn=>by
  rw [HH.out] at hn
  cases bn with
  | false=>rfl
  | true=>rw [if_pos rfl] at hn;cases hn⟩)
 clear mB xB zB x0 x1 E0 E1
 generalize w1.alloc (Obj.cells _ 92)=w2 at *
 go_wp2_with fail
 go_loopw [5] (fun iv wr=>∃ (k:Nat) (so:ByteArray) (bo:Bool),k<=ts.length/\iv=.int .i64 (k:Nat)/\TxS (cat (headO rel) (comO Pr.pT (ts.take k))) (rel.size+1+2 * tsWt (ts.take k)) so bo/\RAt w rel ad ts.length c so bo wr) (fun iv _=>ts.length - (intOf iv).toNat)
 case atStart=>exact ⟨0,_,_,Nat.zero_le _,rfl,(HB.out.of (by simp [comO,Pr.seqO,Pr.commas,List.intercalate,List.intersperse,cat_nil']) rfl).le (by simp),RA.out⟩
 case round =>
  obtain ⟨k,so,bo,hk,rfl,hS,hr⟩:=hrel
  have x0:=cell_at hr.a 0;have x1:=cell_at hr.a 1;have o0:=cell_at hr.o 0;have o1:=cell_at hr.o 1
  simp only [List.getElem?_toArray,List.getElem?_cons_zero,List.getElem?_cons_succ] at x0 x1 o0 o1
  by_cases hlt:k<ts.length
  ·have hkI:(k:Int)<(ts.length:Int):=by omega
   have hk0:(0:Int)<=(k:Int):=by omega
   obtain ⟨b,off,rfl,ha,hok⟩:=HT.out.at k hlt
   have HSN:=Hxq (comO_snoc Pr.pT (ts.take k) ts[k])
   have hsn:=tsWt_take ts k hlt
   have hle:=tsWt_le ts (k+1)
   rw [<-List.take_succ_eq_append_getElem hlt,List.length_take,Nat.min_eq_left hk] at HSN
   generalize ts[k]=t at *
   obtain ⟨tk,tv,tx⟩:=t
   obtain ⟨a0,a1,a2,a3,a4⟩:=ha.past hr.m
   dsimp only at a0 a1 a2 a3 a4 hsn
   have HOK:=Lib.hid hok;have HS:=Lib.hid hS;have HR:=Lib.hid hr
   clear hok hS hr ha
   have mT:=(Mod.refl [] wr).alloc (Obj.cells #[.int .i64 tk,.string tv,.int .i64 tx.k,.int .i64 tx.n,.string (Lx.ofS tx.s)] 88)
   have xT:=heap_alloc_new wr (Obj.cells #[.int .i64 tk,.string tv,.int .i64 tx.k,.int .i64 tx.n,.string (Lx.ofS tx.s)] 88)
   have zT:(wr.alloc (Obj.cells #[.int .i64 tk,.string tv,.int .i64 tx.k,.int .i64 tx.n,.string (Lx.ofS tx.s)] 88)).heap.size=wr.heap.size+1:=by simp
   go_upto_region 7 with fail
   generalize wr.alloc (Obj.cells _ 88)=wT at *
   have RT:=Hxq (HR.out.step mT);have XT:=Lib.hid xT;have ZT:=Lib.hid zT
   have HZ:=Lib.hid HR.out.z
   clear mT xT zT a0 a1 a2 a3 a4 x0 x1 o0 o1
   have y0:=cell_at XT.out 0;have y1:=cell_at XT.out 1;have y2:=cell_at XT.out 2;have y3:=cell_at XT.out 3;have y4:=cell_at XT.out 4
   simp only [List.getElem?_toArray,List.getElem?_cons_zero,List.getElem?_cons_succ] at y0 y1 y2 y3 y4
   have hem:tv.toList.isEmpty=decide (tv.size=0):=toList_isEmpty tv
   have hve:=fun W=>vne_run tx W
   generalize hpt:wT.heap.size=pt at *
   have hptz:w.heap.size+4<=pt:=by have:=ZT.out;have:=HZ.out;omega
   generalize hb1:decide (tv.size=0)=be at *
   generalize hb2:decide (tx=Va.zero)=bx at *
   go_cut [7] (fun cc wx=>cc=.pointer (some ⟨pt,0,none⟩)/\Mod [] wT wx/\wx.heap[pt]?=some (.cells #[.string { data:=#[95] },.bool (!be || !bx)] 92 (0,0)))
   case first =>
    have HB1:=Lib.hid hb1;have HB2:=Lib.hid hb2;have HPT:=Lib.hid hpt
    clear hb1 hb2 hpt
    have mU:=fun v=>(Mod.refl [] wT).alloc (Obj.cells #[.string { data:=#[95] },.bool v] 92)
    have xU:=fun v=>heap_alloc_new wT (Obj.cells #[.string { data:=#[95] },.bool v] 92)
    have MU:=Lib.hid mU;have XU:=Lib.hid xU
    clear mU xU
    cases be
    all_goals (
     go_wp2_with fail
     go_meet
     exact ⟨by rw [HPT.out],MU.out _,by rw [<-HPT.out];exact XU.out _⟩)
   case rest =>
    obtain ⟨rfl,mU,xU⟩:=hcut
    have RU:=Hxq (RT.out.step mU);have XU:=Lib.hid xU;have HPT:=Lib.hid hpt
    have MU:=Lib.hid mU;have XV:=Hxq (mU.at XT.out (by simp))
    have y0:=mU.cell y0 (by simp);have y1:=mU.cell y1 (by simp);have y2:=mU.cell y2 (by simp);have y3:=mU.cell y3 (by simp);have y4:=mU.cell y4 (by simp)
    have fU:∀ j,wc.frozen? ⟨pt,j,none⟩=false:=fun j=>free_at XU.out j
    have u0:=cell_at XU.out 0;have u1:=cell_at XU.out 1
    simp only [List.getElem?_toArray,List.getElem?_cons_zero,List.getElem?_cons_succ] at u0 u1
    have HB1:=Lib.hid hb1;have HB2:=Lib.hid hb2
    clear xU mU hem hve hb1 hb2 hpt
    have HGc:=Hxq (HG.out.past RU.out.m (by simp))
    have HPL:Hid (Calls Tryz.prog 92 #[.int .i64 tk,.string tv,.agg (valV tx)] wc (TxR (plO tk tv tx) (tv.size+300) wc)):=Hxq (rplain_any tk tv tx HOK.out (by omega) wc HGc.out)
    unfold valV at HPL
    go_upto_if 41 with fail
    go_cut [] (fun wx=>∃ (s:ByteArray) (bt:Bool),TxS (Pr.pT ⟨tk,tv,tx⟩) (tv.size+300) s bt/\RAt w rel (some ⟨b,off,none⟩) ts.length c so bo wx/\wx.heap[pt]?=some (.cells #[.string s,.bool bt] 92 (0,0)))
    case first =>
     by_cases h3:tk=3
     ·subst h3
      go_wp2_with fail
      go_meet
      refine ⟨_,_,?_,RU.out,XU.out⟩
      have hpT:Pr.pT ⟨3,tv,tx⟩=if tv.size=0/\tx=Va.zero then some [95] else none:=rfl
      rw [hpT]
      rcases HB1.out with rfl
      rcases HB2.out with rfl
      refine ⟨by show 1<=_;omega,fun t ht=>?_,fun hn=>?_⟩
      ·split at ht
       ·rename_i h
        cases ht
        rw [decide_eq_true h.1,decide_eq_true h.2]
        exact ⟨rfl,rfl⟩
       ·cases ht
      ·split at hn
       ·cases hn
       ·rename_i h
        by_cases g1:tv.size=0
        ·rw [decide_eq_false (fun g2=>h ⟨g1,g2⟩)];simp
        ·rw [decide_eq_false g1];rfl
     ·have h3B:(tk != 3)=true:=by rw [bne_iff_ne];exact h3
      have H3:=Lib.hid h3
      clear h3
      go_wp2_with fail
      refine HPL.out.mono ?_
      rintro e5 w5 ⟨v,rfl,⟨s,bt,rfl,hs⟩,m5⟩
      have R5:=Hxq (RU.out.step m5);have X5:=Hxq (m5.at XU.out (by simp));have y0:=m5.cell y0 (by simp)
      have f5:∀ j,w5.frozen? ⟨pt,j,none⟩=false:=fun j=>free_at X5.out j
      have v0:=cell_at X5.out 0;have v1:=cell_at X5.out 1
      simp only [List.getElem?_toArray,List.getElem?_cons_zero,List.getElem?_cons_succ] at v0 v1
      have HSS:=Lib.hid hs
      clear m5 hs u0 u1 fU y1 y2 y3 y4 HPL
      go_upto_region 10 with fail
      have hne:wr.heap.size≠pt:=by have:=HPT.out;have:=ZT.out;omega
      have m6:Mod [pt] w5 ((w5.setCell ⟨pt,0,none⟩ (.string s)).setCell ⟨pt,1,none⟩ (.bool bt)):=((Mod.refl [pt] w5).setCell (p:=⟨pt,0,none⟩) (.inl (by simp)) _).setCell (p:=⟨pt,1,none⟩) (.inl (by simp)) _
      have x6:((w5.setCell ⟨pt,0,none⟩ (.string s)).setCell ⟨pt,1,none⟩ (.bool bt)).heap[pt]?=some (.cells #[.string s,.bool bt] 92 (0,0)):=by rw [setCell_at (setCell_at X5.out 0 _) 1 _];rfl
      generalize (w5.setCell ⟨pt,0,none⟩ (.string s)).setCell ⟨pt,1,none⟩ (.bool bt)=w6 at *
      have R6:=Hxq (R5.out.above m6 (fun t ht=>by rw [Msq] at ht;omega));have X6:=Lib.hid x6
      have y0:=m6.cell y0 (by simpa using hne)
      have f6:∀ j,w6.frozen? ⟨pt,j,none⟩=false:=fun j=>free_at X6.out j
      have v1:=cell_at X6.out 1
      simp only [List.getElem?_toArray,List.getElem?_cons_zero,List.getElem?_cons_succ] at v1
      have HEND:∀ b',Hid (Mod [pt] w6 (w6.setCell ⟨pt,1,none⟩ (.bool b'))/\(w6.setCell ⟨pt,1,none⟩ (.bool b')).heap[pt]?=some (.cells #[.string s,.bool b'] 92 (0,0))):=fun b'=>Lib.hid ⟨(Mod.refl [pt] w6).setCell (p:=⟨pt,1,none⟩) (.inl (by simp)) _,by rw [setCell_at X6.out 1 _];rfl⟩
      have HE:=Lib.hid HEND
      clear m6 x6 f5 v0 HEND
      have hend:∀ b',TxS (Pr.pT ⟨tk,tv,tx⟩) (tv.size+300) s b'->∃ (s:ByteArray) (bt:Bool),TxS (Pr.pT ⟨tk,tv,tx⟩) (tv.size+300) s bt/\RAt w rel (some ⟨b,off,none⟩) ts.length c so bo (w6.setCell ⟨pt,1,none⟩ (.bool b'))/\(w6.setCell ⟨pt,1,none⟩ (.bool b')).heap[pt]?=some (.cells #[.string s,.bool bt] 92 (0,0)) :=
       fun b' hb=>⟨s,b',hb,R6.out.above (HE.out b').out.1 (fun t ht=>by rw [Msq] at ht;omega),(HE.out b').out.2⟩
      have HD:=Lib.hid hend
      clear hend
      by_cases h12:tk=1\/tk=2
      ·have HTS:Hid (TxS (Pr.pT ⟨tk,tv,tx⟩) (tv.size+300) s bt):=Hxq (by rw [pT_plO h12];exact HSS.out)
       rcases h12 with rfl | rfl
       all_goals cases bt
       all_goals (
        go_wp2_with fail
        go_meet
        exact HD.out _ HTS.out)
      ·have n1:(tk != 1)=true:=by rw [bne_iff_ne];omega
       have n2:(tk != 2)=true:=by rw [bne_iff_ne];omega
       have HTS:Hid (TxS (Pr.pT ⟨tk,tv,tx⟩) (tv.size+300) s true):=Hxq (by
        have hn:Pr.pT ⟨tk,tv,tx⟩=none:=pT_other (t:=⟨tk,tv,tx⟩) (by dsimp only;omega) (by dsimp only;omega) H3.out
        rw [hn]
        exact ⟨HSS.out.1,fun t ht=>(nomatch ht),fun _=>rfl⟩)
       clear h12
       cases bt
       all_goals (
        go_wp2_with fail
        go_meet
        exact HD.out _ HTS.out)
    case rest =>
     obtain ⟨s,bt,hs,hr,xt⟩:=hcut
     have HS2:=Lib.hid hs;have R2:=Lib.hid hr;have XT2:=Lib.hid xt
     clear hs hr xt u0 u1 fU y0 y1 y2 y3 y4 HPL
     have o0:=cell_at R2.out.o 0
     simp only [List.getElem?_toArray,List.getElem?_cons_zero,List.getElem?_cons_succ] at o0
     have fO:∀ j,wc.frozen? ⟨w.heap.size+2,j,none⟩=false:=fun j=>free_at R2.out.o j
     have hso:=HS.out.1
     have hs2:=HS2.out.1
     have hptn:pt∉[w.heap.size+2]:=by rw [Msq];omega
     go_upto_if 63 with fail
     go_cut [] (fun wx=>∃ (s1:ByteArray),TxS (cat (cat (headO rel) (comO Pr.pT (ts.take k))) (some (if k=0 then [] else [44,32]))) (rel.size+1+2 * tsWt (ts.take k)+2) s1 bo/\RAt w rel (some ⟨b,off,none⟩) ts.length c s1 bo wx/\wx.heap[pt]?=some (.cells #[.string s,.bool bt] 92 (0,0)))
     case first =>
      by_cases k0:k=0
      ·subst k0
       go_wp2_with fail
       go_meet
       exact ⟨so,(HS.out.of (by simp [cat_nil']) rfl).le (by omega),R2.out,XT2.out⟩
      ·have kB:decide (0<k)=true:=by rw [decide_eq_true_eq];omega
       have K0:=Lib.hid k0
       clear k0 kB
       go_wp2_with fail
       all_goals first
        | (exfalso;have:=K0.out;omega)
        | skip
       go_meet
       refine ⟨so++{ data:=#[44,32] },?_,R2.out.set0 _,((Mod.refl [w.heap.size+2] wc).setCell (p:=⟨w.heap.size+2,0,none⟩) (.inl (by simp)) _).at XT2.out hptn⟩
       rw [if_neg K0.out]
       exact ((HS.out.app (TxS.lit [44,32] { data:=#[44,32] } rfl)).of rfl (by simp)).le (Nat.le_refl _)
     case rest =>
      obtain ⟨s1,hs1,hr,xt⟩:=hcut
      have HS1:=Lib.hid hs1;have R3:=Lib.hid hr;have XT3:=Lib.hid xt
      have hs1z:=hs1.1
      clear hs1 hr xt o0 fO
      have o0:=cell_at R3.out.o 0;have t0:=cell_at XT3.out 0
      simp only [List.getElem?_toArray,List.getElem?_cons_zero,List.getElem?_cons_succ] at o0 t0
      have fO:∀ j,wc.frozen? ⟨w.heap.size+2,j,none⟩=false:=fun j=>free_at R3.out.o j
      go_upto_region 14 with fail
      have r4:=R3.out.set0 (s1++s)
      have x4:=((Mod.refl [w.heap.size+2] wc).setCell (p:=⟨w.heap.size+2,0,none⟩) (.inl (by simp)) (.string (s1++s))).at XT3.out hptn
      generalize wc.setCell ⟨w.heap.size+2,0,none⟩ (.string (s1++s))=w7 at *
      have R4:=Lib.hid r4;have XT4:=Lib.hid x4
      clear r4 x4 o0 t0 fO
      have o1:=cell_at R4.out.o 1;have t1:=cell_at XT4.out 1
      simp only [List.getElem?_toArray,List.getElem?_cons_zero,List.getElem?_cons_succ] at o1 t1
      have fO:∀ j,w7.frozen? ⟨w.heap.size+2,j,none⟩=false:=fun j=>free_at R4.out.o j
      have HFIN:Hid (TxS (cat (headO rel) (comO Pr.pT (ts.take (k+1)))) (rel.size+1+2 * tsWt (ts.take (k+1))) (s1++s) (bo || bt)):=Hxq (((HS1.out.app HS2.out).of (by rw [HSN.out];simp only [cat_assoc]) rfl).le (by omega))
      have HR5:=Hxq (fun b'=>R4.out.set1 b')
      cases bo
      all_goals (
       go_wp2_with fail
       go_roundw
       case rel=>exact ⟨k+1,_,_,by omega,by go_num,HFIN.out.of rfl (by simp),HR5.out _⟩
       case measure=>simp [intOf];omega)
  ·obtain rfl:k=ts.length:=by omega
   have hkI:¬ (ts.length:Int)<(ts.length:Int):=by omega
   rw [List.take_length] at hS
   have HS:=Lib.hid hS;have HR:=Lib.hid hr
   have hso:=hS.1
   have fO:∀ j,wr.frozen? ⟨w.heap.size+2,j,none⟩=false:=fun j=>free_at HR.out.o j
   clear hS hr
   go_upto_region 16 with fail
   have r4:=HR.out.set0 (so++{ data:=#[41] })
   generalize wr.setCell ⟨w.heap.size+2,0,none⟩ (.string (so++{ data:=#[41] }))=w7 at *
   have R4:=Lib.hid r4
   have HFIN:Hid (TxS (cat (cat (headO rel) (comO Pr.pT ts)) (some [41])) (2 * (rel.size+300+tsWt ts)) (so++{ data:=#[41] }) bo):=Hxq (((HS.out.app (TxS.lit [41] { data:=#[41] } rfl)).of rfl (by simp)).le (by show _+1<=_;omega))
   clear r4 x0 x1 o0 o1 fO
   generalize so++{ data:=#[41] }=s2 at *
   have o0:=cell_at R4.out.o 0;have o1:=cell_at R4.out.o 1;have b0:=cell_at R4.out.r 0;have b1:=cell_at R4.out.r 1
   simp only [List.getElem?_toArray,List.getElem?_cons_zero,List.getElem?_cons_succ] at o0 o1 b0 b1
   have fA:∀ j,w7.frozen? ⟨w.heap.size+1,j,none⟩=false:=fun j=>free_at R4.out.r j
   go_wp2_with fail
   refine bodyPost_ret (results_cell_row rfl _ _ _ _ _ _ _ rfl (setCs_row (vs:=[.string s2,.bool bo]) R4.out.r rfl) Tryz.underlying92 rfl (by kernel_rfl)) rfl ⟨_,rfl,⟨s2,bo,rfl,HFIN.out⟩,R4.out.m.trans (setCs_mod (w.heap.size+1) [.string s2,.bool bo] 0 w7) (fun t ht=>.inr (by rw [Msq] at ht;omega))⟩
end Go.Proofs.YtohnmnfhmbmoaaaGreatDoor
