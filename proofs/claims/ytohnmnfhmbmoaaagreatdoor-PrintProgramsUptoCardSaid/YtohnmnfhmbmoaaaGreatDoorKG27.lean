/- THE TEXTS MERGED: P5Small P5Agg P5Expr. -/
import Derived.Test.YtohnmnfhmbmoaaaGreatDoorKG25
namespace Go.Proofs.YtohnmnfhmbmoaaaGreatDoor
open Go.RowKit
set_option linter.unusedVariables false
set_option linter.unusedSimpArgs false
set_option maxRecDepth 100000
def noAtm (a:Pr.Atom):Bool:=decide (a.rel.size=0) && decide (a.terms.length=0)
theorem rnoAtom_any (a:Pr.Atom) (p:Option Addr) (c:Nat) (w:World):Calls Tryz.prog 122 #[.agg #[.string a.rel,.slice p a.terms.length c]] w fun e' w'=>e'=.returned (.bool (noAtm a))/\Mod [] w w':=by
 have hE:noAtm a=(decide (a.rel.size=0) && decide (a.terms.length=0)):=rfl
 have hem:=toList_isEmpty a.rel
 have hl:((a.terms.length:Int) == 0)=decide (a.terms.length=0):=by rw [Bool.eq_iff_iff,beq_iff_eq,decide_eq_true_eq];omega
 rw [hE]
 clear hE
 generalize decide (a.terms.length=0)=bl at *
 go_enter Tryz.func122,Tryz.ntmps122
 go_wp2_with fail
 all_goals go_ret
 all_goals exact ⟨ret_bool (by simp_all),(Mod.refl [] w).alloc _⟩
def noAg (fn:Int) (av:ByteArray) (of:Pr.Ex) (n:Nat):Bool:=decide (fn=0) && (decide (av.size=0) && (Pr.noExpr of && decide (n=0)))
set_option maxHeartbeats 1000000 in
theorem rnoAgg_any (fn:Int) (av:ByteArray) (of:Pr.Ex) (n:Nat) (a b:Option Addr) (c d:Nat) (w:World):Calls Tryz.prog 124 #[.agg (agVP fn av of (.slice a of.args.length c) (.slice b n d))] w fun e' w'=>e'=.returned (.bool (noAg fn av of n))/\Mod [] w w':=by
 have hE:noAg fn av of n=(decide (fn=0) && (decide (av.size=0) && (Pr.noExpr of && decide (n=0)))):=rfl
 have hem:=toList_isEmpty av
 have hl:((n:Int) == 0)=decide (n=0):=by rw [Bool.eq_iff_iff,beq_iff_eq,decide_eq_true_eq];omega
 have HC:=Hxq (fun w=>rnoExpr_any of a c w)
 have hm0:=(Mod.refl [] w).alloc (Obj.cells (agVP fn av of (.slice a of.args.length c) (.slice b n d)) 45)
 have e0:=heap_alloc_new w (Obj.cells (agVP fn av of (.slice a of.args.length c) (.slice b n d)) 45)
 rw [hE]
 clear hE
 generalize decide (n=0)=bl at *
 generalize Pr.noExpr of=be at *
 unfold agVP exV at *
 go_enter Tryz.func124,Tryz.ntmps124
 go_upto_region 1 with fail
 generalize w.alloc (Obj.cells _ 45)=w0 at *
 have M0:=Lib.hid hm0;have E0:=Lib.hid e0
 clear hm0 e0
 have x0:=cell_at E0.out 0;have x1:=cell_at E0.out 1;have x2:=cell_at E0.out 2;have x3:=cell_at E0.out 3;have x4:=cell_at E0.out 4;have x5:=cell_at E0.out 5;have x6:=cell_at E0.out 6;have x7:=cell_at E0.out 7;have x8:=cell_at E0.out 8
 simp only [List.getElem?_toArray,List.getElem?_cons_zero,List.getElem?_cons_succ] at x0 x1 x2 x3 x4 x5 x6 x7 x8
 go_wp2_with fail
 refine (HC.out w0).mono ?_
 rintro e w1 ⟨rfl,m1⟩
 have E1:=Hxq (m1.at E0.out (by simp));have M1:=Hxq (M0.out.trans m1 (by simp))
 clear m1 x0 x1 x2 x3 x4 x5 x6 x7 x8
 have x0:=cell_at E1.out 0;have x1:=cell_at E1.out 1;have x9:=cell_at E1.out 9
 simp only [List.getElem?_toArray,List.getElem?_cons_zero,List.getElem?_cons_succ] at x0 x1 x9
 cases be
 all_goals go_wp2_with fail
 all_goals go_ret
 all_goals exact ⟨ret_bool (by simp_all),M1.out⟩
theorem pG_bad {b:Nat} {fn:Int} {av:ByteArray} {of:Pr.Ex} {body:List Pr.Li} (h:fn<1\/4<fn\/b=0\/body.length=0):pG b fn av of body=none:=by
 unfold pG
 cases b with
 | zero=>rfl
 | succ c =>
  dsimp only
  rw [if_neg (by omega)]
set_option maxHeartbeats 4000000 in
theorem ragg_bad (b:Nat) (fn:Int) (av:ByteArray) (of:Pr.Ex) (body:List Pr.Li) (oa ba:Option Addr) (oc bc n:Nat) (w:World) (h:fn<1\/4<fn\/b=0\/body.length=0) :
  Calls Tryz.prog 127 #[.agg (agVP fn av of (.slice oa of.args.length oc) (.slice ba body.length bc)),.int .i64 (b:Int)] w (TxR (pG b fn av of body) n w):=by
 rw [pG_bad h]
 have hm0:=((Mod.refl [] w).alloc (Obj.cells (agVP fn av of (.slice oa of.args.length oc) (.slice ba body.length bc)) 45)).alloc (Obj.cells #[.string ⟨#[]⟩,.bool false] 92)
 have e0:=two_a w (agVP fn av of (.slice oa of.args.length oc) (.slice ba body.length bc)) #[.string ⟨#[]⟩,.bool false] 45 92
 have e1:=two_b w (agVP fn av of (.slice oa of.args.length oc) (.slice ba body.length bc)) #[.string ⟨#[]⟩,.bool false] 45 92
 have hl:((body.length:Int) == 0)=decide (body.length=0):=by rw [Bool.eq_iff_iff,beq_iff_eq,decide_eq_true_eq];omega
 unfold agVP at *
 go_enter Tryz.func127,Tryz.ntmps127
 go_upto_region 1 with fail
 generalize (w.alloc (Obj.cells _ 45)).alloc (Obj.cells _ 92)=w0 at *
 have M0:=Lib.hid hm0;have E0:=Lib.hid e0;have E1:=Lib.hid e1
 clear hm0 e0 e1
 have x0:=cell_at E0.out 0;have x9:=cell_at E0.out 9;have b0:=cell_at E1.out 0;have b1:=cell_at E1.out 1
 simp only [List.getElem?_toArray,List.getElem?_cons_zero,List.getElem?_cons_succ] at x0 x9 b0 b1
 have fA:∀ j,w0.frozen? ⟨w.heap.size+1,j,none⟩=false:=fun j=>free_at E1.out j
 have HEND:Hid (TxR none n w (.returned (.agg #[.string ⟨#[]⟩,.bool true])) (setCs w0 (w.heap.size+1) 0 [.string ⟨#[]⟩,.bool true])):=Lib.hid ⟨_,rfl,⟨⟨#[]⟩,true,rfl,Nat.zero_le _,fun t ht=>(nomatch ht),fun _=>rfl⟩,M0.out.trans (setCs_mod (w.heap.size+1) [.string ⟨#[]⟩,.bool true] 0 w0) (fun t ht=>.inr (by rw [Msq] at ht;omega))⟩
 have hcase:fn<1\/(¬ fn<1/\4<fn)\/(¬ fn<1/\¬ 4<fn/\(b:Int)<1)\/(¬ fn<1/\¬ 4<fn/\¬ (b:Int)<1/\body.length=0):=by omega
 clear h
 rcases hcase with h1 | ⟨h1,h2⟩ | ⟨h1,h2,h3⟩ | ⟨h1,h2,h3,h4⟩
 all_goals (
  go_wp2_with fail
  refine bodyPost_ret (results_cell_row rfl _ _ _ _ _ _ _ rfl (setCs_row (vs:=[.string ⟨#[]⟩,.bool true]) E1.out rfl) Tryz.underlying92 rfl (by kernel_rfl)) rfl HEND.out)
/-- variables and values -/
theorem pE_leaf (k:Nat) (e:Pr.Ex) (h:e.k=1\/e.k=2):Pr.pE (k+1) e=if e.op=0/\e.args.length=0 then plO e.k e.v e.x else none:=by
 unfold plO
 rcases h with h | h
 ·rw [Pr.pE_var _ _ h,if_pos h]
  by_cases h2:e.op=0/\e.args.length=0
  ·rw [if_pos h2]
   by_cases h1:Va.variable_ (Cod.str e.v)=true/\e.x=Va.zero
   ·rw [if_pos h1,if_pos ⟨h1.1,h1.2,h2.1,h2.2⟩]
   ·rw [if_neg h1,if_neg (fun g=>h1 ⟨g.1,g.2.1⟩)]
  ·rw [if_neg h2,if_neg (fun g=>h2 g.2.2)]
 ·have hk:e.k≠1:=by rw [h];decide
  rw [Pr.pE_val _ _ h,if_neg hk]
  by_cases h2:e.op=0/\e.args.length=0
  ·rw [if_pos h2]
   by_cases h1:e.v.size=0/\Va.may e.x=true
   ·rw [if_pos h1,if_pos ⟨h1.1,h2.1,h2.2,h1.2⟩]
   ·rw [if_neg h1,if_neg (fun g=>h1 ⟨g.1,g.2.2.2⟩)]
  ·rw [if_neg h2,if_neg (fun g=>h2 ⟨g.2.1,g.2.2.1⟩)]
set_option maxHeartbeats 2000000 in
theorem rexpr_leaf (k:Nat) (e:Pr.Ex) (u:Value) (d:Int) (w:World) (hk:e.k=1\/e.k=2) (hd:d=(k:Int) - 1) (hE:EOk w e u) (hG:GlobV w) (hw:exWt e<=140737488000000) :
  Calls Tryz.prog 125 #[.agg (exV e u),.int .i64 d] w (TxR (Pr.pE k e) (exWt e) w):=by
 obtain ⟨ua,uc,rfl⟩:=hE.lit
 have hsz:e.v.size+300<=exWt e:=by rw [exWt_eq];omega
 have hm0:=((Mod.refl [] w).alloc (Obj.cells (exV e (.slice ua e.args.length uc)) 38)).alloc (Obj.cells #[.string ⟨#[]⟩,.bool false] 92)
 have e0:=two_a w (exV e (.slice ua e.args.length uc)) #[.string ⟨#[]⟩,.bool false] 38 92
 have e1:=two_b w (exV e (.slice ua e.args.length uc)) #[.string ⟨#[]⟩,.bool false] 38 92
 have zA:((w.alloc (Obj.cells (exV e (.slice ua e.args.length uc)) 38)).alloc (Obj.cells #[.string ⟨#[]⟩,.bool false] 92)).heap.size=w.heap.size+2:=by simp
 have hx:=hE.ok
 have HP:Hid (∀ w,GlobV w->Calls Tryz.prog 92 #[.int .i64 e.k,.string e.v,.agg (valV e.x)] w (TxR (plO e.k e.v e.x) (e.v.size+300) w)):=Hxq (fun w hG=>rplain_any e.k e.v e.x hx (by omega) w hG)
 have HG:=Lib.hid hG
 have k2:(e.k == 1)=true\/(e.k == 1)=false/\(e.k == 2)=true:=by
  rcases hk with h | h
  ·exact .inl (by rw [h];rfl)
  ·exact .inr ⟨by rw [h];rfl,by rw [h];rfl⟩
 have HSP:Hid (Pr.pE k e=if 0<=d then (if e.op=0/\e.args.length=0 then plO e.k e.v e.x else none) else none):=Hxq (by
  cases k with
  | zero=>rw [if_neg (by omega)];rfl
  | succ k=>rw [if_pos (by omega)];exact pE_leaf k e hk)
 have hl:((e.args.length:Int) > 0) ↔ e.args.length≠0:=by omega
 have kB:(e.k == 1 || e.k == 2)=true:=by
  rcases hk with h | h <;> rw [h] <;> rfl
 have HK:=Lib.hid k2
 have HZ:=Lib.hid hsz
 clear hE hG hx hk k2 hd hsz
 unfold exV valV at *
 go_enter Tryz.func125,Tryz.ntmps125
 go_upto_region 1 with fail
 generalize (w.alloc (Obj.cells _ 38)).alloc (Obj.cells _ 92)=w0 at *
 have M0:=Lib.hid hm0;have E0:=Lib.hid e0;have E1:=Lib.hid e1;have ZA:=Lib.hid zA
 clear hm0 e0 e1 zA
 have x0:=cell_at E0.out 0;have x1:=cell_at E0.out 1;have x2:=cell_at E0.out 2;have x3:=cell_at E0.out 3;have x4:=cell_at E0.out 4;have x5:=cell_at E0.out 5;have x6:=cell_at E0.out 6
 simp only [List.getElem?_toArray,List.getElem?_cons_zero,List.getElem?_cons_succ] at x0 x1 x2 x3 x4 x5 x6
 have HC:=Hxq (HP.out w0 (HG.out.past M0.out (by simp)))
 rcases HK.out with hk1 | ⟨hk1,hk2⟩
 all_goals (
  go_wp2_with fail
  refine HC.out.mono ?_
  rintro e' w1 ⟨v,rfl,⟨s,b,rfl,hs,ht,hn⟩,m1⟩
  have mB:=(Mod.refl [] w1).alloc (Obj.cells #[.string s,.bool b] 92)
  have xB:=heap_alloc_new w1 (Obj.cells #[.string s,.bool b] 92)
  have E1:=Hxq (mB.at (m1.at E1.out (by simp)) (by simp));have M1:=Hxq ((M0.out.trans m1 (by simp)).trans mB (by simp))
  have E0:=Hxq (mB.at (m1.at E0.out (by simp)) (by simp))
  have HTN:=Hxq (And.intro ht hn)
  clear m1 x0 x1 x2 x3 x4 x5 x6 HC ht hn mB
  go_upto_region 3 with fail
  generalize w1.alloc (Obj.cells _ 92)=w2 at *
  generalize w1.heap.size=p2 at *
  have c0:=cell_at xB 0;have c1:=cell_at xB 1;have b0:=cell_at E1.out 0;have b1:=cell_at E1.out 1;have x3:=cell_at E0.out 5;have x4:=cell_at E0.out 6
  simp only [List.getElem?_toArray,List.getElem?_cons_zero,List.getElem?_cons_succ] at c0 c1 b0 b1 x3 x4
  have fA:∀ j,w2.frozen? ⟨w.heap.size+1,j,none⟩=false:=fun j=>free_at E1.out j
  have hz1:=M0.out.size
  have hss:s.size<=exWt e:=by have:=HZ.out;omega
  have XB:=Lib.hid xB
  clear xB
  cases b
  case true =>
   go_wp2_with fail
   refine bodyPost_ret (results_cell_row rfl _ _ _ _ _ _ _ rfl (setCs_row (vs:=[.string s,.bool true]) E1.out rfl) Tryz.underlying92 rfl (by kernel_rfl)) rfl ⟨_,rfl,⟨s,true,rfl,by omega,fun t ht=>?_,fun hn=>?_⟩,M1.out.trans (setCs_mod (w.heap.size+1) [.string s,.bool true] 0 w2) (fun t ht=>.inr (by rw [Msq] at ht;omega))⟩
   ·rw [HSP.out] at ht
    split at ht
    ·split at ht
     ·cases (HTN.out.1 t ht).1
     ·cases ht
    ·cases ht
   ·rfl
  case false =>
   by_cases hd0:d<0
   ·go_wp2_with fail
    refine bodyPost_ret (results_cell_row rfl _ _ _ _ _ _ _ rfl (setCs_row (vs:=[.string s,.bool true]) E1.out rfl) Tryz.underlying92 rfl (by kernel_rfl)) rfl ⟨_,rfl,⟨s,true,rfl,by omega,fun t ht=>?_,fun hn=>?_⟩,M1.out.trans (setCs_mod (w.heap.size+1) [.string s,.bool true] 0 w2) (fun t ht=>.inr (by rw [Msq] at ht;omega))⟩
    ·rw [HSP.out,if_neg (by omega)] at ht;cases ht
    ·rfl
   ·by_cases ho:e.op=0
    ·have hoB:(e.op != 0)=false:=by rw [ho];rfl
     have HO:=Lib.hid ho
     clear ho
     go_wp2_with fail
     refine bodyPost_ret (results_cell_row rfl _ _ _ _ _ _ _ rfl (setCs_row (vs:=[.string s,.bool (decide (0<e.args.length))]) E1.out rfl) Tryz.underlying92 rfl (by kernel_rfl)) rfl ⟨_,rfl,⟨s,(decide (0<e.args.length)),rfl,by omega,fun t ht=>?_,fun hn=>?_⟩,M1.out.trans (setCs_mod (w.heap.size+1) [.string s,.bool (decide (0<e.args.length))] 0 w2) (fun t ht=>.inr (by rw [Msq] at ht;omega))⟩
     ·rw [HSP.out,if_pos (by omega)] at ht
      split at ht
      ·rename_i h
       exact ⟨decide_eq_false (by omega),(HTN.out.1 t ht).2⟩
      ·cases ht
     ·rw [HSP.out,if_pos (by omega)] at hn
      split at hn
      ·cases HTN.out.2 hn
      ·rename_i h
       exact decide_eq_true (Nat.pos_of_ne_zero (fun q=>h ⟨HO.out,q⟩))
    ·have hoB:(e.op != 0)=true:=by rw [bne_iff_ne];exact ho
     have HO:=Lib.hid ho
     clear ho
     go_wp2_with fail
     refine bodyPost_ret (results_cell_row rfl _ _ _ _ _ _ _ rfl (setCs_row (vs:=[.string s,.bool true]) E1.out rfl) Tryz.underlying92 rfl (by kernel_rfl)) rfl ⟨_,rfl,⟨s,true,rfl,by omega,fun t ht=>?_,fun hn=>?_⟩,M1.out.trans (setCs_mod (w.heap.size+1) [.string s,.bool true] 0 w2) (fun t ht=>.inr (by rw [Msq] at ht;omega))⟩
     ·rw [HSP.out,if_pos (by omega),if_neg (fun h=>HO.out h.1)] at ht;cases ht
     ·rfl)
/-- what is no expression -/
theorem pE_none (k:Nat) (e:Pr.Ex) (d:Int) (hd:d=(k:Int) - 1) (h1:e.k≠1) (h2:e.k≠2) (h:e.k≠4\/d<1\/e.v.size≠0\/e.x≠Va.zero\/e.op<1\/6<e.op):Pr.pE k e=none:=by
 cases k with
 | zero=>rfl
 | succ k =>
  by_cases h4:e.k=4
  ·rw [Pr.pE_op _ _ h4]
   by_cases hc:e.v.size=0/\e.x=Va.zero/\0<Pr.strength e.op
   ·rw [if_pos hc]
    cases k with
    | zero=>rfl
    | succ j =>
     exfalso
     have hs:=hc.2.2
     have:1<=e.op/\e.op<=6:=by
      unfold Pr.strength at hs
      split at hs
      ·omega
      ·split at hs
       ·omega
       ·split at hs
        ·omega
        ·omega
     rcases h with h | h | h | h | h | h
     ·exact h h4
     ·omega
     ·exact h hc.1
     ·exact h hc.2.1
     ·omega
     ·omega
   ·rw [if_neg hc]
  ·exact Pr.pE_other _ e h1 h2 h4
set_option maxHeartbeats 2000000 in
theorem rexpr_bad (k:Nat) (e:Pr.Ex) (u:Value) (d:Int) (w:World) (h1:e.k≠1) (h2:e.k≠2) (hd:d=(k:Int) - 1) (hE:EOk w e u) (h:e.k≠4\/d<1\/e.v.size≠0\/e.x≠Va.zero\/e.op<1\/6<e.op) :
  Calls Tryz.prog 125 #[.agg (exV e u),.int .i64 d] w (TxR (Pr.pE k e) (exWt e) w):=by
 obtain ⟨ua,uc,rfl⟩:=hE.lit
 have HSP:=Hxq (pE_none k e d hd h1 h2 h)
 have hm0:=((Mod.refl [] w).alloc (Obj.cells (exV e (.slice ua e.args.length uc)) 38)).alloc (Obj.cells #[.string ⟨#[]⟩,.bool false] 92)
 have e0:=two_a w (exV e (.slice ua e.args.length uc)) #[.string ⟨#[]⟩,.bool false] 38 92
 have e1:=two_b w (exV e (.slice ua e.args.length uc)) #[.string ⟨#[]⟩,.bool false] 38 92
 have zA:((w.alloc (Obj.cells (exV e (.slice ua e.args.length uc)) 38)).alloc (Obj.cells #[.string ⟨#[]⟩,.bool false] 92)).heap.size=w.heap.size+2:=by simp
 have k1B:(e.k == 1)=false:=by rw [beq_eq_false_iff_ne];exact h1
 have k2B:(e.k == 2)=false:=by rw [beq_eq_false_iff_ne];exact h2
 have hve:=fun W=>vne_run e.x W
 have hem:=toList_isEmpty e.v
 have hcases:(e.k != 4)=true\/(e.k != 4)=false/\(d<1\/¬ d<1/\(decide (e.v.size=0)=false\/decide (e.v.size=0)=true/\(decide (e.x=Va.zero)=false\/decide (e.x=Va.zero)=true/\(e.op<1\/¬ e.op<1/\6<e.op)))):=by
  by_cases g1:e.k=4
  ·refine .inr ⟨by rw [g1];rfl,?_⟩
   by_cases g2:d<1
   ·exact .inl g2
   ·refine .inr ⟨g2,?_⟩
    by_cases g3:e.v.size=0
    ·refine .inr ⟨decide_eq_true g3,?_⟩
     by_cases g4:e.x=Va.zero
     ·refine .inr ⟨decide_eq_true g4,?_⟩
      by_cases g5:e.op<1
      ·exact .inl g5
      ·refine .inr ⟨g5,?_⟩
       rcases h with h | h | h | h | h | h
       ·exact absurd g1 h
       ·exact absurd h g2
       ·exact absurd g3 h
       ·exact absurd g4 h
       ·exact absurd h g5
       ·exact h
     ·exact .inl (decide_eq_false g4)
    ·exact .inl (decide_eq_false g3)
  ·exact .inl (by rw [bne_iff_ne];exact g1)
 have HK:=Lib.hid hcases
 clear hE h h1 h2 hd hcases
 generalize decide (e.v.size=0)=bv at *
 generalize decide (e.x=Va.zero)=bx at *
 unfold exV at *
 go_enter Tryz.func125,Tryz.ntmps125
 go_upto_region 1 with fail
 generalize (w.alloc (Obj.cells _ 38)).alloc (Obj.cells _ 92)=w0 at *
 have M0:=Lib.hid hm0;have E0:=Lib.hid e0;have E1:=Lib.hid e1;have ZA:=Lib.hid zA
 clear hm0 e0 e1 zA
 have x0:=cell_at E0.out 0;have x1:=cell_at E0.out 1;have x2:=cell_at E0.out 2;have x3:=cell_at E0.out 3;have x4:=cell_at E0.out 4;have x5:=cell_at E0.out 5;have x6:=cell_at E0.out 6
 simp only [List.getElem?_toArray,List.getElem?_cons_zero,List.getElem?_cons_succ] at x0 x1 x2 x3 x4 x5 x6
 have b0:=cell_at E1.out 0;have b1:=cell_at E1.out 1
 simp only [List.getElem?_toArray,List.getElem?_cons_zero,List.getElem?_cons_succ] at b0 b1
 have fA:∀ j,w0.frozen? ⟨w.heap.size+1,j,none⟩=false:=fun j=>free_at E1.out j
 have hz1:=ZA.out
 rcases HK.out with hk | ⟨hk,hk | ⟨hk2,rfl | ⟨rfl,rfl | ⟨rfl,hk3 | ⟨hk3,hk4⟩⟩⟩⟩⟩
 all_goals (
  go_wp2_with fail
  refine bodyPost_ret (results_cell_row rfl _ _ _ _ _ _ _ rfl (setCs_row (vs:=[.string ⟨#[]⟩,.bool true]) E1.out rfl) Tryz.underlying92 rfl (by kernel_rfl)) rfl ⟨_,rfl,⟨⟨#[]⟩,true,rfl,Nat.zero_le _,fun t ht=>?_,fun hn=>?_⟩,M0.out.trans (setCs_mod (w.heap.size+1) [.string ⟨#[]⟩,.bool true] 0 w0) (fun t ht=>.inr (by rw [Msq] at ht;omega))⟩
  ·rw [HSP.out] at ht;cases ht
  ·rfl)
/-- an operation of one: how many there are -/
theorem pE_un (j:Nat) (e a:Pr.Ex) (hk4:e.k=4) (hv:e.v.size=0) (hx:e.x=Va.zero) (ho:e.op=6) (ha:e.args=[a]) :
  Pr.pE (j+2) e=(argO j (decide (rbinds a<3) || (decide (a.k=2) && (decide (a.x.k=1) && decide (0<a.x.n)))) a).map (fun t=>45 :: ((if a.k=2/\a.x.k=1/\a.x.n=0 then [45] else [])++t)):=by
 rw [Pr.pE_op _ _ hk4,if_pos ⟨hv,hx,by rw [ho];decide⟩,Pr.pO,ha]
 simp only
 rw [if_pos ho]
 congr 1
 unfold argO wrapO
 by_cases hb:a.k=4/\Pr.strength a.op=0
 ·rw [pE_bad hb,pE_bad hb]
  split <;> split <;> rfl
 ·rw [rbinds_eq hb]
  by_cases h1:Pr.binds a<3\/(a.k=2/\a.x.k=1/\0<a.x.n)
  ·rw [if_pos h1,if_pos (by simpa using h1)]
  ·rw [if_neg h1,if_neg (by simpa using h1)]
theorem pE_args (j:Nat) (e:Pr.Ex) (hk4:e.k=4) (hv:e.v.size=0) (hx:e.x=Va.zero) (h:e.op=6/\e.args.length≠1\/1<=e.op/\e.op<=5/\e.args.length≠2):Pr.pE (j+2) e=none:=by
 have hs:0<Pr.strength e.op:=by
  unfold Pr.strength
  repeat' split
  all_goals omega
 rw [Pr.pE_op _ _ hk4,if_pos ⟨hv,hx,hs⟩,Pr.pO]
 split
 ·rename_i a ha
  rw [ha] at h
  split
  ·rename_i g
   rcases h with h | h
   ·exact absurd rfl h.2
   ·omega
  ·rfl
 ·rename_i a b ha
  rw [ha] at h
  split
  ·rfl
  ·rename_i g
   rcases h with h | h
   ·exact absurd h.1 g
   ·exact absurd rfl h.2.2
 ·rfl
set_option maxHeartbeats 2000000 in
/-- not as many as there should be -/
theorem rexpr_args (j:Nat) (e:Pr.Ex) (u:Value) (d:Int) (w:World) (hk4:e.k=4) (hd:d=(j:Int)+1) (hv:e.v.size=0) (hx:e.x=Va.zero) (hE:EOk w e u) (h:e.op=6/\e.args.length≠1\/1<=e.op/\e.op<=5/\e.args.length≠2) :
  Calls Tryz.prog 125 #[.agg (exV e u),.int .i64 d] w (TxR (Pr.pE (j+2) e) (exWt e) w):=by
 obtain ⟨ua,uc,rfl⟩:=hE.lit
 have HSP:=Hxq (pE_args j e hk4 hv hx h)
 have hm0:=((Mod.refl [] w).alloc (Obj.cells (exV e (.slice ua e.args.length uc)) 38)).alloc (Obj.cells #[.string ⟨#[]⟩,.bool false] 92)
 have e0:=two_a w (exV e (.slice ua e.args.length uc)) #[.string ⟨#[]⟩,.bool false] 38 92
 have e1:=two_b w (exV e (.slice ua e.args.length uc)) #[.string ⟨#[]⟩,.bool false] 38 92
 have zA:((w.alloc (Obj.cells (exV e (.slice ua e.args.length uc)) 38)).alloc (Obj.cells #[.string ⟨#[]⟩,.bool false] 92)).heap.size=w.heap.size+2:=by simp
 have k1B:(e.k == 1)=false:=by rw [hk4];rfl
 have k2B:(e.k == 2)=false:=by rw [hk4];rfl
 have k4B:(e.k != 4)=false:=by rw [hk4];rfl
 have hve:=fun W=>vne_run e.x W
 rw [decide_eq_true hx] at hve
 have hem:=toList_isEmpty e.v
 rw [decide_eq_true hv] at hem
 have hd1:¬ d<1:=by omega
 have hcases:(e.op == 6)=true/\¬ e.op<1/\¬ 6<e.op/\((e.args.length:Int) != 1)=true\/(e.op == 6)=false/\¬ e.op<1/\¬ 6<e.op/\((e.args.length:Int) != 2)=true:=by
  rcases h with ⟨h1,h2⟩ | ⟨h1,h2,h3⟩
  ·exact .inl ⟨by rw [h1];rfl,by omega,by omega,by rw [bne_iff_ne];omega⟩
  ·exact .inr ⟨by rw [beq_eq_false_iff_ne];omega,by omega,by omega,by rw [bne_iff_ne];omega⟩
 have HK:=Lib.hid hcases
 clear hE h hk4 hd hv hx hcases
 unfold exV at *
 go_enter Tryz.func125,Tryz.ntmps125
 go_upto_region 1 with fail
 generalize (w.alloc (Obj.cells _ 38)).alloc (Obj.cells _ 92)=w0 at *
 have M0:=Lib.hid hm0;have E0:=Lib.hid e0;have E1:=Lib.hid e1;have ZA:=Lib.hid zA
 clear hm0 e0 e1 zA
 have x0:=cell_at E0.out 0;have x1:=cell_at E0.out 1;have x2:=cell_at E0.out 2;have x3:=cell_at E0.out 3;have x4:=cell_at E0.out 4;have x5:=cell_at E0.out 5;have x6:=cell_at E0.out 6
 simp only [List.getElem?_toArray,List.getElem?_cons_zero,List.getElem?_cons_succ] at x0 x1 x2 x3 x4 x5 x6
 have b0:=cell_at E1.out 0;have b1:=cell_at E1.out 1
 simp only [List.getElem?_toArray,List.getElem?_cons_zero,List.getElem?_cons_succ] at b0 b1
 have fA:∀ j,w0.frozen? ⟨w.heap.size+1,j,none⟩=false:=fun j=>free_at E1.out j
 have hz1:=ZA.out
 rcases HK.out with ⟨h1,h2,h3,h4⟩ | ⟨h1,h2,h3,h4⟩
 all_goals (
  go_wp2_with fail
  refine bodyPost_ret (results_cell_row rfl _ _ _ _ _ _ _ rfl (setCs_row (vs:=[.string ⟨#[]⟩,.bool true]) E1.out rfl) Tryz.underlying92 rfl (by kernel_rfl)) rfl ⟨_,rfl,⟨⟨#[]⟩,true,rfl,Nat.zero_le _,fun t ht=>?_,fun hn=>?_⟩,M0.out.trans (setCs_mod (w.heap.size+1) [.string ⟨#[]⟩,.bool true] 0 w0) (fun t ht=>.inr (by rw [Msq] at ht;omega))⟩
  ·rw [HSP.out] at ht;cases ht
  ·rfl)
end Go.Proofs.YtohnmnfhmbmoaaaGreatDoor
