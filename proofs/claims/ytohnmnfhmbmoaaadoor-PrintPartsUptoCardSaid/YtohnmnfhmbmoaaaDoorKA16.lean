/- THE TEXTS MERGED: P5Rule P5Small P5Agg Tail P5Expr. -/
import Derived.Test.YtohnmnfhmbmoaaaDoorKA15
import Derived.Deep.RegionHeld
namespace Go.Proofs.YtohnmnfhmbmoaaaDoor
open Go.RowKit
set_option linter.unusedVariables false
set_option linter.unusedSimpArgs false
set_option maxRecDepth 100000
set_option maxHeartbeats 4000000 in
theorem rrule_any (HB0:R5B 16) (r:Pr.Rul) (tu bu:Value) (w:World) (hT:TOk w r.head.terms tu) (hB:BOk w r.body bu) (hG:GlobV w) (hlen:2 * rWt r<=140737488000000) :
  Calls Tryd.prog 28 #[.agg #[.string r.head.rel,tu,bu,.int .i64 r.line,.int .i64 r.col]] w (TxR (Pr.pR r) (2 * rWt r) w):=by
 obtain ⟨⟨rel,ts⟩,body,ln,cl⟩:=r
 dsimp only at hT hB hlen ⊢
 obtain ⟨ta,tc,rfl⟩:=hT.lit
 obtain ⟨ba,bc,rfl⟩:=hB.lit
 have hW:rWt ⟨⟨rel,ts⟩,body,ln,cl⟩=aWt ⟨rel,ts⟩+lsWt body+10:=rfl
 have hpR:Pr.pR ⟨⟨rel,ts⟩,body,ln,cl⟩=match Pr.pA ⟨rel,ts⟩ with
  | none=>none
  | some h=>if body.length=0 then some h else (comO (Pr.pL 16) body).map (fun t=>h++([32,58,45,32]++t)):=rfl
 rw [hW] at hlen ⊢
 generalize Pr.pR ⟨⟨rel,ts⟩,body,ln,cl⟩=o at *
 have HO:=Lib.hid hpR
 clear hW hpR
 have hm0:=((Mod.refl [] w).alloc (Obj.cells #[.string rel,.slice ta ts.length tc,.slice ba body.length bc,.int .i64 ln,.int .i64 cl] 29)).alloc (Obj.cells #[.string ⟨#[]⟩,.bool false] 79)
 have e0:=two_a w #[.string rel,.slice ta ts.length tc,.slice ba body.length bc,.int .i64 ln,.int .i64 cl] #[.string ⟨#[]⟩,.bool false] 29 79
 have e1:=two_b w #[.string rel,.slice ta ts.length tc,.slice ba body.length bc,.int .i64 ln,.int .i64 cl] #[.string ⟨#[]⟩,.bool false] 29 79
 have zA:((w.alloc (Obj.cells #[.string rel,.slice ta ts.length tc,.slice ba body.length bc,.int .i64 ln,.int .i64 cl] 29)).alloc (Obj.cells #[.string ⟨#[]⟩,.bool false] 79)).heap.size=w.heap.size+2:=by simp
 unfold R5B at HB0
 have HL:=Lib.hid HB0;have HT:=Lib.hid hT;have HB:=Lib.hid hB;have HG:=Lib.hid hG
 clear HB0 hT hB hG
 go_enter Tryd.func28,Tryd.ntmps28
 go_upto_region 1 with fail
 generalize (w.alloc (Obj.cells _ 29)).alloc (Obj.cells _ 79)=w0 at *
 have M0:=Lib.hid hm0;have E0:=Lib.hid e0;have E1:=Lib.hid e1;have ZA:=Lib.hid zA
 clear hm0 e0 e1 zA
 have HA:Hid (Calls Tryd.prog 30 #[.agg #[.string rel,.slice ta ts.length tc]] w0 (TxR (Pr.pA ⟨rel,ts⟩) (2 * aWt ⟨rel,ts⟩) w0)):=Hxq (ratom_any ⟨rel,ts⟩ _ w0 (HT.out.past M0.out) (HG.out.past M0.out (by simp)) (by omega))
 have x0:=cell_at E0.out 0;have x1:=cell_at E0.out 1;have x2:=cell_at E0.out 2
 simp only [List.getElem?_toArray,List.getElem?_cons_zero,List.getElem?_cons_succ] at x0 x1 x2
 go_wp2_with fail
 refine HA.out.mono ?_
 rintro e w1 ⟨v,rfl,⟨s,b,rfl,hs⟩,m1⟩
 have hsz:w.heap.size+2<=w1.heap.size:=by have:=m1.size;have:=ZA.out;omega
 have mU:=m1.trans ((Mod.refl [] w1).alloc (Obj.cells #[.string s,.bool b] 79)) (by simp)
 have xU:=heap_alloc_new w1 (Obj.cells #[.string s,.bool b] 79)
 go_upto_region 2 with fail
 have zU:(w1.alloc (Obj.cells #[.string s,.bool b] 79)).heap.size=w1.heap.size+1:=by simp
 generalize w1.alloc (Obj.cells _ 79)=w2 at *
 generalize w1.heap.size=pt at *
 have M2:=Hxq (M0.out.trans mU (by simp));have F0:=Hxq (mU.at E0.out (by simp));have F1:=Hxq (mU.at E1.out (by simp));have X2:=Lib.hid xU;have HS:Hid (TxS (Pr.pA ⟨rel,ts⟩) (2 * aWt ⟨rel,ts⟩) s b):=Lib.hid hs;have ZU:=Lib.hid zU
 clear mU xU m1 x0 x1 x2 HA hs zU
 have x2:=cell_at F0.out 2;have b0:=cell_at F1.out 0;have b1:=cell_at F1.out 1;have u0:=cell_at X2.out 0;have u1:=cell_at X2.out 1
 simp only [List.getElem?_toArray,List.getElem?_cons_zero,List.getElem?_cons_succ] at x2 b0 b1 u0 u1
 have fA:∀ j,w2.frozen? ⟨w.heap.size+1,j,none⟩=false:=fun j=>free_at F1.out j
 have HEND:Hid (TxS o (2 * (aWt ⟨rel,ts⟩+lsWt body+10)) s b->TxR o (2 * (aWt ⟨rel,ts⟩+lsWt body+10)) w (.returned (.agg #[.string s,.bool b])) (setCs w2 (w.heap.size+1) 0 [.string s,.bool b])) :=
  Hxq (fun ho=>⟨_,rfl,⟨s,b,rfl,ho⟩,M2.out.trans (setCs_mod (w.heap.size+1) [.string s,.bool b] 0 w2) (fun t ht=>.inr (by rw [Msq] at ht;omega))⟩)
 by_cases hn:body.length=0
 ·have hnB:((body.length:Int) == 0)=true:=by rw [beq_iff_eq];omega
  have HN:=Lib.hid hn
  clear hn
  go_wp2_with fail
  refine bodyPost_ret (results_cell_row rfl _ _ _ _ _ _ _ rfl (setCs_row (vs:=[.string s,.bool b]) F1.out rfl) Tryd.underlying79 rfl (by kernel_rfl)) rfl (HEND.out ?_)
  have hq:o=Pr.pA ⟨rel,ts⟩:=by
   rw [HO.out]
   cases Pr.pA ⟨rel,ts⟩ with
   | none=>rfl
   | some h=>exact if_pos HN.out
  rw [hq]
  exact ⟨Nat.le_trans HS.out.1 (by omega),HS.out.2⟩
 ·have hnB:((body.length:Int) == 0)=false:=by rw [beq_eq_false_iff_ne];omega
  have HN:=Lib.hid hn
  clear hn
  cases b
  ·clear HEND
   go_upto_region 4 with fail
   have HC:Hid (Calls Tryd.prog 44 #[.slice ba body.length bc,.int .i64 16] w2 (TxR (comO (Pr.pL 16) body) (2 * lsWt body) w2)):=Hxq (HL.out body _ w2 (HB.out.past M2.out) (HG.out.past M2.out (by simp)) (by omega))
   go_wp2_with fail
   refine HC.out.mono ?_
   rintro e' w3 ⟨v,rfl,⟨s3,b3,rfl,hs3⟩,m3⟩
   have hz3:=m3.size
   have zU:=ZU.out
   have mU:=m3.trans ((Mod.refl [] w3).alloc (Obj.cells #[.string s3,.bool b3] 79)) (by simp)
   have xU:=heap_alloc_new w3 (Obj.cells #[.string s3,.bool b3] 79)
   go_upto_region 5 with fail
   generalize w3.alloc (Obj.cells _ 79)=w4 at *
   generalize w3.heap.size=pt3 at *
   have M4:=Hxq (M2.out.trans mU (by simp));have G1:=Hxq (mU.at F1.out (by simp));have Y2:=Hxq (mU.at X2.out (by simp));have Y3:=Lib.hid xU;have HS3:Hid (TxS (comO (Pr.pL 16) body) (2 * lsWt body) s3 b3):=Lib.hid hs3
   have hss:=HS.out.1
   have hss3:=hs3.1
   clear mU xU m3 x2 b0 b1 u0 u1 fA HC hs3
   have b0:=cell_at G1.out 0;have b1:=cell_at G1.out 1;have u0:=cell_at Y2.out 0;have v0:=cell_at Y3.out 0;have v1:=cell_at Y3.out 1
   simp only [List.getElem?_toArray,List.getElem?_cons_zero,List.getElem?_cons_succ] at b0 b1 u0 v0 v1
   have fA:∀ j,w4.frozen? ⟨w.heap.size+1,j,none⟩=false:=fun j=>free_at G1.out j
   have h48:({ data:=#[32,58,45,32] }:ByteArray).size=4:=rfl
   go_wp2_with fail
   have HF:TxS o (2 * (aWt ⟨rel,ts⟩+lsWt body+10)) (s++{ data:=#[32,58,45,32] }++s3) b3:=by
    have h1:=((TxS.app (o1:=Pr.pA ⟨rel,ts⟩) HS.out (TxS.lit [32,58,45,32] { data:=#[32,58,45,32] } rfl)).app HS3.out).of (o':=o) (b':=b3) (by
     rw [HO.out]
     cases h:Pr.pA ⟨rel,ts⟩ with
     | none=>rfl
     | some x =>
      dsimp only
      rw [if_neg HN.out]
      cases comO (Pr.pL 16) body with
      | none=>rfl
      | some y=>simp) rfl
    exact h1.le (by show _+4+_<=_;omega)
   generalize s++{ data:=#[32,58,45,32] }++s3=s5 at *
   refine bodyPost_ret (results_cell_row rfl _ _ _ _ _ _ _ rfl (setCs_row (vs:=[.string s5,.bool b3]) G1.out rfl) Tryd.underlying79 rfl (by kernel_rfl)) rfl ⟨_,rfl,⟨s5,b3,rfl,HF⟩,M4.out.trans (setCs_mod (w.heap.size+1) [.string s5,.bool b3] 0 w4) (fun t ht=>.inr (by rw [Msq] at ht;omega))⟩
  ·go_wp2_with fail
   refine bodyPost_ret (results_cell_row rfl _ _ _ _ _ _ _ rfl (setCs_row (vs:=[.string s,.bool true]) F1.out rfl) Tryd.underlying79 rfl (by kernel_rfl)) rfl (HEND.out ?_)
   have h0:Pr.pA ⟨rel,ts⟩=none:=by
    cases h:Pr.pA ⟨rel,ts⟩ with
    | none=>rfl
    | some x=>have:=((HS.out).2.1 x h).1;cases this
   rw [h0] at HO
   rw [HO.out]
   exact ⟨Nat.le_trans HS.out.1 (by omega),fun t ht=>(nomatch ht),fun _=>rfl⟩
def noAtm (a:Pr.Atom):Bool:=decide (a.rel.size=0) && decide (a.terms.length=0)
theorem rnoAtom_any (a:Pr.Atom) (p:Option Addr) (c:Nat) (w:World):Calls Tryd.prog 45 #[.agg #[.string a.rel,.slice p a.terms.length c]] w fun e' w'=>e'=.returned (.bool (noAtm a))/\Mod [] w w':=by
 have hE:noAtm a=(decide (a.rel.size=0) && decide (a.terms.length=0)):=rfl
 have hem:=toList_isEmpty a.rel
 have hl:((a.terms.length:Int) == 0)=decide (a.terms.length=0):=by rw [Bool.eq_iff_iff,beq_iff_eq,decide_eq_true_eq];omega
 rw [hE]
 clear hE
 generalize decide (a.terms.length=0)=bl at *
 go_enter Tryd.func45,Tryd.ntmps45
 go_wp2_with fail
 all_goals go_ret
 all_goals exact ⟨ret_bool (by simp_all),(Mod.refl [] w).alloc _⟩
def noAg (fn:Int) (av:ByteArray) (of:Pr.Ex) (n:Nat):Bool:=decide (fn=0) && (decide (av.size=0) && (Pr.noExpr of && decide (n=0)))
set_option maxHeartbeats 1000000 in
theorem rnoAgg_any (fn:Int) (av:ByteArray) (of:Pr.Ex) (n:Nat) (a b:Option Addr) (c d:Nat) (w:World):Calls Tryd.prog 47 #[.agg (agVP fn av of (.slice a of.args.length c) (.slice b n d))] w fun e' w'=>e'=.returned (.bool (noAg fn av of n))/\Mod [] w w':=by
 have hE:noAg fn av of n=(decide (fn=0) && (decide (av.size=0) && (Pr.noExpr of && decide (n=0)))):=rfl
 have hem:=toList_isEmpty av
 have hl:((n:Int) == 0)=decide (n=0):=by rw [Bool.eq_iff_iff,beq_iff_eq,decide_eq_true_eq];omega
 have HC:=Hxq (fun w=>rnoExpr_any of a c w)
 have hm0:=(Mod.refl [] w).alloc (Obj.cells (agVP fn av of (.slice a of.args.length c) (.slice b n d)) 36)
 have e0:=heap_alloc_new w (Obj.cells (agVP fn av of (.slice a of.args.length c) (.slice b n d)) 36)
 rw [hE]
 clear hE
 generalize decide (n=0)=bl at *
 generalize Pr.noExpr of=be at *
 unfold agVP exV at *
 go_enter Tryd.func47,Tryd.ntmps47
 go_upto_region 1 with fail
 generalize w.alloc (Obj.cells _ 36)=w0 at *
 have M0:=Lib.hid hm0;have E0:=Lib.hid e0
 clear hm0 e0
 have x0:=cell_at E0.out 0;have x1:=cell_at E0.out 1;have x2:=cell_at E0.out 2;have x3:=cell_at E0.out 3;have x4:=cell_at E0.out 4;have x5:=cell_at E0.out 5;have x6:=cell_at E0.out 6;have x7:=cell_at E0.out 7;have x8:=cell_at E0.out 8
 simp only [List.getElem?_toArray,List.getElem?_cons_zero,List.getElem?_cons_succ] at x0 x1 x2 x3 x4 x5 x6 x7 x8
 go_wp2_with fail
 refine (HC.out w0).mono ?_
 rintro e w1 ⟨rfl,m1⟩
 have E1:=Hxq (m1.at E0.out (by simp));have M1:=Hxq (M0.out.trans m1 (by simp))
 clear m1 x0 x1 x2 x3 x4 x5 x6 x7 x8
 have x0:=cell_at E1.out 0;have x1:=cell_at E1.out 1;have x9:=cell_at E1.out 9
 simp only [List.getElem?_toArray,List.getElem?_cons_zero,List.getElem?_cons_succ] at x0 x1 x9
 cases be
 all_goals go_wp2_with fail
 all_goals go_ret
 all_goals exact ⟨ret_bool (by simp_all),M1.out⟩
theorem pG_bad {b:Nat} {fn:Int} {av:ByteArray} {of:Pr.Ex} {body:List Pr.Li} (h:fn<1\/4<fn\/b=0\/body.length=0):pG b fn av of body=none:=by
 unfold pG
 cases b with
 | zero=>rfl
 | succ c =>
  dsimp only
  rw [if_neg (by omega)]
set_option maxHeartbeats 4000000 in
theorem ragg_bad (b:Nat) (fn:Int) (av:ByteArray) (of:Pr.Ex) (body:List Pr.Li) (oa ba:Option Addr) (oc bc n:Nat) (w:World) (h:fn<1\/4<fn\/b=0\/body.length=0) :
  Calls Tryd.prog 49 #[.agg (agVP fn av of (.slice oa of.args.length oc) (.slice ba body.length bc)),.int .i64 (b:Int)] w (TxR (pG b fn av of body) n w):=by
 rw [pG_bad h]
 have hm0:=((Mod.refl [] w).alloc (Obj.cells (agVP fn av of (.slice oa of.args.length oc) (.slice ba body.length bc)) 36)).alloc (Obj.cells #[.string ⟨#[]⟩,.bool false] 79)
 have e0:=two_a w (agVP fn av of (.slice oa of.args.length oc) (.slice ba body.length bc)) #[.string ⟨#[]⟩,.bool false] 36 79
 have e1:=two_b w (agVP fn av of (.slice oa of.args.length oc) (.slice ba body.length bc)) #[.string ⟨#[]⟩,.bool false] 36 79
 have hl:((body.length:Int) == 0)=decide (body.length=0):=by rw [Bool.eq_iff_iff,beq_iff_eq,decide_eq_true_eq];omega
 unfold agVP at *
 go_enter Tryd.func49,Tryd.ntmps49
 go_upto_region 1 with fail
 generalize (w.alloc (Obj.cells _ 36)).alloc (Obj.cells _ 79)=w0 at *
 have M0:=Lib.hid hm0;have E0:=Lib.hid e0;have E1:=Lib.hid e1
 clear hm0 e0 e1
 have x0:=cell_at E0.out 0;have x9:=cell_at E0.out 9;have b0:=cell_at E1.out 0;have b1:=cell_at E1.out 1
 simp only [List.getElem?_toArray,List.getElem?_cons_zero,List.getElem?_cons_succ] at x0 x9 b0 b1
 have fA:∀ j,w0.frozen? ⟨w.heap.size+1,j,none⟩=false:=fun j=>free_at E1.out j
 have HEND:Hid (TxR none n w (.returned (.agg #[.string ⟨#[]⟩,.bool true])) (setCs w0 (w.heap.size+1) 0 [.string ⟨#[]⟩,.bool true])):=Lib.hid ⟨_,rfl,⟨⟨#[]⟩,true,rfl,Nat.zero_le _,fun t ht=>(nomatch ht),fun _=>rfl⟩,M0.out.trans (setCs_mod (w.heap.size+1) [.string ⟨#[]⟩,.bool true] 0 w0) (fun t ht=>.inr (by rw [Msq] at ht;omega))⟩
 have hcase:fn<1\/(¬ fn<1/\4<fn)\/(¬ fn<1/\¬ 4<fn/\(b:Int)<1)\/(¬ fn<1/\¬ 4<fn/\¬ (b:Int)<1/\body.length=0):=by omega
 clear h
 rcases hcase with h1 | ⟨h1,h2⟩ | ⟨h1,h2,h3⟩ | ⟨h1,h2,h3,h4⟩
 all_goals (
  go_wp2_with fail
  refine bodyPost_ret (results_cell_row rfl _ _ _ _ _ _ _ rfl (setCs_row (vs:=[.string ⟨#[]⟩,.bool true]) E1.out rfl) Tryd.underlying79 rfl (by kernel_rfl)) rfl HEND.out)
section
variable {P:Program} {ops:Array Oper} {Q:Exit->Act->World->Prop} {md:Region.Mode} {S:World->Prop} {T:List Nat}
/-- whatever order is picked; S holds behind each operation that is not of T -/
def TlAny (P:Program) (md:Region.Mode) (ops:Array Oper) (Q:Exit->Act->World->Prop) (S:World->Prop) (T:List Nat):Nat->Array Bool->Act->World->Prop
 | 0,done,a,w=>Region.ready md ops done=[]/\Q .normal a w
 | f+1,done,a,w=>(Region.ready md ops done=[]->Q .normal a w) /\
   ∀ i,i∈Region.ready md ops done->wpOp P ops Q i (fun b v=>(T.contains i=false->S v)/\TlAny P md ops Q S T f (done.setIfInBounds i true) b v) a w
theorem TlAny.any:∀ (f:Nat) (done:Array Bool) (a:Act) (w:World),TlAny P md ops Q S T f done a w->wpAny P md ops Q f done a w
 | 0,_,_,_,h=>h
 | f+1,_,_,_,h=>⟨h.1,fun i hi=>wpOp_mono (fun b v hb=>TlAny.any f _ b v hb.2) (h.2 i hi)⟩
/-- each operation of T that has not come up waits for number i -/
def tlWaits (md:Region.Mode) (ops:Array Oper) (T:List Nat) (done:Array Bool) (i:Nat):Bool :=
 T.all fun j=>done.getD j true || match ops[j]? with
  | some o=>o.after.any (fun e=>Region.binds md e && e.on == i)
  | none=>true
theorem TlAny.first {i:Nat} {oi:Oper} {v:Value} (hi:ops[i]?=some oi) (hs:Region.noSelect ops=true) (hit:T.contains i=false) (hQ:∀ c a w,Q (.panic c) (a.put oi.dst v) w->Q (.panic c) a w) :
  ∀ (f:Nat) (done:Array Bool) (a:Act) (w:World),
   (∀ j oj,ops[j]?=some oj->j≠i->done.getD j true=false->(∀ e∈oj.after,Region.binds md e=true->e.on≠i)->oi.apart ops oj=true/\T.contains j=false) ->
   i∈Region.ready md ops done->YieldsIf P ops S oi v a->S w->TlAny P md ops Q S T f (done.setIfInBounds i true) (a.put oi.dst v) w->TlAny P md ops Q S T (f+1) done a w:=by
 have hsel:=Region.noSelect_spec hs
 intro f
 induction f with
 | zero =>
  intro done a w _ hr hy hS H
  refine ⟨fun h0=>(by rw [h0] at hr;cases hr),fun j hj=>?_⟩
  rcases Nat.decEq j i with hne | rfl
  ·exact absurd (ready_mono hj hne) (by rw [H.1];exact List.not_mem_nil)
  ·exact hy.wpOp hi hS ⟨fun _=>hS,H⟩
 | succ f ih =>
  intro done a w hfree hr hy hS H
  refine ⟨fun h0=>(by rw [h0] at hr;cases hr),fun j hj=>?_⟩
  rcases Nat.decEq j i with hne | rfl
  ·obtain ⟨hjun,oj,hoj,hall⟩:=mem_ready.1 hj
   have hnot:∀ e∈oj.after,Region.binds md e=true->e.on≠i:=fun e he hb heq=>by
    have h1:=hall e he hb
    have h0:=(mem_ready.1 hr).1
    rw [heq] at h1
    rcases Nat.lt_or_ge i done.size with hlt | hge
    ·simp [hlt] at h0 h1;rw [h0] at h1;cases h1
    ·simp [Array.getElem?_eq_none hge] at h1
   obtain ⟨hap,hjt⟩:=hfree j oj hoj hne hjun hnot
   have h2:=wpOp_putIf hoj hap (fun cs b=>hsel i oi cs b hi) (fun cs b=>hsel j oj cs b hoj) hQ hy (H.2 j (ready_mono hj hne))
   refine wpOp_mono (fun b u h3=>⟨fun _=>h3.2.1 hjt,ih (done.setIfInBounds j true) b u ?_ (ready_mono hr (Ne.symm hne)) h3.1 (h3.2.1 hjt) ?_⟩) h2
   ·intro k ok hk hki hun hno
    refine hfree k ok hk hki ?_ hno
    rcases Nat.decEq j k with hjk | rfl
    ·rw [getD_set_ne true hjk] at hun;exact hun
    ·exact hjun
   ·rw [Array.setIfInBounds_comm _ _ hne]
    exact h3.2.2
  ·exact hy.wpOp hi hS ⟨fun _=>hS,H⟩
theorem TlAny.take (i:Nat) {oi:Oper} {v:Value} {f:Nat} {done:Array Bool} {a:Act} {w:World} (hS:S w) (hy:YieldsIf P ops S oi v a) (hQ:∀ c a w,Q (.panic c) (a.put oi.dst v) w->Q (.panic c) a w)
  (h:TlAny P md ops Q S T f (done.setIfInBounds i true) (a.put oi.dst v) w)
  (hi:ops[i]?=some oi:=by (simp only [List.getElem?_toArray,List.getElem?_cons_succ,List.getElem?_cons_zero]) <;> rfl)
  (hs:Region.noSelect ops=true:=by kernel_rfl) (hf:Region.free md ops done i=true:=by kernel_rfl) (hr:(Region.ready md ops done).contains i=true:=by kernel_rfl)
  (ht:tlWaits md ops T done i=true:=by kernel_rfl) (hit:T.contains i=false:=by kernel_rfl):TlAny P md ops Q S T (f+1) done a w:=by
 refine TlAny.first hi hs hit hQ f done a w (fun j oj hj hne hun hno=>⟨Region.free_spec hi hf j oj hj hne hun hno,?_⟩) (by simpa using hr) hy hS h
 cases hc:T.contains j with
 | false=>rfl
 | true =>
  have hm:=List.all_eq_true.1 ht j (by simpa using hc)
  simp only [hun,hj,Bool.false_or,Array.any_eq_true] at hm
  obtain ⟨k,hk,hb⟩:=hm
  simp only [Bool.and_eq_true,beq_iff_eq] at hb
  exact absurd hb.2 (hno _ (Array.getElem_mem hk) hb.1)
/-- one operation comes up next -/
theorem TlAny.one (i:Nat) {o:Oper} {f:Nat} {done:Array Bool} {a:Act} {w:World}
  (h:∀ K:Act->World->Prop,Shut (∀ a w,(T.contains i=false->S w)->TlAny P md ops Q S T f (done.setIfInBounds i true) a w->K a w)->if Region.wanted o (yielded ops a.tmps)=true then Oper.wp P o a w K Q else K (a.put o.dst undef) w)
  (hi:ops[i]?=some o:=by (simp only [List.getElem?_toArray,List.getElem?_cons_succ,List.getElem?_cons_zero]) <;> rfl)
  (hr:Region.ready md ops done=[i]:=by kernel_rfl):TlAny P md ops Q S T (f+1) done a w:=by
 refine ⟨fun h0=>absurd (hr ▸ h0) (by simp),fun j hj=>?_⟩
 rw [hr,Msq] at hj
 subst hj
 exact wpOp_step hi (fun K hK=>h K (fun a w h1 h2=>hK a w ⟨h1,h2⟩))
/-- one of two operations comes up next -/
theorem TlAny.two (i k:Nat) {o o2:Oper} {f:Nat} {done:Array Bool} {a:Act} {w:World}
  (h:∀ K:Act->World->Prop,Shut (∀ a w,(T.contains i=false->S w)->TlAny P md ops Q S T f (done.setIfInBounds i true) a w->K a w)->if Region.wanted o (yielded ops a.tmps)=true then Oper.wp P o a w K Q else K (a.put o.dst undef) w)
  (h2:∀ K:Act->World->Prop,Shut (∀ a w,(T.contains k=false->S w)->TlAny P md ops Q S T f (done.setIfInBounds k true) a w->K a w)->if Region.wanted o2 (yielded ops a.tmps)=true then Oper.wp P o2 a w K Q else K (a.put o2.dst undef) w)
  (hi:ops[i]?=some o:=by (simp only [List.getElem?_toArray,List.getElem?_cons_succ,List.getElem?_cons_zero]) <;> rfl)
  (hk:ops[k]?=some o2:=by (simp only [List.getElem?_toArray,List.getElem?_cons_succ,List.getElem?_cons_zero]) <;> rfl)
  (hr:Region.ready md ops done=[i,k]:=by kernel_rfl):TlAny P md ops Q S T (f+1) done a w:=by
 refine ⟨fun h0=>absurd (hr ▸ h0) (by simp),fun j hj=>?_⟩
 rw [hr,List.mem_cons,Msq] at hj
 rcases hj with rfl | rfl
 ·exact wpOp_step hi (fun K hK=>h K (fun a w h1 h2=>hK a w ⟨h1,h2⟩))
 ·exact wpOp_step hk (fun K hK=>h2 K (fun a w h1 h2=>hK a w ⟨h1,h2⟩))
theorem TlAny.fin {f:Nat} {done:Array Bool} {a:Act} {w:World} (h:Q .normal a w) (hr:Region.ready md ops done=[]:=by kernel_rfl):TlAny P md ops Q S T f done a w:=by
 cases f with
 | zero=>exact ⟨hr,h⟩
 | succ f=>exact ⟨fun _=>h,by rw [hr];simp⟩
/-- the beginning -/
theorem tl_region (S:World->Prop) (T:List Nat) {id:Nat} {a:Act} {w:World} (hm:P.follows .mixedOrders=true) (h:TlAny P .any ops Q S T ops.size (Array.replicate ops.size false) a w.drew):(Code.region id ops true).wp P Q a w :=
 wp_region_any hm (TlAny.any _ _ _ _ h)
end
open Go.RowKit
set_option linter.unusedVariables false
set_option linter.unusedSimpArgs false
set_option maxRecDepth 100000
/-- variables and values -/
theorem pE_leaf (k:Nat) (e:Pr.Ex) (h:e.k=1\/e.k=2):Pr.pE (k+1) e=if e.op=0/\e.args.length=0 then plO e.k e.v e.x else none:=by
 unfold plO
 rcases h with h | h
 ·rw [Pr.pE_var _ _ h,if_pos h]
  by_cases h2:e.op=0/\e.args.length=0
  ·rw [if_pos h2]
   by_cases h1:Va.variable_ (Cod.str e.v)=true/\e.x=Va.zero
   ·rw [if_pos h1,if_pos ⟨h1.1,h1.2,h2.1,h2.2⟩]
   ·rw [if_neg h1,if_neg (fun g=>h1 ⟨g.1,g.2.1⟩)]
  ·rw [if_neg h2,if_neg (fun g=>h2 g.2.2)]
 ·have hk:e.k≠1:=by rw [h];decide
  rw [Pr.pE_val _ _ h,if_neg hk]
  by_cases h2:e.op=0/\e.args.length=0
  ·rw [if_pos h2]
   by_cases h1:e.v.size=0/\Va.may e.x=true
   ·rw [if_pos h1,if_pos ⟨h1.1,h2.1,h2.2,h1.2⟩]
   ·rw [if_neg h1,if_neg (fun g=>h1 ⟨g.1,g.2.2.2⟩)]
  ·rw [if_neg h2,if_neg (fun g=>h2 ⟨g.2.1,g.2.2.1⟩)]
set_option maxHeartbeats 2000000 in
theorem rexpr_leaf (k:Nat) (e:Pr.Ex) (u:Value) (d:Int) (w:World) (hk:e.k=1\/e.k=2) (hd:d=(k:Int) - 1) (hE:EOk w e u) (hG:GlobV w) (hw:exWt e<=140737488000000) :
  Calls Tryd.prog 31 #[.agg (exV e u),.int .i64 d] w (TxR (Pr.pE k e) (exWt e) w):=by
 obtain ⟨ua,uc,rfl⟩:=hE.lit
 have hsz:e.v.size+300<=exWt e:=by rw [exWt_eq];omega
 have hm0:=((Mod.refl [] w).alloc (Obj.cells (exV e (.slice ua e.args.length uc)) 34)).alloc (Obj.cells #[.string ⟨#[]⟩,.bool false] 79)
 have e0:=two_a w (exV e (.slice ua e.args.length uc)) #[.string ⟨#[]⟩,.bool false] 34 79
 have e1:=two_b w (exV e (.slice ua e.args.length uc)) #[.string ⟨#[]⟩,.bool false] 34 79
 have zA:((w.alloc (Obj.cells (exV e (.slice ua e.args.length uc)) 34)).alloc (Obj.cells #[.string ⟨#[]⟩,.bool false] 79)).heap.size=w.heap.size+2:=by simp
 have hx:=hE.ok
 have HP:Hid (∀ w,GlobV w->Calls Tryd.prog 51 #[.int .i64 e.k,.string e.v,.agg (valV e.x)] w (TxR (plO e.k e.v e.x) (e.v.size+300) w)):=Hxq (fun w hG=>rplain_any e.k e.v e.x hx (by omega) w hG)
 have HG:=Lib.hid hG
 have k2:(e.k == 1)=true\/(e.k == 1)=false/\(e.k == 2)=true:=by
  rcases hk with h | h
  ·exact .inl (by rw [h];rfl)
  ·exact .inr ⟨by rw [h];rfl,by rw [h];rfl⟩
 have HSP:Hid (Pr.pE k e=if 0<=d then (if e.op=0/\e.args.length=0 then plO e.k e.v e.x else none) else none):=Hxq (by
  cases k with
  | zero=>rw [if_neg (by omega)];rfl
  | succ k=>rw [if_pos (by omega)];exact pE_leaf k e hk)
 have hl:((e.args.length:Int) > 0) ↔ e.args.length≠0:=by omega
 have kB:(e.k == 1 || e.k == 2)=true:=by
  rcases hk with h | h <;> rw [h] <;> rfl
 have HK:=Lib.hid k2
 have HZ:=Lib.hid hsz
 clear hE hG hx hk k2 hd hsz
 unfold exV valV at *
 go_enter Tryd.func31,Tryd.ntmps31
 go_upto_region 1 with fail
 generalize (w.alloc (Obj.cells _ 34)).alloc (Obj.cells _ 79)=w0 at *
 have M0:=Lib.hid hm0;have E0:=Lib.hid e0;have E1:=Lib.hid e1;have ZA:=Lib.hid zA
 clear hm0 e0 e1 zA
 have x0:=cell_at E0.out 0;have x1:=cell_at E0.out 1;have x2:=cell_at E0.out 2;have x3:=cell_at E0.out 3;have x4:=cell_at E0.out 4;have x5:=cell_at E0.out 5;have x6:=cell_at E0.out 6
 simp only [List.getElem?_toArray,List.getElem?_cons_zero,List.getElem?_cons_succ] at x0 x1 x2 x3 x4 x5 x6
 have HC:=Hxq (HP.out w0 (HG.out.past M0.out (by simp)))
 rcases HK.out with hk1 | ⟨hk1,hk2⟩
 all_goals (
  go_wp2_with fail
  refine HC.out.mono ?_
  rintro e' w1 ⟨v,rfl,⟨s,b,rfl,hs,ht,hn⟩,m1⟩
  have mB:=(Mod.refl [] w1).alloc (Obj.cells #[.string s,.bool b] 79)
  have xB:=heap_alloc_new w1 (Obj.cells #[.string s,.bool b] 79)
  have E1:=Hxq (mB.at (m1.at E1.out (by simp)) (by simp));have M1:=Hxq ((M0.out.trans m1 (by simp)).trans mB (by simp))
  have E0:=Hxq (mB.at (m1.at E0.out (by simp)) (by simp))
  have HTN:=Hxq (And.intro ht hn)
  clear m1 x0 x1 x2 x3 x4 x5 x6 HC ht hn mB
  go_upto_region 3 with fail
  generalize w1.alloc (Obj.cells _ 79)=w2 at *
  generalize w1.heap.size=p2 at *
  have c0:=cell_at xB 0;have c1:=cell_at xB 1;have b0:=cell_at E1.out 0;have b1:=cell_at E1.out 1;have x3:=cell_at E0.out 5;have x4:=cell_at E0.out 6
  simp only [List.getElem?_toArray,List.getElem?_cons_zero,List.getElem?_cons_succ] at c0 c1 b0 b1 x3 x4
  have fA:∀ j,w2.frozen? ⟨w.heap.size+1,j,none⟩=false:=fun j=>free_at E1.out j
  have hz1:=M0.out.size
  have hss:s.size<=exWt e:=by have:=HZ.out;omega
  have XB:=Lib.hid xB
  clear xB
  cases b
  case true =>
   go_wp2_with fail
   refine bodyPost_ret (results_cell_row rfl _ _ _ _ _ _ _ rfl (setCs_row (vs:=[.string s,.bool true]) E1.out rfl) Tryd.underlying79 rfl (by kernel_rfl)) rfl ⟨_,rfl,⟨s,true,rfl,by omega,fun t ht=>?_,fun hn=>?_⟩,M1.out.trans (setCs_mod (w.heap.size+1) [.string s,.bool true] 0 w2) (fun t ht=>.inr (by rw [Msq] at ht;omega))⟩
   ·rw [HSP.out] at ht
    split at ht
    ·split at ht
     ·cases (HTN.out.1 t ht).1
     ·cases ht
    ·cases ht
   ·rfl
  case false =>
   by_cases hd0:d<0
   ·go_wp2_with fail
    refine bodyPost_ret (results_cell_row rfl _ _ _ _ _ _ _ rfl (setCs_row (vs:=[.string s,.bool true]) E1.out rfl) Tryd.underlying79 rfl (by kernel_rfl)) rfl ⟨_,rfl,⟨s,true,rfl,by omega,fun t ht=>?_,fun hn=>?_⟩,M1.out.trans (setCs_mod (w.heap.size+1) [.string s,.bool true] 0 w2) (fun t ht=>.inr (by rw [Msq] at ht;omega))⟩
    ·rw [HSP.out,if_neg (by omega)] at ht;cases ht
    ·rfl
   ·by_cases ho:e.op=0
    ·have hoB:(e.op != 0)=false:=by rw [ho];rfl
     have HO:=Lib.hid ho
     clear ho
     go_wp2_with fail
     refine bodyPost_ret (results_cell_row rfl _ _ _ _ _ _ _ rfl (setCs_row (vs:=[.string s,.bool (decide (0<e.args.length))]) E1.out rfl) Tryd.underlying79 rfl (by kernel_rfl)) rfl ⟨_,rfl,⟨s,(decide (0<e.args.length)),rfl,by omega,fun t ht=>?_,fun hn=>?_⟩,M1.out.trans (setCs_mod (w.heap.size+1) [.string s,.bool (decide (0<e.args.length))] 0 w2) (fun t ht=>.inr (by rw [Msq] at ht;omega))⟩
     ·rw [HSP.out,if_pos (by omega)] at ht
      split at ht
      ·rename_i h
       exact ⟨decide_eq_false (by omega),(HTN.out.1 t ht).2⟩
      ·cases ht
     ·rw [HSP.out,if_pos (by omega)] at hn
      split at hn
      ·cases HTN.out.2 hn
      ·rename_i h
       exact decide_eq_true (Nat.pos_of_ne_zero (fun q=>h ⟨HO.out,q⟩))
    ·have hoB:(e.op != 0)=true:=by rw [bne_iff_ne];exact ho
     have HO:=Lib.hid ho
     clear ho
     go_wp2_with fail
     refine bodyPost_ret (results_cell_row rfl _ _ _ _ _ _ _ rfl (setCs_row (vs:=[.string s,.bool true]) E1.out rfl) Tryd.underlying79 rfl (by kernel_rfl)) rfl ⟨_,rfl,⟨s,true,rfl,by omega,fun t ht=>?_,fun hn=>?_⟩,M1.out.trans (setCs_mod (w.heap.size+1) [.string s,.bool true] 0 w2) (fun t ht=>.inr (by rw [Msq] at ht;omega))⟩
     ·rw [HSP.out,if_pos (by omega),if_neg (fun h=>HO.out h.1)] at ht;cases ht
     ·rfl)
/-- what is no expression -/
theorem pE_none (k:Nat) (e:Pr.Ex) (d:Int) (hd:d=(k:Int) - 1) (h1:e.k≠1) (h2:e.k≠2) (h:e.k≠4\/d<1\/e.v.size≠0\/e.x≠Va.zero\/e.op<1\/6<e.op):Pr.pE k e=none:=by
 cases k with
 | zero=>rfl
 | succ k =>
  by_cases h4:e.k=4
  ·rw [Pr.pE_op _ _ h4]
   by_cases hc:e.v.size=0/\e.x=Va.zero/\0<Pr.strength e.op
   ·rw [if_pos hc]
    cases k with
    | zero=>rfl
    | succ j =>
     exfalso
     have hs:=hc.2.2
     have:1<=e.op/\e.op<=6:=by
      unfold Pr.strength at hs
      split at hs
      ·omega
      ·split at hs
       ·omega
       ·split at hs
        ·omega
        ·omega
     rcases h with h | h | h | h | h | h
     ·exact h h4
     ·omega
     ·exact h hc.1
     ·exact h hc.2.1
     ·omega
     ·omega
   ·rw [if_neg hc]
  ·exact Pr.pE_other _ e h1 h2 h4
set_option maxHeartbeats 2000000 in
theorem rexpr_bad (k:Nat) (e:Pr.Ex) (u:Value) (d:Int) (w:World) (h1:e.k≠1) (h2:e.k≠2) (hd:d=(k:Int) - 1) (hE:EOk w e u) (h:e.k≠4\/d<1\/e.v.size≠0\/e.x≠Va.zero\/e.op<1\/6<e.op) :
  Calls Tryd.prog 31 #[.agg (exV e u),.int .i64 d] w (TxR (Pr.pE k e) (exWt e) w):=by
 obtain ⟨ua,uc,rfl⟩:=hE.lit
 have HSP:=Hxq (pE_none k e d hd h1 h2 h)
 have hm0:=((Mod.refl [] w).alloc (Obj.cells (exV e (.slice ua e.args.length uc)) 34)).alloc (Obj.cells #[.string ⟨#[]⟩,.bool false] 79)
 have e0:=two_a w (exV e (.slice ua e.args.length uc)) #[.string ⟨#[]⟩,.bool false] 34 79
 have e1:=two_b w (exV e (.slice ua e.args.length uc)) #[.string ⟨#[]⟩,.bool false] 34 79
 have zA:((w.alloc (Obj.cells (exV e (.slice ua e.args.length uc)) 34)).alloc (Obj.cells #[.string ⟨#[]⟩,.bool false] 79)).heap.size=w.heap.size+2:=by simp
 have k1B:(e.k == 1)=false:=by rw [beq_eq_false_iff_ne];exact h1
 have k2B:(e.k == 2)=false:=by rw [beq_eq_false_iff_ne];exact h2
 have hve:=fun W=>vne_run e.x W
 have hem:=toList_isEmpty e.v
 have hcases:(e.k != 4)=true\/(e.k != 4)=false/\(d<1\/¬ d<1/\(decide (e.v.size=0)=false\/decide (e.v.size=0)=true/\(decide (e.x=Va.zero)=false\/decide (e.x=Va.zero)=true/\(e.op<1\/¬ e.op<1/\6<e.op)))):=by
  by_cases g1:e.k=4
  ·refine .inr ⟨by rw [g1];rfl,?_⟩
   by_cases g2:d<1
   ·exact .inl g2
   ·refine .inr ⟨g2,?_⟩
    by_cases g3:e.v.size=0
    ·refine .inr ⟨decide_eq_true g3,?_⟩
     by_cases g4:e.x=Va.zero
     ·refine .inr ⟨decide_eq_true g4,?_⟩
      by_cases g5:e.op<1
      ·exact .inl g5
      ·refine .inr ⟨g5,?_⟩
       rcases h with h | h | h | h | h | h
       ·exact absurd g1 h
       ·exact absurd h g2
       ·exact absurd g3 h
       ·exact absurd g4 h
       ·exact absurd h g5
       ·exact h
     ·exact .inl (decide_eq_false g4)
    ·exact .inl (decide_eq_false g3)
  ·exact .inl (by rw [bne_iff_ne];exact g1)
 have HK:=Lib.hid hcases
 clear hE h h1 h2 hd hcases
 generalize decide (e.v.size=0)=bv at *
 generalize decide (e.x=Va.zero)=bx at *
 unfold exV at *
 go_enter Tryd.func31,Tryd.ntmps31
 go_upto_region 1 with fail
 generalize (w.alloc (Obj.cells _ 34)).alloc (Obj.cells _ 79)=w0 at *
 have M0:=Lib.hid hm0;have E0:=Lib.hid e0;have E1:=Lib.hid e1;have ZA:=Lib.hid zA
 clear hm0 e0 e1 zA
 have x0:=cell_at E0.out 0;have x1:=cell_at E0.out 1;have x2:=cell_at E0.out 2;have x3:=cell_at E0.out 3;have x4:=cell_at E0.out 4;have x5:=cell_at E0.out 5;have x6:=cell_at E0.out 6
 simp only [List.getElem?_toArray,List.getElem?_cons_zero,List.getElem?_cons_succ] at x0 x1 x2 x3 x4 x5 x6
 have b0:=cell_at E1.out 0;have b1:=cell_at E1.out 1
 simp only [List.getElem?_toArray,List.getElem?_cons_zero,List.getElem?_cons_succ] at b0 b1
 have fA:∀ j,w0.frozen? ⟨w.heap.size+1,j,none⟩=false:=fun j=>free_at E1.out j
 have hz1:=ZA.out
 rcases HK.out with hk | ⟨hk,hk | ⟨hk2,rfl | ⟨rfl,rfl | ⟨rfl,hk3 | ⟨hk3,hk4⟩⟩⟩⟩⟩
 all_goals (
  go_wp2_with fail
  refine bodyPost_ret (results_cell_row rfl _ _ _ _ _ _ _ rfl (setCs_row (vs:=[.string ⟨#[]⟩,.bool true]) E1.out rfl) Tryd.underlying79 rfl (by kernel_rfl)) rfl ⟨_,rfl,⟨⟨#[]⟩,true,rfl,Nat.zero_le _,fun t ht=>?_,fun hn=>?_⟩,M0.out.trans (setCs_mod (w.heap.size+1) [.string ⟨#[]⟩,.bool true] 0 w0) (fun t ht=>.inr (by rw [Msq] at ht;omega))⟩
  ·rw [HSP.out] at ht;cases ht
  ·rfl)
/-- an operation of one: how many there are -/
theorem pE_un (j:Nat) (e a:Pr.Ex) (hk4:e.k=4) (hv:e.v.size=0) (hx:e.x=Va.zero) (ho:e.op=6) (ha:e.args=[a]) :
  Pr.pE (j+2) e=(argO j (decide (rbinds a<3) || (decide (a.k=2) && (decide (a.x.k=1) && decide (0<a.x.n)))) a).map (fun t=>45 :: ((if a.k=2/\a.x.k=1/\a.x.n=0 then [45] else [])++t)):=by
 rw [Pr.pE_op _ _ hk4,if_pos ⟨hv,hx,by rw [ho];decide⟩,Pr.pO,ha]
 simp only
 rw [if_pos ho]
 congr 1
 unfold argO wrapO
 by_cases hb:a.k=4/\Pr.strength a.op=0
 ·rw [pE_bad hb,pE_bad hb]
  split <;> split <;> rfl
 ·rw [rbinds_eq hb]
  by_cases h1:Pr.binds a<3\/(a.k=2/\a.x.k=1/\0<a.x.n)
  ·rw [if_pos h1,if_pos (by simpa using h1)]
  ·rw [if_neg h1,if_neg (by simpa using h1)]
theorem pE_args (j:Nat) (e:Pr.Ex) (hk4:e.k=4) (hv:e.v.size=0) (hx:e.x=Va.zero) (h:e.op=6/\e.args.length≠1\/1<=e.op/\e.op<=5/\e.args.length≠2):Pr.pE (j+2) e=none:=by
 have hs:0<Pr.strength e.op:=by
  unfold Pr.strength
  repeat' split
  all_goals omega
 rw [Pr.pE_op _ _ hk4,if_pos ⟨hv,hx,hs⟩,Pr.pO]
 split
 ·rename_i a ha
  rw [ha] at h
  split
  ·rename_i g
   rcases h with h | h
   ·exact absurd rfl h.2
   ·omega
  ·rfl
 ·rename_i a b ha
  rw [ha] at h
  split
  ·rfl
  ·rename_i g
   rcases h with h | h
   ·exact absurd h.1 g
   ·exact absurd rfl h.2.2
 ·rfl
set_option maxHeartbeats 2000000 in
/-- not as many as there should be -/
theorem rexpr_args (j:Nat) (e:Pr.Ex) (u:Value) (d:Int) (w:World) (hk4:e.k=4) (hd:d=(j:Int)+1) (hv:e.v.size=0) (hx:e.x=Va.zero) (hE:EOk w e u) (h:e.op=6/\e.args.length≠1\/1<=e.op/\e.op<=5/\e.args.length≠2) :
  Calls Tryd.prog 31 #[.agg (exV e u),.int .i64 d] w (TxR (Pr.pE (j+2) e) (exWt e) w):=by
 obtain ⟨ua,uc,rfl⟩:=hE.lit
 have HSP:=Hxq (pE_args j e hk4 hv hx h)
 have hm0:=((Mod.refl [] w).alloc (Obj.cells (exV e (.slice ua e.args.length uc)) 34)).alloc (Obj.cells #[.string ⟨#[]⟩,.bool false] 79)
 have e0:=two_a w (exV e (.slice ua e.args.length uc)) #[.string ⟨#[]⟩,.bool false] 34 79
 have e1:=two_b w (exV e (.slice ua e.args.length uc)) #[.string ⟨#[]⟩,.bool false] 34 79
 have zA:((w.alloc (Obj.cells (exV e (.slice ua e.args.length uc)) 34)).alloc (Obj.cells #[.string ⟨#[]⟩,.bool false] 79)).heap.size=w.heap.size+2:=by simp
 have k1B:(e.k == 1)=false:=by rw [hk4];rfl
 have k2B:(e.k == 2)=false:=by rw [hk4];rfl
 have k4B:(e.k != 4)=false:=by rw [hk4];rfl
 have hve:=fun W=>vne_run e.x W
 rw [decide_eq_true hx] at hve
 have hem:=toList_isEmpty e.v
 rw [decide_eq_true hv] at hem
 have hd1:¬ d<1:=by omega
 have hcases:(e.op == 6)=true/\¬ e.op<1/\¬ 6<e.op/\((e.args.length:Int) != 1)=true\/(e.op == 6)=false/\¬ e.op<1/\¬ 6<e.op/\((e.args.length:Int) != 2)=true:=by
  rcases h with ⟨h1,h2⟩ | ⟨h1,h2,h3⟩
  ·exact .inl ⟨by rw [h1];rfl,by omega,by omega,by rw [bne_iff_ne];omega⟩
  ·exact .inr ⟨by rw [beq_eq_false_iff_ne];omega,by omega,by omega,by rw [bne_iff_ne];omega⟩
 have HK:=Lib.hid hcases
 clear hE h hk4 hd hv hx hcases
 unfold exV at *
 go_enter Tryd.func31,Tryd.ntmps31
 go_upto_region 1 with fail
 generalize (w.alloc (Obj.cells _ 34)).alloc (Obj.cells _ 79)=w0 at *
 have M0:=Lib.hid hm0;have E0:=Lib.hid e0;have E1:=Lib.hid e1;have ZA:=Lib.hid zA
 clear hm0 e0 e1 zA
 have x0:=cell_at E0.out 0;have x1:=cell_at E0.out 1;have x2:=cell_at E0.out 2;have x3:=cell_at E0.out 3;have x4:=cell_at E0.out 4;have x5:=cell_at E0.out 5;have x6:=cell_at E0.out 6
 simp only [List.getElem?_toArray,List.getElem?_cons_zero,List.getElem?_cons_succ] at x0 x1 x2 x3 x4 x5 x6
 have b0:=cell_at E1.out 0;have b1:=cell_at E1.out 1
 simp only [List.getElem?_toArray,List.getElem?_cons_zero,List.getElem?_cons_succ] at b0 b1
 have fA:∀ j,w0.frozen? ⟨w.heap.size+1,j,none⟩=false:=fun j=>free_at E1.out j
 have hz1:=ZA.out
 rcases HK.out with ⟨h1,h2,h3,h4⟩ | ⟨h1,h2,h3,h4⟩
 all_goals (
  go_wp2_with fail
  refine bodyPost_ret (results_cell_row rfl _ _ _ _ _ _ _ rfl (setCs_row (vs:=[.string ⟨#[]⟩,.bool true]) E1.out rfl) Tryd.underlying79 rfl (by kernel_rfl)) rfl ⟨_,rfl,⟨⟨#[]⟩,true,rfl,Nat.zero_le _,fun t ht=>?_,fun hn=>?_⟩,M0.out.trans (setCs_mod (w.heap.size+1) [.string ⟨#[]⟩,.bool true] 0 w0) (fun t ht=>.inr (by rw [Msq] at ht;omega))⟩
  ·rw [HSP.out] at ht;cases ht
  ·rfl)
end Go.Proofs.YtohnmnfhmbmoaaaDoor
