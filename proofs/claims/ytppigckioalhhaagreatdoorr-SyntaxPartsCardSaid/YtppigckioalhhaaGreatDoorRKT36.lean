/- THE TEXTS MERGED: SySize RpFactP RpFact SySame4. -/
import Derived.Test.YtppigckioalhhaaGreatDoorRKT1
import Derived.Test.YtppigckioalhhaaGreatDoorRKT25
import Derived.Test.YtppigckioalhhaaGreatDoorRKT7
import Derived.Test.YtppigckioalhhaaGreatDoorRKT26
import Derived.Test.YtppigckioalhhaaGreatDoorRKT35
import Derived.Test.YtppigckioalhhaaGreatDoorRKT21
import Derived.Test.YtppigckioalhhaaGreatDoorRKT28
namespace Go.Proofs.YtppigckioalhhaaGreatDoorR.Sy
open Pr (Ex Li Atom Rul Rel Prog)
set_option linter.unusedVariables false
theorem listF_len {α:Type} {v:Env} {fin:List Nat} {one:Nat->PR α}:∀ (k:Nat) (acc:List α) (i:Nat) (l:List α) (j:Nat),listF v fin one k acc i=.ok l j->l.length<=acc.length+k
 | 0,acc,i,l,j,h=>by cases h
 | k+1,acc,i,l,j,h=>by
  rw [listF] at h
  split at h
  ·obtain ⟨a,m,-,h2⟩:=bind_ok h
   have:=listF_len k _ _ l j h2
   simp at this
   omega
  ·obtain ⟨a,m,-,h2⟩:=bind_ok h
   cases h2
   omega
theorem list_len {α:Type} {v:Env} {fin:List Nat} {one:Nat->PR α} {i:Nat} {l:List α} {j:Nat} (h:list v fin one i=.ok l j):l.length<=v.ws.length+2:=by
 unfold list at h
 split at h
 ·cases h;simp
 ·obtain ⟨a,m,-,h2⟩:=bind_ok h
  have:=listF_len _ _ _ l j h2
  simp at this
  omega
theorem atom_len {v:Env} {i:Nat} {a:Atom} {j:Nat} (h:atom v i=.ok a j):a.terms.length<=v.ws.length+2:=by
 unfold atom at h
 obtain ⟨t,m,-,h⟩:=bind_ok h
 obtain ⟨_,m2,-,h⟩:=bind_ok h
 obtain ⟨l,m3,h1,h⟩:=bind_ok h
 cases h
 exact list_len h1
theorem chain_M {v:Env} {line:Nat} {sub:Nat->Nat->PR (Ex × Nat)} {above:Nat} (hs:∀ ab i r j,sub ab i=.ok r j->exM r.1<=2):∀ (n:Nat) (e:Ex) (d i:Nat) (r:Ex × Nat) (j:Nat),exM e<=2->chainF v line sub above n e d i=.ok r j->exM r.1<=2
 | 0,e,d,i,r,j,he,h=>by cases h
 | n+1,e,d,i,r,j,he,h=>by
  rw [chainF] at h
  split at h
  ·cases h;exact he
  ·split at h
   ·cases h
   ·obtain ⟨x,m,h1,h2⟩:=bind_ok h
    have:=hs _ _ _ _ h1
    exact chain_M hs n _ _ m r j (by simp [exM,exMs];omega) h2
theorem expr_M (v:Env):∀ (n line above i:Nat) (r:Ex × Nat) (j:Nat),exprF v n line above i=.ok r j->exM r.1<=2
 | 0,line,above,i,r,j,h=>by cases h
 | n+1,line,above,i,r,j,h=>by
  rw [exprF] at h
  split at h
  ·split at h
   ·cases h;simp [exM,exMs]
   ·split at h
    ·cases h;simp [exM,exMs]
    ·split at h
     ·split at h
      ·cases h
      ·obtain ⟨x,m,h1,h2⟩:=bind_ok h
       cases h2
       have:=expr_M v n _ _ _ _ _ h1
       simp [exM,exMs];omega
     ·split at h
      ·cases h
      ·obtain ⟨_,m,-,h⟩:=bind_ok h
       obtain ⟨x,m2,h1,h⟩:=bind_ok h
       obtain ⟨_,m3,-,h⟩:=bind_ok h
       cases h
       exact expr_M v n _ _ _ x _ h1
  ·obtain ⟨x,m,h1,h2⟩:=bind_ok h
   exact chain_M (fun ab i r j=>expr_M v n _ ab i r j) _ _ _ m r j (expr_M v n _ _ _ _ _ h1) h2
theorem expr_M1 {v:Env} {i:Nat} {e:Ex} {j:Nat} (h:expr v i=.ok e j):exM e<=2:=by
 unfold expr at h
 obtain ⟨x,m,h1,h2⟩:=bind_ok h
 cases h2
 exact expr_M v _ _ _ _ _ _ h1
theorem liMs_snoc (acc:List Li) (a:Li):liMs (acc++[a])=max (liMs acc) (liM a):=by
 induction acc with
 | nil=>simp [liMs]
 | cons x r ih=>simp only [List.cons_append,liMs,ih];omega
theorem body_M {v:Env} {one:Nat->PR Li} {B:Nat} (h1:∀ i a j,one i=.ok a j->liM a<=B):∀ (k:Nat) (acc:List Li) (i:Nat) (l:List Li) (j:Nat),liMs acc<=B->bodyF v one k acc i=.ok l j->liMs l<=B/\l.length<=acc.length+k
 | 0,acc,i,l,j,ha,h=>by cases h
 | k+1,acc,i,l,j,ha,h=>by
  rw [bodyF] at h
  split at h
  ·obtain ⟨a,m,h2,h3⟩:=bind_ok h
   have:=body_M h1 k _ _ l j (by rw [liMs_snoc];have:=h1 _ _ _ h2;omega) h3
   refine ⟨this.1,?_⟩
   have h4:=this.2
   simp at h4
   omega
  ·cases h
   exact ⟨ha,by omega⟩
theorem bodyOf_M {v:Env} {one:Nat->PR Li} {B:Nat} (h1:∀ i a j,one i=.ok a j->liM a<=B) {i:Nat} {l:List Li} {j:Nat} (h:bodyOf v one i=.ok l j):liMs l<=B/\l.length<=v.ws.length+2:=by
 unfold bodyOf at h
 obtain ⟨a,m,h2,h3⟩:=bind_ok h
 have:=body_M h1 _ _ _ l j (by simp only [liMs];have:=h1 _ _ _ h2;omega) h3
 refine ⟨this.1,?_⟩
 have h4:=this.2
 simp at h4
 omega
theorem lit_M (v:Env):∀ (k br i:Nat) (a:Li) (j:Nat),litF v k br i=.ok a j->liM a<=v.ws.length+2
 | 0,br,i,a,j,h=>by cases h
 | k+1,br,i,a,j,h=>by
  have e0:exM ex0=0:=by simp [ex0,exM,exMs]
  have a0:at0.terms.length=0:=rfl
  rw [litF] at h
  split at h
  ·obtain ⟨x,m,h1,h2⟩:=bind_ok h
   cases h2
   have:=atom_len h1
   simp [liM,liMs,e0];omega
  ·split at h
   ·obtain ⟨x,m,h1,h2⟩:=bind_ok h
    cases h2
    have:=atom_len h1
    simp [liM,liMs,e0];omega
   ·split at h
    ·obtain ⟨g,m,h1,h2⟩:=bind_ok h
     cases h2
     unfold aggOf at h1
     split at h1
     ·cases h1
     ·obtain ⟨_,m1,-,h1⟩:=bind_ok h1
      obtain ⟨o,m2,h3,h1⟩:=bind_ok h1
      obtain ⟨b,m3,h4,h1⟩:=bind_ok h1
      obtain ⟨_,m4,-,h1⟩:=bind_ok h1
      cases h1
      have hb:=bodyOf_M (lit_M v k (br+1)) h4
      have ho:exM o<=2:=by
       split at h3
       ·obtain ⟨e,m5,h5,h3⟩:=bind_ok h3
        obtain ⟨_,m6,-,h3⟩:=bind_ok h3
        cases h3
        exact expr_M1 h5
       ·cases h3;rw [e0];omega
      simp only [liM,e0,a0];omega
    ·obtain ⟨x,m,h1,h2⟩:=bind_ok h
     split at h2
     ·cases h2
     ·obtain ⟨y,m2,h3,h2⟩:=bind_ok h2
      cases h2
      have:=expr_M1 h1
      have:=expr_M1 h3
      simp [liM,liMs,e0,a0];omega
theorem rule_M {v:Env} {i:Nat} {r:Rul} {j:Nat} (h:rule v i=.ok r j):r.head.terms.length<=v.ws.length+2/\r.body.length<=v.ws.length+2/\liMs r.body<=v.ws.length+2:=by
 unfold rule at h
 obtain ⟨x,m,h1,h2⟩:=bind_ok h
 obtain ⟨b,m2,h3,h2⟩:=bind_ok h2
 cases h2
 refine ⟨atom_len h1,?_⟩
 split at h3
 ·have:=bodyOf_M (fun i a j=>lit_M v _ _ i a j) h3
  exact ⟨this.2,this.1⟩
 ·cases h3;simp [liMs]
set_option linter.unusedSimpArgs false
/-- a constant as a term -/
def tmOf (c:Va.Val):Pr.Term:=⟨2,txt [],c⟩
def PR.map {α β:Type} (g:α->β) (r:PR α):PR β:=r.bind fun a j=>.ok (g a) j
theorem listF_map {α β:Type} (g:α->β) (v:Env) (fin:List Nat) (one:Nat->PR α):∀ (k:Nat) (acc:List α) (i:Nat),
  listF v fin (fun i=>PR.map g (one i)) k (acc.map g) i=PR.map (List.map g) (listF v fin one k acc i)
 | 0,acc,i=>rfl
 | k+1,acc,i=>by
  rw [listF,listF]
  by_cases h:sign (v.tk i) [44]=true
  ·rw [if_pos h,if_pos h]
   cases h1:one (i+1) with
   | err f=>rfl
   | ok a j =>
    have:=listF_map g v fin one k (acc++[a]) j
    rw [List.map_append] at this
    exact this
  ·rw [if_neg h,if_neg h]
   cases must v fin i <;> rfl
theorem list_map {α β:Type} (g:α->β) (v:Env) (fin:List Nat) (one:Nat->PR α) (i:Nat) :
  list v fin (fun i=>PR.map g (one i)) i=PR.map (List.map g) (list v fin one i):=by
 unfold list
 by_cases h:sign (v.tk i) fin=true
 ·rw [if_pos h,if_pos h];rfl
 ·rw [if_neg h,if_neg h]
  show (PR.map g (one i)).bind _=_
  generalize one i=q
  cases q with
  | err f=>rfl
  | ok a j=>exact listF_map g v fin one (v.ws.length+1) [a] j
theorem termB_map (v:Env):termB true v=fun i=>PR.map tmOf (value v i):=by
 funext i
 unfold termB
 rw [if_neg (by simp),if_neg (by simp)]
 rfl
/-- a fact of an atom of constants -/
theorem fact_atom (v:Env) (i:Nat):atomB true v i=PR.map (fun f:ByteArray × List Va.Val=>(⟨f.1,f.2.map tmOf⟩:Pr.Atom)) (fact v i):=by
 unfold atomB fact
 rw [termB_map]
 cases name v i with
 | err f=>rfl
 | ok t j =>
  show (must v [40] j).bind _=PR.map _ ((must v [40] j).bind _)
  cases must v [40] j with
  | err f=>rfl
  | ok u k =>
   show (list v [41] (fun i=>PR.map tmOf (value v i)) k).bind _=PR.map _ ((list v [41] (value v) k).bind _)
   rw [list_map]
   cases list v [41] (value v) k <;> rfl
theorem fact_len {v:Env} {i:Nat} {a:ByteArray × List Va.Val} {j:Nat} (h:fact v i=.ok a j):a.2.length<=v.ws.length+2:=by
 unfold fact at h
 obtain ⟨t,m,-,h⟩:=bind_ok h
 obtain ⟨_,m2,-,h⟩:=bind_ok h
 obtain ⟨l,m3,h1,h⟩:=bind_ok h
 cases h
 exact list_len h1
end Go.Proofs.YtppigckioalhhaaGreatDoorR.Sy
namespace Go.Proofs.YtppigckioalhhaaGreatDoorR
open Go.RowKit
set_option linter.unusedVariables false
set_option linter.unusedSimpArgs false
set_option maxRecDepth 100000
def BVal (F:Nat->Prop) (w:World) (x:Va.Val):Prop:=True
theorem bearsVal:Bears 3 valV BVal:=⟨valV_size,fun _ _ _=>trivial,fun _ _=>trivial⟩
theorem build0_Fact (w:World):(Instr.build 64 #[]).run Tryz.prog w=.ok (.agg #[Value.string ⟨#[]⟩,Value.slice none 0 0]) w:=run_build w 64 _ _ (by kernel_rfl)
set_option maxHeartbeats 16000000 in
theorem rentFact_any (s:ByteArray) (hs:s.size<=140737488355328) (w:World) :
  Calls Tryz.prog 23 #[.string s] w (AllRes (Sy.whole (Sy.envOf (Cod.str s)) (Sy.fact (Sy.envOf (Cod.str s)))) (valF w.heap.size) (.agg #[Value.string ⟨#[]⟩,Value.slice none 0 0]) w):=by
 have m0:=((Mod.refl [] w).alloc (Obj.cells #[Value.string ⟨#[]⟩,Value.slice none 0 0] 64)).alloc (Obj.cells #[Value.int IntKind.i64 0,Value.int IntKind.i64 0,Value.int IntKind.i64 0] 31)
 have e0:=two_a w #[Value.string ⟨#[]⟩,Value.slice none 0 0] #[Value.int IntKind.i64 0,Value.int IntKind.i64 0,Value.int IntKind.i64 0] 64 31
 have e1:=two_b w #[Value.string ⟨#[]⟩,Value.slice none 0 0] #[Value.int IntKind.i64 0,Value.int IntKind.i64 0,Value.int IntKind.i64 0] 64 31
 have HBg:=Hxq (fun w=>rbegin_any s hs w)
 have hk:=envK s
 have HWh:=Hxq (nz_whole1 (v:=Sy.envOf (Cod.str s)) (one:=Sy.fact (Sy.envOf (Cod.str s))))
 have HAd:=Hxq (Sy.adv_fact (Sy.envOf (Cod.str s)) 0)
 have HLN:=Hxq (fun a j h=>Sy.fact_len (v:=Sy.envOf (Cod.str s)) (i:=0) (a:=a) (j:=j) h)
 generalize Sy.envOf (Cod.str s)=v at *
 have hv:=hk.ok
 have hlen:=hv.len
 go_enter Tryz.func23,Tryz.ntmps23
 go_upto_region 1 with fail
 have zA:((w.alloc (Obj.cells #[Value.string ⟨#[]⟩,Value.slice none 0 0] 64)).alloc (Obj.cells #[Value.int IntKind.i64 0,Value.int IntKind.i64 0,Value.int IntKind.i64 0] 31)).heap.size=w.heap.size+2:=by simp
 generalize (w.alloc (Obj.cells _ 64)).alloc (Obj.cells _ 31)=w0 at *
 have E0:=Lib.hid e0;have E1:=Lib.hid e1;have M0:=Lib.hid m0
 clear e0 e1 m0
 go_wp2_with fail
 refine (HBg.out w0).mono ?_
 rintro e1 w1 ⟨b,ra,rc,L,rfl,h1,hb0,hnw,h42,m1⟩
 have A1:=Hxq (m1.at E0.out (by simp));have B1:=Hxq (m1.at E1.out (by simp));have M1:=Hxq (M0.out.trans m1 (by simp));have H1:=Lib.hid h1
 have hz1:=m1.size
 have hnb:w.heap.size∉[b]:=by simp;omega
 have hnb1:w.heap.size+1∉[b]:=by simp;omega
 have HNW:=Lib.hid hnw
 have HC:=Hxq (ratom_any b ra rc L v true 0 w1 h1 hk (Nat.zero_le _))
 rw [Sy.fact_atom] at HC
 clear h1 m1 HBg hnw
 generalize Sy.whole v (Sy.fact v)=q at *
 generalize Sy.fact v 0=q1 at *
 cases q1 with
 | err g =>
  have hq:q=.err g:=HWh.out
  subst hq
  clear HWh HAd
  go_wp2_with fail
  refine HC.out.mono ?_
  rintro e2 w2 ⟨x2,rfl,hx2,⟨jj,h2⟩,m2⟩
  obtain ⟨C,rfl,hC,hO⟩:=badA_cells hx2
  have mD:=(Mod.refl [] w2).alloc (Obj.cells C 40)
  have A3:=Hxq (mD.at (m2.at A1.out hnb) (by have:=lt_of_block (m2.at A1.out hnb);simp));have B3:=Hxq (mD.at (m2.at B1.out hnb1) (by have:=lt_of_block (m2.at B1.out hnb1);simp));have H3:=Hxq (h2.past mD (by simp));have M3:=Hxq ((M1.out.trans (S:=[]) m2 (fun t ht=>by rw [Msq] at ht;exact .inr (by omega))).trans mD (by simp))
  have HSZ:=Hxq (size_of sizeA hC);have HO:=Lib.hid hO;have HOL:=Hxq (show (#[Value.string ⟨#[]⟩,Value.slice none 0 0]:Array Value).size=C.size by rw [hC];rfl)
  clear h2 m2 mD hx2 hC hO
  go_upto_region 3 with (refine wpList_store_new rfl 40 _ _ rfl w2 w2.heap.size C #[Value.string ⟨#[]⟩,Value.slice none 0 0] 40 rfl rfl rfl rfl HSZ.out HOL.out HO.out ?_)
  generalize w2.alloc (Obj.cells C 40)=w3 at *
  go_wp2_with fail
  refine (rwhole_false b ra rc L v jj g w3 H3.out).mono ?_
  rintro e4 w4 ⟨rfl,h4,m4⟩
  have A4:=Hxq (m4.at A3.out (by simp));have B4:=Hxq (m4.at B3.out (by simp));have H4:=Lib.hid h4;have M4:=Hxq (M3.out.trans m4 (by simp))
  clear h4 m4 A3 B3 H3 M3
  go_upto_region 4 with fail
  have Q7:=Hxq (show w4.cell? ⟨b,7,none⟩=some (.int .i64 (g.1:Nat)) from cell_at H4.out.at_ 7);have Q8:=Hxq (show w4.cell? ⟨b,8,none⟩=some (.int .i64 (g.2.1:Nat)) from cell_at H4.out.at_ 8);have Q9:=Hxq (show w4.cell? ⟨b,9,none⟩=some (.int .i64 (g.2.2:Nat)) from cell_at H4.out.at_ 9)
  refine wp_region_held_drew (S:=(fun w':World=>Mod [w.heap.size,w.heap.size+1] w4 w')) (by kernel_rfl) (by (try dsimp only);exact (Mod.refl [w.heap.size,w.heap.size+1] w4).drew) (fun hHeld=>?_)
  refine wpAnyH_take (i:=0) (oi:=?_) (v:=.agg #[Value.string ⟨#[]⟩,Value.slice none 0 0]) ?_ ?_ ?_ ?_ ?_ ?_ (by assumption) ?_
  rotate_left 1
  ·(simp only [Gq1,Gq2,Gq3])<;>rfl
  ·kernel_rfl
  ·kernel_rfl
  ·kernel_rfl
  rotate_left 1
  ·exact yieldsIf_built (by rfl) 64 rfl _ build0_Fact
  rotate_left 1
  ·exact fun _ _ _ h=>h
  try simp only [Act.put,Lq1,Lq2,Lq3]
  refine Tkq 1 (v:=?_) (by assumption) ?_ ?_ ?_
  rotate_left 1
  ·refine .inl ⟨by rfl,?_⟩;intro w hSw;have c7:=hSw.cell Q7.out (by simp;omega);have c8:=hSw.cell Q8.out (by simp;omega);have c9:=hSw.cell Q9.out (by simp;omega);clear hSw;go_simp
   all_goals with_reducible rfl
  ·exact fun _ _ _ h=>h
  try simp only [Act.put,Lq1,Lq2,Lq3]
  refine Tkq 2 (v:=?_) (by assumption) ?_ ?_ ?_
  rotate_left 1
  ·refine .inl ⟨by rfl,?_⟩;intro w hSw;have c7:=hSw.cell Q7.out (by simp;omega);have c8:=hSw.cell Q8.out (by simp;omega);have c9:=hSw.cell Q9.out (by simp;omega);clear hSw;go_simp
   all_goals with_reducible rfl
  ·exact fun _ _ _ h=>h
  try simp only [Act.put,Lq1,Lq2,Lq3]
  refine Tkq 3 (v:=?_) (by assumption) ?_ ?_ ?_
  rotate_left 1
  ·refine .inl ⟨by rfl,?_⟩;intro w hSw;have c7:=hSw.cell Q7.out (by simp;omega);have c8:=hSw.cell Q8.out (by simp;omega);have c9:=hSw.cell Q9.out (by simp;omega);clear hSw;go_simp
   all_goals with_reducible rfl
  ·exact fun _ _ _ h=>h
  try simp only [Act.put,Lq1,Lq2,Lq3]
  refine Tkq 4 (v:=?_) (by assumption) ?_ ?_ ?_
  rotate_left 1
  ·refine .inl ⟨by rfl,?_⟩;intro w hSw;have c7:=hSw.cell Q7.out (by simp;omega);have c8:=hSw.cell Q8.out (by simp;omega);have c9:=hSw.cell Q9.out (by simp;omega);clear hSw;go_simp
   all_goals with_reducible rfl
  ·exact fun _ _ _ h=>h
  try simp only [Act.put,Lq1,Lq2,Lq3]
  have mR:=Mod.setRow w4.drew w.heap.size #[Value.string ⟨#[]⟩,Value.slice none 0 0]
  have mR2:=Mod.setRow (w4.drew.setRow w.heap.size #[Value.string ⟨#[]⟩,Value.slice none 0 0]) (w.heap.size+1) #[.int .i64 (g.1:Nat),.int .i64 (g.2.1:Nat),.int .i64 (g.2.2:Nat)]
  have N5:=Hxq ((Mod.refl [w.heap.size,w.heap.size+1] w4).drew.trans (mR.mono (T:=[w.heap.size,w.heap.size+1]) (by simp)) (by simp))
  have N6:=Hxq (N5.out.trans (mR2.mono (T:=[w.heap.size,w.heap.size+1]) (by simp)) (by simp))
  refine wpAnyH_ready (rs:=[5]) (by kernel_rfl) (by simp) ?_
  refine AllReadyH.cons (o:=?_) ?_ ?_ AllReadyH.nil
  rotate_left 1
  ·(simp only [Gq1,Gq2,Gq3])<;>rfl
  intro K hK
  refine (if_pos (by rfl)).mpr ?_
  refine wp_store_row 64 _ _ rfl w.heap.size #[Value.string ⟨#[]⟩,Value.slice none 0 0] rfl rfl 64 _ (drew_cells A4.out) sizeF rfl (by rw [<-Array.all_toList];rfl) ?_
  refine hK.out _ _ (by (try dsimp only);exact N5.out) (fun hHeld=>?_)
  clear hK K
  try simp only [Act.put,Lq1,Lq2,Lq3]
  refine wpAnyH_ready (rs:=[6]) (by kernel_rfl) (by simp) ?_
  refine AllReadyH.cons (o:=?_) ?_ ?_ AllReadyH.nil
  rotate_left 1
  ·(simp only [Gq1,Gq2,Gq3])<;>rfl
  intro K hK
  refine (if_pos (by rfl)).mpr ?_
  refine wp_store_row 31 _ _ rfl (w.heap.size+1) #[.int .i64 (g.1:Nat),.int .i64 (g.2.1:Nat),.int .i64 (g.2.2:Nat)] rfl rfl 31 _ ((setRow_other w4.drew w.heap.size (w.heap.size+1) #[Value.string ⟨#[]⟩,Value.slice none 0 0] (by omega)).trans (drew_cells B4.out)) sizeFlt rfl (by rw [<-Array.all_toList];rfl) ?_
  refine hK.out _ _ (by (try dsimp only);exact N6.out) (fun hHeld=>?_)
  clear hK K
  try simp only [Act.put,Lq1,Lq2,Lq3]
  refine wpAnyH_done (by kernel_rfl) ?_ _
  have a6:=setRow_heap w4.drew w.heap.size _ #[Value.string ⟨#[]⟩,Value.slice none 0 0] 64 _ (drew_cells A4.out)
  have a7:=mR2.at a6 (by simp)
  have b7:=setRow_heap (w4.drew.setRow w.heap.size #[Value.string ⟨#[]⟩,Value.slice none 0 0]) (w.heap.size+1) _ #[.int .i64 (g.1:Nat),.int .i64 (g.2.1:Nat),.int .i64 (g.2.2:Nat)] 31 _ ((setRow_other w4.drew w.heap.size (w.heap.size+1) #[Value.string ⟨#[]⟩,Value.slice none 0 0] (by omega)).trans (drew_cells B4.out))
  go_wp2_with fail
  refine bodyPost_ret (res_pair rfl _ _ w.heap.size (w.heap.size+1) #[Value.string ⟨#[]⟩,Value.slice none 0 0] #[.int .i64 (g.1:Nat),.int .i64 (g.2.1:Nat),.int .i64 (g.2.2:Nat)] rfl rfl (run_loadVar_row (P:=Tryz.prog) _ _ _ _ _ _ _ a7 Tryz.underlying64 rfl sizeF) (run_loadVar_row (P:=Tryz.prog) _ _ _ _ _ _ _ b7 Tryz.underlying31 rfl sizeFlt)) rfl ⟨rfl,(M4.out.drew.trans mR (fun t ht=>?_)).trans mR2 (fun t ht=>?_)⟩
  ·rw [Msq] at ht;exact .inr (by omega)
  ·rw [Msq] at ht;exact .inr (by omega)
 | ok a i =>
  have hi:=(HAd.out a i (Nat.zero_le _) rfl).2
  have HQ:Hid (q=if i<v.ws.length\/v.last.1≠42 then .err (v.give 40 i) else .ok a i):=Lib.hid HWh.out
  clear HWh HAd
  go_wp2_with fail
  refine HC.out.mono ?_
  rintro e2 w2 ⟨x2,rfl,hval,h2,m2⟩
  obtain ⟨C,rfl⟩:∃ C,x2=.agg C:=by obtain ⟨u,rfl,-⟩:=hval;exact ⟨_,rfl⟩
  obtain ⟨hC,hO⟩:=valA_cells hval
  have mD:=(Mod.refl [] w2).alloc (Obj.cells C 40)
  have eD:=heap_alloc_new w2 (Obj.cells C 40)
  have A3:=Hxq (mD.at (m2.at A1.out hnb) (by have:=lt_of_block (m2.at A1.out hnb);simp));have B3:=Hxq (mD.at (m2.at B1.out hnb1) (by have:=lt_of_block (m2.at B1.out hnb1);simp));have H3:=Hxq (h2.past mD (by simp));have M3:=Hxq ((M1.out.trans (S:=[]) m2 (fun t ht=>by rw [Msq] at ht;exact .inr (by omega))).trans mD (by simp));have D3:=Lib.hid eD
  have V3:=Hxq (valA_keep (m:=w1.heap.size) hval mD (by simp) (Nat.le_refl _))
  have hz2:=m2.size
  have HSZ:=Hxq (size_of sizeA hC);have HO:=Lib.hid hO;have HOL:=Hxq (show (#[Value.string ⟨#[]⟩,Value.slice none 0 0]:Array Value).size=C.size by rw [hC];rfl)
  clear h2 m2 mD hval hC hO eD
  go_upto_region 3 with (refine wpList_store_new rfl 40 _ _ rfl w2 w2.heap.size C #[Value.string ⟨#[]⟩,Value.slice none 0 0] 40 rfl rfl rfl rfl HSZ.out HOL.out HO.out ?_)
  generalize w2.alloc (Obj.cells C 40)=w3 at *
  go_wp2_with fail
  refine (rwhole_any b ra rc L v i w3 H3.out hv (by omega) h42).mono ?_
  rintro e4 w4 ⟨m4,h4⟩
  by_cases hc:i<v.ws.length\/v.last.1≠42
  ·rw [if_pos hc] at h4
   obtain ⟨rfl,h4⟩:=h4
   obtain ⟨g,hg⟩:∃ g,v.give 40 i=g:=⟨_,rfl⟩
   have hq:q=.err g:=by rw [HQ.out,if_pos hc,hg]
   subst hq
   rw [hg] at h4
   have A4:=Hxq (m4.at A3.out hnb);have B4:=Hxq (m4.at B3.out hnb1);have H4:=Lib.hid h4;have M4:=Hxq (M3.out.trans (S:=[]) m4 (fun t ht=>by rw [Msq] at ht;exact .inr (by omega)))
   clear h4 m4 A3 B3 H3 M3 hg HQ hc
   go_upto_region 4 with fail
   have Q7:=Hxq (show w4.cell? ⟨b,7,none⟩=some (.int .i64 (g.1:Nat)) from cell_at H4.out.at_ 7);have Q8:=Hxq (show w4.cell? ⟨b,8,none⟩=some (.int .i64 (g.2.1:Nat)) from cell_at H4.out.at_ 8);have Q9:=Hxq (show w4.cell? ⟨b,9,none⟩=some (.int .i64 (g.2.2:Nat)) from cell_at H4.out.at_ 9)
   refine wp_region_held_drew (S:=(fun w':World=>Mod [w.heap.size,w.heap.size+1] w4 w')) (by kernel_rfl) (by (try dsimp only);exact (Mod.refl [w.heap.size,w.heap.size+1] w4).drew) (fun hHeld=>?_)
   refine wpAnyH_take (i:=0) (oi:=?_) (v:=.agg #[Value.string ⟨#[]⟩,Value.slice none 0 0]) ?_ ?_ ?_ ?_ ?_ ?_ (by assumption) ?_
   rotate_left 1
   ·(simp only [Gq1,Gq2,Gq3])<;>rfl
   ·kernel_rfl
   ·kernel_rfl
   ·kernel_rfl
   rotate_left 1
   ·exact yieldsIf_built (by rfl) 64 rfl _ build0_Fact
   rotate_left 1
   ·exact fun _ _ _ h=>h
   try simp only [Act.put,Lq1,Lq2,Lq3]
   refine Tkq 1 (v:=?_) (by assumption) ?_ ?_ ?_
   rotate_left 1
   ·refine .inl ⟨by rfl,?_⟩;intro w hSw;have c7:=hSw.cell Q7.out (by simp;omega);have c8:=hSw.cell Q8.out (by simp;omega);have c9:=hSw.cell Q9.out (by simp;omega);clear hSw;go_simp
    all_goals with_reducible rfl
   ·exact fun _ _ _ h=>h
   try simp only [Act.put,Lq1,Lq2,Lq3]
   refine Tkq 2 (v:=?_) (by assumption) ?_ ?_ ?_
   rotate_left 1
   ·refine .inl ⟨by rfl,?_⟩;intro w hSw;have c7:=hSw.cell Q7.out (by simp;omega);have c8:=hSw.cell Q8.out (by simp;omega);have c9:=hSw.cell Q9.out (by simp;omega);clear hSw;go_simp
    all_goals with_reducible rfl
   ·exact fun _ _ _ h=>h
   try simp only [Act.put,Lq1,Lq2,Lq3]
   refine Tkq 3 (v:=?_) (by assumption) ?_ ?_ ?_
   rotate_left 1
   ·refine .inl ⟨by rfl,?_⟩;intro w hSw;have c7:=hSw.cell Q7.out (by simp;omega);have c8:=hSw.cell Q8.out (by simp;omega);have c9:=hSw.cell Q9.out (by simp;omega);clear hSw;go_simp
    all_goals with_reducible rfl
   ·exact fun _ _ _ h=>h
   try simp only [Act.put,Lq1,Lq2,Lq3]
   refine Tkq 4 (v:=?_) (by assumption) ?_ ?_ ?_
   rotate_left 1
   ·refine .inl ⟨by rfl,?_⟩;intro w hSw;have c7:=hSw.cell Q7.out (by simp;omega);have c8:=hSw.cell Q8.out (by simp;omega);have c9:=hSw.cell Q9.out (by simp;omega);clear hSw;go_simp
    all_goals with_reducible rfl
   ·exact fun _ _ _ h=>h
   try simp only [Act.put,Lq1,Lq2,Lq3]
   have mR:=Mod.setRow w4.drew w.heap.size #[Value.string ⟨#[]⟩,Value.slice none 0 0]
   have mR2:=Mod.setRow (w4.drew.setRow w.heap.size #[Value.string ⟨#[]⟩,Value.slice none 0 0]) (w.heap.size+1) #[.int .i64 (g.1:Nat),.int .i64 (g.2.1:Nat),.int .i64 (g.2.2:Nat)]
   have N5:=Hxq ((Mod.refl [w.heap.size,w.heap.size+1] w4).drew.trans (mR.mono (T:=[w.heap.size,w.heap.size+1]) (by simp)) (by simp))
   have N6:=Hxq (N5.out.trans (mR2.mono (T:=[w.heap.size,w.heap.size+1]) (by simp)) (by simp))
   refine wpAnyH_ready (rs:=[5]) (by kernel_rfl) (by simp) ?_
   refine AllReadyH.cons (o:=?_) ?_ ?_ AllReadyH.nil
   rotate_left 1
   ·(simp only [Gq1,Gq2,Gq3])<;>rfl
   intro K hK
   refine (if_pos (by rfl)).mpr ?_
   refine wp_store_row 64 _ _ rfl w.heap.size #[Value.string ⟨#[]⟩,Value.slice none 0 0] rfl rfl 64 _ (drew_cells A4.out) sizeF rfl (by rw [<-Array.all_toList];rfl) ?_
   refine hK.out _ _ (by (try dsimp only);exact N5.out) (fun hHeld=>?_)
   clear hK K
   try simp only [Act.put,Lq1,Lq2,Lq3]
   refine wpAnyH_ready (rs:=[6]) (by kernel_rfl) (by simp) ?_
   refine AllReadyH.cons (o:=?_) ?_ ?_ AllReadyH.nil
   rotate_left 1
   ·(simp only [Gq1,Gq2,Gq3])<;>rfl
   intro K hK
   refine (if_pos (by rfl)).mpr ?_
   refine wp_store_row 31 _ _ rfl (w.heap.size+1) #[.int .i64 (g.1:Nat),.int .i64 (g.2.1:Nat),.int .i64 (g.2.2:Nat)] rfl rfl 31 _ ((setRow_other w4.drew w.heap.size (w.heap.size+1) #[Value.string ⟨#[]⟩,Value.slice none 0 0] (by omega)).trans (drew_cells B4.out)) sizeFlt rfl (by rw [<-Array.all_toList];rfl) ?_
   refine hK.out _ _ (by (try dsimp only);exact N6.out) (fun hHeld=>?_)
   clear hK K
   try simp only [Act.put,Lq1,Lq2,Lq3]
   refine wpAnyH_done (by kernel_rfl) ?_ _
   have a6:=setRow_heap w4.drew w.heap.size _ #[Value.string ⟨#[]⟩,Value.slice none 0 0] 64 _ (drew_cells A4.out)
   have a7:=mR2.at a6 (by simp)
   have b7:=setRow_heap (w4.drew.setRow w.heap.size #[Value.string ⟨#[]⟩,Value.slice none 0 0]) (w.heap.size+1) _ #[.int .i64 (g.1:Nat),.int .i64 (g.2.1:Nat),.int .i64 (g.2.2:Nat)] 31 _ ((setRow_other w4.drew w.heap.size (w.heap.size+1) #[Value.string ⟨#[]⟩,Value.slice none 0 0] (by omega)).trans (drew_cells B4.out))
   go_wp2_with fail
   refine bodyPost_ret (res_pair rfl _ _ w.heap.size (w.heap.size+1) #[Value.string ⟨#[]⟩,Value.slice none 0 0] #[.int .i64 (g.1:Nat),.int .i64 (g.2.1:Nat),.int .i64 (g.2.2:Nat)] rfl rfl (run_loadVar_row (P:=Tryz.prog) _ _ _ _ _ _ _ a7 Tryz.underlying64 rfl sizeF) (run_loadVar_row (P:=Tryz.prog) _ _ _ _ _ _ _ b7 Tryz.underlying31 rfl sizeFlt)) rfl ⟨rfl,(M4.out.drew.trans mR (fun t ht=>?_)).trans mR2 (fun t ht=>?_)⟩
   ·rw [Msq] at ht;exact .inr (by omega)
   ·rw [Msq] at ht;exact .inr (by omega)
  ·rw [if_neg hc] at h4
   obtain ⟨rfl,h4⟩:=h4
   have hq:q=.ok a i:=by rw [HQ.out,if_neg hc]
   subst hq
   have hDb:w2.heap.size∉[b]:=by have:=H3.out.lt;have hb2:=H1.out.lt;simp;omega
   have A4:=Hxq (m4.at A3.out hnb);have B4:=Hxq (m4.at B3.out hnb1);have M4:=Hxq (M3.out.trans (S:=[]) m4 (fun t ht=>by rw [Msq] at ht;exact .inr (by omega)));have D4:=Hxq (m4.at D3.out hDb)
   have V4:=Hxq (valA_keep (m:=w.heap.size+2) V3.out m4 (fun s hs=>by have:=H1.out.lt;rw [Msq] at hs;omega) (by omega))
   clear h4 m4 A3 B3 H3 M3 D3 HQ hc
   have hll:=HLN.out _ _ rfl
   obtain ⟨rel,l⟩:=a
   obtain ⟨u4,hC4,hR4⟩:=V4.out
   simp only [Value.agg.injEq] at hC4
   subst hC4
   obtain ⟨ua,ca,rfl⟩:=hR4.lit
   have HR4:=Lib.hid hR4
   have x0:=cell_at D4.out 0
   simp only [List.getElem?_toArray,List.getElem?_cons_zero,List.getElem?_cons_succ] at x0
   clear hR4 V4
   have mF:=(Mod.refl [] w4).alloc (Obj.cells #[.string rel,.slice none 0 0] 64)
   have eF:=heap_alloc_new w4 (Obj.cells #[.string rel,.slice none 0 0] 64)
   have zF:(w4.alloc (Obj.cells #[.string rel,.slice none 0 0] 64)).heap.size=w4.heap.size+1:=by simp
   go_upto_region 6 with fail
   generalize w4.alloc (Obj.cells _ 64)=w5 at *
   have A5:=Hxq (mF.at A4.out (by simp));have B5:=Hxq (mF.at B4.out (by simp));have D5:=Hxq (mF.at D4.out (by simp));have F5:=Lib.hid eF;have M5:=Hxq (M4.out.trans mF (by simp));have HR5:=Hxq ((HR4.out.mono (F':=fun k=>k<w4.heap.size) (fun k _ hk=>hk)).keep mF (by simp))
   have hzd:=lt_of_block D4.out
   have hza:=lt_of_block A4.out
   have hzb:=lt_of_block B4.out
   clear mF eF A4 B4 D4 M4 HR4 x0 V3 HC HSZ HO HOL HNW
   obtain ⟨i0,hinf,hy0,hy1,hy2⟩:=info_parts Tryz.infoVal
   go_wp2_with fail
   go_loopw [8] (fun iv wr=>∃ (acc rest:List Va.Val) (va:Option Addr) (vc:Nat),l=acc++rest/\iv=.int .i64 (acc.length:Nat)/\GI 42 3 valV BVal [w4.heap.size] w5 wr acc va vc/\wr.heap[w4.heap.size]?=some (.cells #[.string rel,.slice va acc.length vc] 64 (0,0))) (fun iv _=>l.length - (intOf iv).toNat)
   case atStart=>exact ⟨[],l,none,0,rfl,rfl,GI.nil (by simp;omega),F5.out⟩
   case round =>
    obtain ⟨acc,rest,va,vc,hl,rfl,hG,hF⟩:=hrel
    have hlen2:l.length=acc.length+rest.length:=by rw [hl];simp
    have HLL:=Lib.hid hl
    have G6:=Lib.hid hG;have F6:=Lib.hid hF
    have D6:=Hxq (hG.mod.at D5.out (by simp;omega));have A6:=Hxq (hG.mod.at A5.out (by simp;omega));have B6:=Hxq (hG.mod.at B5.out (by simp;omega));have M6:=Hxq (M5.out.trans hG.mod (fun t ht=>by rw [Msq] at ht;exact .inr (by omega)));have HR6:=Hxq (HR5.out.keep hG.mod (fun s hs=>by rw [Msq] at hs;omega))
    have hnF:=hG.new
    have hsW:=hG.mod.size
    clear hG hF hl A5 B5 D5 F5 M5 HR5
    have x1:=cell_at D6.out 1
    have x2:=cell_at F6.out 1
    simp only [List.getElem?_toArray,List.getElem?_cons_zero,List.getElem?_cons_succ,List.length_map] at x1 x2
    cases rest with
    | cons t rest =>
     have hlt:acc.length<l.length:=by rw [hlen2];simp
     clear hlen2
     obtain ⟨bg,og,rfl,hc⟩:=HR6.out.at acc.length (by rw [List.length_map];exact hlt)
     have hget:(l.map Sy.tmOf)[acc.length]'(by rw [List.length_map];exact hlt)=Sy.tmOf t:=by
      rw [List.getElem_map]
      congr 1
      have:=HLL.out
      subst this
      simp
     rw [hget] at hc
     have p2:=hc 2 (.int .i64 t.k) rfl;have p3:=hc 3 (.int .i64 t.n) rfl;have p4:=hc 4 (.string (Lx.ofS t.s)) rfl
     have hkI:(acc.length:Int)<(l.length:Int):=by omega
     have mB:=(Mod.refl [] wr).alloc (Obj.cells #[.int .i64 t.k,.int .i64 t.n,.string (Lx.ofS t.s)] 42)
     have mC:=mB.drew
     have hzF:=lt_of_block F6.out
     have hnb4:w4.heap.size∉fp (.slice va acc.length vc):=fun hk=>by have:=hnF _ hk;omega
     have FF:=Hxq (mC.at F6.out (by simp))
     have q1:=cell_at FF.out 1
     simp only [List.getElem?_toArray,List.getElem?_cons_zero,List.getElem?_cons_succ] at q1
     have HO3:=Hxq (G6.out.keep bearsVal (mC.mono (by simp)))
     have HS3:Hid (Src Tryz.prog 3 62 (.slice (some ⟨wr.heap.size,0,none⟩) 1 1) 1 (valV t).toList ((wr.alloc (Obj.cells #[.int .i64 t.k,.int .i64 t.n,.string (Lx.ofS t.s)] 42)).drew)):=Hxq (src_one (TS:=62) Tryz.underlying62 (drew_cells (heap_alloc_new wr (Obj.cells (valV t) 42))) rfl (valV_one t))
     have HNF:=Lib.hid hnF
     clear mB mC hc hget hnF
     have hi0:(0:Int)<=(acc.length:Int):=by omega
     go_wp2_with fail
     go_region_law (refine step_append_src _ rfl _ _ 62 62 rfl 42 i0 (.agg #[Value.int IntKind.i64 0,Value.int IntKind.i64 0,Value.string ⟨#[]⟩]) 3 32 Tryz.underlying62 hinf hy0 hy1 hy2 rfl (.slice va acc.length vc) acc.length (rowCells valV acc) rfl HO3.out.row _ 1 (valV t).toList rfl HS3.out (by unfold maxLen;omega) (by omega) ?_;intro v8 w8 hown hm hf;obtain ⟨va8,vc8,rfl⟩:=owns_slice hown;have G8:=Hxq (HO3.out.grow (p:=t) (m:=w4.heap.size+1+wr.heap.size) bearsVal hm trivial (fun k hk=>by have:=fp_lt HO3.out.row k hk;simp at this;omega) (by omega) hown hf);have q8:=hm.cell (cell_at FF.out 1) hnb4;have f8:w8.frozen? ⟨w4.heap.size,1,none⟩=false:=(World.frozen?_of_block (hm.block _ (lt_of_block FF.out) hnb4)).trans (free_at FF.out 1);have F8:=Hxq (hm.at FF.out hnb4);clear hown hm hf)
     all_goals (
      have mP:Mod [w4.heap.size] w8 (w8.setCell ⟨w4.heap.size,1,none⟩ (.slice va8 (acc.length+1) vc8)):=(Mod.refl [w4.heap.size] w8).setCell (p:=⟨w4.heap.size,1,none⟩) (.inl (by simp)) _
      have G9:=G8.out.keep bearsVal mP
      have F9:=setCell_at F8.out 1 (.slice va8 (acc.length+1) vc8)
      go_wp2_with fail
      go_roundw
      case rel=>exact ⟨acc++[t],rest,va8,vc8,by rw [HLL.out];simp,by rw [List.length_append];go_num,G9,by rw [List.length_append];simpa using F9⟩
      case measure=>simp [intOf];omega)
    | nil =>
     clear hlen2
     obtain rfl:l=acc:=by have:=HLL.out;simpa using this
     have hkI:¬ (l.length:Int)<(l.length:Int):=by omega
     have HRW:=Hxq (RowB.of_owns (F:=fun k=>w.heap.size+2<=k) valV_size G6.out.row (fun k hk=>by have:=hnF k hk;omega))
     obtain ⟨C,hCe⟩:∃ C:Array Value,C=#[.string rel,.slice va l.length vc]:=⟨_,rfl⟩
     have hC2:C.size=2:=by rw [hCe];rfl
     have HV:=Hxq (show valF (w.heap.size+2) (rel,l) wr (.agg C) by rw [hCe];exact ⟨_,rfl,HRW.out⟩)
     have HSZ:=Hxq (size_of sizeF hC2);have HO:=Hxq (show C.toList.all (·.oneCell')=true by rw [hCe];rfl);have HOL:=Hxq (show (#[Value.string ⟨#[]⟩,Value.slice none 0 0]:Array Value).size=C.size by rw [hC2];rfl)
     have E4:=F6.out
     rw [<-hCe] at E4
     have E6:=Lib.hid E4
     have HCE:=Lib.hid hCe
     clear hCe hC2 E4 x2 F6
     go_wp2_with (first | refine wpList_load_row rfl 64 _ rfl w4.heap.size C 64 (0,0) rfl E6.out _ Tryz.underlying64 rfl HSZ.out ?_ | refine wpList_store_at rfl 64 _ _ rfl w.heap.size C _ 64 rfl rfl A6.out HSZ.out HOL.out HO.out ?_ | refine wpList_store_at rfl 31 _ _ rfl (w.heap.size+1) #[.int .i64 0,.int .i64 0,.int .i64 0] _ 31 rfl rfl ((setRow_other wr w.heap.size (w.heap.size+1) C (by omega)).trans B6.out) sizeFlt rfl rfl ?_)
     have mR:=Mod.setRow wr w.heap.size C
     have mR2:=Mod.setRow (wr.setRow w.heap.size C) (w.heap.size+1) #[.int .i64 0,.int .i64 0,.int .i64 0]
     have a6:=setRow_heap wr w.heap.size _ C 64 _ A6.out
     have a7:=mR2.at a6 (by simp)
     have b7:=setRow_heap (wr.setRow w.heap.size C) (w.heap.size+1) _ #[.int .i64 0,.int .i64 0,.int .i64 0] 31 _ ((setRow_other wr w.heap.size (w.heap.size+1) C (by omega)).trans B6.out)
     refine bodyPost_ret (res_pair rfl _ _ w.heap.size (w.heap.size+1) C #[.int .i64 0,.int .i64 0,.int .i64 0] rfl rfl (run_loadVar_row (P:=Tryz.prog) _ _ _ _ _ _ _ a7 Tryz.underlying64 rfl HSZ.out) (run_loadVar_row (P:=Tryz.prog) _ _ _ _ _ _ _ b7 Tryz.underlying31 rfl sizeFlt)) rfl ⟨C,rfl,valF_keep (valF_keep (m:=w.heap.size+2) HV.out mR (fun s hs=>by rw [Msq] at hs;omega) (Nat.le_refl _)) mR2 (fun s hs=>by rw [Msq] at hs;omega) (by omega),(M6.out.trans mR (fun t ht=>?_)).trans mR2 (fun t ht=>?_)⟩
     ·rw [Msq] at ht;exact .inr (by omega)
     ·rw [Msq] at ht;exact .inr (by omega)
set_option maxHeartbeats 8000000 in
theorem sameRule_any {F G:Nat->Prop} (r:Pr.Rul) (hq1:r.head.terms.length<=140737488355328) (hq2:r.body.length<=140737488355328) (hq3:liMs r.body<=140737488355328) (u1 u2 u1' u2':Value) (w:World) (h1:RowB F w 5 tmV r.head.terms u1) (h2:BB F w r.body u2) (h1':RowB G w 5 tmV r.head.terms u1') (h2':BB G w r.body u2') :
  Calls Tryz.prog 18 #[.agg (ruV r u1 u2),.agg (ruV r u1' u2')] w (Tru w):=by
 obtain ⟨⟨rel,ts⟩,body,ln,cl⟩:=r
 dsimp only [ruV] at *
 obtain ⟨ta1,tc1,rfl⟩:=h1.lit
 obtain ⟨ta2,tc2,rfl⟩:=h1'.lit
 obtain ⟨ba1,bc1,rfl⟩:=h2.lit
 obtain ⟨ba2,bc2,rfl⟩:=h2'.lit
 have eR1:=two_a w #[.string rel,.slice ta1 ts.length tc1,.slice ba1 body.length bc1,.int .i64 ln,.int .i64 cl] #[.string rel,.slice ta2 ts.length tc2,.slice ba2 body.length bc2,.int .i64 ln,.int .i64 cl] 55 55
 have eR2:=two_b w #[.string rel,.slice ta1 ts.length tc1,.slice ba1 body.length bc1,.int .i64 ln,.int .i64 cl] #[.string rel,.slice ta2 ts.length tc2,.slice ba2 body.length bc2,.int .i64 ln,.int .i64 cl] 55 55
 have mR:=((Mod.refl [] w).alloc (Obj.cells #[.string rel,.slice ta1 ts.length tc1,.slice ba1 body.length bc1,.int .i64 ln,.int .i64 cl] 55)).alloc (Obj.cells #[.string rel,.slice ta2 ts.length tc2,.slice ba2 body.length bc2,.int .i64 ln,.int .i64 cl] 55)
 have HT1:=Hxq (h1.keep mR (by simp));have HT2:=Hxq (h1'.keep mR (by simp));have HB1:=Hxq (h2.keep mR (by simp));have HB2:=Hxq (h2'.keep mR (by simp))
 clear h1 h1' h2 h2'
 go_enter Tryz.func18,Tryz.ntmps18
 go_upto_region 1 with fail
 generalize (w.alloc (Obj.cells _ 55)).alloc (Obj.cells _ 55)=wb at *
 have E2:=Lib.hid eR1;have E3:=Lib.hid eR2;have MB:=Lib.hid mR
 clear eR1 eR2 mR
 have x0:=cell_at E2.out 0;have y0:=cell_at E3.out 0
 have x1:=cell_at E2.out 1;have y1:=cell_at E3.out 1
 have x2:=cell_at E2.out 2;have y2:=cell_at E3.out 2
 have x3:=cell_at E2.out 3;have y3:=cell_at E3.out 3
 have x4:=cell_at E2.out 4;have y4:=cell_at E3.out 4
 simp only [List.getElem?_toArray,List.getElem?_cons_zero,List.getElem?_cons_succ] at x0 y0 x1 y1 x2 y2 x3 y3 x4 y4
 have hln:((ln:Int) == (ln:Int))=true:=by simp
 have hcl:((cl:Int) == (cl:Int))=true:=by simp
 go_wp2_with fail
 refine (sameAtom_any ⟨rel,ts⟩ hq1 _ _ wb HT1.out HT2.out).mono ?_
 rintro e1 v1 ⟨rfl,m1⟩
 have M1:=Lib.hid m1
 clear x0 x1 x2 x3 x4 y0 y1 y2 y3 y4
 have x2:=cell_at (m1.at E2.out (by simp)) 2;have y2:=cell_at (m1.at E3.out (by simp)) 2
 simp only [List.getElem?_toArray,List.getElem?_cons_zero,List.getElem?_cons_succ] at x2 y2
 clear m1
 go_wp2_with fail
 refine (sameLits_any body hq2 hq3 _ _ v1 (HB1.out.keep M1.out (by simp)) (HB2.out.keep M1.out (by simp))).mono ?_
 rintro e2 v2 ⟨rfl,m2⟩
 have M2:=Hxq ((MB.out.trans M1.out (by simp)).trans m2 (by simp))
 clear m2 x2 y2
 go_wp2_with fail
 go_ret
 exact ⟨rfl,M2.out⟩
set_option maxHeartbeats 4000000 in
theorem sameTuple_any {F G:Nat->Prop} (l:List Va.Val) (hl:l.length<=140737488355328) (u u':Value) (w:World) (h:RowB F w 3 valV l u) (h':RowB G w 3 valV l u') :
  Calls Tryz.prog 50 #[u,u'] w (Tru w):=by
 obtain ⟨a1,c1,rfl⟩:=h.lit
 obtain ⟨a2,c2,rfl⟩:=h'.lit
 have H1:=Lib.hid h;have H2:=Lib.hid h'
 clear h h'
 go_enter Tryz.func50,Tryz.ntmps50
 go_wp2_with fail
 go_loopw [5] (fun iv wr=>∃ k:Nat,k<=l.length/\iv=.int .i64 (k:Nat)/\Mod [] w wr) (fun iv _=>l.length - (intOf iv).toNat)
 case atStart=>exact ⟨0,Nat.zero_le _,rfl,Mod.refl _ _⟩
 case round =>
  obtain ⟨k,hk,rfl,hm⟩:=hrel
  have MR:=Lib.hid hm
  clear hm
  by_cases hlt:k<l.length
  ·have hkI:(k:Int)<(l.length:Int):=by omega
   have hk0:(0:Int)<=(k:Int):=by omega
   obtain ⟨b1,o1,rfl,hc1⟩:=(H1.out.keep MR.out (by simp)).at k hlt
   obtain ⟨b2,o2,rfl,hc2⟩:=(H2.out.keep MR.out (by simp)).at k hlt
   generalize l[k]=t at *
   obtain ⟨xk,xn,xs⟩:=t
   have p2:=hc1 0 (.int .i64 xk) rfl;have p3:=hc1 1 (.int .i64 xn) rfl;have p4:=hc1 2 (.string (Lx.ofS xs)) rfl
   have q2:=hc2 0 (.int .i64 xk) rfl;have q3:=hc2 1 (.int .i64 xn) rfl;have q4:=hc2 2 (.string (Lx.ofS xs)) rfl
   rw [Nat.add_zero] at p2 q2
   try dsimp only at p2 p3 p4 q2 q3 q4
   clear hc1 hc2
   go_wp2_with fail
   go_quiet (fail)
   go_wp2_with fail
   go_roundw
   case rel=>exact ⟨k+1,by omega,by go_num,by first | exact MR.out.drewN _ | exact MR.out.drew | exact MR.out⟩
   case measure=>simp [intOf];omega
  ·obtain rfl:k=l.length:=by omega
   have hkI:¬ (l.length:Int)<(l.length:Int):=by omega
   go_wp2_with fail
   go_ret
   exact ⟨rfl,MR.out⟩
set_option maxHeartbeats 4000000 in
theorem sameFact_any {F G:Nat->Prop} (f:ByteArray × List Va.Val) (hl:f.2.length<=140737488355328) (u u':Value) (w:World) (h:RowB F w 3 valV f.2 u) (h':RowB G w 3 valV f.2 u') :
  Calls Tryz.prog 25 #[.agg #[.string f.1,u],.agg #[.string f.1,u']] w (Tru w):=by
 obtain ⟨rel,l⟩:=f
 dsimp only at *
 obtain ⟨a1,c1,rfl⟩:=h.lit
 obtain ⟨a2,c2,rfl⟩:=h'.lit
 have eR1:=two_a w #[.string rel,.slice a1 l.length c1] #[.string rel,.slice a2 l.length c2] 64 64
 have eR2:=two_b w #[.string rel,.slice a1 l.length c1] #[.string rel,.slice a2 l.length c2] 64 64
 have mR:=((Mod.refl [] w).alloc (Obj.cells #[.string rel,.slice a1 l.length c1] 64)).alloc (Obj.cells #[.string rel,.slice a2 l.length c2] 64)
 have HT1:=Hxq (h.keep mR (by simp));have HT2:=Hxq (h'.keep mR (by simp))
 clear h h'
 go_enter Tryz.func25,Tryz.ntmps25
 go_upto_region 1 with fail
 generalize (w.alloc (Obj.cells _ 64)).alloc (Obj.cells _ 64)=wb at *
 have E2:=Lib.hid eR1;have E3:=Lib.hid eR2;have MB:=Lib.hid mR
 clear eR1 eR2 mR
 have x0:=cell_at E2.out 0;have y0:=cell_at E3.out 0
 have x1:=cell_at E2.out 1;have y1:=cell_at E3.out 1
 simp only [List.getElem?_toArray,List.getElem?_cons_zero,List.getElem?_cons_succ] at x0 y0 x1 y1
 go_wp2_with fail
 refine (sameTuple_any l hl _ _ wb HT1.out HT2.out).mono ?_
 rintro e1 v1 ⟨rfl,m1⟩
 have M1:=Hxq (MB.out.trans m1 (by simp))
 clear m1 x0 x1 y0 y1
 go_wp2_with fail
 go_ret
 exact ⟨rfl,M1.out⟩
end Go.Proofs.YtppigckioalhhaaGreatDoorR
