/- THE TEXTS MERGED: PrLit4. -/
import Derived.Test.YtbfaclljbbfknaaGreatDoorKP24
namespace Go.Proofs.YtbfaclljbbfknaaGreatDoor
open Go.RowKit
set_option linter.unusedVariables false
set_option linter.unusedSimpArgs false
set_option maxRecDepth 100000
set_option maxHeartbeats 4000000 in
theorem agg_zero (w0:World):AggC w0 0:=by
 intro fn av of body uo ub p q v l bad w h hO hB hG hlen
 obtain ⟨oa,oc,rfl⟩:=hO.lit
 obtain ⟨ba,bc,rfl⟩:=hB.lit
 have h16:(16 - ((0:Nat):Int))=16:=by omega
 rw [h16] at h ⊢
 have MA:=Hxq ((Mod.refl [] w).alloc (Obj.cells #[Value.int IntKind.i64 fn,Value.string av,Value.int IntKind.i64 of.k,Value.string of.v,Value.int IntKind.i64 of.x.k,Value.int IntKind.i64 of.x.n,Value.string (Lx.ofS of.x.s),Value.int IntKind.i64 of.op,(Value.slice oa of.args.length oc),(Value.slice ba body.length bc)] 36))
 have RA:=Hxq ((Run.start h).fresh MA.out (by simp))
 have XA:Hid (CellsAt _ w.heap.size 0 (agVP fn av of (.slice oa of.args.length oc) (.slice ba body.length bc))):=Hxq (CellsAt.of (heap_alloc_new w (Obj.cells #[Value.int IntKind.i64 fn,Value.string av,Value.int IntKind.i64 of.k,Value.string of.v,Value.int IntKind.i64 of.x.k,Value.int IntKind.i64 of.x.n,Value.string (Lx.ofS of.x.s),Value.int IntKind.i64 of.op,(Value.slice oa of.args.length oc),(Value.slice ba body.length bc)] 36)))
 clear h hO hB hG h16
 unfold agVP at *
 go_enter Tryz.func84,Tryz.ntmps84
 go_upto_region 1 with fail
 generalize w.alloc (Obj.cells #[Value.int IntKind.i64 fn,Value.string av,Value.int IntKind.i64 of.k,Value.string of.v,Value.int IntKind.i64 of.x.k,Value.int IntKind.i64 of.x.n,Value.string (Lx.ofS of.x.s),Value.int IntKind.i64 of.op,(Value.slice oa of.args.length oc),(Value.slice ba body.length bc)] 36)=wA at *
 have MB:=Hxq ((Mod.refl [] wA).alloc (Obj.cells #[Value.string ⟨#[]⟩,Value.string { data:=#[99,111,117,110,116] },Value.string { data:=#[115,117,109] },Value.string { data:=#[109,105,110] },Value.string { data:=#[109,97,120] }] 149))
 have RB:=Hxq (RA.out.fresh MB.out (by simp))
 have c0:(wA.alloc (Obj.cells #[Value.string ⟨#[]⟩,Value.string { data:=#[99,111,117,110,116] },Value.string { data:=#[115,117,109] },Value.string { data:=#[109,105,110] },Value.string { data:=#[109,97,120] }] 149)).cell? ⟨w.heap.size,0,none⟩=some (.int .i64 fn):=(XA.out.past MB.out).zero 0 _ rfl
 have c9:(wA.alloc (Obj.cells #[Value.string ⟨#[]⟩,Value.string { data:=#[99,111,117,110,116] },Value.string { data:=#[115,117,109] },Value.string { data:=#[109,105,110] },Value.string { data:=#[109,97,120] }] 149)).cell? ⟨w.heap.size,9,none⟩=some ((.slice ba body.length bc)):=(XA.out.past MB.out).zero 9 _ rfl
 go_upto_region 2 with fail
 generalize wA.alloc (Obj.cells #[Value.string ⟨#[]⟩,Value.string { data:=#[99,111,117,110,116] },Value.string { data:=#[115,117,109] },Value.string { data:=#[109,105,110] },Value.string { data:=#[109,97,120] }] 149)=wB at *
 obtain ⟨q',v',bad',g0,g1,g2,g3,fz,-,-⟩:=RB.out.cells
 have HS:=Hxq (RB.out.setBad (pG 0 fn av of body) (.inl rfl))
 clear MA MB XA
 by_cases f1:fn<1
 ·go_wp2_with fail
  go_end0
  exact (HS.out.1.of rfl (by omega)).done
 ·by_cases f5:5<=fn
  ·go_wp2_with fail
   go_end0
   exact (HS.out.1.of rfl (by omega)).done
  ·go_wp2_with fail
   go_end0
   exact (HS.out.1.of rfl (by omega)).done
def wordS (fn:Int):ByteArray:=if fn=1 then { data:=#[99,111,117,110,116] } else if fn=2 then { data:=#[115,117,109] } else if fn=3 then { data:=#[109,105,110] } else { data:=#[109,97,120] }
theorem wordS_len (fn:Int):(wordS fn).size<=5:=by
 unfold wordS
 repeat' split
 all_goals decide
theorem wordS_str (fn:Int):Cod.str (wordS fn)=Pr.word fn:=by
 unfold wordS Pr.word
 repeat' split
 all_goals rfl
theorem pG_of {b:Nat} {fn:Int} {av:ByteArray} {of:Pr.Ex} {body:List Pr.Li} (h:1<=fn/\fn<=4/\body.length≠0) :
  pG (b+1) fn av of body=cat (cat (cat (cat (mustO (Va.variable_ (Cod.str av))) (some (Cod.str av++([32,61,32]++(Pr.word fn++[32,123,32]))))) (ofO fn of)) (comO (Pr.pL b) body)) (some [32,125]):=by
 unfold pG
 exact if_pos h
theorem pG_no {b:Nat} {fn:Int} {av:ByteArray} {of:Pr.Ex} {body:List Pr.Li} (h:¬ (1<=fn/\fn<=4/\body.length≠0)):pG (b+1) fn av of body=none:=by
 unfold pG
 exact if_neg h
set_option maxHeartbeats 16000000 in
theorem agg_ofP {w0:World} {b:Nat} (hb16:b<=16) (HB:BodyC w0 b):AggC w0 (b+1):=by
 intro fn av of body uo ub p q v l bad w h hO hB hG hlen
 obtain ⟨oa,oc,rfl⟩:=hO.lit
 obtain ⟨ba,bc,rfl⟩:=hB.lit
 unfold BodyC at HB
 obtain ⟨br,hbr⟩:∃ br:Int,16 - ((b+1:Nat):Int)=br:=⟨_,rfl⟩
 have hb1:16 - (b:Int)=br+1:=by omega
 have hb2:br<16:=by omega
 have hb3:-1<=br:=by omega
 have hb4:¬ 16<=br:=by omega
 simp only [hb1] at HB
 rw [hbr] at h ⊢
 clear hbr hb1
 have HBC:=Lib.hid HB
 have HO:=Lib.hid hO
 have HBO:=Lib.hid hB
 have HG:=Lib.hid hG
 have HV:=Hxq (fun w=>Variable_any av (by omega) w)
 have HN:=Hxq (fun w=>noExpr_any of oa oc w)
 have MA:=Hxq ((Mod.refl [] w).alloc (Obj.cells #[Value.int IntKind.i64 fn,Value.string av,Value.int IntKind.i64 of.k,Value.string of.v,Value.int IntKind.i64 of.x.k,Value.int IntKind.i64 of.x.n,Value.string (Lx.ofS of.x.s),Value.int IntKind.i64 of.op,(Value.slice oa of.args.length oc),(Value.slice ba body.length bc)] 36))
 have RA:=Hxq ((Run.start h).fresh MA.out (by simp))
 have XA:Hid (CellsAt _ w.heap.size 0 (agVP fn av of (.slice oa of.args.length oc) (.slice ba body.length bc))):=Hxq (CellsAt.of (heap_alloc_new w (Obj.cells #[Value.int IntKind.i64 fn,Value.string av,Value.int IntKind.i64 of.k,Value.string of.v,Value.int IntKind.i64 of.x.k,Value.int IntKind.i64 of.x.n,Value.string (Lx.ofS of.x.s),Value.int IntKind.i64 of.op,(Value.slice oa of.args.length oc),(Value.slice ba body.length bc)] 36)))
 clear h hO hB hG HB
 unfold agVP exV at *
 go_enter Tryz.func84,Tryz.ntmps84
 go_upto_region 1 with fail
 generalize w.alloc (Obj.cells #[Value.int IntKind.i64 fn,Value.string av,Value.int IntKind.i64 of.k,Value.string of.v,Value.int IntKind.i64 of.x.k,Value.int IntKind.i64 of.x.n,Value.string (Lx.ofS of.x.s),Value.int IntKind.i64 of.op,(Value.slice oa of.args.length oc),(Value.slice ba body.length bc)] 36)=wA at *
 have MB:=Hxq ((Mod.refl [] wA).alloc (Obj.cells #[Value.string ⟨#[]⟩,Value.string { data:=#[99,111,117,110,116] },Value.string { data:=#[115,117,109] },Value.string { data:=#[109,105,110] },Value.string { data:=#[109,97,120] }] 149))
 have RB:=Hxq (RA.out.fresh MB.out (by simp))
 have XB:=Hxq (XA.out.past MB.out)
 have hcell:=heap_alloc_new wA (Obj.cells #[Value.string ⟨#[]⟩,Value.string { data:=#[99,111,117,110,116] },Value.string { data:=#[115,117,109] },Value.string { data:=#[109,105,110] },Value.string { data:=#[109,97,120] }] 149)
 have HSG:Hid (∀ n:Nat,1<=n->n<=4->(wA.alloc (Obj.cells #[Value.string ⟨#[]⟩,Value.string { data:=#[99,111,117,110,116] },Value.string { data:=#[115,117,109] },Value.string { data:=#[109,105,110] },Value.string { data:=#[109,97,120] }] 149)).cell? ⟨wA.heap.size,n,none⟩=some (.string (wordS n))):=Hxq (fun n h1 h2=>by
  have:n=1\/n=2\/n=3\/n=4:=by omega
  rcases this with rfl | rfl | rfl | rfl <;> simp only [World.cell?,hcell] <;> rfl)
 clear hcell XA
 go_upto_region 2 with fail
 generalize wA.alloc (Obj.cells #[Value.string ⟨#[]⟩,Value.string { data:=#[99,111,117,110,116] },Value.string { data:=#[115,117,109] },Value.string { data:=#[109,105,110] },Value.string { data:=#[109,97,120] }] 149)=wB at *
 have c0:wB.cell? ⟨w.heap.size,0,none⟩=some (.int .i64 fn):=XB.out.zero 0 _ rfl
 have c1:wB.cell? ⟨w.heap.size,1,none⟩=some (.string av):=XB.out.zero 1 _ rfl
 have c2:wB.cell? ⟨w.heap.size,2,none⟩=some (.int .i64 of.k):=XB.out.zero 2 _ rfl
 have c3:wB.cell? ⟨w.heap.size,3,none⟩=some (.string of.v):=XB.out.zero 3 _ rfl
 have c4:wB.cell? ⟨w.heap.size,4,none⟩=some (.int .i64 of.x.k):=XB.out.zero 4 _ rfl
 have c5:wB.cell? ⟨w.heap.size,5,none⟩=some (.int .i64 of.x.n):=XB.out.zero 5 _ rfl
 have c6:wB.cell? ⟨w.heap.size,6,none⟩=some (.string (Lx.ofS of.x.s)):=XB.out.zero 6 _ rfl
 have c7:wB.cell? ⟨w.heap.size,7,none⟩=some (.int .i64 of.op):=XB.out.zero 7 _ rfl
 have c8:wB.cell? ⟨w.heap.size,8,none⟩=some ((.slice oa of.args.length oc)):=XB.out.zero 8 _ rfl
 have c9:wB.cell? ⟨w.heap.size,9,none⟩=some ((.slice ba body.length bc)):=XB.out.zero 9 _ rfl
 obtain ⟨q',v',bad',g0,g1,g2,g3,fz,-,-⟩:=RB.out.cells
 have hl2:((body.length:Int) == 0)=decide (body.length=0):=by rw [Bool.eq_iff_iff,beq_iff_eq,decide_eq_true_eq];omega
 by_cases hg:1<=fn/\fn<=4/\body.length≠0
 ·obtain ⟨sg,hsg⟩:∃ sg,wordS fn=sg:=⟨_,rfl⟩
  have HSZ:Hid (sg.size<=5):=Hxq (hsg ▸ wordS_len fn)
  have HPG:=Hxq (pG_of (b:=b) (av:=av) (of:=of) hg)
  rw [<-wordS_str,hsg] at HPG
  have s0:wB.cell? ⟨wA.heap.size,fn.toNat,none⟩=some (.string sg):=by
   rw [<-hsg]
   have:=HSG.out fn.toNat (by omega) (by omega)
   rwa [Int.toNat_of_nonneg (by omega)] at this
  clear hsg HSG
  have hbl:decide (body.length=0)=false:=by rw [decide_eq_false_iff_not];exact hg.2.2
  rw [hbl] at hl2
  clear hbl
  have hf:fn=1\/fn=2\/fn=3\/fn=4:=by omega
  clear hg
  rcases hf with rfl | rfl | rfl | rfl
  ·simp only [show Int.toNat 1=1 from rfl] at s0
   clear MA MB
   go_upto_region 4 with fail
   clear g0 g1 g2 g3 fz hl2
   go_wp2_with fail
   refine (HV.out _).mono ?_
   rintro e1 w1 ⟨rfl,m1⟩
   have R1:=Hxq (RB.out.new m1)
   have X1:=Hxq (XB.out.past m1)
   have s1:=m1.cell s0 (by simp)
   clear m1 s0 XB c0 c1 c2 c3 c4 c5 c6 c7 c8 c9
   go_wp2_with fail
   refine (R1.out.must (Va.variable_ (Cod.str av))).mono ?_
   rintro e2 w2 ⟨rfl,r2,k2⟩
   have R2:=Hxq (r2.of (cat_nil _) (Nat.le_refl _))
   have X2:=Hxq (X1.out.kept k2 (by simp))
   have s2:=k2.cell s1 (by simp)
   clear k2 r2 s1 X1
   go_upto_region 5 with fail
   have c0:w2.cell? ⟨w.heap.size,0,none⟩=some (.int .i64 1):=X2.out.zero 0 _ rfl
   have c1:w2.cell? ⟨w.heap.size,1,none⟩=some (.string av):=X2.out.zero 1 _ rfl
   refine wp_region_held_drew (S:=(fun w':World=>w'.cell? ⟨w.heap.size,0,none⟩=some (.int .i64 1)/\w'.cell? ⟨w.heap.size,1,none⟩=some (.string av)/\w'.cell? ⟨wA.heap.size,1,none⟩=some (.string sg))) (by kernel_rfl) (by (try dsimp only);exact ⟨c0,c1,s2⟩) (fun hHeld=>?_)
   refine Tkq 0 (v:=?_) (by assumption) ?_ ?_ ?_
   rotate_left 1
   ·refine .inl ⟨by rfl,?_⟩;intro w hSw;(try dsimp only at hSw);go_simp
    all_goals with_reducible rfl
   ·exact fun _ _ _ h=>h
   try simp only [Act.put,Lq1,Lq2,Lq3]
   refine Tkq 1 (v:=?_) (by assumption) ?_ ?_ ?_
   rotate_left 1
   ·refine .inl ⟨by rfl,?_⟩;intro w hSw;(try dsimp only at hSw);go_simp
    all_goals with_reducible rfl
   ·exact fun _ _ _ h=>h
   try simp only [Act.put,Lq1,Lq2,Lq3]
   refine Tkq 2 (v:=?_) (by assumption) ?_ ?_ ?_
   rotate_left 1
   ·refine .inl ⟨by rfl,?_⟩;intro w hSw;(try dsimp only at hSw);go_simp
    all_goals with_reducible rfl
   ·exact fun _ _ _ h=>h
   try simp only [Act.put,Lq1,Lq2,Lq3]
   refine Tkq 3 (v:=?_) (by assumption) ?_ ?_ ?_
   rotate_left 1
   ·refine .inl ⟨by rfl,?_⟩;intro w hSw;(try dsimp only at hSw);go_simp
    all_goals with_reducible rfl
   ·exact fun _ _ _ h=>h
   try simp only [Act.put,Lq1,Lq2,Lq3]
   refine Tkq 4 (v:=?_) (by assumption) ?_ ?_ ?_
   rotate_left 1
   ·refine .inl ⟨by rfl,?_⟩;intro w hSw;(try dsimp only at hSw);go_simp
    all_goals with_reducible rfl
   ·exact fun _ _ _ h=>h
   try simp only [Act.put,Lq1,Lq2,Lq3]
   refine Tkq 5 (v:=?_) (by assumption) ?_ ?_ ?_
   rotate_left 1
   ·refine .inl ⟨by rfl,?_⟩;intro w hSw;(try dsimp only at hSw);go_simp
    all_goals with_reducible rfl
   ·exact fun _ _ _ h=>h
   try simp only [Act.put,Lq1,Lq2,Lq3]
   refine Tkq 6 (v:=?_) (by assumption) ?_ ?_ ?_
   rotate_left 1
   ·refine .inl ⟨by rfl,?_⟩;intro w hSw;(try dsimp only at hSw);go_simp
    all_goals with_reducible rfl
   ·exact fun _ _ _ h=>h
   try simp only [Act.put,Lq1,Lq2,Lq3]
   have RD:=Hxq (R2.out.new (w2:=w2.drew) ((Mod.refl [] w2).drewN 1))
   refine wpAnyH_ready (rs:=[7]) (by kernel_rfl) (by simp) ?_
   refine AllReadyH.cons (o:=?_) ?_ ?_ AllReadyH.nil
   rotate_left 1
   ·(simp only [Gq1,Gq2,Gq3])<;>rfl
   intro K hK
   go_simp
   have MS:=Hxq (show Mod [] w2 (w2.drew.alloc (Obj.cells #[Value.string av,Value.string { data:=#[32,61,32] },Value.string sg,Value.string { data:=#[32,123,32] }] 9)) from Mod.alloc (b:=w2.drew) ((Mod.refl [] w2).drewN 1) _)
   refine hK.out _ _ (by (try dsimp only);exact ⟨MS.out.cell c0 (by simp),MS.out.cell c1 (by simp),MS.out.cell s2 (by simp)⟩) (fun hHeld=>?_)
   clear hK K
   try simp only [Act.put,Lq1,Lq2,Lq3]
   refine wpAnyH_ready (rs:=[8]) (by kernel_rfl) (by simp) ?_
   refine AllReadyH.cons (o:=?_) ?_ ?_ AllReadyH.nil
   rotate_left 1
   ·(simp only [Gq1,Gq2,Gq3])<;>rfl
   intro K hK
   go_simp
   refine (RD.out.put [av,{ data:=#[32,61,32] },sg,{ data:=#[32,123,32] }] rfl rfl (by simp) (by rw [fl_len];show _+(av.size+(3+(sg.size+(3+0))))<=_;have:=HSZ.out;omega)).mono ?_
   rintro e3 w3 ⟨rfl,r3,k3⟩
   refine hK.out _ _ (by (try dsimp only);exact ⟨k3.cell c0 (by simp),k3.cell c1 (by simp),k3.cell s2 (by simp)⟩) (fun hHeld=>?_)
   clear hK K
   try simp only [Act.put,Lq1,Lq2,Lq3]
   refine wpAnyH_done (by kernel_rfl) ?_ _
   have R3:=Hxq (r3.of (o':=(cat (mustO (Va.variable_ (Cod.str av))) (some (Cod.str av++([32,61,32]++(Cod.str sg++[32,123,32])))))) (n':=av.size+20) (by simp only [List.flatMap_cons,List.flatMap_nil,List.append_nil];rfl) (by rw [fl_len];show _+(av.size+(3+(sg.size+(3+0))))<=_;have:=HSZ.out;omega))
   have X3:=Hxq ((X2.out.past (w':=w2.drew) ((Mod.refl [] w2).drewN 1)).kept k3 (by simp))
   clear r3 k3 c0 c1 s2 MS RD R2 R1 X2 hHeld
   have c0:w3.cell? ⟨w.heap.size,0,none⟩=some (.int .i64 1):=X3.out.zero 0 _ rfl
   have c2:w3.cell? ⟨w.heap.size,2,none⟩=some (.int .i64 of.k):=X3.out.zero 2 _ rfl
   have c3:w3.cell? ⟨w.heap.size,3,none⟩=some (.string of.v):=X3.out.zero 3 _ rfl
   have c4:w3.cell? ⟨w.heap.size,4,none⟩=some (.int .i64 of.x.k):=X3.out.zero 4 _ rfl
   have c5:w3.cell? ⟨w.heap.size,5,none⟩=some (.int .i64 of.x.n):=X3.out.zero 5 _ rfl
   have c6:w3.cell? ⟨w.heap.size,6,none⟩=some (.string (Lx.ofS of.x.s)):=X3.out.zero 6 _ rfl
   have c7:w3.cell? ⟨w.heap.size,7,none⟩=some (.int .i64 of.op):=X3.out.zero 7 _ rfl
   have c8:w3.cell? ⟨w.heap.size,8,none⟩=some ((.slice oa of.args.length oc)):=X3.out.zero 8 _ rfl
   go_wp2_with fail
   refine (HN.out _).mono ?_
   rintro e4 w4 ⟨rfl,m4⟩
   have R4:=Hxq (R3.out.new m4)
   have X4:=Hxq (X3.out.past m4)
   clear m4 c0 c2 c3 c4 c5 c6 c7 c8
   go_wp2_with fail
   refine (R4.out.must (Pr.noExpr of)).mono ?_
   rintro e5 w5 ⟨rfl,r5,k5⟩
   have R5:=Hxq (r5.of (o':=cat (cat (mustO (Va.variable_ (Cod.str av))) (some (Cod.str av++([32,61,32]++(Cod.str sg++[32,123,32]))))) (ofO 1 of)) (n':=av.size+30+exWt of) rfl (by omega))
   have X5:=Hxq (X4.out.kept k5 (by simp))
   clear r5 k5 R4 R3 X3 X4
   go_upto_region 10 with fail
   obtain ⟨q5,v5,bad5,g0,g1,g2,g3,fz,-,-⟩:=R5.out.cells
   have HS5:=Hxq (R5.out.setBr (br+1))
   go_upto_region 11 with fail
   clear g0 g1 g2 g3 fz
   generalize w5.setCell ⟨p,3,none⟩ (.int .i64 (br+1))=w6 at *
   have R6:=Lib.hid HS5.out.1
   have X6:=Hxq (X5.out.kept HS5.out.2 (by simp))
   clear HS5 X5 R5
   have c9:w6.cell? ⟨w.heap.size,9,none⟩=some ((.slice ba body.length bc)):=X6.out.zero 9 _ rfl
   go_wp2_with fail
   refine (R6.out.call (Nat.le_refl _) (fun q v l' bad h hl=>HBC.out body _ p q v l' bad _ h HBO.out HG.out (by omega))).mono ?_
   rintro e7 w7 ⟨rfl,r7,k7⟩
   have R7:=Lib.hid r7
   clear r7 k7 c9 X6 R6
   go_upto_region 12 with fail
   obtain ⟨q7,v7,bad7,g0,g1,g2,g3,fz,-,-⟩:=R7.out.cells
   have HS7:=Hxq (R7.out.setBr br)
   go_upto_region 13 with fail
   clear g0 g1 g2 g3 fz
   generalize w7.setCell ⟨p,3,none⟩ (.int .i64 br)=w8 at *
   have R8:=Lib.hid HS7.out.1
   clear HS7 R7
   go_wp2_with fail
   refine (R8.out.put [{ data:=#[32,125] }] rfl rfl (by simp) (by rw [fl_len];show _+(2+0)<=_;omega)).mono ?_
   rintro e9 w9 ⟨rfl,r9,k9⟩
   have R9:=Lib.hid r9
   clear r9 k9
   go_wp2_with fail
   go_end0
   exact (R9.out.of (by rw [HPG.out];rfl) (by rw [fl_len];show _+(2+0)<=_;omega)).done
  ·simp only [show Int.toNat 2=2 from rfl] at s0
   clear MA MB
   go_upto_region 4 with fail
   clear g0 g1 g2 g3 fz hl2
   go_wp2_with fail
   refine (HV.out _).mono ?_
   rintro e1 w1 ⟨rfl,m1⟩
   have R1:=Hxq (RB.out.new m1)
   have X1:=Hxq (XB.out.past m1)
   have s1:=m1.cell s0 (by simp)
   clear m1 s0 XB c0 c1 c2 c3 c4 c5 c6 c7 c8 c9
   go_wp2_with fail
   refine (R1.out.must (Va.variable_ (Cod.str av))).mono ?_
   rintro e2 w2 ⟨rfl,r2,k2⟩
   have R2:=Hxq (r2.of (cat_nil _) (Nat.le_refl _))
   have X2:=Hxq (X1.out.kept k2 (by simp))
   have s2:=k2.cell s1 (by simp)
   clear k2 r2 s1 X1
   go_upto_region 5 with fail
   have c0:w2.cell? ⟨w.heap.size,0,none⟩=some (.int .i64 2):=X2.out.zero 0 _ rfl
   have c1:w2.cell? ⟨w.heap.size,1,none⟩=some (.string av):=X2.out.zero 1 _ rfl
   refine wp_region_held_drew (S:=(fun w':World=>w'.cell? ⟨w.heap.size,0,none⟩=some (.int .i64 2)/\w'.cell? ⟨w.heap.size,1,none⟩=some (.string av)/\w'.cell? ⟨wA.heap.size,2,none⟩=some (.string sg))) (by kernel_rfl) (by (try dsimp only);exact ⟨c0,c1,s2⟩) (fun hHeld=>?_)
   refine Tkq 0 (v:=?_) (by assumption) ?_ ?_ ?_
   rotate_left 1
   ·refine .inl ⟨by rfl,?_⟩;intro w hSw;(try dsimp only at hSw);go_simp
    all_goals with_reducible rfl
   ·exact fun _ _ _ h=>h
   try simp only [Act.put,Lq1,Lq2,Lq3]
   refine Tkq 1 (v:=?_) (by assumption) ?_ ?_ ?_
   rotate_left 1
   ·refine .inl ⟨by rfl,?_⟩;intro w hSw;(try dsimp only at hSw);go_simp
    all_goals with_reducible rfl
   ·exact fun _ _ _ h=>h
   try simp only [Act.put,Lq1,Lq2,Lq3]
   refine Tkq 2 (v:=?_) (by assumption) ?_ ?_ ?_
   rotate_left 1
   ·refine .inl ⟨by rfl,?_⟩;intro w hSw;(try dsimp only at hSw);go_simp
    all_goals with_reducible rfl
   ·exact fun _ _ _ h=>h
   try simp only [Act.put,Lq1,Lq2,Lq3]
   refine Tkq 3 (v:=?_) (by assumption) ?_ ?_ ?_
   rotate_left 1
   ·refine .inl ⟨by rfl,?_⟩;intro w hSw;(try dsimp only at hSw);go_simp
    all_goals with_reducible rfl
   ·exact fun _ _ _ h=>h
   try simp only [Act.put,Lq1,Lq2,Lq3]
   refine Tkq 4 (v:=?_) (by assumption) ?_ ?_ ?_
   rotate_left 1
   ·refine .inl ⟨by rfl,?_⟩;intro w hSw;(try dsimp only at hSw);go_simp
    all_goals with_reducible rfl
   ·exact fun _ _ _ h=>h
   try simp only [Act.put,Lq1,Lq2,Lq3]
   refine Tkq 5 (v:=?_) (by assumption) ?_ ?_ ?_
   rotate_left 1
   ·refine .inl ⟨by rfl,?_⟩;intro w hSw;(try dsimp only at hSw);go_simp
    all_goals with_reducible rfl
   ·exact fun _ _ _ h=>h
   try simp only [Act.put,Lq1,Lq2,Lq3]
   refine Tkq 6 (v:=?_) (by assumption) ?_ ?_ ?_
   rotate_left 1
   ·refine .inl ⟨by rfl,?_⟩;intro w hSw;(try dsimp only at hSw);go_simp
    all_goals with_reducible rfl
   ·exact fun _ _ _ h=>h
   try simp only [Act.put,Lq1,Lq2,Lq3]
   have RD:=Hxq (R2.out.new (w2:=w2.drew) ((Mod.refl [] w2).drewN 1))
   refine wpAnyH_ready (rs:=[7]) (by kernel_rfl) (by simp) ?_
   refine AllReadyH.cons (o:=?_) ?_ ?_ AllReadyH.nil
   rotate_left 1
   ·(simp only [Gq1,Gq2,Gq3])<;>rfl
   intro K hK
   go_simp
   have MS:=Hxq (show Mod [] w2 (w2.drew.alloc (Obj.cells #[Value.string av,Value.string { data:=#[32,61,32] },Value.string sg,Value.string { data:=#[32,123,32] }] 9)) from Mod.alloc (b:=w2.drew) ((Mod.refl [] w2).drewN 1) _)
   refine hK.out _ _ (by (try dsimp only);exact ⟨MS.out.cell c0 (by simp),MS.out.cell c1 (by simp),MS.out.cell s2 (by simp)⟩) (fun hHeld=>?_)
   clear hK K
   try simp only [Act.put,Lq1,Lq2,Lq3]
   refine wpAnyH_ready (rs:=[8]) (by kernel_rfl) (by simp) ?_
   refine AllReadyH.cons (o:=?_) ?_ ?_ AllReadyH.nil
   rotate_left 1
   ·(simp only [Gq1,Gq2,Gq3])<;>rfl
   intro K hK
   go_simp
   refine (RD.out.put [av,{ data:=#[32,61,32] },sg,{ data:=#[32,123,32] }] rfl rfl (by simp) (by rw [fl_len];show _+(av.size+(3+(sg.size+(3+0))))<=_;have:=HSZ.out;omega)).mono ?_
   rintro e3 w3 ⟨rfl,r3,k3⟩
   refine hK.out _ _ (by (try dsimp only);exact ⟨k3.cell c0 (by simp),k3.cell c1 (by simp),k3.cell s2 (by simp)⟩) (fun hHeld=>?_)
   clear hK K
   try simp only [Act.put,Lq1,Lq2,Lq3]
   refine wpAnyH_done (by kernel_rfl) ?_ _
   have R3:=Hxq (r3.of (o':=(cat (mustO (Va.variable_ (Cod.str av))) (some (Cod.str av++([32,61,32]++(Cod.str sg++[32,123,32])))))) (n':=av.size+20) (by simp only [List.flatMap_cons,List.flatMap_nil,List.append_nil];rfl) (by rw [fl_len];show _+(av.size+(3+(sg.size+(3+0))))<=_;have:=HSZ.out;omega))
   have X3:=Hxq ((X2.out.past (w':=w2.drew) ((Mod.refl [] w2).drewN 1)).kept k3 (by simp))
   clear r3 k3 c0 c1 s2 MS RD R2 R1 X2 hHeld
   have c0:w3.cell? ⟨w.heap.size,0,none⟩=some (.int .i64 2):=X3.out.zero 0 _ rfl
   have c2:w3.cell? ⟨w.heap.size,2,none⟩=some (.int .i64 of.k):=X3.out.zero 2 _ rfl
   have c3:w3.cell? ⟨w.heap.size,3,none⟩=some (.string of.v):=X3.out.zero 3 _ rfl
   have c4:w3.cell? ⟨w.heap.size,4,none⟩=some (.int .i64 of.x.k):=X3.out.zero 4 _ rfl
   have c5:w3.cell? ⟨w.heap.size,5,none⟩=some (.int .i64 of.x.n):=X3.out.zero 5 _ rfl
   have c6:w3.cell? ⟨w.heap.size,6,none⟩=some (.string (Lx.ofS of.x.s)):=X3.out.zero 6 _ rfl
   have c7:w3.cell? ⟨w.heap.size,7,none⟩=some (.int .i64 of.op):=X3.out.zero 7 _ rfl
   have c8:w3.cell? ⟨w.heap.size,8,none⟩=some ((.slice oa of.args.length oc)):=X3.out.zero 8 _ rfl
   go_wp2_with fail
   refine (R3.out.expr of _ HO.out HG.out (by omega)).mono ?_
   rintro e4 w4 ⟨rfl,r4,k4⟩
   have R4:=Lib.hid r4
   have X4:=Hxq (X3.out.kept k4 (by simp))
   clear r4 k4 c0 c2 c3 c4 c5 c6 c7 c8
   go_wp2_with fail
   refine (R4.out.put [{ data:=#[32,58,32] }] rfl rfl (by simp) (by rw [fl_len];show _+(3+0)<=_;omega)).mono ?_
   rintro e5 w5 ⟨rfl,r5,k5⟩
   have R5:=Hxq (r5.of (o':=cat (cat (mustO (Va.variable_ (Cod.str av))) (some (Cod.str av++([32,61,32]++(Cod.str sg++[32,123,32]))))) (ofO 2 of)) (n':=av.size+30+exWt of) (by rw [cat_assoc];rfl) (by rw [fl_len];show _+(3+0)<=_;omega))
   have X5:=Hxq (X4.out.kept k5 (by simp))
   clear r5 k5 R4 R3 X3 X4
   go_upto_region 10 with fail
   obtain ⟨q5,v5,bad5,g0,g1,g2,g3,fz,-,-⟩:=R5.out.cells
   have HS5:=Hxq (R5.out.setBr (br+1))
   go_upto_region 11 with fail
   clear g0 g1 g2 g3 fz
   generalize w5.setCell ⟨p,3,none⟩ (.int .i64 (br+1))=w6 at *
   have R6:=Lib.hid HS5.out.1
   have X6:=Hxq (X5.out.kept HS5.out.2 (by simp))
   clear HS5 X5 R5
   have c9:w6.cell? ⟨w.heap.size,9,none⟩=some ((.slice ba body.length bc)):=X6.out.zero 9 _ rfl
   go_wp2_with fail
   refine (R6.out.call (Nat.le_refl _) (fun q v l' bad h hl=>HBC.out body _ p q v l' bad _ h HBO.out HG.out (by omega))).mono ?_
   rintro e7 w7 ⟨rfl,r7,k7⟩
   have R7:=Lib.hid r7
   clear r7 k7 c9 X6 R6
   go_upto_region 12 with fail
   obtain ⟨q7,v7,bad7,g0,g1,g2,g3,fz,-,-⟩:=R7.out.cells
   have HS7:=Hxq (R7.out.setBr br)
   go_upto_region 13 with fail
   clear g0 g1 g2 g3 fz
   generalize w7.setCell ⟨p,3,none⟩ (.int .i64 br)=w8 at *
   have R8:=Lib.hid HS7.out.1
   clear HS7 R7
   go_wp2_with fail
   refine (R8.out.put [{ data:=#[32,125] }] rfl rfl (by simp) (by rw [fl_len];show _+(2+0)<=_;omega)).mono ?_
   rintro e9 w9 ⟨rfl,r9,k9⟩
   have R9:=Lib.hid r9
   clear r9 k9
   go_wp2_with fail
   go_end0
   exact (R9.out.of (by rw [HPG.out];rfl) (by rw [fl_len];show _+(2+0)<=_;omega)).done
  ·simp only [show Int.toNat 3=3 from rfl] at s0
   clear MA MB
   go_upto_region 4 with fail
   clear g0 g1 g2 g3 fz hl2
   go_wp2_with fail
   refine (HV.out _).mono ?_
   rintro e1 w1 ⟨rfl,m1⟩
   have R1:=Hxq (RB.out.new m1)
   have X1:=Hxq (XB.out.past m1)
   have s1:=m1.cell s0 (by simp)
   clear m1 s0 XB c0 c1 c2 c3 c4 c5 c6 c7 c8 c9
   go_wp2_with fail
   refine (R1.out.must (Va.variable_ (Cod.str av))).mono ?_
   rintro e2 w2 ⟨rfl,r2,k2⟩
   have R2:=Hxq (r2.of (cat_nil _) (Nat.le_refl _))
   have X2:=Hxq (X1.out.kept k2 (by simp))
   have s2:=k2.cell s1 (by simp)
   clear k2 r2 s1 X1
   go_upto_region 5 with fail
   have c0:w2.cell? ⟨w.heap.size,0,none⟩=some (.int .i64 3):=X2.out.zero 0 _ rfl
   have c1:w2.cell? ⟨w.heap.size,1,none⟩=some (.string av):=X2.out.zero 1 _ rfl
   refine wp_region_held_drew (S:=(fun w':World=>w'.cell? ⟨w.heap.size,0,none⟩=some (.int .i64 3)/\w'.cell? ⟨w.heap.size,1,none⟩=some (.string av)/\w'.cell? ⟨wA.heap.size,3,none⟩=some (.string sg))) (by kernel_rfl) (by (try dsimp only);exact ⟨c0,c1,s2⟩) (fun hHeld=>?_)
   refine Tkq 0 (v:=?_) (by assumption) ?_ ?_ ?_
   rotate_left 1
   ·refine .inl ⟨by rfl,?_⟩;intro w hSw;(try dsimp only at hSw);go_simp
    all_goals with_reducible rfl
   ·exact fun _ _ _ h=>h
   try simp only [Act.put,Lq1,Lq2,Lq3]
   refine Tkq 1 (v:=?_) (by assumption) ?_ ?_ ?_
   rotate_left 1
   ·refine .inl ⟨by rfl,?_⟩;intro w hSw;(try dsimp only at hSw);go_simp
    all_goals with_reducible rfl
   ·exact fun _ _ _ h=>h
   try simp only [Act.put,Lq1,Lq2,Lq3]
   refine Tkq 2 (v:=?_) (by assumption) ?_ ?_ ?_
   rotate_left 1
   ·refine .inl ⟨by rfl,?_⟩;intro w hSw;(try dsimp only at hSw);go_simp
    all_goals with_reducible rfl
   ·exact fun _ _ _ h=>h
   try simp only [Act.put,Lq1,Lq2,Lq3]
   refine Tkq 3 (v:=?_) (by assumption) ?_ ?_ ?_
   rotate_left 1
   ·refine .inl ⟨by rfl,?_⟩;intro w hSw;(try dsimp only at hSw);go_simp
    all_goals with_reducible rfl
   ·exact fun _ _ _ h=>h
   try simp only [Act.put,Lq1,Lq2,Lq3]
   refine Tkq 4 (v:=?_) (by assumption) ?_ ?_ ?_
   rotate_left 1
   ·refine .inl ⟨by rfl,?_⟩;intro w hSw;(try dsimp only at hSw);go_simp
    all_goals with_reducible rfl
   ·exact fun _ _ _ h=>h
   try simp only [Act.put,Lq1,Lq2,Lq3]
   refine Tkq 5 (v:=?_) (by assumption) ?_ ?_ ?_
   rotate_left 1
   ·refine .inl ⟨by rfl,?_⟩;intro w hSw;(try dsimp only at hSw);go_simp
    all_goals with_reducible rfl
   ·exact fun _ _ _ h=>h
   try simp only [Act.put,Lq1,Lq2,Lq3]
   refine Tkq 6 (v:=?_) (by assumption) ?_ ?_ ?_
   rotate_left 1
   ·refine .inl ⟨by rfl,?_⟩;intro w hSw;(try dsimp only at hSw);go_simp
    all_goals with_reducible rfl
   ·exact fun _ _ _ h=>h
   try simp only [Act.put,Lq1,Lq2,Lq3]
   have RD:=Hxq (R2.out.new (w2:=w2.drew) ((Mod.refl [] w2).drewN 1))
   refine wpAnyH_ready (rs:=[7]) (by kernel_rfl) (by simp) ?_
   refine AllReadyH.cons (o:=?_) ?_ ?_ AllReadyH.nil
   rotate_left 1
   ·(simp only [Gq1,Gq2,Gq3])<;>rfl
   intro K hK
   go_simp
   have MS:=Hxq (show Mod [] w2 (w2.drew.alloc (Obj.cells #[Value.string av,Value.string { data:=#[32,61,32] },Value.string sg,Value.string { data:=#[32,123,32] }] 9)) from Mod.alloc (b:=w2.drew) ((Mod.refl [] w2).drewN 1) _)
   refine hK.out _ _ (by (try dsimp only);exact ⟨MS.out.cell c0 (by simp),MS.out.cell c1 (by simp),MS.out.cell s2 (by simp)⟩) (fun hHeld=>?_)
   clear hK K
   try simp only [Act.put,Lq1,Lq2,Lq3]
   refine wpAnyH_ready (rs:=[8]) (by kernel_rfl) (by simp) ?_
   refine AllReadyH.cons (o:=?_) ?_ ?_ AllReadyH.nil
   rotate_left 1
   ·(simp only [Gq1,Gq2,Gq3])<;>rfl
   intro K hK
   go_simp
   refine (RD.out.put [av,{ data:=#[32,61,32] },sg,{ data:=#[32,123,32] }] rfl rfl (by simp) (by rw [fl_len];show _+(av.size+(3+(sg.size+(3+0))))<=_;have:=HSZ.out;omega)).mono ?_
   rintro e3 w3 ⟨rfl,r3,k3⟩
   refine hK.out _ _ (by (try dsimp only);exact ⟨k3.cell c0 (by simp),k3.cell c1 (by simp),k3.cell s2 (by simp)⟩) (fun hHeld=>?_)
   clear hK K
   try simp only [Act.put,Lq1,Lq2,Lq3]
   refine wpAnyH_done (by kernel_rfl) ?_ _
   have R3:=Hxq (r3.of (o':=(cat (mustO (Va.variable_ (Cod.str av))) (some (Cod.str av++([32,61,32]++(Cod.str sg++[32,123,32])))))) (n':=av.size+20) (by simp only [List.flatMap_cons,List.flatMap_nil,List.append_nil];rfl) (by rw [fl_len];show _+(av.size+(3+(sg.size+(3+0))))<=_;have:=HSZ.out;omega))
   have X3:=Hxq ((X2.out.past (w':=w2.drew) ((Mod.refl [] w2).drewN 1)).kept k3 (by simp))
   clear r3 k3 c0 c1 s2 MS RD R2 R1 X2 hHeld
   have c0:w3.cell? ⟨w.heap.size,0,none⟩=some (.int .i64 3):=X3.out.zero 0 _ rfl
   have c2:w3.cell? ⟨w.heap.size,2,none⟩=some (.int .i64 of.k):=X3.out.zero 2 _ rfl
   have c3:w3.cell? ⟨w.heap.size,3,none⟩=some (.string of.v):=X3.out.zero 3 _ rfl
   have c4:w3.cell? ⟨w.heap.size,4,none⟩=some (.int .i64 of.x.k):=X3.out.zero 4 _ rfl
   have c5:w3.cell? ⟨w.heap.size,5,none⟩=some (.int .i64 of.x.n):=X3.out.zero 5 _ rfl
   have c6:w3.cell? ⟨w.heap.size,6,none⟩=some (.string (Lx.ofS of.x.s)):=X3.out.zero 6 _ rfl
   have c7:w3.cell? ⟨w.heap.size,7,none⟩=some (.int .i64 of.op):=X3.out.zero 7 _ rfl
   have c8:w3.cell? ⟨w.heap.size,8,none⟩=some ((.slice oa of.args.length oc)):=X3.out.zero 8 _ rfl
   go_wp2_with fail
   refine (R3.out.expr of _ HO.out HG.out (by omega)).mono ?_
   rintro e4 w4 ⟨rfl,r4,k4⟩
   have R4:=Lib.hid r4
   have X4:=Hxq (X3.out.kept k4 (by simp))
   clear r4 k4 c0 c2 c3 c4 c5 c6 c7 c8
   go_wp2_with fail
   refine (R4.out.put [{ data:=#[32,58,32] }] rfl rfl (by simp) (by rw [fl_len];show _+(3+0)<=_;omega)).mono ?_
   rintro e5 w5 ⟨rfl,r5,k5⟩
   have R5:=Hxq (r5.of (o':=cat (cat (mustO (Va.variable_ (Cod.str av))) (some (Cod.str av++([32,61,32]++(Cod.str sg++[32,123,32]))))) (ofO 3 of)) (n':=av.size+30+exWt of) (by rw [cat_assoc];rfl) (by rw [fl_len];show _+(3+0)<=_;omega))
   have X5:=Hxq (X4.out.kept k5 (by simp))
   clear r5 k5 R4 R3 X3 X4
   go_upto_region 10 with fail
   obtain ⟨q5,v5,bad5,g0,g1,g2,g3,fz,-,-⟩:=R5.out.cells
   have HS5:=Hxq (R5.out.setBr (br+1))
   go_upto_region 11 with fail
   clear g0 g1 g2 g3 fz
   generalize w5.setCell ⟨p,3,none⟩ (.int .i64 (br+1))=w6 at *
   have R6:=Lib.hid HS5.out.1
   have X6:=Hxq (X5.out.kept HS5.out.2 (by simp))
   clear HS5 X5 R5
   have c9:w6.cell? ⟨w.heap.size,9,none⟩=some ((.slice ba body.length bc)):=X6.out.zero 9 _ rfl
   go_wp2_with fail
   refine (R6.out.call (Nat.le_refl _) (fun q v l' bad h hl=>HBC.out body _ p q v l' bad _ h HBO.out HG.out (by omega))).mono ?_
   rintro e7 w7 ⟨rfl,r7,k7⟩
   have R7:=Lib.hid r7
   clear r7 k7 c9 X6 R6
   go_upto_region 12 with fail
   obtain ⟨q7,v7,bad7,g0,g1,g2,g3,fz,-,-⟩:=R7.out.cells
   have HS7:=Hxq (R7.out.setBr br)
   go_upto_region 13 with fail
   clear g0 g1 g2 g3 fz
   generalize w7.setCell ⟨p,3,none⟩ (.int .i64 br)=w8 at *
   have R8:=Lib.hid HS7.out.1
   clear HS7 R7
   go_wp2_with fail
   refine (R8.out.put [{ data:=#[32,125] }] rfl rfl (by simp) (by rw [fl_len];show _+(2+0)<=_;omega)).mono ?_
   rintro e9 w9 ⟨rfl,r9,k9⟩
   have R9:=Lib.hid r9
   clear r9 k9
   go_wp2_with fail
   go_end0
   exact (R9.out.of (by rw [HPG.out];rfl) (by rw [fl_len];show _+(2+0)<=_;omega)).done
  ·simp only [show Int.toNat 4=4 from rfl] at s0
   clear MA MB
   go_upto_region 4 with fail
   clear g0 g1 g2 g3 fz hl2
   go_wp2_with fail
   refine (HV.out _).mono ?_
   rintro e1 w1 ⟨rfl,m1⟩
   have R1:=Hxq (RB.out.new m1)
   have X1:=Hxq (XB.out.past m1)
   have s1:=m1.cell s0 (by simp)
   clear m1 s0 XB c0 c1 c2 c3 c4 c5 c6 c7 c8 c9
   go_wp2_with fail
   refine (R1.out.must (Va.variable_ (Cod.str av))).mono ?_
   rintro e2 w2 ⟨rfl,r2,k2⟩
   have R2:=Hxq (r2.of (cat_nil _) (Nat.le_refl _))
   have X2:=Hxq (X1.out.kept k2 (by simp))
   have s2:=k2.cell s1 (by simp)
   clear k2 r2 s1 X1
   go_upto_region 5 with fail
   have c0:w2.cell? ⟨w.heap.size,0,none⟩=some (.int .i64 4):=X2.out.zero 0 _ rfl
   have c1:w2.cell? ⟨w.heap.size,1,none⟩=some (.string av):=X2.out.zero 1 _ rfl
   refine wp_region_held_drew (S:=(fun w':World=>w'.cell? ⟨w.heap.size,0,none⟩=some (.int .i64 4)/\w'.cell? ⟨w.heap.size,1,none⟩=some (.string av)/\w'.cell? ⟨wA.heap.size,4,none⟩=some (.string sg))) (by kernel_rfl) (by (try dsimp only);exact ⟨c0,c1,s2⟩) (fun hHeld=>?_)
   refine Tkq 0 (v:=?_) (by assumption) ?_ ?_ ?_
   rotate_left 1
   ·refine .inl ⟨by rfl,?_⟩;intro w hSw;(try dsimp only at hSw);go_simp
    all_goals with_reducible rfl
   ·exact fun _ _ _ h=>h
   try simp only [Act.put,Lq1,Lq2,Lq3]
   refine Tkq 1 (v:=?_) (by assumption) ?_ ?_ ?_
   rotate_left 1
   ·refine .inl ⟨by rfl,?_⟩;intro w hSw;(try dsimp only at hSw);go_simp
    all_goals with_reducible rfl
   ·exact fun _ _ _ h=>h
   try simp only [Act.put,Lq1,Lq2,Lq3]
   refine Tkq 2 (v:=?_) (by assumption) ?_ ?_ ?_
   rotate_left 1
   ·refine .inl ⟨by rfl,?_⟩;intro w hSw;(try dsimp only at hSw);go_simp
    all_goals with_reducible rfl
   ·exact fun _ _ _ h=>h
   try simp only [Act.put,Lq1,Lq2,Lq3]
   refine Tkq 3 (v:=?_) (by assumption) ?_ ?_ ?_
   rotate_left 1
   ·refine .inl ⟨by rfl,?_⟩;intro w hSw;(try dsimp only at hSw);go_simp
    all_goals with_reducible rfl
   ·exact fun _ _ _ h=>h
   try simp only [Act.put,Lq1,Lq2,Lq3]
   refine Tkq 4 (v:=?_) (by assumption) ?_ ?_ ?_
   rotate_left 1
   ·refine .inl ⟨by rfl,?_⟩;intro w hSw;(try dsimp only at hSw);go_simp
    all_goals with_reducible rfl
   ·exact fun _ _ _ h=>h
   try simp only [Act.put,Lq1,Lq2,Lq3]
   refine Tkq 5 (v:=?_) (by assumption) ?_ ?_ ?_
   rotate_left 1
   ·refine .inl ⟨by rfl,?_⟩;intro w hSw;(try dsimp only at hSw);go_simp
    all_goals with_reducible rfl
   ·exact fun _ _ _ h=>h
   try simp only [Act.put,Lq1,Lq2,Lq3]
   refine Tkq 6 (v:=?_) (by assumption) ?_ ?_ ?_
   rotate_left 1
   ·refine .inl ⟨by rfl,?_⟩;intro w hSw;(try dsimp only at hSw);go_simp
    all_goals with_reducible rfl
   ·exact fun _ _ _ h=>h
   try simp only [Act.put,Lq1,Lq2,Lq3]
   have RD:=Hxq (R2.out.new (w2:=w2.drew) ((Mod.refl [] w2).drewN 1))
   refine wpAnyH_ready (rs:=[7]) (by kernel_rfl) (by simp) ?_
   refine AllReadyH.cons (o:=?_) ?_ ?_ AllReadyH.nil
   rotate_left 1
   ·(simp only [Gq1,Gq2,Gq3])<;>rfl
   intro K hK
   go_simp
   have MS:=Hxq (show Mod [] w2 (w2.drew.alloc (Obj.cells #[Value.string av,Value.string { data:=#[32,61,32] },Value.string sg,Value.string { data:=#[32,123,32] }] 9)) from Mod.alloc (b:=w2.drew) ((Mod.refl [] w2).drewN 1) _)
   refine hK.out _ _ (by (try dsimp only);exact ⟨MS.out.cell c0 (by simp),MS.out.cell c1 (by simp),MS.out.cell s2 (by simp)⟩) (fun hHeld=>?_)
   clear hK K
   try simp only [Act.put,Lq1,Lq2,Lq3]
   refine wpAnyH_ready (rs:=[8]) (by kernel_rfl) (by simp) ?_
   refine AllReadyH.cons (o:=?_) ?_ ?_ AllReadyH.nil
   rotate_left 1
   ·(simp only [Gq1,Gq2,Gq3])<;>rfl
   intro K hK
   go_simp
   refine (RD.out.put [av,{ data:=#[32,61,32] },sg,{ data:=#[32,123,32] }] rfl rfl (by simp) (by rw [fl_len];show _+(av.size+(3+(sg.size+(3+0))))<=_;have:=HSZ.out;omega)).mono ?_
   rintro e3 w3 ⟨rfl,r3,k3⟩
   refine hK.out _ _ (by (try dsimp only);exact ⟨k3.cell c0 (by simp),k3.cell c1 (by simp),k3.cell s2 (by simp)⟩) (fun hHeld=>?_)
   clear hK K
   try simp only [Act.put,Lq1,Lq2,Lq3]
   refine wpAnyH_done (by kernel_rfl) ?_ _
   have R3:=Hxq (r3.of (o':=(cat (mustO (Va.variable_ (Cod.str av))) (some (Cod.str av++([32,61,32]++(Cod.str sg++[32,123,32])))))) (n':=av.size+20) (by simp only [List.flatMap_cons,List.flatMap_nil,List.append_nil];rfl) (by rw [fl_len];show _+(av.size+(3+(sg.size+(3+0))))<=_;have:=HSZ.out;omega))
   have X3:=Hxq ((X2.out.past (w':=w2.drew) ((Mod.refl [] w2).drewN 1)).kept k3 (by simp))
   clear r3 k3 c0 c1 s2 MS RD R2 R1 X2 hHeld
   have c0:w3.cell? ⟨w.heap.size,0,none⟩=some (.int .i64 4):=X3.out.zero 0 _ rfl
   have c2:w3.cell? ⟨w.heap.size,2,none⟩=some (.int .i64 of.k):=X3.out.zero 2 _ rfl
   have c3:w3.cell? ⟨w.heap.size,3,none⟩=some (.string of.v):=X3.out.zero 3 _ rfl
   have c4:w3.cell? ⟨w.heap.size,4,none⟩=some (.int .i64 of.x.k):=X3.out.zero 4 _ rfl
   have c5:w3.cell? ⟨w.heap.size,5,none⟩=some (.int .i64 of.x.n):=X3.out.zero 5 _ rfl
   have c6:w3.cell? ⟨w.heap.size,6,none⟩=some (.string (Lx.ofS of.x.s)):=X3.out.zero 6 _ rfl
   have c7:w3.cell? ⟨w.heap.size,7,none⟩=some (.int .i64 of.op):=X3.out.zero 7 _ rfl
   have c8:w3.cell? ⟨w.heap.size,8,none⟩=some ((.slice oa of.args.length oc)):=X3.out.zero 8 _ rfl
   go_wp2_with fail
   refine (R3.out.expr of _ HO.out HG.out (by omega)).mono ?_
   rintro e4 w4 ⟨rfl,r4,k4⟩
   have R4:=Lib.hid r4
   have X4:=Hxq (X3.out.kept k4 (by simp))
   clear r4 k4 c0 c2 c3 c4 c5 c6 c7 c8
   go_wp2_with fail
   refine (R4.out.put [{ data:=#[32,58,32] }] rfl rfl (by simp) (by rw [fl_len];show _+(3+0)<=_;omega)).mono ?_
   rintro e5 w5 ⟨rfl,r5,k5⟩
   have R5:=Hxq (r5.of (o':=cat (cat (mustO (Va.variable_ (Cod.str av))) (some (Cod.str av++([32,61,32]++(Cod.str sg++[32,123,32]))))) (ofO 4 of)) (n':=av.size+30+exWt of) (by rw [cat_assoc];rfl) (by rw [fl_len];show _+(3+0)<=_;omega))
   have X5:=Hxq (X4.out.kept k5 (by simp))
   clear r5 k5 R4 R3 X3 X4
   go_upto_region 10 with fail
   obtain ⟨q5,v5,bad5,g0,g1,g2,g3,fz,-,-⟩:=R5.out.cells
   have HS5:=Hxq (R5.out.setBr (br+1))
   go_upto_region 11 with fail
   clear g0 g1 g2 g3 fz
   generalize w5.setCell ⟨p,3,none⟩ (.int .i64 (br+1))=w6 at *
   have R6:=Lib.hid HS5.out.1
   have X6:=Hxq (X5.out.kept HS5.out.2 (by simp))
   clear HS5 X5 R5
   have c9:w6.cell? ⟨w.heap.size,9,none⟩=some ((.slice ba body.length bc)):=X6.out.zero 9 _ rfl
   go_wp2_with fail
   refine (R6.out.call (Nat.le_refl _) (fun q v l' bad h hl=>HBC.out body _ p q v l' bad _ h HBO.out HG.out (by omega))).mono ?_
   rintro e7 w7 ⟨rfl,r7,k7⟩
   have R7:=Lib.hid r7
   clear r7 k7 c9 X6 R6
   go_upto_region 12 with fail
   obtain ⟨q7,v7,bad7,g0,g1,g2,g3,fz,-,-⟩:=R7.out.cells
   have HS7:=Hxq (R7.out.setBr br)
   go_upto_region 13 with fail
   clear g0 g1 g2 g3 fz
   generalize w7.setCell ⟨p,3,none⟩ (.int .i64 br)=w8 at *
   have R8:=Lib.hid HS7.out.1
   clear HS7 R7
   go_wp2_with fail
   refine (R8.out.put [{ data:=#[32,125] }] rfl rfl (by simp) (by rw [fl_len];show _+(2+0)<=_;omega)).mono ?_
   rintro e9 w9 ⟨rfl,r9,k9⟩
   have R9:=Lib.hid r9
   clear r9 k9
   go_wp2_with fail
   go_end0
   exact (R9.out.of (by rw [HPG.out];rfl) (by rw [fl_len];show _+(2+0)<=_;omega)).done
 ·have HS:=Hxq (RB.out.setBad (pG (b+1) fn av of body) (.inl (pG_no hg)))
  clear HSG MA MB XB
  by_cases f1:fn<1
  ·clear hg
   go_wp2_with fail
   go_end0
   exact (HS.out.1.of rfl (by omega)).done
  ·by_cases f5:5<=fn
   ·clear hg
    go_wp2_with fail
    go_end0
    exact (HS.out.1.of rfl (by omega)).done
   ·have h0:body.length=0:=by omega
    clear hg
    simp only [h0] at hl2 c9
    go_wp2_with fail
    go_end0
    exact (HS.out.1.of rfl (by omega)).done
theorem lits_all (w0:World):∀ b,b<=16->LitC w0 b/\BodyC w0 b
 | 0,_=>have h:=lit_ofP (by omega) (agg_zero w0);⟨h,body_ofP (by omega) h⟩
 | b+1,hb=>by
  have ih:=lits_all w0 b (by omega)
  have h:LitC w0 (b+1):=lit_ofP hb (agg_ofP (by omega) ih.2)
  exact ⟨h,body_ofP hb h⟩
end Go.Proofs.YtbfaclljbbfknaaGreatDoor
