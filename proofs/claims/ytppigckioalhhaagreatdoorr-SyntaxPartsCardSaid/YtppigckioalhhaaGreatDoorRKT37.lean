/- THE TEXTS MERGED: SySame5. -/
import Derived.Test.YtppigckioalhhaaGreatDoorRKT1
import Derived.Test.YtppigckioalhhaaGreatDoorRKT36
namespace Go.Proofs.YtppigckioalhhaaGreatDoorR
open Go.RowKit
set_option linter.unusedVariables false
set_option linter.unusedSimpArgs false
set_option maxRecDepth 100000
theorem BB.one {w:World} {g:Nat} {T:TypeId} {l:Pr.Li} {U:LU} {fr:Nat × Nat} (h:w.heap[g]?=some (.cells (liV l U) T fr)) (hb:LB (fun _=>True) w l U):BB (fun _=>True) w [l] (.slice (some ⟨g,0,none⟩) 1 1) :=
 BB.of_row (F:=fun _=>True) (w:=w) (u:=.slice (some ⟨g,0,none⟩) 1 1) [(l,U)] (RowB.row trivial (lt_of_block h) (fun i hi=>by
  obtain rfl:i=0:=by simp at hi;omega
  intro j v hv
  simp only [List.getElem_cons_zero,Nat.zero_mul,Nat.add_zero,Nat.zero_add] at hv ⊢
  rw [cell_at h,hv])) (fun p hp=>by rw [Msq] at hp;subst hp;exact hb)
set_option maxHeartbeats 8000000 in
theorem sameLiteral_any {F G:Nat->Prop} (l:Pr.Li) (hM:liMs [l]<=140737488355328) (U U':LU) (w:World) (h:LB F w l U) (h':LB G w l U') :
  Calls Tryz.prog 19 #[.agg (liV l U),.agg (liV l U')] w (Tru w):=by
 obtain ⟨iL,hinf,hz0,hz1,hz2⟩:=info_parts Tryz.infoLit
 have hone:=liV_one (l,U) h
 have hone':=liV_one (l,U') h'
 have hC:=liV_size (l,U)
 have hC':=liV_size (l,U')
 have H1:=Hxq (h.mono (F':=fun _=>True) (fun _ _ _=>trivial));have H2:=Hxq (h'.mono (F':=fun _=>True) (fun _ _ _=>trivial))
 dsimp only at hC hC' hone hone'
 have HSL:=Hxq (fun u u' w h h'=>sameLits_any (F:=fun _=>True) (G:=fun _=>True) [l] (by simp) hM u u' w h h')
 have HOA:=Hxq (fun (w:World) (g:Nat) (T:TypeId) (fr:Nat × Nat) e h=>BB.one (w:=w) (g:=g) (T:=T) (fr:=fr) (l:=l) (U:=U) e h)
 have HOB:=Hxq (fun (w:World) (g:Nat) (T:TypeId) (fr:Nat × Nat) e h=>BB.one (w:=w) (g:=g) (T:=T) (fr:=fr) (l:=l) (U:=U') e h)
 clear h h'
 have HK1:=Hxq (fun (w':World) (m:Mod [] w w')=>H1.out.keep m (by simp));have HK2:=Hxq (fun (w':World) (m:Mod [] w w')=>H2.out.keep m (by simp))
 clear H1 H2
 generalize liV l U=C at *
 generalize liV l U'=D at *
 have e1:=two_a w C D 50 50
 have e2:=two_b w C D 50 50
 have mA:=((Mod.refl [] w).alloc (Obj.cells C 50)).alloc (Obj.cells D 50)
 have HSC:=Hxq (size_of Tryz.sizeLit hC);have HSD:=Hxq (size_of Tryz.sizeLit hC');have HCi:=Hxq (show C.size=iL.size by rw [hC,hz1]);have HDi:=Hxq (show D.size=iL.size by rw [hC',hz1])
 go_enter Tryz.func19,Tryz.ntmps19
 go_upto_region 1 with fail
 generalize (w.alloc (Obj.cells C 50)).alloc (Obj.cells D 50)=w1 at *
 have E1:=Lib.hid e1;have E2:=Lib.hid e2;have MA:=Lib.hid mA
 clear e1 e2 mA hC hC' hone hone'
 have mB:=(Mod.refl [] w1).alloc (Obj.cells C 50)
 have eB:=heap_alloc_new w1 (Obj.cells C 50)
 have E2':=Hxq (mB.at E2.out (by simp))
 have MB:=Lib.hid mB;have EB:=Lib.hid eB
 clear mB eB
 go_wp2_with (first | refine wpList_load_row rfl 50 _ rfl w.heap.size C 50 (0,0) rfl E1.out _ Tryz.underlying50 rfl HSC.out ?_ | refine wpList_load_row rfl 50 _ rfl (w.heap.size+1) D 50 (0,0) rfl E2'.out _ Tryz.underlying50 rfl HSD.out ?_ | refine wpList_slice_one rfl 46 50 _ rfl C iL (.agg #[Value.int .i64 0,Value.string ⟨#[]⟩,Value.slice none 0 0,Value.int .i64 0,Value.int .i64 0,Value.string ⟨#[]⟩,Value.int .i64 0,Value.int .i64 0,Value.string ⟨#[]⟩,Value.int .i64 0,Value.slice none 0 0,Value.int .i64 0,Value.string ⟨#[]⟩,Value.int .i64 0,Value.int .i64 0,Value.string ⟨#[]⟩,Value.int .i64 0,Value.slice none 0 0,Value.int .i64 0,Value.string ⟨#[]⟩,Value.int .i64 0,Value.string ⟨#[]⟩,Value.int .i64 0,Value.int .i64 0,Value.string ⟨#[]⟩,Value.int .i64 0,Value.slice none 0 0,Value.slice none 0 0,Value.int .i64 0,Value.int .i64 0]) rfl Tryz.underlying46 hinf hz0 HCi.out (by rw [hz1];omega) (by rw [hz1];omega) ?_ | refine wpList_slice_one rfl 46 50 _ rfl D iL (.agg #[Value.int .i64 0,Value.string ⟨#[]⟩,Value.slice none 0 0,Value.int .i64 0,Value.int .i64 0,Value.string ⟨#[]⟩,Value.int .i64 0,Value.int .i64 0,Value.string ⟨#[]⟩,Value.int .i64 0,Value.slice none 0 0,Value.int .i64 0,Value.string ⟨#[]⟩,Value.int .i64 0,Value.int .i64 0,Value.string ⟨#[]⟩,Value.int .i64 0,Value.slice none 0 0,Value.int .i64 0,Value.string ⟨#[]⟩,Value.int .i64 0,Value.string ⟨#[]⟩,Value.int .i64 0,Value.int .i64 0,Value.string ⟨#[]⟩,Value.int .i64 0,Value.slice none 0 0,Value.slice none 0 0,Value.int .i64 0,Value.int .i64 0]) rfl Tryz.underlying46 hinf hz0 HDi.out (by rw [hz1];omega) (by rw [hz1];omega) ?_)
 have mC:=MB.out.alloc (Obj.cells D 50)
 have eB':=two_a w1 C D 50 50
 have eC:=two_b w1 C D 50 50
 have M2:=MA.out.trans mC (by simp)
 refine (HSL.out _ _ _ (HOA.out _ _ _ _ eB' (HK1.out _ M2)) (HOB.out _ _ _ _ eC (HK2.out _ M2))).mono ?_
 rintro e3 w3 ⟨rfl,m3⟩
 have M3:=Hxq (M2.trans m3 (by simp))
 clear m3
 go_wp2_with fail
 go_ret
 exact ⟨rfl,M3.out⟩
end Go.Proofs.YtppigckioalhhaaGreatDoorR
