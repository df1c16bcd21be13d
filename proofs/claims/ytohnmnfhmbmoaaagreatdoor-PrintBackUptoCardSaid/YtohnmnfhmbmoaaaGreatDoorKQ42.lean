/- THE TEXTS MERGED: PrAwake. -/
import Derived.Test.YtohnmnfhmbmoaaaGreatDoorKQ1
import Derived.Test.YtohnmnfhmbmoaaaGreatDoorKQ41
namespace Go.Proofs.YtohnmnfhmbmoaaaGreatDoor
open Go.RowKit
set_option linter.unusedVariables false
set_option linter.unusedSimpArgs false
set_option maxRecDepth 100000
theorem one_any (w:World):Calls Tryz.prog 23 #[] w fun e w'=>e=.returned (.agg (exV xOne (.slice none 0 0)))/\Mod [] w w':=by
 go_enter Tryz.func23,Tryz.ntmps23
 go_wp2_with fail
 refine bodyPost_ret (results_cell_row rfl _ _ _ _ _ _ _ rfl (heap_alloc_new w _) Tryz.underlying38 rfl (by kernel_rfl)) rfl ⟨rfl,(Mod.refl [] w).alloc _⟩
theorem xname_any (s:ByteArray) (w:World):Calls Tryz.prog 24 #[.string s] w fun e w'=>e=.returned (.agg (exV (xName s) (.slice none 0 0)))/\Mod [] w w':=by
 go_enter Tryz.func24,Tryz.ntmps24
 go_wp2_with fail
 refine bodyPost_ret (results_cell_row rfl _ _ _ _ _ _ _ rfl (heap_alloc_new w _) Tryz.underlying38 rfl (by kernel_rfl)) rfl ⟨rfl,(Mod.refl [] w).alloc _⟩
theorem zOk:Va.zero.Ok:=by constructor <;> decide
theorem oneOk:(⟨1,1,[]⟩:Va.Val).Ok:=by constructor <;> decide
theorem eok_one (w:World):EOk w xOne (.slice none 0 0):=.nil oneOk
theorem eok_name (w:World) (s:ByteArray):EOk w (xName s) (.slice none 0 0):=.nil zOk
/-- two expressions in a row -/
theorem eok_two (w:World) (k:Int) (v:ByteArray) (x:Va.Val) (op:Int) (a b:Pr.Ex) (u u':Value) (hx:x.Ok) (ha:EOk w a u) (hb:EOk w b u') :
  EOk (w.alloc (Obj.cells (exV a u++exV b u') 38)) (.mk k v x op [a,b]) (.slice (some ⟨w.heap.size,0,none⟩) 2 2):=by
 have hcell:=heap_alloc_new w (Obj.cells (exV a u++exV b u') 38)
 have m:=(Mod.refl [] w).alloc (Obj.cells (exV a u++exV b u') 38)
 refine .row (us:=fun i=>if i=0 then u else u') hx (fun i hi=>?_) (fun i hi=>?_)
 ·have:i=0\/i=1:=by simp at hi;omega
  rcases this with rfl | rfl <;> constructor <;> simp only [World.cell?,hcell] <;> rfl
 ·have:i=0\/i=1:=by simp at hi;omega
  rcases this with rfl | rfl
  ·exact ha.past m
  ·exact hb.past m
theorem eok_onerow (w:World) (k:Int) (v:ByteArray) (x:Va.Val) (op:Int) (a:Pr.Ex) (u:Value) (hx:x.Ok) (ha:EOk w a u) :
  EOk (w.alloc (Obj.cells (exV a u) 38)) (.mk k v x op [a]) (.slice (some ⟨w.heap.size,0,none⟩) 1 1):=by
 have hcell:=heap_alloc_new w (Obj.cells (exV a u) 38)
 have m:=(Mod.refl [] w).alloc (Obj.cells (exV a u) 38)
 refine .row (us:=fun i=>u) hx (fun i hi=>?_) (fun i hi=>?_)
 ·have:i=0:=by simp at hi;omega
  subst this
  constructor <;> simp only [World.cell?,hcell] <;> rfl
 ·have:i=0:=by simp at hi;omega
  subst this
  exact ha.past m
theorem ofS1:Lx.ofS [45,40,49,41]={ data:=#[45,40,49,41] }:=by rfl
theorem ofS2:Lx.ofS [88,32,42,32,40,89,32,43,32,49,41]={ data:=#[88,32,42,32,40,89,32,43,32,49,41] }:=by rfl
theorem ofS3:Lx.ofS [114,101,108,97,116,105,111,110,32,112,40,110,117,109,44,32,115,121,109,41,46,10,113,40,41,46,10]={ data:=#[114,101,108,97,116,105,111,110,32,112,40,110,117,109,44,32,115,121,109,41,46,10,113,40,41,46,10] }:=by rfl
theorem wt1:exWt xNeg<=140737488000000:=by
 have:exWt xNeg=600:=by rfl
 omega
theorem wt2:exWt xMul<=140737488000000:=by
 have:exWt xMul=1502:=by rfl
 omega
theorem wt3:dsWt xProg.rels+rsWt xProg.rules<=140737488000000:=by
 have:dsWt xProg.rels+rsWt xProg.rules=366:=by rfl
 omega
theorem wt4:aWt xSum<=140737488000000:=by
 have:aWt xSum=303:=by rfl
 omega
theorem one_is (w:World):Calls Tryz.prog 23 #[] w fun e w'=>e=.returned (.agg #[.int .i64 2,.string ⟨#[]⟩,.int .i64 1,.int .i64 1,.string ⟨#[]⟩,.int .i64 0,.slice none 0 0])/\Mod [] w w':=one_any w
theorem name_is (s:ByteArray) (w:World):Calls Tryz.prog 24 #[.string s] w fun e w'=>e=.returned (.agg #[.int .i64 1,.string s,.int .i64 0,.int .i64 0,.string ⟨#[]⟩,.int .i64 0,.slice none 0 0])/\Mod [] w w':=xname_any s w
theorem dat2 {w:World}:YOk (w.alloc (Obj.cells #[.int .i64 1,.int .i64 2] 3)) [1,2] (.slice (some ⟨w.heap.size,0,none⟩) 2 2):=by
 have hcell:=heap_alloc_new w (Obj.cells #[.int .i64 1,.int .i64 2] 3)
 refine .row (ts:=[1,2]) (fun i hi=>?_)
 have:i=0\/i=1:=by simp at hi;omega
 rcases this with rfl | rfl <;> simp only [World.cell?,hcell] <;> rfl
theorem dat3 {w:World} {u:Value} (h:YOk w [1,2] u):DsOk (w.alloc (Obj.cells #[.string { data:=#[112] },u,.int .i64 0,.int .i64 0] 70)) xProg.rels (.slice (some ⟨w.heap.size,0,none⟩) 1 1):=by
 have hcell:=heap_alloc_new w (Obj.cells #[.string { data:=#[112] },u,.int .i64 0,.int .i64 0] 70)
 refine .row (ds:=xProg.rels) (us:=fun _=>u) (fun i hi=>?_) (fun i hi=>?_)
 ·have:i=0:=by simp [xProg] at hi;omega
  subst this
  exact CellsAt.of hcell
 ·have:i=0:=by simp [xProg] at hi;omega
  subst this
  exact h.past ((Mod.refl [] w).alloc _)
theorem dat4 {w:World}:RsOk (w.alloc (Obj.cells #[.string { data:=#[113] },.slice none 0 0,.slice none 0 0,.int .i64 0,.int .i64 0] 63)) xProg.rules (.slice (some ⟨w.heap.size,0,none⟩) 1 1):=by
 have hcell:=heap_alloc_new w (Obj.cells #[.string { data:=#[113] },.slice none 0 0,.slice none 0 0,.int .i64 0,.int .i64 0] 63)
 refine .row (rs:=xProg.rules) (ts:=fun _=>.slice none 0 0) (us:=fun _=>.slice none 0 0) (fun i hi=>?_) (fun i hi=>?_) (fun i hi=>?_)
 ·have:i=0:=by simp [xProg] at hi;omega
  subst this
  exact CellsAt.of hcell
 ·have:i=0:=by simp [xProg] at hi;omega
  subst this
  exact .nil
 ·have:i=0:=by simp [xProg] at hi;omega
  subst this
  exact .inl ⟨rfl,none,0,rfl⟩
set_option maxHeartbeats 4000000 in
theorem awake_any (w:World) (hG:GlobV w):Calls Tryz.prog 7 #[] w fun e w'=>e=.returned (.bool true)/\Mod [] w w':=by
 have HG:=Lib.hid hG
 clear hG
 have H1:Hid (∀ (u:Value) (w:World),EOk w xNeg u->GlobV w->Calls Tryz.prog 15 #[.agg #[.int .i64 4,.string ⟨#[]⟩,.int .i64 0,.int .i64 0,.string ⟨#[]⟩,.int .i64 6,u]] w (fun e w'=>e=.returned (.tuple #[.string { data:=#[45,40,49,41] },.int .i64 0])/\Mod [] w w')):=Hxq (fun u w hE hG=>by
  have h:=Expr_any xNeg u w hE hG wt1
  rw [pE_neg] at h
  exact h.mono (by rintro e w' ⟨rfl,m,-⟩;exact ⟨by unfold tv;simp only [ofS1],m⟩))
 have H2:Hid (∀ (u:Value) (w:World),EOk w xMul u->GlobV w->Calls Tryz.prog 15 #[.agg #[.int .i64 4,.string ⟨#[]⟩,.int .i64 0,.int .i64 0,.string ⟨#[]⟩,.int .i64 3,u]] w (fun e w'=>e=.returned (.tuple #[.string { data:=#[88,32,42,32,40,89,32,43,32,49,41] },.int .i64 0])/\Mod [] w w')):=Hxq (fun u w hE hG=>by
  have h:=Expr_any xMul u w hE hG wt2
  rw [pE_mul] at h
  exact h.mono (by rintro e w' ⟨rfl,m,-⟩;exact ⟨by unfold tv;simp only [ofS2],m⟩))
 have H3:Hid (∀ (du ru:Value) (w:World),DsOk w xProg.rels du->RsOk w xProg.rules ru->GlobV w->Calls Tryz.prog 9 #[.agg #[du,ru]] w (fun e w'=>e=.returned (.tuple #[.string { data:=#[114,101,108,97,116,105,111,110,32,112,40,110,117,109,44,32,115,121,109,41,46,10,113,40,41,46,10] },.int .i64 0])/\Mod [] w w')):=Hxq (fun du ru w hD hR hG=>by
  have h:=Program_any xProg du ru w hD hR hG wt3
  rw [pP_prog] at h
  exact h.mono (by rintro e w' ⟨rfl,m,-⟩;exact ⟨by unfold tv;simp only [ofS3],m⟩))
 have H4:Hid (∀ (w:World),GlobV w->Calls Tryz.prog 25 #[.agg #[.string { data:=#[115,117,109] },.slice none 0 0]] w (fun e w'=>e=.returned (.tuple #[.string ⟨#[]⟩,.int .i64 50])/\Mod [] w w')):=Hxq (fun w hG=>by
  have h:=Atom_any xSum (.slice none 0 0) w .nil hG wt4
  rw [pA_sum] at h
  exact h.mono (by rintro e w' ⟨rfl,m,-⟩;exact ⟨rfl,m⟩))
 go_enter Tryz.func7,Tryz.ntmps7
 go_wp2_with fail
 refine (one_is _).mono ?_
 rintro e1 w1 ⟨rfl,m1⟩
 have M1:=Hxq (Mod.alloc m1 (Obj.cells #[Value.int IntKind.i64 2,Value.string ⟨#[]⟩,Value.int IntKind.i64 1,Value.int IntKind.i64 1,Value.string ⟨#[]⟩,Value.int IntKind.i64 0,Value.slice none 0 0] 38))
 have E1:Hid (EOk (w1.alloc (Obj.cells #[Value.int IntKind.i64 2,Value.string ⟨#[]⟩,Value.int IntKind.i64 1,Value.int IntKind.i64 1,Value.string ⟨#[]⟩,Value.int IntKind.i64 0,Value.slice none 0 0] 38)) xNeg (.slice (some ⟨w1.heap.size,0,none⟩) 1 1)):=Hxq (eok_onerow w1 4 ⟨#[]⟩ Va.zero 6 xOne (.slice none 0 0) zOk (eok_one _))
 clear m1
 go_wp2_with fail
 refine (H1.out _ _ E1.out (HG.out.past M1.out (by simp))).mono ?_
 rintro e2 w2 ⟨rfl,m2⟩
 have M2:=Hxq (M1.out.trans m2 (by simp))
 clear m2 M1 E1
 go_wp2_with fail
 refine (name_is _ _).mono ?_
 rintro e3 w3 ⟨rfl,m3⟩
 have M3:=Hxq (M2.out.trans m3 (by simp))
 clear m3 M2
 go_wp2_with fail
 refine (name_is _ _).mono ?_
 rintro e4 w4 ⟨rfl,m4⟩
 have M4:=Hxq (M3.out.trans m4 (by simp))
 clear m4 M3
 go_wp2_with fail
 refine (one_is _).mono ?_
 rintro e5 w5 ⟨rfl,m5⟩
 have M5:=Hxq (Mod.alloc (M4.out.trans m5 (by simp)) (Obj.cells #[Value.int IntKind.i64 1,Value.string { data:=#[89] },Value.int IntKind.i64 0,Value.int IntKind.i64 0,Value.string ⟨#[]⟩,Value.int IntKind.i64 0,Value.slice none 0 0,Value.int IntKind.i64 2,Value.string ⟨#[]⟩,Value.int IntKind.i64 1,Value.int IntKind.i64 1,Value.string ⟨#[]⟩,Value.int IntKind.i64 0,Value.slice none 0 0] 38))
 have E5:Hid (EOk (w5.alloc (Obj.cells #[Value.int IntKind.i64 1,Value.string { data:=#[89] },Value.int IntKind.i64 0,Value.int IntKind.i64 0,Value.string ⟨#[]⟩,Value.int IntKind.i64 0,Value.slice none 0 0,Value.int IntKind.i64 2,Value.string ⟨#[]⟩,Value.int IntKind.i64 1,Value.int IntKind.i64 1,Value.string ⟨#[]⟩,Value.int IntKind.i64 0,Value.slice none 0 0] 38)) xAdd (.slice (some ⟨w5.heap.size,0,none⟩) 2 2)):=Hxq (eok_two w5 4 ⟨#[]⟩ Va.zero 1 (xName { data:=#[89] }) xOne (.slice none 0 0) (.slice none 0 0) zOk (eok_name _ _) (eok_one _))
 generalize hw6:w5.alloc (Obj.cells #[Value.int IntKind.i64 1,Value.string { data:=#[89] },Value.int IntKind.i64 0,Value.int IntKind.i64 0,Value.string ⟨#[]⟩,Value.int IntKind.i64 0,Value.slice none 0 0,Value.int IntKind.i64 2,Value.string ⟨#[]⟩,Value.int IntKind.i64 1,Value.int IntKind.i64 1,Value.string ⟨#[]⟩,Value.int IntKind.i64 0,Value.slice none 0 0] 38)=w6 at *
 have M6:=Hxq (Mod.alloc M5.out (Obj.cells #[Value.int IntKind.i64 1,Value.string { data:=#[88] },Value.int IntKind.i64 0,Value.int IntKind.i64 0,Value.string ⟨#[]⟩,Value.int IntKind.i64 0,Value.slice none 0 0,Value.int IntKind.i64 4,Value.string ⟨#[]⟩,Value.int IntKind.i64 0,Value.int IntKind.i64 0,Value.string ⟨#[]⟩,Value.int IntKind.i64 1,Value.slice (some ⟨w5.heap.size,0,none⟩) 2 2] 38))
 have E6:Hid (EOk (w6.alloc (Obj.cells #[Value.int IntKind.i64 1,Value.string { data:=#[88] },Value.int IntKind.i64 0,Value.int IntKind.i64 0,Value.string ⟨#[]⟩,Value.int IntKind.i64 0,Value.slice none 0 0,Value.int IntKind.i64 4,Value.string ⟨#[]⟩,Value.int IntKind.i64 0,Value.int IntKind.i64 0,Value.string ⟨#[]⟩,Value.int IntKind.i64 1,Value.slice (some ⟨w5.heap.size,0,none⟩) 2 2] 38)) xMul (.slice (some ⟨w6.heap.size,0,none⟩) 2 2)):=Hxq (eok_two w6 4 ⟨#[]⟩ Va.zero 3 (xName { data:=#[88] }) xAdd (.slice none 0 0) _ zOk (eok_name _ _) E5.out)
 have hz6:w6.heap.size=w5.heap.size+1:=by rw [<-hw6];simp
 rw [hz6] at E6
 subst hw6
 clear hz6
 clear m5 M4 M5 E5
 go_wp2_with fail
 refine (H2.out _ _ E6.out (HG.out.past M6.out (by simp))).mono ?_
 rintro e7 w7 ⟨rfl,m7⟩
 have M7:=Hxq (M6.out.trans m7 (by simp))
 clear m7 M6 E6
 have Y7:=Hxq (dat2 (w:=w7))
 have M8:=Hxq (Mod.alloc M7.out (Obj.cells #[Value.int IntKind.i64 1,Value.int IntKind.i64 2] 3))
 generalize hw8:w7.alloc (Obj.cells #[Value.int IntKind.i64 1,Value.int IntKind.i64 2] 3)=w8 at *
 have D8:=Hxq (dat3 Y7.out)
 have M9:=Hxq (Mod.alloc M8.out (Obj.cells #[Value.string { data:=#[112] },Value.slice (some ⟨w7.heap.size,0,none⟩) 2 2,Value.int IntKind.i64 0,Value.int IntKind.i64 0] 70))
 generalize hw9:w8.alloc (Obj.cells #[Value.string { data:=#[112] },Value.slice (some ⟨w7.heap.size,0,none⟩) 2 2,Value.int IntKind.i64 0,Value.int IntKind.i64 0] 70)=w9 at *
 have R9:=Hxq (dat4 (w:=w9))
 have D9:=Hxq (D8.out.past ((Mod.refl [] w9).alloc (Obj.cells #[Value.string { data:=#[113] },Value.slice none 0 0,Value.slice none 0 0,Value.int IntKind.i64 0,Value.int IntKind.i64 0] 63)))
 have M10:=Hxq (Mod.alloc M9.out (Obj.cells #[Value.string { data:=#[113] },Value.slice none 0 0,Value.slice none 0 0,Value.int IntKind.i64 0,Value.int IntKind.i64 0] 63))
 have hz8:w8.heap.size=w7.heap.size+1:=by rw [<-hw8];simp
 have hz9:w9.heap.size=w7.heap.size+1+1:=by rw [<-hw9,<-hz8];simp
 rw [hz8] at D9
 rw [hz9] at R9
 clear hz8 hz9
 subst hw9
 subst hw8
 clear Y7 M8 D8 M9 M7
 go_wp2_with fail
 refine (H3.out _ _ _ D9.out R9.out (HG.out.past M10.out (by simp))).mono ?_
 rintro e11 w11 ⟨rfl,m11⟩
 have M11:=Hxq (M10.out.trans m11 (by simp))
 clear m11 M10 D9 R9
 go_wp2_with fail
 refine (H4.out _ (HG.out.past M11.out (by simp))).mono ?_
 rintro e12 w12 ⟨rfl,m12⟩
 have M12:=Hxq (M11.out.trans m12 (by simp))
 clear m12 M11
 go_wp2_with fail
 go_ret
 exact ⟨rfl,M12.out⟩
end Go.Proofs.YtohnmnfhmbmoaaaGreatDoor
