/- THE TEXTS MERGED: PrAwake VaRef VaRef2 VaRefT1 VaRefT4. -/
import Derived.Test.YtohnmnfhmbmoaaaGreatDoorKG23
namespace Go.Proofs.YtohnmnfhmbmoaaaGreatDoor
open Go.RowKit
set_option linter.unusedVariables false
set_option linter.unusedSimpArgs false
set_option maxRecDepth 100000
theorem one_any (w:World):Calls Tryz.prog 23 #[] w fun e w'=>e=.returned (.agg (exV xOne (.slice none 0 0)))/\Mod [] w w':=by
 go_enter Tryz.func23,Tryz.ntmps23
 go_wp2_with fail
 refine bodyPost_ret (results_cell_row rfl _ _ _ _ _ _ _ rfl (heap_alloc_new w _) Tryz.underlying38 rfl (by kernel_rfl)) rfl ⟨rfl,(Mod.refl [] w).alloc _⟩
theorem xname_any (s:ByteArray) (w:World):Calls Tryz.prog 24 #[.string s] w fun e w'=>e=.returned (.agg (exV (xName s) (.slice none 0 0)))/\Mod [] w w':=by
 go_enter Tryz.func24,Tryz.ntmps24
 go_wp2_with fail
 refine bodyPost_ret (results_cell_row rfl _ _ _ _ _ _ _ rfl (heap_alloc_new w _) Tryz.underlying38 rfl (by kernel_rfl)) rfl ⟨rfl,(Mod.refl [] w).alloc _⟩
theorem zOk:Va.zero.Ok:=by constructor <;> decide
theorem oneOk:(⟨1,1,[]⟩:Va.Val).Ok:=by constructor <;> decide
theorem eok_one (w:World):EOk w xOne (.slice none 0 0):=.nil oneOk
theorem eok_name (w:World) (s:ByteArray):EOk w (xName s) (.slice none 0 0):=.nil zOk
/-- two expressions in a row -/
theorem eok_two (w:World) (k:Int) (v:ByteArray) (x:Va.Val) (op:Int) (a b:Pr.Ex) (u u':Value) (hx:x.Ok) (ha:EOk w a u) (hb:EOk w b u') :
  EOk (w.alloc (Obj.cells (exV a u++exV b u') 38)) (.mk k v x op [a,b]) (.slice (some ⟨w.heap.size,0,none⟩) 2 2):=by
 have hcell:=heap_alloc_new w (Obj.cells (exV a u++exV b u') 38)
 have m:=(Mod.refl [] w).alloc (Obj.cells (exV a u++exV b u') 38)
 refine .row (us:=fun i=>if i=0 then u else u') hx (fun i hi=>?_) (fun i hi=>?_)
 ·have:i=0\/i=1:=by simp at hi;omega
  rcases this with rfl | rfl <;> constructor <;> simp only [World.cell?,hcell] <;> rfl
 ·have:i=0\/i=1:=by simp at hi;omega
  rcases this with rfl | rfl
  ·exact ha.past m
  ·exact hb.past m
theorem eok_onerow (w:World) (k:Int) (v:ByteArray) (x:Va.Val) (op:Int) (a:Pr.Ex) (u:Value) (hx:x.Ok) (ha:EOk w a u) :
  EOk (w.alloc (Obj.cells (exV a u) 38)) (.mk k v x op [a]) (.slice (some ⟨w.heap.size,0,none⟩) 1 1):=by
 have hcell:=heap_alloc_new w (Obj.cells (exV a u) 38)
 have m:=(Mod.refl [] w).alloc (Obj.cells (exV a u) 38)
 refine .row (us:=fun i=>u) hx (fun i hi=>?_) (fun i hi=>?_)
 ·have:i=0:=by simp at hi;omega
  subst this
  constructor <;> simp only [World.cell?,hcell] <;> rfl
 ·have:i=0:=by simp at hi;omega
  subst this
  exact ha.past m
theorem ofS1:Lx.ofS [45,40,49,41]={ data:=#[45,40,49,41] }:=by rfl
theorem ofS2:Lx.ofS [88,32,42,32,40,89,32,43,32,49,41]={ data:=#[88,32,42,32,40,89,32,43,32,49,41] }:=by rfl
theorem ofS3:Lx.ofS [114,101,108,97,116,105,111,110,32,112,40,110,117,109,44,32,115,121,109,41,46,10,113,40,41,46,10]={ data:=#[114,101,108,97,116,105,111,110,32,112,40,110,117,109,44,32,115,121,109,41,46,10,113,40,41,46,10] }:=by rfl
theorem wt1:exWt xNeg<=140737488000000:=by
 have:exWt xNeg=600:=by rfl
 omega
theorem wt2:exWt xMul<=140737488000000:=by
 have:exWt xMul=1502:=by rfl
 omega
theorem wt3:dsWt xProg.rels+rsWt xProg.rules<=140737488000000:=by
 have:dsWt xProg.rels+rsWt xProg.rules=366:=by rfl
 omega
theorem wt4:aWt xSum<=140737488000000:=by
 have:aWt xSum=303:=by rfl
 omega
theorem one_is (w:World):Calls Tryz.prog 23 #[] w fun e w'=>e=.returned (.agg #[.int .i64 2,.string ⟨#[]⟩,.int .i64 1,.int .i64 1,.string ⟨#[]⟩,.int .i64 0,.slice none 0 0])/\Mod [] w w':=one_any w
theorem name_is (s:ByteArray) (w:World):Calls Tryz.prog 24 #[.string s] w fun e w'=>e=.returned (.agg #[.int .i64 1,.string s,.int .i64 0,.int .i64 0,.string ⟨#[]⟩,.int .i64 0,.slice none 0 0])/\Mod [] w w':=xname_any s w
theorem dat2 {w:World}:YOk (w.alloc (Obj.cells #[.int .i64 1,.int .i64 2] 3)) [1,2] (.slice (some ⟨w.heap.size,0,none⟩) 2 2):=by
 have hcell:=heap_alloc_new w (Obj.cells #[.int .i64 1,.int .i64 2] 3)
 refine .row (ts:=[1,2]) (fun i hi=>?_)
 have:i=0\/i=1:=by simp at hi;omega
 rcases this with rfl | rfl <;> simp only [World.cell?,hcell] <;> rfl
theorem dat3 {w:World} {u:Value} (h:YOk w [1,2] u):DsOk (w.alloc (Obj.cells #[.string { data:=#[112] },u,.int .i64 0,.int .i64 0] 70)) xProg.rels (.slice (some ⟨w.heap.size,0,none⟩) 1 1):=by
 have hcell:=heap_alloc_new w (Obj.cells #[.string { data:=#[112] },u,.int .i64 0,.int .i64 0] 70)
 refine .row (ds:=xProg.rels) (us:=fun _=>u) (fun i hi=>?_) (fun i hi=>?_)
 ·have:i=0:=by simp [xProg] at hi;omega
  subst this
  exact CellsAt.of hcell
 ·have:i=0:=by simp [xProg] at hi;omega
  subst this
  exact h.past ((Mod.refl [] w).alloc _)
theorem dat4 {w:World}:RsOk (w.alloc (Obj.cells #[.string { data:=#[113] },.slice none 0 0,.slice none 0 0,.int .i64 0,.int .i64 0] 63)) xProg.rules (.slice (some ⟨w.heap.size,0,none⟩) 1 1):=by
 have hcell:=heap_alloc_new w (Obj.cells #[.string { data:=#[113] },.slice none 0 0,.slice none 0 0,.int .i64 0,.int .i64 0] 63)
 refine .row (rs:=xProg.rules) (ts:=fun _=>.slice none 0 0) (us:=fun _=>.slice none 0 0) (fun i hi=>?_) (fun i hi=>?_) (fun i hi=>?_)
 ·have:i=0:=by simp [xProg] at hi;omega
  subst this
  exact CellsAt.of hcell
 ·have:i=0:=by simp [xProg] at hi;omega
  subst this
  exact .nil
 ·have:i=0:=by simp [xProg] at hi;omega
  subst this
  exact .inl ⟨rfl,none,0,rfl⟩
set_option maxHeartbeats 4000000 in
theorem awake_any (w:World) (hG:GlobV w):Calls Tryz.prog 7 #[] w fun e w'=>e=.returned (.bool true)/\Mod [] w w':=by
 have HG:=Lib.hid hG
 clear hG
 have H1:Hid (∀ (u:Value) (w:World),EOk w xNeg u->GlobV w->Calls Tryz.prog 15 #[.agg #[.int .i64 4,.string ⟨#[]⟩,.int .i64 0,.int .i64 0,.string ⟨#[]⟩,.int .i64 6,u]] w (fun e w'=>e=.returned (.tuple #[.string { data:=#[45,40,49,41] },.int .i64 0])/\Mod [] w w')):=Hxq (fun u w hE hG=>by
  have h:=Expr_any xNeg u w hE hG wt1
  rw [pE_neg] at h
  exact h.mono (by rintro e w' ⟨rfl,m,-⟩;exact ⟨by unfold tv;simp only [ofS1],m⟩))
 have H2:Hid (∀ (u:Value) (w:World),EOk w xMul u->GlobV w->Calls Tryz.prog 15 #[.agg #[.int .i64 4,.string ⟨#[]⟩,.int .i64 0,.int .i64 0,.string ⟨#[]⟩,.int .i64 3,u]] w (fun e w'=>e=.returned (.tuple #[.string { data:=#[88,32,42,32,40,89,32,43,32,49,41] },.int .i64 0])/\Mod [] w w')):=Hxq (fun u w hE hG=>by
  have h:=Expr_any xMul u w hE hG wt2
  rw [pE_mul] at h
  exact h.mono (by rintro e w' ⟨rfl,m,-⟩;exact ⟨by unfold tv;simp only [ofS2],m⟩))
 have H3:Hid (∀ (du ru:Value) (w:World),DsOk w xProg.rels du->RsOk w xProg.rules ru->GlobV w->Calls Tryz.prog 9 #[.agg #[du,ru]] w (fun e w'=>e=.returned (.tuple #[.string { data:=#[114,101,108,97,116,105,111,110,32,112,40,110,117,109,44,32,115,121,109,41,46,10,113,40,41,46,10] },.int .i64 0])/\Mod [] w w')):=Hxq (fun du ru w hD hR hG=>by
  have h:=Program_any xProg du ru w hD hR hG wt3
  rw [pP_prog] at h
  exact h.mono (by rintro e w' ⟨rfl,m,-⟩;exact ⟨by unfold tv;simp only [ofS3],m⟩))
 have H4:Hid (∀ (w:World),GlobV w->Calls Tryz.prog 25 #[.agg #[.string { data:=#[115,117,109] },.slice none 0 0]] w (fun e w'=>e=.returned (.tuple #[.string ⟨#[]⟩,.int .i64 50])/\Mod [] w w')):=Hxq (fun w hG=>by
  have h:=Atom_any xSum (.slice none 0 0) w .nil hG wt4
  rw [pA_sum] at h
  exact h.mono (by rintro e w' ⟨rfl,m,-⟩;exact ⟨rfl,m⟩))
 go_enter Tryz.func7,Tryz.ntmps7
 go_wp2_with fail
 refine (one_is _).mono ?_
 rintro e1 w1 ⟨rfl,m1⟩
 have M1:=Hxq (Mod.alloc m1 (Obj.cells #[Value.int IntKind.i64 2,Value.string ⟨#[]⟩,Value.int IntKind.i64 1,Value.int IntKind.i64 1,Value.string ⟨#[]⟩,Value.int IntKind.i64 0,Value.slice none 0 0] 38))
 have E1:Hid (EOk (w1.alloc (Obj.cells #[Value.int IntKind.i64 2,Value.string ⟨#[]⟩,Value.int IntKind.i64 1,Value.int IntKind.i64 1,Value.string ⟨#[]⟩,Value.int IntKind.i64 0,Value.slice none 0 0] 38)) xNeg (.slice (some ⟨w1.heap.size,0,none⟩) 1 1)):=Hxq (eok_onerow w1 4 ⟨#[]⟩ Va.zero 6 xOne (.slice none 0 0) zOk (eok_one _))
 clear m1
 go_wp2_with fail
 refine (H1.out _ _ E1.out (HG.out.past M1.out (by simp))).mono ?_
 rintro e2 w2 ⟨rfl,m2⟩
 have M2:=Hxq (M1.out.trans m2 (by simp))
 clear m2 M1 E1
 go_wp2_with fail
 refine (name_is _ _).mono ?_
 rintro e3 w3 ⟨rfl,m3⟩
 have M3:=Hxq (M2.out.trans m3 (by simp))
 clear m3 M2
 go_wp2_with fail
 refine (name_is _ _).mono ?_
 rintro e4 w4 ⟨rfl,m4⟩
 have M4:=Hxq (M3.out.trans m4 (by simp))
 clear m4 M3
 go_wp2_with fail
 refine (one_is _).mono ?_
 rintro e5 w5 ⟨rfl,m5⟩
 have M5:=Hxq (Mod.alloc (M4.out.trans m5 (by simp)) (Obj.cells #[Value.int IntKind.i64 1,Value.string { data:=#[89] },Value.int IntKind.i64 0,Value.int IntKind.i64 0,Value.string ⟨#[]⟩,Value.int IntKind.i64 0,Value.slice none 0 0,Value.int IntKind.i64 2,Value.string ⟨#[]⟩,Value.int IntKind.i64 1,Value.int IntKind.i64 1,Value.string ⟨#[]⟩,Value.int IntKind.i64 0,Value.slice none 0 0] 38))
 have E5:Hid (EOk (w5.alloc (Obj.cells #[Value.int IntKind.i64 1,Value.string { data:=#[89] },Value.int IntKind.i64 0,Value.int IntKind.i64 0,Value.string ⟨#[]⟩,Value.int IntKind.i64 0,Value.slice none 0 0,Value.int IntKind.i64 2,Value.string ⟨#[]⟩,Value.int IntKind.i64 1,Value.int IntKind.i64 1,Value.string ⟨#[]⟩,Value.int IntKind.i64 0,Value.slice none 0 0] 38)) xAdd (.slice (some ⟨w5.heap.size,0,none⟩) 2 2)):=Hxq (eok_two w5 4 ⟨#[]⟩ Va.zero 1 (xName { data:=#[89] }) xOne (.slice none 0 0) (.slice none 0 0) zOk (eok_name _ _) (eok_one _))
 generalize hw6:w5.alloc (Obj.cells #[Value.int IntKind.i64 1,Value.string { data:=#[89] },Value.int IntKind.i64 0,Value.int IntKind.i64 0,Value.string ⟨#[]⟩,Value.int IntKind.i64 0,Value.slice none 0 0,Value.int IntKind.i64 2,Value.string ⟨#[]⟩,Value.int IntKind.i64 1,Value.int IntKind.i64 1,Value.string ⟨#[]⟩,Value.int IntKind.i64 0,Value.slice none 0 0] 38)=w6 at *
 have M6:=Hxq (Mod.alloc M5.out (Obj.cells #[Value.int IntKind.i64 1,Value.string { data:=#[88] },Value.int IntKind.i64 0,Value.int IntKind.i64 0,Value.string ⟨#[]⟩,Value.int IntKind.i64 0,Value.slice none 0 0,Value.int IntKind.i64 4,Value.string ⟨#[]⟩,Value.int IntKind.i64 0,Value.int IntKind.i64 0,Value.string ⟨#[]⟩,Value.int IntKind.i64 1,Value.slice (some ⟨w5.heap.size,0,none⟩) 2 2] 38))
 have E6:Hid (EOk (w6.alloc (Obj.cells #[Value.int IntKind.i64 1,Value.string { data:=#[88] },Value.int IntKind.i64 0,Value.int IntKind.i64 0,Value.string ⟨#[]⟩,Value.int IntKind.i64 0,Value.slice none 0 0,Value.int IntKind.i64 4,Value.string ⟨#[]⟩,Value.int IntKind.i64 0,Value.int IntKind.i64 0,Value.string ⟨#[]⟩,Value.int IntKind.i64 1,Value.slice (some ⟨w5.heap.size,0,none⟩) 2 2] 38)) xMul (.slice (some ⟨w6.heap.size,0,none⟩) 2 2)):=Hxq (eok_two w6 4 ⟨#[]⟩ Va.zero 3 (xName { data:=#[88] }) xAdd (.slice none 0 0) _ zOk (eok_name _ _) E5.out)
 have hz6:w6.heap.size=w5.heap.size+1:=by rw [<-hw6];simp
 rw [hz6] at E6
 subst hw6
 clear hz6
 clear m5 M4 M5 E5
 go_wp2_with fail
 refine (H2.out _ _ E6.out (HG.out.past M6.out (by simp))).mono ?_
 rintro e7 w7 ⟨rfl,m7⟩
 have M7:=Hxq (M6.out.trans m7 (by simp))
 clear m7 M6 E6
 have Y7:=Hxq (dat2 (w:=w7))
 have M8:=Hxq (Mod.alloc M7.out (Obj.cells #[Value.int IntKind.i64 1,Value.int IntKind.i64 2] 3))
 generalize hw8:w7.alloc (Obj.cells #[Value.int IntKind.i64 1,Value.int IntKind.i64 2] 3)=w8 at *
 have D8:=Hxq (dat3 Y7.out)
 have M9:=Hxq (Mod.alloc M8.out (Obj.cells #[Value.string { data:=#[112] },Value.slice (some ⟨w7.heap.size,0,none⟩) 2 2,Value.int IntKind.i64 0,Value.int IntKind.i64 0] 70))
 generalize hw9:w8.alloc (Obj.cells #[Value.string { data:=#[112] },Value.slice (some ⟨w7.heap.size,0,none⟩) 2 2,Value.int IntKind.i64 0,Value.int IntKind.i64 0] 70)=w9 at *
 have R9:=Hxq (dat4 (w:=w9))
 have D9:=Hxq (D8.out.past ((Mod.refl [] w9).alloc (Obj.cells #[Value.string { data:=#[113] },Value.slice none 0 0,Value.slice none 0 0,Value.int IntKind.i64 0,Value.int IntKind.i64 0] 63)))
 have M10:=Hxq (Mod.alloc M9.out (Obj.cells #[Value.string { data:=#[113] },Value.slice none 0 0,Value.slice none 0 0,Value.int IntKind.i64 0,Value.int IntKind.i64 0] 63))
 have hz8:w8.heap.size=w7.heap.size+1:=by rw [<-hw8];simp
 have hz9:w9.heap.size=w7.heap.size+1+1:=by rw [<-hw9,<-hz8];simp
 rw [hz8] at D9
 rw [hz9] at R9
 clear hz8 hz9
 subst hw9
 subst hw8
 clear Y7 M8 D8 M9 M7
 go_wp2_with fail
 refine (H3.out _ _ _ D9.out R9.out (HG.out.past M10.out (by simp))).mono ?_
 rintro e11 w11 ⟨rfl,m11⟩
 have M11:=Hxq (M10.out.trans m11 (by simp))
 clear m11 M10 D9 R9
 go_wp2_with fail
 refine (H4.out _ (HG.out.past M11.out (by simp))).mono ?_
 rintro e12 w12 ⟨rfl,m12⟩
 have M12:=Hxq (M11.out.trans m12 (by simp))
 clear m12 M11
 go_wp2_with fail
 go_ret
 exact ⟨rfl,M12.out⟩
theorem str_cons {r:ByteArray} (h:0<r.size):∃ c t,Cod.str r=c :: t/\r[0].toNat=c/\c<256:=by
 have hl:=Cod.str_len r
 cases hr:Cod.str r with
 | nil=>rw [hr] at hl;simp at hl;omega
 | cons c t =>
  refine ⟨c,t,rfl,?_,Cod.str_lt r c (by rw [hr];simp)⟩
  have:=Lx.get_str r 0 h
  rw [hr] at this
  exact this.symm
theorem vsmall_any (c:Nat) (b:Bool) (hb:Lx.small c=b) (w:World) :
  Calls Tryz.prog 90 #[.int .u8 (c:Nat)] w fun e w'=>e=.returned (.bool b)/\w=w':=by
 subst hb
 unfold Lx.small
 by_cases h1:(97:Int)<=(c:Int)
 ·go_enter Tryz.func90,Tryz.ntmps90
  go_wp2
  all_goals go_ret
  all_goals exact ⟨ret_bool (by rw [Bool.eq_iff_iff];simp <;> omega),rfl⟩
 ·go_enter Tryz.func90,Tryz.ntmps90
  go_wp2
  all_goals go_ret
  all_goals exact ⟨ret_bool (by rw [Bool.eq_iff_iff];simp <;> omega),rfl⟩
theorem vcapital_any (c:Nat) (b:Bool) (hb:Lx.capital c=b) (w:World) :
  Calls Tryz.prog 118 #[.int .u8 (c:Nat)] w fun e w'=>e=.returned (.bool b)/\w=w':=by
 subst hb
 unfold Lx.capital
 by_cases h1:(65:Int)<=(c:Int)
 ·go_enter Tryz.func118,Tryz.ntmps118
  go_wp2
  all_goals go_ret
  all_goals exact ⟨ret_bool (by rw [Bool.eq_iff_iff];simp <;> omega),rfl⟩
 ·go_enter Tryz.func118,Tryz.ntmps118
  go_wp2
  all_goals go_ret
  all_goals exact ⟨ret_bool (by rw [Bool.eq_iff_iff];simp <;> omega),rfl⟩
theorem vdigit_any (c:Nat) (b:Bool) (hb:Lx.digit c=b) (w:World) :
  Calls Tryz.prog 119 #[.int .u8 (c:Nat)] w fun e w'=>e=.returned (.bool b)/\w=w':=by
 subst hb
 unfold Lx.digit
 by_cases h1:(48:Int)<=(c:Int)
 ·go_enter Tryz.func119,Tryz.ntmps119
  go_wp2
  all_goals go_ret
  all_goals exact ⟨ret_bool (by rw [Bool.eq_iff_iff];simp <;> omega),rfl⟩
 ·go_enter Tryz.func119,Tryz.ntmps119
  go_wp2
  all_goals go_ret
  all_goals exact ⟨ret_bool (by rw [Bool.eq_iff_iff];simp <;> omega),rfl⟩
theorem vReserved_any (s:ByteArray) (w:World) :
  Calls Tryz.prog 91 #[.string s] w fun e w'=>e=.returned (.bool (resW8.contains s.toList))/\w'=w:=by
 go_enter Tryz.func91,Tryz.ntmps91
 go_wp2
 all_goals (first | (exfalso;simp_all;done) | (go_ret;exact ⟨by congr 1;simp_all [resW8],rfl⟩))
/-- is a text 1 to 32 bytes, all behind the first one letters, digits or '_'? -/
def rword (l:List Nat):Bool:=(l.drop 1).all Lx.goes && (decide (1<=l.length) && decide (l.length<=32))
theorem run_allW (p:Nat->Bool):∀ l:List Nat,decide (Lx.run p l=l.length)=l.all p
 | []=>by simp [Lx.run_nil]
 | c :: r=>by
  have ih:=run_allW p r
  rw [Lx.run_cons,List.all_cons]
  by_cases h:p c=true
  ·rw [if_pos h,h,Bool.true_and,<-ih,Bool.eq_iff_iff]
   simp
  ·rw [if_neg h]
   simp [h]
theorem wordB_eq (p:Nat->Bool) (hp:∀ c,p c=true->Lx.goes c=true) (l:List Nat):Va.wordB p l=(rword l && p (l.headD 0)):=by
 unfold Va.wordB rword
 rw [run_allW]
 cases l with
 | nil=>simp
 | cons c r =>
  simp only [List.drop_succ_cons,List.drop_zero,List.headD_cons,List.all_cons]
  by_cases h:p c=true
  ·have:=hp c h
   simp only [h,this,Bool.true_and,Bool.and_true]
   rw [Bool.and_comm (r.all Lx.goes)]
   simp
  ·simp [h]
set_option maxHeartbeats 2000000 in
theorem vword_any (s:ByteArray) (hs:s.size<=9223372036854775806) (w:World) :
  Calls Tryz.prog 89 #[.string s] w fun e w'=>e=.returned (.bool (rword (Cod.str s)))/\w'=w:=by
 have hlen:=Cod.str_len s
 go_enter Tryz.func89,Tryz.ntmps89
 go_wp2_with fail
 go_loopw [3] (fun iv wr=>∃ k:Nat,1<=k/\(k<=s.size\/k=1)/\iv=.int .i64 (k:Nat)/\wr=w/\(((Cod.str s).take k).drop 1).all Lx.goes=true) (fun iv _=>s.size - (intOf iv).toNat)
 case atStart =>
  refine ⟨1,by omega,.inr rfl,rfl,rfl,?_⟩
  rw [List.drop_eq_nil_of_le (by rw [List.length_take];omega)];rfl
 case round =>
  obtain ⟨k,hk1,hk,rfl,rfl,hal⟩:=hrel
  by_cases hlt:k<s.size
  ·have hkI:(k:Int)<(s.size:Int):=by omega
   have hk0:(0:Int)<=(k:Int):=by omega
   have hltl:k<(Cod.str s).length:=by omega
   have hcd:s[k].toNat=(Cod.str s)[k]:=by
    have:=Lx.get_str s k hlt
    rw [<-this,List.getD_eq_getElem?_getD,List.getElem?_eq_getElem hltl];rfl
   have hsn:(((Cod.str s).take (k+1)).drop 1).all Lx.goes=Lx.goes (Cod.str s)[k]:=by
    rw [List.take_succ_eq_append_getElem hltl,List.drop_append_of_le_length (by rw [List.length_take];omega),List.all_append,hal];simp
   have hno:Lx.goes (Cod.str s)[k]=false->rword (Cod.str s)=false:=fun hg=>by
    unfold rword
    have:((Cod.str s).drop 1).all Lx.goes=false:=by
     rw [<-Bool.not_eq_true,List.all_eq_true]
     intro hh
     have hm:(Cod.str s)[k]∈(Cod.str s).drop 1:=by
      rw [List.mem_iff_getElem]
      refine ⟨k - 1,by rw [List.length_drop];omega,?_⟩
      rw [List.getElem_drop]
      congr 1;omega
     have:=hh _ hm
     rw [hg] at this;cases this
    rw [this];rfl
   have hc256:(Cod.str s)[k]<256:=Cod.str_lt s _ (List.getElem_mem _)
   generalize (Cod.str s)[k]=c at *
   have hgo:Lx.goes c=(Lx.small c || (Lx.capital c || (Lx.digit c || c == 95))):=rfl
   have H1:=Hxq (fun w=>vsmall_any c _ rfl w);have H2:=Hxq (fun w=>vcapital_any c _ rfl w);have H3:=Hxq (fun w=>vdigit_any c _ rfl w)
   have HS:=Lib.hid hsn;have HN:=Lib.hid hno
   clear hsn hno hal hltl
   generalize Lx.small c=b1 at *
   generalize Lx.capital c=b2 at *
   generalize Lx.digit c=b3 at *
   by_cases hg:Lx.goes c=true
   ·have HG:=Hxq (HS.out.trans hg)
    rw [hg] at hgo
    have h95:b1=false->b2=false->b3=false->c=95:=fun h1 h2 h3=>by subst h1;subst h2;subst h3;simpa using hgo.symm
    clear hg hgo HS HN
    cases b1
    ·cases b2
     ·cases b3
      ·have hcc:=h95 rfl rfl rfl
       have e95:((c:Int) != 95)=false:=by rw [hcc];rfl
       clear h95 hcc
       go_wp2_with fail
       refine (H1.out _).mono ?_
       rintro e w' ⟨rfl,rfl⟩
       go_wp2_with fail
       refine (H2.out _).mono ?_
       rintro e w' ⟨rfl,rfl⟩
       go_wp2_with fail
       refine (H3.out _).mono ?_
       rintro e w' ⟨rfl,rfl⟩
       go_wp2_with fail
       go_roundw
       case rel=>exact ⟨k+1,by omega,.inl (by omega),by go_num,by trivial,HG.out⟩
       case measure=>simp [intOf];omega
      ·clear h95
       go_wp2_with fail
       refine (H1.out _).mono ?_
       rintro e w' ⟨rfl,rfl⟩
       go_wp2_with fail
       refine (H2.out _).mono ?_
       rintro e w' ⟨rfl,rfl⟩
       go_wp2_with fail
       refine (H3.out _).mono ?_
       rintro e w' ⟨rfl,rfl⟩
       go_wp2_with fail
       go_roundw
       case rel=>exact ⟨k+1,by omega,.inl (by omega),by go_num,by trivial,HG.out⟩
       case measure=>simp [intOf];omega
     ·clear h95
      go_wp2_with fail
      refine (H1.out _).mono ?_
      rintro e w' ⟨rfl,rfl⟩
      go_wp2_with fail
      refine (H2.out _).mono ?_
      rintro e w' ⟨rfl,rfl⟩
      go_wp2_with fail
      go_roundw
      case rel=>exact ⟨k+1,by omega,.inl (by omega),by go_num,by trivial,HG.out⟩
      case measure=>simp [intOf];omega
    ·clear h95
     go_wp2_with fail
     refine (H1.out _).mono ?_
     rintro e w' ⟨rfl,rfl⟩
     go_wp2_with fail
     go_roundw
     case rel=>exact ⟨k+1,by omega,.inl (by omega),by go_num,by trivial,HG.out⟩
     case measure=>simp [intOf];omega
   ·have hg':Lx.goes c=false:=by simpa using hg
    have E:=Hxq (HN.out hg')
    rw [hg'] at hgo
    simp only [Bool.false_eq,Bool.or_eq_false_iff,beq_eq_false_iff_ne] at hgo
    obtain ⟨rfl,rfl,rfl,h95⟩:=hgo
    have e95:((c:Int) != 95)=true:=by rw [bne_iff_ne];omega
    clear hg hg' HS HN h95
    go_wp2_with fail
    refine (H1.out _).mono ?_
    rintro e w' ⟨rfl,rfl⟩
    go_wp2_with fail
    refine (H2.out _).mono ?_
    rintro e w' ⟨rfl,rfl⟩
    go_wp2_with fail
    refine (H3.out _).mono ?_
    rintro e w' ⟨rfl,rfl⟩
    go_wp2_with fail
    go_ret
    exact ⟨by rw [E.out];rfl,rfl⟩
  ·have hkI:¬ (k:Int)<(s.size:Int):=by omega
   rw [List.take_of_length_le (by omega)] at hal
   have e:Hid (rword (Cod.str s)=(decide (1<=s.size) && decide (s.size<=32))):=Hxq (by unfold rword;rw [hal,hlen];rfl)
   clear hal hlen
   by_cases h1:1<=s.size
   ·have h1I:(1:Int)<=(s.size:Int):=by omega
    go_wp2_with fail
    go_ret
    exact ⟨by rw [e.out,decide_eq_true h1];simp only [Bool.true_and];exact ret_bool (by rw [Bool.eq_iff_iff];simp <;> omega),rfl⟩
   ·have h1I:¬ (1:Int)<=(s.size:Int):=by omega
    go_wp2_with fail
    go_ret
    exact ⟨by rw [e.out,decide_eq_false h1];rfl,rfl⟩
theorem name_ref (l:List Nat):Va.name l=(rword l && (Lx.small (l.headD 0) && !Va.resW.contains l)):=by
 unfold Va.name
 rw [wordB_eq Lx.small (fun c h=>by unfold Lx.goes;rw [h];rfl)]
 cases rword l <;> cases Lx.small (l.headD 0) <;> cases Va.resW.contains l <;> rfl
theorem var_ref (l:List Nat):Va.variable_ l=(rword l && Lx.capital (l.headD 0)):=by
 unfold Va.variable_
 rw [wordB_eq Lx.capital (fun c h=>by unfold Lx.goes;rw [h];cases Lx.small c <;> rfl)]
theorem rword_pos {s:ByteArray} (h:rword (Cod.str s)=true):0<s.size:=by
 unfold rword at h
 rw [Cod.str_len] at h
 simp only [Bool.and_eq_true,decide_eq_true_eq] at h
 omega
theorem vName_any (s:ByteArray) (hs:s.size<=9223372036854775806) (w:World) :
  Calls Tryz.prog 59 #[.string s] w fun e w'=>e=.returned (.bool (Va.name (Cod.str s)))/\w'=w:=by
 have h1:=fun w=>vword_any s hs w
 have h3:=fun w=>vReserved_any s w
 rw [name_ref,res_str]
 cases hw:rword (Cod.str s)
 ·rw [hw] at h1
  have H1:=Lib.hid h1
  clear h1 h3 hw
  rw [Bool.false_and]
  go_enter Tryz.func59,Tryz.ntmps59
  go_wp2_with fail
  refine (H1.out _).mono ?_
  rintro e w1 ⟨rfl,rfl⟩
  go_wp2_with fail
  go_ret
  exact ⟨rfl,rfl⟩
 ·have hp:=rword_pos hw
  obtain ⟨c,t,hct,h0,hc⟩:=str_cons hp
  rw [hw] at h1
  rw [hct,List.headD_cons,Bool.true_and]
  have H1:=Lib.hid h1;have H3:=Lib.hid h3
  have H2:=Hxq (fun w=>vsmall_any c _ rfl w)
  have hpI:(0:Int)<(s.size:Int):=by omega
  clear h1 h3 hct hw
  generalize Lx.small c=b at *
  generalize resW8.contains s.toList=r at *
  cases b
  ·rw [Bool.false_and]
   go_enter Tryz.func59,Tryz.ntmps59
   go_wp2_with fail
   refine (H1.out _).mono ?_
   rintro e w1 ⟨rfl,rfl⟩
   go_wp2_with fail
   refine (H2.out _).mono ?_
   rintro e w1 ⟨rfl,rfl⟩
   go_wp2_with fail
   go_ret
   exact ⟨rfl,rfl⟩
  ·rw [Bool.true_and]
   go_enter Tryz.func59,Tryz.ntmps59
   go_wp2_with fail
   refine (H1.out _).mono ?_
   rintro e w1 ⟨rfl,rfl⟩
   go_wp2_with fail
   refine (H2.out _).mono ?_
   rintro e w1 ⟨rfl,rfl⟩
   go_wp2_with fail
   refine (H3.out _).mono ?_
   rintro e w1 ⟨rfl,rfl⟩
   go_wp2_with fail
   go_ret
   exact ⟨rfl,rfl⟩
theorem vVariable_any (s:ByteArray) (hs:s.size<=9223372036854775806) (w:World) :
  Calls Tryz.prog 120 #[.string s] w fun e w'=>e=.returned (.bool (Va.variable_ (Cod.str s)))/\w'=w:=by
 have h1:=fun w=>vword_any s hs w
 rw [var_ref]
 cases hw:rword (Cod.str s)
 ·rw [hw] at h1
  have H1:=Lib.hid h1
  clear h1 hw
  rw [Bool.false_and]
  go_enter Tryz.func120,Tryz.ntmps120
  go_wp2_with fail
  refine (H1.out _).mono ?_
  rintro e w1 ⟨rfl,rfl⟩
  go_wp2_with fail
  go_ret
  exact ⟨rfl,rfl⟩
 ·have hp:=rword_pos hw
  obtain ⟨c,t,hct,h0,hc⟩:=str_cons hp
  rw [hw] at h1
  rw [hct,List.headD_cons,Bool.true_and]
  have H1:=Lib.hid h1
  have H2:=Hxq (fun w=>vcapital_any c _ rfl w)
  have hpI:(0:Int)<(s.size:Int):=by omega
  clear h1 hct hw
  generalize Lx.capital c=b at *
  go_enter Tryz.func120,Tryz.ntmps120
  go_wp2_with fail
  refine (H1.out _).mono ?_
  rintro e w1 ⟨rfl,rfl⟩
  go_wp2_with fail
  refine (H2.out _).mono ?_
  rintro e w1 ⟨rfl,rfl⟩
  go_wp2_with fail
  go_ret
  exact ⟨rfl,rfl⟩
theorem vcheck_any (v:Va.Val) (w:World) :
  Calls Tryz.prog 142 #[.agg (valV v)] w fun e w'=>e=.returned (.int .i64 (chk v))/\Mod [] w w':=by
 obtain ⟨k,n,s⟩:=v
 unfold valV
 have hsz:=ofS_size s
 have hem:(Lx.ofS s).toList.isEmpty=decide (s=[]):=by
  rw [toList_isEmpty,hsz]
  cases s <;> simp
 by_cases k1:k=1
 ·subst k1
  by_cases h1:-2147483647<=n
  ·by_cases h2:n<=2147483647
   ·by_cases hs:s=[]
    ·have e1:(Lx.ofS s).toList.isEmpty=true:=by rw [hem,decide_eq_true hs]
     have e:chk ⟨1,n,s⟩=0:=by unfold chk Va.may;rw [if_pos];simp [hs,h1,h2]
     have E:=Lib.hid e
     clear hem hsz e hs
     go_enter Tryz.func142,Tryz.ntmps142
     go_wp2_with fail
     go_ret
     exact ⟨by rw [E.out];rfl,(Mod.refl [] w).alloc _⟩
    ·have e1:(Lx.ofS s).toList.isEmpty=false:=by rw [hem,decide_eq_false hs]
     have e:chk ⟨1,n,s⟩=20:=by unfold chk Va.may;rw [if_neg];simp [hs]
     have E:=Lib.hid e
     clear hem hsz e hs
     go_enter Tryz.func142,Tryz.ntmps142
     go_wp2_with fail
     go_ret
     exact ⟨by rw [E.out];rfl,(Mod.refl [] w).alloc _⟩
   ·have h2N:=h2
    have e:chk ⟨1,n,s⟩=20:=by unfold chk Va.may;rw [if_neg];simp [h2]
    have E:=Lib.hid e
    clear hem hsz e
    go_enter Tryz.func142,Tryz.ntmps142
    go_wp2_with fail
    go_ret
    exact ⟨by rw [E.out];rfl,(Mod.refl [] w).alloc _⟩
  ·have h1N:=h1
   have e:chk ⟨1,n,s⟩=20:=by unfold chk Va.may;rw [if_neg];simp [h1]
   have E:=Lib.hid e
   clear hem hsz e
   go_enter Tryz.func142,Tryz.ntmps142
   go_wp2_with fail
   go_ret
   exact ⟨by rw [E.out];rfl,(Mod.refl [] w).alloc _⟩
 ·have k1B:(k == 1)=false:=by rw [beq_eq_false_iff_ne];exact k1
  by_cases k2:k=2
  ·subst k2
   by_cases hn:n=0
   ·subst hn
    by_cases hl:s.length<=64
    ·have e2:((Lx.ofS s).size:Int)<=64:=by omega
     have e:chk ⟨2,0,s⟩=0:=by unfold chk Va.may;rw [if_pos];simp [hl]
     have E:=Lib.hid e
     clear hem hsz e
     go_enter Tryz.func142,Tryz.ntmps142
     go_wp2_with fail
     go_ret
     exact ⟨by rw [E.out];rfl,(Mod.refl [] w).alloc _⟩
    ·have e2:¬ ((Lx.ofS s).size:Int)<=64:=by omega
     have e:chk ⟨2,0,s⟩=20:=by unfold chk Va.may;rw [if_neg];simp;omega
     have E:=Lib.hid e
     clear hem hsz e
     go_enter Tryz.func142,Tryz.ntmps142
     go_wp2_with fail
     go_ret
     exact ⟨by rw [E.out];rfl,(Mod.refl [] w).alloc _⟩
   ·have nB:(n == 0)=false:=by rw [beq_eq_false_iff_ne];exact hn
    have e:chk ⟨2,n,s⟩=20:=by unfold chk Va.may;rw [if_neg];simp [hn]
    have E:=Lib.hid e
    clear hem hsz e
    go_enter Tryz.func142,Tryz.ntmps142
    go_wp2_with fail
    go_ret
    exact ⟨by rw [E.out];rfl,(Mod.refl [] w).alloc _⟩
  ·have k2B:(k == 2)=false:=by rw [beq_eq_false_iff_ne];exact k2
   have e:chk ⟨k,n,s⟩=20:=by unfold chk Va.may;rw [if_neg];simp [k1,k2]
   have E:=Lib.hid e
   clear hem hsz e
   go_enter Tryz.func142,Tryz.ntmps142
   go_wp2_with fail
   go_ret
   exact ⟨by rw [E.out];rfl,(Mod.refl [] w).alloc _⟩
theorem str_app (a b:ByteArray):Cod.str (a++b)=Cod.str a++Cod.str b:=by
 unfold Cod.str
 rw [ByteArray.data_append]
 simp
theorem ofS_of {s:ByteArray} {l:List Nat} (h:Cod.str s=l):s=Lx.ofS l:=by rw [<-h,Lx.ofS_str]
theorem hex_any (n:Nat) (hn:n<16) (w:World) :
  Calls Tryz.prog 163 #[.int .u8 (n:Int)] w fun e w'=>∃ o,e=.returned (.string o)/\Cod.str o=[Va.hexd n]/\w'=w:=by
 have h0:(0:Int)<=(n:Int):=by omega
 have h1:(n:Int)<=(n:Int)+1:=by omega
 have h2:(n:Int)+1<=16:=by omega
 have h3:IntKind.u8.wrap ((n:Int)+1)=(n:Int)+1:=by simp [IntKind.wrap,IntKind.signed,IntKind.bits];omega
 have h4:((n:Int)+1) % 256=(n:Int)+1:=by omega
 go_enter Tryz.func163,Tryz.ntmps163
 go_wp2_with fail
 go_ret
 refine ⟨_,rfl,?_,rfl⟩
 have:∀ m:Fin 16,Cod.str (({ data:=#[48,49,50,51,52,53,54,55,56,57,65,66,67,68,69,70] }:ByteArray).extract m.val (m.val+1))=[Va.hexd m.val]:=by decide
 exact this ⟨n,hn⟩
set_option maxHeartbeats 4000000 in
theorem vQuoted_any (s:ByteArray) (hs:s.size<=1000) (w:World) :
  Calls Tryz.prog 144 #[.string s] w fun e w'=>e=.returned (.string (Lx.ofS (Va.quoted (Cod.str s))))/\w'=w:=by
 have hlb:=Cod.str_lt s
 have hll:=Cod.str_len s
 have HLB:=Lib.hid hlb;have HLL:=Lib.hid hll
 clear hlb hll
 go_enter Tryz.func144,Tryz.ntmps144
 go_wp2_with fail
 go_loopw [3,4] (fun vv iv wr=>∃ (o:ByteArray) (k:Nat),k<=s.size/\vv=.string o/\iv=.int .i64 (k:Nat)/\Cod.str o=34 :: ((Cod.str s).take k).flatMap Va.qb/\wr=w) (fun _ iv _=>s.size - (intOf iv).toNat)
 case atStart=>exact ⟨_,0,Nat.zero_le _,rfl,rfl,by rfl,rfl⟩
 case round =>
  obtain ⟨o,k,hk,rfl,rfl,ho,rfl⟩:=hrel
  have hos:o.size<=5000:=by
   have:=congrArg List.length ho
   have h2:=flat_len ((Cod.str s).take k)
   rw [Cod.str_len,List.length_cons] at this
   rw [List.length_take] at h2
   omega
  by_cases hlt:k<s.size
  ·have hkI:(k:Int)<(s.size:Int):=by omega
   have hk0:(0:Int)<=(k:Int):=by omega
   have hlk:k<(Cod.str s).length:=by rw [HLL.out];exact hlt
   have hby:s[k].toNat=(Cod.str s)[k]:=by
    have:=Lx.get_str s k hlt
    rw [<-this,List.getD_eq_getElem?_getD,List.getElem?_eq_getElem hlk];rfl
   have hc:(Cod.str s)[k]<256:=HLB.out _ (List.getElem_mem hlk)
   have hst:∀ (o2 l2:_),Cod.str o2=Cod.str o++l2->Va.qb (Cod.str s)[k]=l2->Cod.str o2=34 :: ((Cod.str s).take (k+1)).flatMap Va.qb:=fun o2 l2 h1 h2=>by
    rw [h1,ho,List.take_succ_eq_append_getElem hlk,List.flatMap_append]
    simp [h2]
   have hone:((Cod.str s).drop k).take 1=[(Cod.str s)[k]]:=by rw [List.drop_eq_getElem_cons hlk];rfl
   generalize (Cod.str s)[k]=c at *
   have HST:=Lib.hid hst
   clear hst ho
   by_cases c34:c=34
   ·subst c34
    go_wp2_with fail
    go_roundw
    case rel=>exact ⟨_,k+1,by omega,rfl,by go_num,HST.out _ [92,34] (str_app _ _) (by rfl),by trivial⟩
    case measure=>simp [intOf];omega
   ·have e1:((c:Int) == 34)=false:=by rw [beq_eq_false_iff_ne];omega
    by_cases c92:c=92
    ·subst c92
     go_wp2_with fail
     go_roundw
     case rel=>exact ⟨_,k+1,by omega,rfl,by go_num,HST.out _ [92,92] (str_app _ _) (by rfl),by trivial⟩
     case measure=>simp [intOf];omega
    ·have e2:((c:Int) == 92)=false:=by rw [beq_eq_false_iff_ne];omega
     by_cases c10:c=10
     ·subst c10
      go_wp2_with fail
      go_roundw
      case rel=>exact ⟨_,k+1,by omega,rfl,by go_num,HST.out _ [92,110] (str_app _ _) (by rfl),by trivial⟩
      case measure=>simp [intOf];omega
     ·have e3:((c:Int) == 10)=false:=by rw [beq_eq_false_iff_ne];omega
      by_cases c32:c<32
      ·have h5:(c:Int)<32:=by omega
       obtain ⟨a,ha⟩:∃ a:Nat,a=c / 16:=⟨_,rfl⟩
       obtain ⟨b,hb⟩:∃ b:Nat,b=c % 16:=⟨_,rfl⟩
       have hA:(c:Int) / 16=(a:Int):=by omega
       have hB:(c:Int) % 16=(b:Int):=by omega
       have hand:bits BinOp.and IntKind.u8 (c:Int) 15=(b:Int):=by rw [and15 c hc,hb]
       have HX:=Hxq (fun w=>hex_any a (by omega) w)
       have HY:=Hxq (fun w=>hex_any b (by omega) w)
       have HQ:Hid (Va.qb c=[92,120,Va.hexd a,Va.hexd b]):=Hxq (by unfold Va.qb;rw [if_neg (by omega),if_neg c10,if_pos (by omega),ha,hb])
       clear ha hb
       go_wp2_with fail
       refine (HX.out _).mono ?_
       rintro e w1 ⟨x,rfl,hx,rfl⟩
       have hxs:x.size=1:=by rw [<-Cod.str_len,hx];rfl
       have HXS:=Lib.hid hx
       clear hx
       go_wp2_with fail
       refine (HY.out _).mono ?_
       rintro e w1 ⟨y,rfl,hy,rfl⟩
       have hys:y.size=1:=by rw [<-Cod.str_len,hy];rfl
       have HYS:=Lib.hid hy
       clear hy
       go_wp2_with fail
       go_roundw
       case rel=>exact ⟨_,k+1,by omega,rfl,by go_num,HST.out _ [92,120,Va.hexd a,Va.hexd b] (by rw [str_app,str_app,str_app,HXS.out,HYS.out];simp;rfl) HQ.out,by trivial⟩
       case measure=>simp [intOf];omega
      ·by_cases c127:127<=c
       ·have h5:¬ (c:Int)<32:=by omega
        have h6:(c:Int) ≥ 127:=by omega
        obtain ⟨a,ha⟩:∃ a:Nat,a=c / 16:=⟨_,rfl⟩
        obtain ⟨b,hb⟩:∃ b:Nat,b=c % 16:=⟨_,rfl⟩
        have hA:(c:Int) / 16=(a:Int):=by omega
        have hB:(c:Int) % 16=(b:Int):=by omega
        have hand:bits BinOp.and IntKind.u8 (c:Int) 15=(b:Int):=by rw [and15 c hc,hb]
        have HX:=Hxq (fun w=>hex_any a (by omega) w)
        have HY:=Hxq (fun w=>hex_any b (by omega) w)
        have HQ:Hid (Va.qb c=[92,120,Va.hexd a,Va.hexd b]):=Hxq (by unfold Va.qb;rw [if_neg (by omega),if_neg c10,if_pos (by omega),ha,hb])
        clear ha hb
        go_wp2_with fail
        refine (HX.out _).mono ?_
        rintro e w1 ⟨x,rfl,hx,rfl⟩
        have hxs:x.size=1:=by rw [<-Cod.str_len,hx];rfl
        have HXS:=Lib.hid hx
        clear hx
        go_wp2_with fail
        refine (HY.out _).mono ?_
        rintro e w1 ⟨y,rfl,hy,rfl⟩
        have hys:y.size=1:=by rw [<-Cod.str_len,hy];rfl
        have HYS:=Lib.hid hy
        clear hy
        go_wp2_with fail
        go_roundw
        case rel=>exact ⟨_,k+1,by omega,rfl,by go_num,HST.out _ [92,120,Va.hexd a,Va.hexd b] (by rw [str_app,str_app,str_app,HXS.out,HYS.out];simp;rfl) HQ.out,by trivial⟩
        case measure=>simp [intOf];omega
       ·have h5:¬ (c:Int)<32:=by omega
        have h6:¬ (c:Int) ≥ 127:=by omega
        have HQ:Hid (Va.qb c=[c]):=Hxq (by unfold Va.qb;rw [if_neg (by omega),if_neg c10,if_neg (by omega)])
        have hk1:(k:Int)+1<=(s.size:Int):=by omega
        have hk2:(k:Int)<=(k:Int)+1:=by omega
        have hsl:Hid (Cod.str (s.extract k (k+1))=[c]):=Hxq (by rw [Lx.str_extract,show k+1 - k=1 by omega];exact hone)
        clear c32 c127
        go_wp2_with fail
        go_roundw
        case rel=>exact ⟨_,k+1,by omega,rfl,by go_num,HST.out _ [c] (by rw [str_app,hsl.out]) HQ.out,by trivial⟩
        case measure=>simp [intOf];omega
  ·obtain rfl:k=s.size:=by omega
   have hkI:¬ (s.size:Int)<(s.size:Int):=by omega
   have HE:Hid (Cod.str (o++{ data:=#[34] })=Va.quoted (Cod.str s)):=Hxq (by
    rw [str_app,ho,List.take_of_length_le (by rw [HLL.out];exact Nat.le_refl _)];rfl)
   clear ho
   go_wp2_with fail
   go_ret
   exact ⟨by rw [ofS_of HE.out];rfl,rfl⟩
theorem vText_any (v:Va.Val) (hv:v.Ok) (w:World) (hG:GlobV w) :
  Calls Tryz.prog 121 #[.agg (valV v)] w fun e w'=>e=.returned (txtV v)/\Mod [] w w':=by
 have h1:=fun w=>vcheck_any v w
 have hm0:=(Mod.refl [] w).alloc (Obj.cells (valV v) 35)
 have hB0:=heap_alloc_new w (Obj.cells (valV v) 35)
 unfold txtV
 cases hmv:Va.may v
 ·have e:chk v=20:=by unfold chk;rw [hmv];rfl
  rw [e] at h1 ⊢
  have H1:=Lib.hid h1
  clear h1 hmv e hB0
  unfold valV at *
  go_enter Tryz.func121,Tryz.ntmps121
  go_wp2_with fail
  refine (H1.out _).mono ?_
  rintro e w1 ⟨rfl,hm⟩
  have HM:=Hxq (hm0.trans hm (by simp))
  clear hm hm0
  go_wp2_with fail
  go_ret2
  exact ⟨rfl,HM.out⟩
 ·have e:chk v=0:=by unfold chk;rw [hmv];rfl
  rw [e] at h1 ⊢
  have hsl:=may_len hmv
  have hsz:(Lx.ofS v.s).size=v.s.length:=ofS_size _
  have hst:Cod.str (Lx.ofS v.s)=v.s:=Lx.str_ofS hv.byte
  have hi:=fun w hG=>itoa_any v.n hv.lo hv.hi w hG
  have hn:=fun w=>vName_any (Lx.ofS v.s) (by omega) w
  have hq:=fun w=>vQuoted_any (Lx.ofS v.s) (by omega) w
  rw [hst] at hn hq
  have hT1:v.k=1->Va.text v=Va.itoa v.n:=fun h=>by unfold Va.text;rw [if_pos h]
  have hT2:v.k≠1->Va.name v.s=true->Va.text v=v.s:=fun h h2=>by unfold Va.text;rw [if_neg h,if_pos h2]
  have hT3:v.k≠1->Va.name v.s=false->Va.text v=Va.quoted v.s:=fun h h2=>by unfold Va.text;rw [if_neg h];simp [h2]
  have H1:=Lib.hid h1;have HI:=Lib.hid hi;have HQ:=Lib.hid hq
  clear h1 hi hq hmv e hv hst hsz hsl
  unfold valV at *
  rw [if_pos rfl]
  by_cases k1:v.k=1
  ·have HT:=Hxq (hT1 k1)
   have kB:(v.k == 1)=true:=by rw [beq_iff_eq];exact k1
   clear hT1 hT2 hT3 k1 hn
   go_enter Tryz.func121,Tryz.ntmps121
   go_wp2_with fail
   refine (H1.out _).mono ?_
   rintro e w1 ⟨rfl,hm⟩
   have hB:=hm.at hB0 (by simp)
   have c0:w1.cell? ⟨w.heap.size,0,none⟩=some (.int .i64 v.k):=by simp [World.cell?,hB]
   have c1:w1.cell? ⟨w.heap.size,1,none⟩=some (.int .i64 v.n):=by simp [World.cell?,hB]
   have HM:=Hxq (hm0.trans hm (by simp))
   clear hm hm0 hB hB0
   go_wp2_with fail
   refine (HI.out _ (hG.past HM.out (by simp))).mono ?_
   rintro e w2 ⟨rfl,hm2⟩
   go_wp2_with fail
   go_ret2
   exact ⟨by rw [HT.out];rfl,HM.out.trans hm2 (by simp)⟩
  ·have kB:(v.k == 1)=false:=by rw [beq_eq_false_iff_ne];exact k1
   cases hnm:Va.name v.s
   ·have HT:=Hxq (hT3 k1 hnm)
    rw [hnm] at hn
    have HN:=Lib.hid hn
    clear hT1 hT2 hT3 k1 hn hnm
    go_enter Tryz.func121,Tryz.ntmps121
    go_wp2_with fail
    refine (H1.out _).mono ?_
    rintro e w1 ⟨rfl,hm⟩
    have hB:=hm.at hB0 (by simp)
    have c0:w1.cell? ⟨w.heap.size,0,none⟩=some (.int .i64 v.k):=by simp [World.cell?,hB]
    have c2:w1.cell? ⟨w.heap.size,2,none⟩=some (.string (Lx.ofS v.s)):=by simp [World.cell?,hB]
    have HM:=Hxq (hm0.trans hm (by simp))
    clear hm hm0 hB hB0
    go_wp2_with fail
    refine (HN.out _).mono ?_
    rintro e w2 ⟨rfl,rfl⟩
    go_wp2_with fail
    refine (HQ.out _).mono ?_
    rintro e w2 ⟨rfl,rfl⟩
    go_wp2_with fail
    go_ret2
    exact ⟨by rw [HT.out];rfl,HM.out⟩
   ·have HT:=Hxq (hT2 k1 hnm)
    rw [hnm] at hn
    have HN:=Lib.hid hn
    clear hT1 hT2 hT3 k1 hn hnm
    go_enter Tryz.func121,Tryz.ntmps121
    go_wp2_with fail
    refine (H1.out _).mono ?_
    rintro e w1 ⟨rfl,hm⟩
    have hB:=hm.at hB0 (by simp)
    have c0:w1.cell? ⟨w.heap.size,0,none⟩=some (.int .i64 v.k):=by simp [World.cell?,hB]
    have c2:w1.cell? ⟨w.heap.size,2,none⟩=some (.string (Lx.ofS v.s)):=by simp [World.cell?,hB]
    have HM:=Hxq (hm0.trans hm (by simp))
    clear hm hm0 hB hB0
    go_wp2_with fail
    refine (HN.out _).mono ?_
    rintro e w2 ⟨rfl,rfl⟩
    go_wp2_with fail
    go_ret2
    exact ⟨by rw [HT.out];rfl,HM.out⟩
end Go.Proofs.YtohnmnfhmbmoaaaGreatDoor
