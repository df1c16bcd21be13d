/- THE TEXTS MERGED: PrAwake LxJoin LxAlone SySq SyDeepP SySim. -/
import Derived.Test.YtbfaclljbbfknaaGreatDoorKP26
namespace Go.Proofs.YtbfaclljbbfknaaGreatDoor
open Go.RowKit
set_option linter.unusedVariables false
set_option linter.unusedSimpArgs false
set_option maxRecDepth 100000
theorem one_any (w:World):Calls Tryz.prog 10 #[] w fun e w'=>e=.returned (.agg (exV xOne (.slice none 0 0)))/\Mod [] w w':=by
 go_enter Tryz.func10,Tryz.ntmps10
 go_wp2_with fail
 refine bodyPost_ret (results_cell_row rfl _ _ _ _ _ _ _ rfl (heap_alloc_new w _) Tryz.underlying26 rfl (by kernel_rfl)) rfl ⟨rfl,(Mod.refl [] w).alloc _⟩
theorem xname_any (s:ByteArray) (w:World):Calls Tryz.prog 11 #[.string s] w fun e w'=>e=.returned (.agg (exV (xName s) (.slice none 0 0)))/\Mod [] w w':=by
 go_enter Tryz.func11,Tryz.ntmps11
 go_wp2_with fail
 refine bodyPost_ret (results_cell_row rfl _ _ _ _ _ _ _ rfl (heap_alloc_new w _) Tryz.underlying26 rfl (by kernel_rfl)) rfl ⟨rfl,(Mod.refl [] w).alloc _⟩
theorem zOk:Va.zero.Ok:=by constructor <;> decide
theorem oneOk:(⟨1,1,[]⟩:Va.Val).Ok:=by constructor <;> decide
theorem eok_one (w:World):EOk w xOne (.slice none 0 0):=.nil oneOk
theorem eok_name (w:World) (s:ByteArray):EOk w (xName s) (.slice none 0 0):=.nil zOk
/-- two expressions in a row -/
theorem eok_two (w:World) (k:Int) (v:ByteArray) (x:Va.Val) (op:Int) (a b:Pr.Ex) (u u':Value) (hx:x.Ok) (ha:EOk w a u) (hb:EOk w b u') :
  EOk (w.alloc (Obj.cells (exV a u++exV b u') 26)) (.mk k v x op [a,b]) (.slice (some ⟨w.heap.size,0,none⟩) 2 2):=by
 have hcell:=heap_alloc_new w (Obj.cells (exV a u++exV b u') 26)
 have m:=(Mod.refl [] w).alloc (Obj.cells (exV a u++exV b u') 26)
 refine .row (us:=fun i=>if i=0 then u else u') hx (fun i hi=>?_) (fun i hi=>?_)
 ·have:i=0\/i=1:=by simp at hi;omega
  rcases this with rfl | rfl <;> constructor <;> simp only [World.cell?,hcell] <;> rfl
 ·have:i=0\/i=1:=by simp at hi;omega
  rcases this with rfl | rfl
  ·exact ha.past m
  ·exact hb.past m
theorem eok_onerow (w:World) (k:Int) (v:ByteArray) (x:Va.Val) (op:Int) (a:Pr.Ex) (u:Value) (hx:x.Ok) (ha:EOk w a u) :
  EOk (w.alloc (Obj.cells (exV a u) 26)) (.mk k v x op [a]) (.slice (some ⟨w.heap.size,0,none⟩) 1 1):=by
 have hcell:=heap_alloc_new w (Obj.cells (exV a u) 26)
 have m:=(Mod.refl [] w).alloc (Obj.cells (exV a u) 26)
 refine .row (us:=fun i=>u) hx (fun i hi=>?_) (fun i hi=>?_)
 ·have:i=0:=by simp at hi;omega
  subst this
  constructor <;> simp only [World.cell?,hcell] <;> rfl
 ·have:i=0:=by simp at hi;omega
  subst this
  exact ha.past m
theorem ofS1:Lx.ofS [45,40,49,41]={ data:=#[45,40,49,41] }:=by rfl
theorem ofS2:Lx.ofS [88,32,42,32,40,89,32,43,32,49,41]={ data:=#[88,32,42,32,40,89,32,43,32,49,41] }:=by rfl
theorem ofS3:Lx.ofS [114,101,108,97,116,105,111,110,32,112,40,110,117,109,44,32,115,121,109,41,46,10,113,40,41,46,10]={ data:=#[114,101,108,97,116,105,111,110,32,112,40,110,117,109,44,32,115,121,109,41,46,10,113,40,41,46,10] }:=by rfl
theorem wt1:exWt xNeg<=140737488000000:=by
 have:exWt xNeg=600:=by rfl
 omega
theorem wt2:exWt xMul<=140737488000000:=by
 have:exWt xMul=1502:=by rfl
 omega
theorem wt3:dsWt xProg.rels+rsWt xProg.rules<=140737488000000:=by
 have:dsWt xProg.rels+rsWt xProg.rules=366:=by rfl
 omega
theorem wt4:aWt xSum<=140737488000000:=by
 have:aWt xSum=303:=by rfl
 omega
theorem one_is (w:World):Calls Tryz.prog 10 #[] w fun e w'=>e=.returned (.agg #[.int .i64 2,.string ⟨#[]⟩,.int .i64 1,.int .i64 1,.string ⟨#[]⟩,.int .i64 0,.slice none 0 0])/\Mod [] w w':=one_any w
theorem name_is (s:ByteArray) (w:World):Calls Tryz.prog 11 #[.string s] w fun e w'=>e=.returned (.agg #[.int .i64 1,.string s,.int .i64 0,.int .i64 0,.string ⟨#[]⟩,.int .i64 0,.slice none 0 0])/\Mod [] w w':=xname_any s w
theorem dat2 {w:World}:YOk (w.alloc (Obj.cells #[.int .i64 1,.int .i64 2] 3)) [1,2] (.slice (some ⟨w.heap.size,0,none⟩) 2 2):=by
 have hcell:=heap_alloc_new w (Obj.cells #[.int .i64 1,.int .i64 2] 3)
 refine .row (ts:=[1,2]) (fun i hi=>?_)
 have:i=0\/i=1:=by simp at hi;omega
 rcases this with rfl | rfl <;> simp only [World.cell?,hcell] <;> rfl
theorem dat3 {w:World} {u:Value} (h:YOk w [1,2] u):DsOk (w.alloc (Obj.cells #[.string { data:=#[112] },u,.int .i64 0,.int .i64 0] 54)) xProg.rels (.slice (some ⟨w.heap.size,0,none⟩) 1 1):=by
 have hcell:=heap_alloc_new w (Obj.cells #[.string { data:=#[112] },u,.int .i64 0,.int .i64 0] 54)
 refine .row (ds:=xProg.rels) (us:=fun _=>u) (fun i hi=>?_) (fun i hi=>?_)
 ·have:i=0:=by simp [xProg] at hi;omega
  subst this
  exact CellsAt.of hcell
 ·have:i=0:=by simp [xProg] at hi;omega
  subst this
  exact h.past ((Mod.refl [] w).alloc _)
theorem dat4 {w:World}:RsOk (w.alloc (Obj.cells #[.string { data:=#[113] },.slice none 0 0,.slice none 0 0,.int .i64 0,.int .i64 0] 57)) xProg.rules (.slice (some ⟨w.heap.size,0,none⟩) 1 1):=by
 have hcell:=heap_alloc_new w (Obj.cells #[.string { data:=#[113] },.slice none 0 0,.slice none 0 0,.int .i64 0,.int .i64 0] 57)
 refine .row (rs:=xProg.rules) (ts:=fun _=>.slice none 0 0) (us:=fun _=>.slice none 0 0) (fun i hi=>?_) (fun i hi=>?_) (fun i hi=>?_)
 ·have:i=0:=by simp [xProg] at hi;omega
  subst this
  exact CellsAt.of hcell
 ·have:i=0:=by simp [xProg] at hi;omega
  subst this
  exact .nil
 ·have:i=0:=by simp [xProg] at hi;omega
  subst this
  exact .inl ⟨rfl,none,0,rfl⟩
set_option maxHeartbeats 4000000 in
theorem awake_any (w:World) (hG:GlobV w):Calls Tryz.prog 4 #[] w fun e w'=>e=.returned (.bool true)/\Mod [] w w':=by
 have HG:=Lib.hid hG
 clear hG
 have H1:Hid (∀ (u:Value) (w:World),EOk w xNeg u->GlobV w->Calls Tryz.prog 5 #[.agg #[.int .i64 4,.string ⟨#[]⟩,.int .i64 0,.int .i64 0,.string ⟨#[]⟩,.int .i64 6,u]] w (fun e w'=>e=.returned (.tuple #[.string { data:=#[45,40,49,41] },.int .i64 0])/\Mod [] w w')):=Hxq (fun u w hE hG=>by
  have h:=Expr_any xNeg u w hE hG wt1
  rw [pE_neg] at h
  exact h.mono (by rintro e w' ⟨rfl,m,-⟩;exact ⟨by unfold tv;simp only [ofS1],m⟩))
 have H2:Hid (∀ (u:Value) (w:World),EOk w xMul u->GlobV w->Calls Tryz.prog 5 #[.agg #[.int .i64 4,.string ⟨#[]⟩,.int .i64 0,.int .i64 0,.string ⟨#[]⟩,.int .i64 3,u]] w (fun e w'=>e=.returned (.tuple #[.string { data:=#[88,32,42,32,40,89,32,43,32,49,41] },.int .i64 0])/\Mod [] w w')):=Hxq (fun u w hE hG=>by
  have h:=Expr_any xMul u w hE hG wt2
  rw [pE_mul] at h
  exact h.mono (by rintro e w' ⟨rfl,m,-⟩;exact ⟨by unfold tv;simp only [ofS2],m⟩))
 have H3:Hid (∀ (du ru:Value) (w:World),DsOk w xProg.rels du->RsOk w xProg.rules ru->GlobV w->Calls Tryz.prog 12 #[.agg #[du,ru]] w (fun e w'=>e=.returned (.tuple #[.string { data:=#[114,101,108,97,116,105,111,110,32,112,40,110,117,109,44,32,115,121,109,41,46,10,113,40,41,46,10] },.int .i64 0])/\Mod [] w w')):=Hxq (fun du ru w hD hR hG=>by
  have h:=Program_any xProg du ru w hD hR hG wt3
  rw [pP_prog] at h
  exact h.mono (by rintro e w' ⟨rfl,m,-⟩;exact ⟨by unfold tv;simp only [ofS3],m⟩))
 have H4:Hid (∀ (w:World),GlobV w->Calls Tryz.prog 13 #[.agg #[.string { data:=#[115,117,109] },.slice none 0 0]] w (fun e w'=>e=.returned (.tuple #[.string ⟨#[]⟩,.int .i64 50])/\Mod [] w w')):=Hxq (fun w hG=>by
  have h:=Atom_any xSum (.slice none 0 0) w .nil hG wt4
  rw [pA_sum] at h
  exact h.mono (by rintro e w' ⟨rfl,m,-⟩;exact ⟨rfl,m⟩))
 go_enter Tryz.func4,Tryz.ntmps4
 go_wp2_with fail
 refine (one_is _).mono ?_
 rintro e1 w1 ⟨rfl,m1⟩
 have M1:=Hxq (Mod.alloc m1 (Obj.cells #[Value.int IntKind.i64 2,Value.string ⟨#[]⟩,Value.int IntKind.i64 1,Value.int IntKind.i64 1,Value.string ⟨#[]⟩,Value.int IntKind.i64 0,Value.slice none 0 0] 26))
 have E1:Hid (EOk (w1.alloc (Obj.cells #[Value.int IntKind.i64 2,Value.string ⟨#[]⟩,Value.int IntKind.i64 1,Value.int IntKind.i64 1,Value.string ⟨#[]⟩,Value.int IntKind.i64 0,Value.slice none 0 0] 26)) xNeg (.slice (some ⟨w1.heap.size,0,none⟩) 1 1)):=Hxq (eok_onerow w1 4 ⟨#[]⟩ Va.zero 6 xOne (.slice none 0 0) zOk (eok_one _))
 clear m1
 go_wp2_with fail
 refine (H1.out _ _ E1.out (HG.out.past M1.out (by simp))).mono ?_
 rintro e2 w2 ⟨rfl,m2⟩
 have M2:=Hxq (M1.out.trans m2 (by simp))
 clear m2 M1 E1
 go_wp2_with fail
 refine (name_is _ _).mono ?_
 rintro e3 w3 ⟨rfl,m3⟩
 have M3:=Hxq (M2.out.trans m3 (by simp))
 clear m3 M2
 go_wp2_with fail
 refine (name_is _ _).mono ?_
 rintro e4 w4 ⟨rfl,m4⟩
 have M4:=Hxq (M3.out.trans m4 (by simp))
 clear m4 M3
 go_wp2_with fail
 refine (one_is _).mono ?_
 rintro e5 w5 ⟨rfl,m5⟩
 have M5:=Hxq (Mod.alloc (M4.out.trans m5 (by simp)) (Obj.cells #[Value.int IntKind.i64 1,Value.string { data:=#[89] },Value.int IntKind.i64 0,Value.int IntKind.i64 0,Value.string ⟨#[]⟩,Value.int IntKind.i64 0,Value.slice none 0 0,Value.int IntKind.i64 2,Value.string ⟨#[]⟩,Value.int IntKind.i64 1,Value.int IntKind.i64 1,Value.string ⟨#[]⟩,Value.int IntKind.i64 0,Value.slice none 0 0] 26))
 have E5:Hid (EOk (w5.alloc (Obj.cells #[Value.int IntKind.i64 1,Value.string { data:=#[89] },Value.int IntKind.i64 0,Value.int IntKind.i64 0,Value.string ⟨#[]⟩,Value.int IntKind.i64 0,Value.slice none 0 0,Value.int IntKind.i64 2,Value.string ⟨#[]⟩,Value.int IntKind.i64 1,Value.int IntKind.i64 1,Value.string ⟨#[]⟩,Value.int IntKind.i64 0,Value.slice none 0 0] 26)) xAdd (.slice (some ⟨w5.heap.size,0,none⟩) 2 2)):=Hxq (eok_two w5 4 ⟨#[]⟩ Va.zero 1 (xName { data:=#[89] }) xOne (.slice none 0 0) (.slice none 0 0) zOk (eok_name _ _) (eok_one _))
 generalize hw6:w5.alloc (Obj.cells #[Value.int IntKind.i64 1,Value.string { data:=#[89] },Value.int IntKind.i64 0,Value.int IntKind.i64 0,Value.string ⟨#[]⟩,Value.int IntKind.i64 0,Value.slice none 0 0,Value.int IntKind.i64 2,Value.string ⟨#[]⟩,Value.int IntKind.i64 1,Value.int IntKind.i64 1,Value.string ⟨#[]⟩,Value.int IntKind.i64 0,Value.slice none 0 0] 26)=w6 at *
 have M6:=Hxq (Mod.alloc M5.out (Obj.cells #[Value.int IntKind.i64 1,Value.string { data:=#[88] },Value.int IntKind.i64 0,Value.int IntKind.i64 0,Value.string ⟨#[]⟩,Value.int IntKind.i64 0,Value.slice none 0 0,Value.int IntKind.i64 4,Value.string ⟨#[]⟩,Value.int IntKind.i64 0,Value.int IntKind.i64 0,Value.string ⟨#[]⟩,Value.int IntKind.i64 1,Value.slice (some ⟨w5.heap.size,0,none⟩) 2 2] 26))
 have E6:Hid (EOk (w6.alloc (Obj.cells #[Value.int IntKind.i64 1,Value.string { data:=#[88] },Value.int IntKind.i64 0,Value.int IntKind.i64 0,Value.string ⟨#[]⟩,Value.int IntKind.i64 0,Value.slice none 0 0,Value.int IntKind.i64 4,Value.string ⟨#[]⟩,Value.int IntKind.i64 0,Value.int IntKind.i64 0,Value.string ⟨#[]⟩,Value.int IntKind.i64 1,Value.slice (some ⟨w5.heap.size,0,none⟩) 2 2] 26)) xMul (.slice (some ⟨w6.heap.size,0,none⟩) 2 2)):=Hxq (eok_two w6 4 ⟨#[]⟩ Va.zero 3 (xName { data:=#[88] }) xAdd (.slice none 0 0) _ zOk (eok_name _ _) E5.out)
 have hz6:w6.heap.size=w5.heap.size+1:=by rw [<-hw6];simp
 rw [hz6] at E6
 subst hw6
 clear hz6
 clear m5 M4 M5 E5
 go_wp2_with fail
 refine (H2.out _ _ E6.out (HG.out.past M6.out (by simp))).mono ?_
 rintro e7 w7 ⟨rfl,m7⟩
 have M7:=Hxq (M6.out.trans m7 (by simp))
 clear m7 M6 E6
 have Y7:=Hxq (dat2 (w:=w7))
 have M8:=Hxq (Mod.alloc M7.out (Obj.cells #[Value.int IntKind.i64 1,Value.int IntKind.i64 2] 3))
 generalize hw8:w7.alloc (Obj.cells #[Value.int IntKind.i64 1,Value.int IntKind.i64 2] 3)=w8 at *
 have D8:=Hxq (dat3 Y7.out)
 have M9:=Hxq (Mod.alloc M8.out (Obj.cells #[Value.string { data:=#[112] },Value.slice (some ⟨w7.heap.size,0,none⟩) 2 2,Value.int IntKind.i64 0,Value.int IntKind.i64 0] 54))
 generalize hw9:w8.alloc (Obj.cells #[Value.string { data:=#[112] },Value.slice (some ⟨w7.heap.size,0,none⟩) 2 2,Value.int IntKind.i64 0,Value.int IntKind.i64 0] 54)=w9 at *
 have R9:=Hxq (dat4 (w:=w9))
 have D9:=Hxq (D8.out.past ((Mod.refl [] w9).alloc (Obj.cells #[Value.string { data:=#[113] },Value.slice none 0 0,Value.slice none 0 0,Value.int IntKind.i64 0,Value.int IntKind.i64 0] 57)))
 have M10:=Hxq (Mod.alloc M9.out (Obj.cells #[Value.string { data:=#[113] },Value.slice none 0 0,Value.slice none 0 0,Value.int IntKind.i64 0,Value.int IntKind.i64 0] 57))
 have hz8:w8.heap.size=w7.heap.size+1:=by rw [<-hw8];simp
 have hz9:w9.heap.size=w7.heap.size+1+1:=by rw [<-hw9,<-hz8];simp
 rw [hz8] at D9
 rw [hz9] at R9
 clear hz8 hz9
 subst hw9
 subst hw8
 clear Y7 M8 D8 M9 M7
 go_wp2_with fail
 refine (H3.out _ _ _ D9.out R9.out (HG.out.past M10.out (by simp))).mono ?_
 rintro e11 w11 ⟨rfl,m11⟩
 have M11:=Hxq (M10.out.trans m11 (by simp))
 clear m11 M10 D9 R9
 go_wp2_with fail
 refine (H4.out _ (HG.out.past M11.out (by simp))).mono ?_
 rintro e12 w12 ⟨rfl,m12⟩
 have M12:=Hxq (M11.out.trans m12 (by simp))
 clear m12 M11
 go_wp2_with fail
 go_ret
 exact ⟨rfl,M12.out⟩
end Go.Proofs.YtbfaclljbbfknaaGreatDoor
namespace Go.Proofs.YtbfaclljbbfknaaGreatDoor.Lx
set_option linter.unusedSimpArgs false
set_option linter.unusedVariables false
theorem esc_join {s:List Nat} {b j:Nat} (h:esc s=some (b,j)) (t:List Nat):esc (s++t)=some (b,j):=by
 match s with
 | []=>simp [esc] at h
 | [c] =>
  unfold esc at h ⊢
  simp only [List.cons_append,List.nil_append] at h ⊢
  by_cases h1:c=34\/c=92
  ·rw [if_pos h1] at h ⊢;exact h
  ·rw [if_neg h1] at h ⊢
   by_cases h2:c=110
   ·rw [if_pos h2] at h ⊢;exact h
   ·rw [if_neg h2] at h
    by_cases h3:c=120 <;> simp [h3] at h
 | [c,x] =>
  unfold esc at h ⊢
  simp only [List.cons_append,List.nil_append] at h ⊢
  by_cases h1:c=34\/c=92
  ·rw [if_pos h1] at h ⊢;exact h
  ·rw [if_neg h1] at h ⊢
   by_cases h2:c=110
   ·rw [if_pos h2] at h ⊢;exact h
   ·rw [if_neg h2] at h
    by_cases h3:c=120 <;> simp [h3] at h
 | c :: x :: y :: u=>simpa [esc] using h
theorem quoF_join:∀ (k:Nat) (s acc:List Nat) (n:Nat) (l:List Nat) (m:Nat),(∀ c∈s,c<256)->quoF k s acc n=some (l,m)->∀ (t:List Nat) (j:Nat),quoF (k+j) (s++t) acc n=some (l,m)
 | 0,_,_,_,_,_,_,h=>by simp [quoF] at h
 | k+1,[],_,_,_,_,_,h=>by simp [quoF] at h
 | k+1,c :: r,acc,n,l,m,hs,h=>fun t j=>by
  have hr:∀ c∈r,c<256:=fun x hx=>hs x (by simp [hx])
  rw [show k+1+j=(k+j)+1 by omega,List.cons_append]
  unfold quoF at h ⊢
  by_cases h1:c=34
  ·rw [if_pos h1] at h ⊢;exact h
  ·rw [if_neg h1] at h ⊢
   by_cases h2:c=10
   ·rw [if_pos h2] at h;simp at h
   ·rw [if_neg h2] at h ⊢
    by_cases h3:c=92
    ·rw [if_pos h3] at h ⊢
     cases he:esc r with
     | none=>rw [he] at h;simp at h
     | some p =>
      obtain ⟨b,m'⟩:=p
      rw [he] at h
      rw [esc_join he t]
      obtain ⟨e1,e2,-⟩:=esc_len hr he
      simp only at h ⊢
      rw [List.drop_append_of_le_length e2]
      exact quoF_join k _ _ _ l m (fun c hc=>hr c (List.mem_of_mem_drop hc)) h t j
    ·rw [if_neg h3] at h ⊢
     exact quoF_join k _ _ _ l m hr h t j
theorem quo_join {s l:List Nat} {m:Nat} (hs:∀ c∈s,c<256) (h:quo s=some (l,m)) (t:List Nat):quo (s++t)=some (l,m):=by
 cases s with
 | nil=>simp [quo,quoF] at h
 | cons c r =>
  unfold quo at h ⊢
  have:=quoF_join _ _ _ _ l m (fun c hc=>hs c (List.mem_of_mem_drop hc)) h t t.length
  rw [show (c :: r).length+t.length=(c :: r++t).length by simp;omega] at this
  exact this
theorem run_take (p:Nat->Bool) (s:List Nat) (k:Nat):run p (s.take k)=min k (run p s):=by
 induction s generalizing k with
 | nil=>simp [run_nil]
 | cons c t ih =>
  cases k with
  | zero=>simp [run_nil]
  | succ k =>
   rw [List.take_succ_cons,run_cons,run_cons,ih]
   split <;> omega
theorem esc_take {s:List Nat} {b j:Nat} (h:esc s=some (b,j)) (q:Nat) (hq:j<=q):esc (s.take q)=some (b,j):=by
 match s with
 | []=>simp [esc] at h
 | [c] =>
  unfold esc at h
  simp only at h
  by_cases h1:c=34\/c=92
  ·rw [if_pos h1] at h
   simp only [Option.some.injEq,Prod.mk.injEq] at h
   obtain ⟨rfl,rfl⟩:=h
   rw [List.take_of_length_le (by simpa using hq)]
   unfold esc;simp only;rw [if_pos h1]
  ·rw [if_neg h1] at h
   by_cases h2:c=110
   ·rw [if_pos h2] at h
    simp only [Option.some.injEq,Prod.mk.injEq] at h
    obtain ⟨rfl,rfl⟩:=h
    rw [List.take_of_length_le (by simpa using hq)]
    unfold esc;simp only;rw [if_neg h1,if_pos h2]
   ·rw [if_neg h2] at h
    by_cases h3:c=120 <;> simp [h3] at h
 | c :: x :: t =>
  unfold esc at h
  simp only at h
  by_cases h1:c=34\/c=92
  ·rw [if_pos h1] at h
   simp only [Option.some.injEq,Prod.mk.injEq] at h
   obtain ⟨rfl,rfl⟩:=h
   obtain ⟨q',rfl⟩:∃ q',q=q'+1:=⟨q - 1,by omega⟩
   rw [List.take_succ_cons]
   unfold esc;simp only;rw [if_pos h1]
  ·rw [if_neg h1] at h
   by_cases h2:c=110
   ·rw [if_pos h2] at h
    simp only [Option.some.injEq,Prod.mk.injEq] at h
    obtain ⟨rfl,rfl⟩:=h
    obtain ⟨q',rfl⟩:∃ q',q=q'+1:=⟨q - 1,by omega⟩
    rw [List.take_succ_cons]
    unfold esc;simp only;rw [if_neg h1,if_pos h2]
   ·rw [if_neg h2] at h
    by_cases h3:c=120
    ·rw [if_pos h3] at h
     cases t with
     | nil=>simp at h
     | cons y u =>
      have hj:j=3:=by
       simp only at h
       cases hx:hexv x with
       | none=>rw [hx] at h;simp at h
       | some u1 =>
        cases hy:hexv y with
        | none=>rw [hx,hy] at h;simp at h
        | some u2=>rw [hx,hy] at h;simp at h;omega
      subst hj
      obtain ⟨q',rfl⟩:∃ q',q=q'+3:=⟨q - 3,by omega⟩
      simp only [List.take_succ_cons]
      unfold esc
      simp only
      rw [if_neg h1,if_neg h2,if_pos h3]
      exact h
    ·simp [h3] at h
theorem quoF_take:∀ (k:Nat) (s acc:List Nat) (n:Nat) (l:List Nat) (m:Nat),(∀ c∈s,c<256)->(∀ c∈acc,c<256)->quoF k s acc n=some (l,m)->∀ k',m - n<=k'->quoF k' (s.take (m - n)) acc n=some (l,m)
 | 0,_,_,_,_,_,_,_,h=>by simp [quoF] at h
 | k+1,[],_,_,_,_,_,_,h=>by simp [quoF] at h
 | k+1,c :: r,acc,n,l,m,hs,ha,h=>fun k' hk=>by
  have hr:∀ c∈r,c<256:=fun x hx=>hs x (by simp [hx])
  have hl:=quoF_len (k+1) (c :: r) acc n l m hs ha h
  obtain ⟨q,hq⟩:∃ q,m - n=q+1:=⟨m - n - 1,by omega⟩
  obtain ⟨k'',rfl⟩:∃ k'',k'=k''+1:=⟨k' - 1,by omega⟩
  rw [hq,List.take_succ_cons]
  unfold quoF at h ⊢
  by_cases h1:c=34
  ·rw [if_pos h1] at h ⊢;exact h
  ·rw [if_neg h1] at h ⊢
   by_cases h2:c=10
   ·rw [if_pos h2] at h;simp at h
   ·rw [if_neg h2] at h ⊢
    by_cases h3:c=92
    ·rw [if_pos h3] at h ⊢
     cases he:esc r with
     | none=>rw [he] at h;simp at h
     | some p =>
      obtain ⟨b,j⟩:=p
      rw [he] at h
      simp only at h
      obtain ⟨e1,e2,e3⟩:=esc_len hr he
      have ha':∀ c∈acc++[b],c<256:=fun x hx=>by
       rcases List.mem_append.1 hx with hx | hx
       ·exact ha x hx
       ·simp at hx;omega
      have hl2:=quoF_len k (r.drop j) (acc++[b]) (n+1+j) l m (fun c hc=>hr c (List.mem_of_mem_drop hc)) ha' h
      rw [esc_take he q (by omega)]
      simp only
      have:=quoF_take k (r.drop j) (acc++[b]) (n+1+j) l m (fun c hc=>hr c (List.mem_of_mem_drop hc)) ha' h k'' (by omega)
      rw [List.drop_take,show q - j=m - (n+1+j) by omega]
      exact this
    ·rw [if_neg h3] at h ⊢
     have ha':∀ x∈acc++[c],x<256:=fun x hx=>by
      rcases List.mem_append.1 hx with hx | hx
      ·exact ha x hx
      ·simp at hx;have:=hs c (by simp);omega
     have:=quoF_take k r (acc++[c]) (n+1) l m hr ha' h k'' (by omega)
     rw [show q=m - (n+1) by omega]
     exact this
theorem quo_take {s l:List Nat} {m:Nat} (hs:∀ c∈s,c<256) (h:quo s=some (l,m)):quo (s.take m)=some (l,m):=by
 cases s with
 | nil=>simp [quo,quoF] at h
 | cons c r =>
  obtain ⟨l1,l2,-⟩:=quo_len hs h
  unfold quo at h ⊢
  obtain ⟨q,rfl⟩:∃ q,m=q+1:=⟨m - 1,by omega⟩
  have:=quoF_take _ _ _ _ l (q+1) (fun c hc=>hs c (List.mem_of_mem_drop hc)) (by simp) h (q+1) (by omega)
  simp only [List.take_succ_cons,List.drop_succ_cons,List.drop_zero,List.length_cons,List.length_take,Nat.add_sub_cancel] at this ⊢
  have hle:min q r.length=q:=by simp at l2;omega
  rw [hle]
  exact this
theorem mark_take (s:List Nat):mark (s.take (mark s))=mark s:=by
 match s with
 | []=>rfl
 | [a] =>
  by_cases h:ones.contains a=true
  ·have e:mark [a]=1:=by simp only [mark];rw [if_pos h]
   rw [e];exact e
  ·have e:mark [a]=0:=by simp only [mark];rw [if_neg h]
   rw [e];rfl
 | a :: b :: t =>
  by_cases h1:two a b=true
  ·have e:∀ u,mark (a :: b :: u)=2:=fun u=>by simp only [mark];rw [if_pos h1]
   rw [e];exact e []
  ·by_cases h:ones.contains a=true
   ·have e:mark (a :: b :: t)=1:=by simp only [mark];rw [if_neg h1,if_pos h]
    rw [e]
    show mark [a]=1
    simp only [mark];rw [if_pos h]
   ·have e:mark (a :: b :: t)=0:=by simp only [mark];rw [if_neg h1,if_neg h]
    rw [e];rfl
theorem headD_take {s:List Nat} {n:Nat} (h:1<=n):(s.take n).headD 0=s.headD 0:=by
 cases s with
 | nil=>simp
 | cons c t =>
  obtain ⟨q,rfl⟩:∃ q,n=q+1:=⟨n - 1,by omega⟩
  rfl
/-- a word by itself is that word -/
theorem word_take {s:List Nat} {w:Wd} (hb:∀ c∈s,c<256) (h0:s≠[]) (h:word s=.ok w):word (s.take w.n)=.ok w:=by
 obtain ⟨l1,l2,-⟩:=word_len hb h0 h
 have e1:=headD_take (s:=s) l1
 unfold word at h ⊢
 rw [e1]
 by_cases c1:(small (s.headD 0) || capital (s.headD 0))=true
 ·rw [if_pos c1] at h ⊢
  by_cases c2:32<run goes s
  ·rw [if_pos c2] at h;simp at h
  ·rw [if_neg c2] at h
   simp only [Rw.ok.injEq] at h
   subst h
   simp only
   have e2:run goes (s.take (run goes s))=run goes s:=by rw [run_take];omega
   rw [e2,if_neg c2]
 ·rw [if_neg c1] at h ⊢
  by_cases c2:digit (s.headD 0)=true
  ·rw [if_pos c2] at h ⊢
   by_cases c3:(1<run digit s/\s.headD 0=48)\/2147483647<numv (s.take (run digit s))\/run digit s<run goes s
   ·rw [if_pos c3] at h;simp at h
   ·rw [if_neg c3] at h
    simp only [Rw.ok.injEq] at h
    subst h
    simp only
    have e2:run digit (s.take (run digit s))=run digit s:=by rw [run_take];omega
    have e3:run goes (s.take (run digit s))=min (run digit s) (run goes s):=run_take _ _ _
    rw [e2,e3,List.take_take,Nat.min_self,if_neg (by omega)]
  ·rw [if_neg c2] at h ⊢
   by_cases c3:s.headD 0=34
   ·rw [if_pos c3] at h ⊢
    cases hq:quo s with
    | none=>rw [hq] at h;simp at h
    | some p =>
     obtain ⟨l,m⟩:=p
     rw [hq] at h
     simp only [Rw.ok.injEq] at h
     subst h
     simp only
     rw [quo_take hb hq]
   ·rw [if_neg c3] at h ⊢
    by_cases c4:mark s=0
    ·rw [if_pos c4] at h;simp at h
    ·rw [if_neg c4] at h
     simp only [Rw.ok.injEq] at h
     subst h
     simp only
     rw [mark_take,if_neg c4]
/-- a word of a text by itself -/
theorem alone {s:List Nat} {w:Wd} (hb:∀ c∈s,c<256) (h0:s≠[]) (hsk:skipN false s=0) (hl:s.length<=65536) (h:word s=.ok w) :
  tokens (s.take w.n)=[⟨w.kind,s.take w.n,w.vk,w.num,w.sym,1,1⟩]/\fault (s.take w.n)=(0,0,0):=by
 obtain ⟨l1,l2,-⟩:=word_len hb h0 h
 have hw:=word_take hb h0 h
 have hlen:(s.take w.n).length=w.n:=by rw [List.length_take];omega
 generalize hu:s.take w.n=u at *
 have hu0:u≠[]:=by rintro rfl;simp at hlen;omega
 have hsu:skipN false u=0:=by
  cases s with
  | nil=>simp at h0
  | cons c t =>
   obtain ⟨q,hq⟩:∃ q,w.n=q+1:=⟨w.n - 1,by omega⟩
   rw [hq,List.take_succ_cons] at hu
   subst hu
   unfold skipN at hsk ⊢
   simp only at hsk ⊢
   by_cases hh:(!(if c=35 then true else if c=10 then false else false) && !blank c)=true
   ·rw [if_pos hh]
   ·rw [if_neg hh] at hsk;simp at hsk
 have hks:(start u).skip=start u:=by
  unfold St.skip
  rw [show (start u).s=u from rfl,hsu]
  rfl
 have n1:next (start u)=({ start u with s:=[],pos:=adv (1,1) u,fin:=adv (1,1) u },some ⟨w.kind,u,w.vk,w.num,w.sym,1,1⟩):=by
  unfold next
  have c1:(start u).long=false:=by simp [start];omega
  rw [if_neg (by simp [start]),c1]
  simp only [Bool.false_eq_true,if_false]
  rw [hks,show (start u).s=u from rfl,if_neg hu0,hw]
  simp only
  rw [<-hlen,List.drop_length,List.take_length]
  rfl
 have n2:∀ x:St,x.s=[]->x.code=0->x.long=false->next x=(x,none):=by
  intro x hx hc hl
  have hk:x.skip=x:=by
   unfold St.skip
   rw [hx]
   simp only [skipN,List.drop_nil,List.take_nil,adv]
   cases x;simp at hx;subst hx;rfl
  unfold next
  rw [if_neg (by omega),hl]
  simp only [Bool.false_eq_true,if_false]
  rw [hk,if_pos hx]
 have hg:given u=([⟨w.kind,u,w.vk,w.num,w.sym,1,1⟩],{ start u with s:=[],pos:=adv (1,1) u,fin:=adv (1,1) u }):=by
  unfold given
  obtain ⟨q,hq⟩:∃ q,u.length=q+1:=⟨u.length - 1,by omega⟩
  rw [hq,allF,n1]
  simp only
  rw [allF,n2 _ rfl rfl (by simp [start];omega)]
 unfold tokens fault
 rw [hg]
 exact ⟨rfl,rfl⟩
/-- is nothing there but blanks and remarks? -/
def bare:Bool->List Nat->Bool
 | _,[]=>true
 | r,c :: t=>if c=10 then bare false t else if c=35 then bare true t else if !r && (c != 32 && (c != 9 && c != 13)) then false else bare r t
theorem skip_take:∀ (s:List Nat) (b:Bool) (k:Nat),skipN b (s.take k)=min k (skipN b s)
 | [],b,k=>by simp [skipN]
 | c :: t,b,0=>by simp [skipN]
 | c :: t,b,k+1=>by
  rw [List.take_succ_cons]
  unfold skipN
  simp only
  rw [skip_take t _ k]
  generalize (if c=35 then true else if c=10 then false else b)=b'
  by_cases h:(!b' && !blank c)=true
  ·rw [if_pos h,if_pos h];omega
  ·rw [if_neg h,if_neg h];omega
theorem word_takeN {s:List Nat} {w:Wd} (hb:∀ c∈s,c<256) (h0:s≠[]) (h:word s=.ok w) (k:Nat) (hk:w.n<=k):word (s.take k)=.ok w:=by
 obtain ⟨l1,l2,-⟩:=word_len hb h0 h
 have e1:=headD_take (s:=s) (n:=k) (by omega)
 unfold word at h ⊢
 rw [e1]
 by_cases c1:(small (s.headD 0) || capital (s.headD 0))=true
 ·rw [if_pos c1] at h ⊢
  by_cases c2:32<run goes s
  ·rw [if_pos c2] at h;simp at h
  ·rw [if_neg c2] at h
   simp only [Rw.ok.injEq] at h
   subst h
   simp only at hk
   have e2:run goes (s.take k)=run goes s:=by rw [run_take];omega
   rw [e2,if_neg c2]
 ·rw [if_neg c1] at h ⊢
  by_cases c2:digit (s.headD 0)=true
  ·rw [if_pos c2] at h ⊢
   by_cases c3:(1<run digit s/\s.headD 0=48)\/2147483647<numv (s.take (run digit s))\/run digit s<run goes s
   ·rw [if_pos c3] at h;simp at h
   ·rw [if_neg c3] at h
    simp only [Rw.ok.injEq] at h
    subst h
    simp only at hk
    have e2:run digit (s.take k)=run digit s:=by rw [run_take];omega
    have e3:run goes (s.take k)=min k (run goes s):=run_take _ _ _
    rw [e2,e3,List.take_take,show min (run digit s) k=run digit s by omega,if_neg (by omega)]
  ·rw [if_neg c2] at h ⊢
   by_cases c3:s.headD 0=34
   ·rw [if_pos c3] at h ⊢
    cases hq:quo s with
    | none=>rw [hq] at h;simp at h
    | some p =>
     obtain ⟨l,m⟩:=p
     rw [hq] at h
     simp only [Rw.ok.injEq] at h
     subst h
     simp only at hk l2
     have h1:=quo_take hb hq
     have h2:=quo_join (fun c hc=>hb c (List.mem_of_mem_take hc)) h1 ((s.drop m).take (k - m))
     rw [<-List.take_add,show m+(k - m)=k by omega] at h2
     rw [h2]
   ·rw [if_neg c3] at h ⊢
    by_cases c4:mark s=0
    ·rw [if_pos c4] at h;simp at h
    ·rw [if_neg c4] at h
     simp only [Rw.ok.injEq] at h
     subst h
     simp only at hk
     have:mark (s.take k)=mark s:=by
      match s,h0,k,hk with
      | [a],_,k,hk =>
       rw [List.take_of_length_le (by simp;simp at l1;omega)]
      | a :: b :: t,_,0,hk=>simp at l1;omega
      | a :: b :: t,_,1,hk =>
       have:mark (a :: b :: t)=1:=by omega
       have h1:two a b=false:=by
        cases ht:two a b with
        | false=>rfl
        | true=>simp [mark,ht] at this
       simp only [mark,h1] at this
       have h2:ones.contains a=true:=by
        cases ho:ones.contains a with
        | true=>rfl
        | false=>rw [ho] at this;simp at this
       simp only [List.take_succ_cons,List.take_zero,mark,h1,h2]
       rfl
      | a :: b :: t,_,k+2,hk=>simp [mark]
     rw [this,if_neg c4]
/-- s, that begins at place p, begins with the words l; what is left, and its place -/
inductive Sq:List Nat->Nat × Nat->List Tok->List Nat->Nat × Nat->Prop
 | nil (s:List Nat) (p:Nat × Nat):Sq s p [] s p
 | word {s:List Nat} {p:Nat × Nat} {u:List Nat} {w:Wd} {l:List Tok} {r:List Nat} {q:Nat × Nat} (hs:s.drop (skipN false s)=u) (h0:u≠[]) (hw:word u=.ok w)
   (h:Sq (u.drop w.n) (adv (adv p (s.take (skipN false s))) (u.take w.n)) l r q) :
   Sq s p (⟨w.kind,u.take w.n,w.vk,w.num,w.sym,(adv p (s.take (skipN false s))).1,(adv p (s.take (skipN false s))).2⟩ :: l) r q
theorem Sq.trans {a b c:List Nat} {p q o:Nat × Nat} {l m:List Tok} (h:Sq a p l b q) (k:Sq b q m c o):Sq a p (l++m) c o:=by
 induction h with
 | nil s p=>exact k
 | word hs h0 hw h ih=>exact .word hs h0 hw (ih k)
theorem Sq.split {c:List Nat} {o:Nat × Nat} (m:List Tok):∀ {l:List Tok} {a:List Nat} {p:Nat × Nat},Sq a p (l++m) c o->∃ b q,Sq a p l b q/\Sq b q m c o
 | [],a,p,h=>⟨a,p,.nil a p,h⟩
 | t :: l,a,p,h=>by
  rw [List.cons_append] at h
  generalize hx:t :: (l++m)=x at h
  cases h with
  | nil=>cases hx
  | word hs h0 hw h =>
   simp only [List.cons.injEq] at hx
   obtain ⟨rfl,hx⟩:=hx
   subst hx
   obtain ⟨b,q,h1,h2⟩:=Sq.split m h
   exact ⟨b,q,.word hs h0 hw h1,h2⟩
/-- nothing but blanks and remarks -/
def Bl (s:List Nat):Prop:=s.drop (skipN false s)=[]
theorem all_of_sq {s r:List Nat} {p q:Nat × Nat} {l:List Tok} (h:Sq s p l r q):∀ (x:St) (k:Nat),x.s=s->x.pos=p->x.code=0->x.long=false->l.length<k->Bl r->∃ y,allF k x=(l,y)/\y.code=0:=by
 induction h with
 | nil s p =>
  intro x k hx hp hc hl hk hb
  obtain ⟨k,rfl⟩:∃ m,k=m+1:=⟨k - 1,by omega⟩
  have hn:next x=(x.skip,none):=by
   unfold next
   rw [if_neg (by omega),hl]
   have:x.skip.s=[]:=by unfold St.skip;rw [hx];exact hb
   rw [if_pos this]
   rfl
  exact ⟨x.skip,by rw [allF,hn],hc⟩
 | @word s p u w l r q hs h0 hw h ih =>
  intro x k hx hp hc hl hk hb
  obtain ⟨k,rfl⟩:∃ m,k=m+1:=⟨k - 1,by rw [List.length_cons] at hk;omega⟩
  have e1:x.skip.s=u:=by unfold St.skip;rw [hx];exact hs
  have e2:x.skip.pos=adv p (s.take (skipN false s)):=by unfold St.skip;rw [hx,hp]
  have hn:next x=({ x.skip with s:=u.drop w.n,pos:=adv x.skip.pos (u.take w.n),fin:=adv x.skip.pos (u.take w.n) },some ⟨w.kind,u.take w.n,w.vk,w.num,w.sym,x.skip.pos.1,x.skip.pos.2⟩):=by
   unfold next
   rw [if_neg (by omega),hl,e1,if_neg h0,hw]
   rfl
  obtain ⟨y,h1,h2⟩:=ih { x.skip with s:=u.drop w.n,pos:=adv x.skip.pos (u.take w.n),fin:=adv x.skip.pos (u.take w.n) } k rfl (by rw [e2]) hc hl (by simpa using hk) hb
  refine ⟨y,?_,h2⟩
  rw [allF,hn]
  simp only
  rw [h1,e2]
theorem Sq.len {s r:List Nat} {p q:Nat × Nat} {l:List Tok} (h:Sq s p l r q) (hb:∀ c∈s,c<256):l.length+r.length<=s.length:=by
 induction h with
 | nil s p=>simp
 | @word s p u w l r q hs h0 hw h ih =>
  have hu:∀ c∈u,c<256:=fun c hc=>hb c (by rw [<-hs] at hc;exact List.mem_of_mem_drop hc)
  obtain ⟨l1,l2,-⟩:=word_len hu h0 hw
  have:=ih (fun c hc=>hu c (List.mem_of_mem_drop hc))
  have hul:u.length<=s.length:=by rw [<-hs,List.length_drop];omega
  rw [List.length_drop] at this
  rw [List.length_cons]
  omega
theorem given_of_sq {s r:List Nat} {q:Nat × Nat} {l:List Tok} (h:Sq s (1,1) l r q) (hb:∀ c∈s,c<256) (hr:Bl r) (hl:s.length<=65536):(given s).1=l/\(given s).2.code=0:=by
 have:=h.len hb
 obtain ⟨y,h1,h2⟩:=all_of_sq h (start s) (s.length+1) rfl rfl rfl (by simp [start];omega) (by omega) hr
 unfold given
 rw [h1]
 exact ⟨rfl,h2⟩
/-- cut off behind the words -/
theorem Sq.take {s r:List Nat} {p q:Nat × Nat} {l:List Tok} (h:Sq s p l r q):∀ (hb:∀ c∈s,c<256) (j:Nat),Sq (s.take (s.length - r.length+j)) p l (r.take j) q:=by
 induction h with
 | nil s p =>
  intro hb j
  rw [show s.length - s.length+j=j by omega]
  exact .nil _ _
 | @word s p u w l r q hs h0 hw h ih =>
  intro hb j
  have hu:∀ c∈u,c<256:=fun c hc=>hb c (by rw [<-hs] at hc;exact List.mem_of_mem_drop hc)
  obtain ⟨l1,l2,-⟩:=word_len hu h0 hw
  have hd:∀ c∈u.drop w.n,c<256:=fun c hc=>hu c (List.mem_of_mem_drop hc)
  have ih:=ih hd j
  have hlen:=h.len hd
  rw [List.length_drop] at hlen
  have hul:u.length=s.length - skipN false s:=by rw [<-hs,List.length_drop]
  have hsk:=skipN_le false s
  have hul0:0<u.length:=List.length_pos_iff.2 h0
  generalize hJ:s.length - r.length+j=J
  have hJ2:skipN false s+w.n<=J:=by omega
  have hsk2:skipN false (s.take J)=skipN false s:=by rw [skip_take];omega
  have e1:(s.take J).drop (skipN false (s.take J))=u.take (J - skipN false s):=by rw [hsk2,List.drop_take,hs]
  have e2:(s.take J).take (skipN false (s.take J))=s.take (skipN false s):=by rw [hsk2,List.take_take,show min (skipN false s) J=skipN false s by omega]
  have e3:(u.take (J - skipN false s)).take w.n=u.take w.n:=by rw [List.take_take,show min w.n (J - skipN false s)=w.n by omega]
  have e4:(u.take (J - skipN false s)).drop w.n=(u.drop w.n).take ((u.drop w.n).length - r.length+j):=by
   rw [List.drop_take,List.length_drop]
   congr 1
   omega
  have:=Sq.word (s:=s.take J) (p:=p) (l:=l) (r:=r.take j) (q:=q) e1 (by
   intro h5
   have:=congrArg List.length h5
   rw [List.length_take,List.length_nil] at this
   omega) (word_takeN hu h0 hw _ (by omega)) (by rw [e2,e3,e4];exact ih)
  rw [e2,e3] at this
  exact this
/-- at another place the words are the same but for their places -/
theorem Sq.place {s r:List Nat} {p q:Nat × Nat} {l:List Tok} (h:Sq s p l r q):∀ p',∃ l' q',Sq s p' l' r q'/\l'.map (fun t=>(t.kind,t.text,t.vk,t.num,t.sym))=l.map (fun t=>(t.kind,t.text,t.vk,t.num,t.sym)):=by
 induction h with
 | nil s p=>exact fun p'=>⟨[],p',.nil _ _,rfl⟩
 | word hs h0 hw h ih =>
  intro p'
  obtain ⟨l',q',h1,h2⟩:=ih (adv (adv p' _) _)
  exact ⟨_,q',.word hs h0 hw h1,by simp [h2]⟩
theorem run_all (p:Nat->Bool) (s:List Nat):∀ c∈s.take (run p s),p c=true:=by
 unfold run
 induction s with
 | nil=>simp
 | cons c t ih =>
  rw [List.takeWhile_cons]
  split
  ·rename_i hc
   intro d hd
   simp only [List.length_cons,List.take_succ_cons,List.mem_cons] at hd
   rcases hd with rfl | hd
   ·exact hc
   ·exact ih d hd
  ·simp
/-- a name begins with a small letter -/
theorem word_name {s:List Nat} {w:Wd} (h:word s=.ok w) (hk:w.kind=1):small (s.headD 0)=true:=by
 unfold word at h
 split at h
 ·rename_i hc
  split at h
  ·simp at h
  ·simp at h;subst h
   simp only at hk
   rw [Bool.or_eq_true] at hc
   rcases hc with hc | hc
   ·exact hc
   ·simp at hk hc;simp [hc] at hk
 ·split at h
  ·split at h <;> simp at h
   subst h;simp at hk
  ·split at h
   ·split at h <;> simp at h
    subst h;simp at hk
   ·split at h <;> simp at h
    subst h;simp at hk
end Go.Proofs.YtbfaclljbbfknaaGreatDoor.Lx
namespace Go.Proofs.YtbfaclljbbfknaaGreatDoor.Sy
open Lx (Tok St word skipN goes)
open Pr (Ex)
set_option linter.unusedVariables false
set_option linter.unusedSimpArgs false
/-- a word but for its place -/
structure Sh where
 kind:Nat
 text:List Nat
 vk:Nat
 num:Nat
 sym:List Nat
deriving DecidableEq
def sh (t:Lx.Tok):Sh:=⟨t.kind,t.text,t.vk,t.num,t.sym⟩
/-- the words ts stand at place i -/
def At (v:Env) (i:Nat) (ts:List Sh):Prop:=∀ j (h:j<ts.length),sh (v.tk (i+j))=ts[j]
theorem At.head {v:Env} {i:Nat} {t:Sh} {ts:List Sh} (h:At v i (t :: ts)):sh (v.tk i)=t:=h 0 (by simp)
theorem At.tail {v:Env} {i:Nat} {t:Sh} {ts:List Sh} (h:At v i (t :: ts)):At v (i+1) ts:=fun j hj=>by
 have:=h (j+1) (by simpa using hj)
 rw [show i+1+j=i+(j+1) by omega]
 simpa using this
theorem At.left {v:Env} {i:Nat} {a b:List Sh} (h:At v i (a++b)):At v i a:=fun j hj=>by
 have:=h j (by rw [List.length_append];omega)
 rwa [List.getElem_append_left hj] at this
theorem At.right {v:Env} {i:Nat} {a b:List Sh} (h:At v i (a++b)):At v (i+a.length) b:=fun j hj=>by
 have:=h (a.length+j) (by rw [List.length_append];omega)
 rw [List.getElem_append_right (by omega)] at this
 rw [Nat.add_assoc]
 simpa using this
theorem chain_stop {v:Env} {line:Nat} {sub:Nat->Nat->PR (Ex × Nat)} {above n:Nat} {e:Ex} {d i:Nat} (h:(level (v.tk i)).1≠line):chainF v line sub above (n+1) e d i=.ok (e,d) i:=by
 rw [chainF,if_pos h]
open Lx (Tok)
open Pr (Term Atom Ex Li Rul Rel Prog)
/-- without places -/
def bareL:Li->Li
 | .mk k a op l r fn av of body ln cl=>.mk k a op l r fn av of (bareLs body) 0 0
where bareLs:List Li->List Li
 | []=>[]
 | x :: r=>bareL x :: bareLs r
theorem bareLs_map (l:List Li):bareL.bareLs l=l.map bareL:=by
 induction l with
 | nil=>rfl
 | cons a r ih=>rw [bareL.bareLs,ih];rfl
theorem bareL_eq (k:Int) (a:Atom) (op:Int) (l r:Ex) (fn:Int) (av:ByteArray) (of:Ex) (body:List Li) (ln cl:Int):bareL (.mk k a op l r fn av of body ln cl)=.mk k a op l r fn av of (body.map bareL) 0 0:=by
 rw [bareL,bareLs_map]
def bareU (x:Rul):Rul:=⟨x.head,x.body.map bareL,0,0⟩
def bareR (x:Rel):Rel:=⟨x.name,x.types,0,0⟩
def bareP (p:Prog):Prog:=⟨p.rels.map bareR,p.rules.map bareU⟩
section
variable {α β:Type} {v v':Env}
theorem sign_sh {t t':Lx.Tok} (h:sh t'=sh t) (s:List Nat):sign t' s=sign t s:=by
 unfold sh at h
 simp only [Sh.mk.injEq] at h
 unfold sign
 rw [h.1,h.2.1]
theorem kind_sh' {t t':Lx.Tok} (h:sh t'=sh t):t'.kind=t.kind:=congrArg Sh.kind h
theorem text_sh {t t':Lx.Tok} (h:sh t'=sh t):t'.text=t.text:=congrArg Sh.text h
theorem plain_sh {t t':Lx.Tok} (h:sh t'=sh t):plain t'=plain t:=by
 unfold plain
 rw [kind_sh' h,text_sh h]
theorem placeF_sh' {t t':Lx.Tok} (h:sh t'=sh t):∀ (l:List (List Nat)) (k:Nat),placeF t' l k=placeF t l k
 | [],k=>rfl
 | s :: r,k=>by rw [placeF,placeF,sign_sh h,placeF_sh' h r (k+1)]
theorem fnOf_sh {t t':Lx.Tok} (h:sh t'=sh t):fnOf t'=fnOf t:=placeF_sh' h _ _
theorem cmpOf_sh {t t':Lx.Tok} (h:sh t'=sh t):cmpOf t'=cmpOf t:=placeF_sh' h _ _
theorem level_sh {t t':Lx.Tok} (h:sh t'=sh t):level t'=level t:=by
 unfold level
 simp only [sign_sh h]
def RA (g g':Ag):Prop:=g'.fn=g.fn/\g'.av=g.av/\g'.of=g.of/\g.body.map bareL=g'.body.map bareL
end
end Go.Proofs.YtbfaclljbbfknaaGreatDoor.Sy
