/- THE TEXTS MERGED: SyShown LxJoin LxAlone SySq. -/
import Derived.Test.YtppigckioalhhaaGreatDoorRKP1
import Derived.Test.YtppigckioalhhaaGreatDoorRKP19
namespace Go.Proofs.YtppigckioalhhaaGreatDoorR
open Go.RowKit
set_option linter.unusedVariables false
set_option linter.unusedSimpArgs false
set_option maxRecDepth 100000
section
variable (w:World) (Z F C D:Array Value) (T U:TypeId)
theorem two_a:((w.alloc (.cells Z T)).alloc (.cells F U)).heap[w.heap.size]?=some (.cells Z T (0,0)):=((Mod.refl [] (w.alloc (.cells Z T))).alloc (.cells F U)).at (heap_alloc_new w _) (by simp)
theorem two_b:((w.alloc (.cells Z T)).alloc (.cells F U)).heap[w.heap.size+1]?=some (.cells F U (0,0)):=by
 have:=heap_alloc_new (w.alloc (.cells Z T)) (.cells F U)
 rw [show (w.alloc (.cells Z T)).heap.size=w.heap.size+1 by simp] at this
 exact this
theorem two_c:(((w.alloc (.cells Z T)).alloc (.cells F U)).setRow w.heap.size C).heap[w.heap.size+1]?=some (.cells F U (0,0)):=(setRow_other _ _ _ _ (by omega)).trans (two_b w Z F T U)
/-- two new variables, stored into -/
theorem two_vars:((((w.alloc (.cells Z T)).alloc (.cells F U)).setRow w.heap.size C).setRow (w.heap.size+1) D).heap[w.heap.size]?=some (.cells C T (0,0)) /\
  ((((w.alloc (.cells Z T)).alloc (.cells F U)).setRow w.heap.size C).setRow (w.heap.size+1) D).heap[w.heap.size+1]?=some (.cells D U (0,0)) /\
  Mod [] w ((((w.alloc (.cells Z T)).alloc (.cells F U)).setRow w.heap.size C).setRow (w.heap.size+1) D)/\((((w.alloc (.cells Z T)).alloc (.cells F U)).setRow w.heap.size C).setRow (w.heap.size+1) D).heap.size=w.heap.size+2:=by
 refine ⟨(setRow_other _ _ _ _ (by omega)).trans (setRow_heap _ _ _ _ _ _ (two_a w Z F T U)),setRow_heap _ _ _ _ _ _ (two_c w Z F C T U),?_,by simp⟩
 refine (((((Mod.refl [] w).alloc _).alloc _).trans (Mod.setRow _ _ _) (fun t ht=>?_))).trans (Mod.setRow _ _ _) (fun t ht=>?_)
 ·rw [Msq] at ht;exact .inr (by omega)
 ·rw [Msq] at ht;exact .inr (by omega)
end
def tx1:ByteArray:={ data:=#[114,101,108,97,116,105,111,110,32,101,40,110,117,109,44,32,115,121,109,41,46,32,101,40,49,44,32,97,41,46] }
def tx2:ByteArray:={ data:=#[88,32,61,32,45,89,32,45,32,45,49] }
def tx3:ByteArray:={ data:=#[78,32,61,32,115,117,109,32,123,32,88,32,125] }
namespace Sy
def sP:Pr.Prog:=⟨[⟨txt [101],[1,2],1,10⟩],[⟨⟨txt [101],[⟨2,txt [],⟨1,1,[]⟩⟩,⟨2,txt [],⟨2,0,[97]⟩⟩]⟩,[],1,23⟩]⟩
def sA:Pr.Ex:=.mk 4 (txt []) Va.zero 6 [.mk 1 (txt [89]) Va.zero 0 []]
def sB:Pr.Ex:=.mk 2 (txt []) ⟨1,-1,[]⟩ 0 []
def sL:Pr.Li:=.mk 3 at0 1 (.mk 1 (txt [88]) Va.zero 0 []) (.mk 4 (txt []) Va.zero 2 [sA,sB]) 0 (txt []) ex0 [] 1 1
theorem shown1:∃ i,whole (envOf (Cod.str tx1)) (prog (envOf (Cod.str tx1)))=.ok sP i:=⟨15,by kernel_rfl⟩
theorem shown2:∃ i,whole (envOf (Cod.str tx2)) (lit (envOf (Cod.str tx2)) 0)=.ok sL i:=⟨7,by kernel_rfl⟩
theorem shown3:whole (envOf (Cod.str tx3)) (lit (envOf (Cod.str tx3)) 0)=.err (40,1,13):=by kernel_rfl
end Sy
set_option maxHeartbeats 8000000 in
theorem shown_any (w:World) (hG:Glob w):Calls Tryz.prog 9 #[] w fun e w'=>e=.returned (.bool true)/\Mod [] w w':=by
 obtain ⟨i1,hi1⟩:=Sy.shown1
 obtain ⟨i2,hi2⟩:=Sy.shown2
 have h1:=fun w hG=>entP_any tx1 (by decide) w hG
 have h2:=fun w hG=>entL_any tx2 (by decide) w hG
 have h3:=fun w hG=>entL_any tx3 (by decide) w hG
 rw [hi1] at h1
 rw [hi2] at h2
 rw [Sy.shown3] at h3
 unfold AllRes at h1 h2 h3
 simp only at h1 h2 h3
 obtain ⟨ZZ,hZZ⟩:∃ Q:Array Value,Q=#[.int .i64 0,.string ⟨#[]⟩,.slice none 0 0,.int .i64 0,.int .i64 0,.string ⟨#[]⟩,.int .i64 0,.int .i64 0,.string ⟨#[]⟩,.int .i64 0,.slice none 0 0,.int .i64 0,.string ⟨#[]⟩,.int .i64 0,.int .i64 0,.string ⟨#[]⟩,.int .i64 0,.slice none 0 0,.int .i64 0,.string ⟨#[]⟩,.int .i64 0,.string ⟨#[]⟩,.int .i64 0,.int .i64 0,.string ⟨#[]⟩,.int .i64 0,.slice none 0 0,.slice none 0 0,.int .i64 0,.int .i64 0]:=⟨_,rfl⟩
 have hZ5:ZZ.size=30:=by rw [hZZ];rfl
 have hO5:ZZ.toList.all (·.oneCell')=true:=by rw [hZZ];rfl
 rw [<-hZZ] at h3
 clear hZZ
 have HO5:=Lib.hid hO5
 clear hO5
 have H1:=Lib.hid h1;have H2:=Lib.hid h2;have H3:=Lib.hid h3
 clear h1 h2 h3 hi1 hi2
 unfold tx1 tx2 tx3 at *
 go_enter Tryz.func9,Tryz.ntmps9
 go_wp2_with fail
 refine (H1.out w hG).mono ?_
 rintro e1 w1 ⟨C1,rfl,v1,m1⟩
 obtain ⟨hC1,hO1⟩:=valP_cells v1
 have V1:=Lib.hid v1;have HO1:=Lib.hid hO1
 clear v1 hO1
 go_upto_region 2 with (first | refine wpList_store_at rfl 26 _ _ rfl w1.heap.size C1 _ 26 rfl rfl (two_a w1 #[.slice none 0 0,.slice none 0 0] #[.int .i64 0,.int .i64 0,.int .i64 0] 26 31) (size_of sizeP hC1) (by rw [hC1];rfl) HO1.out ?_ | refine wpList_store_at rfl 31 _ _ rfl (w1.heap.size+1) #[.int .i64 0,.int .i64 0,.int .i64 0] _ 31 rfl rfl (two_c w1 #[.slice none 0 0,.slice none 0 0] #[.int .i64 0,.int .i64 0,.int .i64 0] C1 26 31) sizeFlt rfl rfl ?_)
 obtain ⟨x2,y2,n2,s2⟩:=two_vars w1 #[.slice none 0 0,.slice none 0 0] #[.int .i64 0,.int .i64 0,.int .i64 0] C1 #[.int .i64 0,.int .i64 0,.int .i64 0] 26 31
 generalize (((w1.alloc _).alloc _).setRow _ _).setRow _ _=w2 at *
 have X2:=Lib.hid x2;have Y2:=Lib.hid y2;have M2:=Hxq (m1.trans n2 (by simp));have V2:=Hxq (valP_keep V1.out n2 (by simp) (Nat.le_refl _))
 clear x2 y2 n2 m1 V1
 go_wp2_with fail
 refine (H2.out w2 (hG.past M2.out (by simp))).mono ?_
 rintro e3 w3 ⟨C3,rfl,v3,m3⟩
 obtain ⟨hC3,hO3⟩:=valL_cells v3
 have V3:=Lib.hid v3;have HO3:=Lib.hid hO3
 have X3:=Hxq (m3.at X2.out (by simp));have Y3:=Hxq (m3.at Y2.out (by simp));have M3:=Hxq (M2.out.trans m3 (by simp));have W3:=Hxq (valP_keep V2.out m3 (by simp) (Nat.le_refl _))
 have s3:=m3.size
 clear v3 hO3 m3 X2 Y2 V2
 go_upto_region 3 with (first | refine wpList_store_at rfl 50 _ _ rfl w3.heap.size C3 _ 50 rfl rfl (two_a w3 #[.int .i64 0,.string ⟨#[]⟩,.slice none 0 0,.int .i64 0,.int .i64 0,.string ⟨#[]⟩,.int .i64 0,.int .i64 0,.string ⟨#[]⟩,.int .i64 0,.slice none 0 0,.int .i64 0,.string ⟨#[]⟩,.int .i64 0,.int .i64 0,.string ⟨#[]⟩,.int .i64 0,.slice none 0 0,.int .i64 0,.string ⟨#[]⟩,.int .i64 0,.string ⟨#[]⟩,.int .i64 0,.int .i64 0,.string ⟨#[]⟩,.int .i64 0,.slice none 0 0,.slice none 0 0,.int .i64 0,.int .i64 0] #[.int .i64 0,.int .i64 0,.int .i64 0] 50 31) (size_of sizeL hC3) (by rw [hC3];rfl) HO3.out ?_ | refine wpList_store_at rfl 31 _ _ rfl (w3.heap.size+1) #[.int .i64 0,.int .i64 0,.int .i64 0] _ 31 rfl rfl (two_c w3 #[.int .i64 0,.string ⟨#[]⟩,.slice none 0 0,.int .i64 0,.int .i64 0,.string ⟨#[]⟩,.int .i64 0,.int .i64 0,.string ⟨#[]⟩,.int .i64 0,.slice none 0 0,.int .i64 0,.string ⟨#[]⟩,.int .i64 0,.int .i64 0,.string ⟨#[]⟩,.int .i64 0,.slice none 0 0,.int .i64 0,.string ⟨#[]⟩,.int .i64 0,.string ⟨#[]⟩,.int .i64 0,.int .i64 0,.string ⟨#[]⟩,.int .i64 0,.slice none 0 0,.slice none 0 0,.int .i64 0,.int .i64 0] #[.int .i64 0,.int .i64 0,.int .i64 0] C3 50 31) sizeFlt rfl rfl ?_)
 obtain ⟨x4,y4,n4,s4⟩:=two_vars w3 #[.int .i64 0,.string ⟨#[]⟩,.slice none 0 0,.int .i64 0,.int .i64 0,.string ⟨#[]⟩,.int .i64 0,.int .i64 0,.string ⟨#[]⟩,.int .i64 0,.slice none 0 0,.int .i64 0,.string ⟨#[]⟩,.int .i64 0,.int .i64 0,.string ⟨#[]⟩,.int .i64 0,.slice none 0 0,.int .i64 0,.string ⟨#[]⟩,.int .i64 0,.string ⟨#[]⟩,.int .i64 0,.int .i64 0,.string ⟨#[]⟩,.int .i64 0,.slice none 0 0,.slice none 0 0,.int .i64 0,.int .i64 0] #[.int .i64 0,.int .i64 0,.int .i64 0] C3 #[.int .i64 0,.int .i64 0,.int .i64 0] 50 31
 generalize (((w3.alloc _).alloc _).setRow _ _).setRow _ _=w4 at *
 have X4:=Hxq (n4.at X3.out (by simp));have Y4:=Hxq (n4.at Y3.out (by simp));have A4:=Lib.hid x4;have B4:=Lib.hid y4;have M4:=Hxq (M3.out.trans n4 (by simp));have V4:=Hxq (valP_keep W3.out n4 (by simp) (Nat.le_refl _));have U4:=Hxq (valL_keep V3.out n4 (by simp) (Nat.le_refl _))
 clear x4 y4 n4 X3 Y3 V3 W3
 go_wp2_with fail
 refine (H3.out w4 (hG.past M4.out (by simp))).mono ?_
 rintro e5 w5 ⟨rfl,m5⟩
 have X5:=Hxq (m5.at X4.out (by simp));have Y5:=Hxq (m5.at Y4.out (by simp));have A5:=Hxq (m5.at A4.out (by simp));have B5:=Hxq (m5.at B4.out (by simp));have M5:=Hxq (M4.out.trans m5 (by simp));have V5:=Hxq (valP_keep V4.out m5 (by simp) (Nat.le_refl _));have U5:=Hxq (valL_keep U4.out m5 (by simp) (Nat.le_refl _))
 have s5:=m5.size
 clear m5 X4 Y4 A4 B4 V4 U4
 unfold fltC
 go_upto_region 4 with (first | refine wpList_store_at rfl 50 _ _ rfl w5.heap.size ZZ _ 50 rfl rfl (two_a w5 #[.int .i64 0,.string ⟨#[]⟩,.slice none 0 0,.int .i64 0,.int .i64 0,.string ⟨#[]⟩,.int .i64 0,.int .i64 0,.string ⟨#[]⟩,.int .i64 0,.slice none 0 0,.int .i64 0,.string ⟨#[]⟩,.int .i64 0,.int .i64 0,.string ⟨#[]⟩,.int .i64 0,.slice none 0 0,.int .i64 0,.string ⟨#[]⟩,.int .i64 0,.string ⟨#[]⟩,.int .i64 0,.int .i64 0,.string ⟨#[]⟩,.int .i64 0,.slice none 0 0,.slice none 0 0,.int .i64 0,.int .i64 0] #[.int .i64 0,.int .i64 0,.int .i64 0] 50 31) (size_of sizeL hZ5) (by rw [hZ5];rfl) HO5.out ?_ | refine wpList_store_at rfl 31 _ _ rfl (w5.heap.size+1) #[.int .i64 40,.int .i64 1,.int .i64 13] _ 31 rfl rfl (two_c w5 #[.int .i64 0,.string ⟨#[]⟩,.slice none 0 0,.int .i64 0,.int .i64 0,.string ⟨#[]⟩,.int .i64 0,.int .i64 0,.string ⟨#[]⟩,.int .i64 0,.slice none 0 0,.int .i64 0,.string ⟨#[]⟩,.int .i64 0,.int .i64 0,.string ⟨#[]⟩,.int .i64 0,.slice none 0 0,.int .i64 0,.string ⟨#[]⟩,.int .i64 0,.string ⟨#[]⟩,.int .i64 0,.int .i64 0,.string ⟨#[]⟩,.int .i64 0,.slice none 0 0,.slice none 0 0,.int .i64 0,.int .i64 0] #[.int .i64 0,.int .i64 0,.int .i64 0] ZZ 50 31) sizeFlt rfl rfl ?_)
 obtain ⟨x6,y6,n6,s6⟩:=two_vars w5 #[.int .i64 0,.string ⟨#[]⟩,.slice none 0 0,.int .i64 0,.int .i64 0,.string ⟨#[]⟩,.int .i64 0,.int .i64 0,.string ⟨#[]⟩,.int .i64 0,.slice none 0 0,.int .i64 0,.string ⟨#[]⟩,.int .i64 0,.int .i64 0,.string ⟨#[]⟩,.int .i64 0,.slice none 0 0,.int .i64 0,.string ⟨#[]⟩,.int .i64 0,.string ⟨#[]⟩,.int .i64 0,.int .i64 0,.string ⟨#[]⟩,.int .i64 0,.slice none 0 0,.slice none 0 0,.int .i64 0,.int .i64 0] #[.int .i64 0,.int .i64 0,.int .i64 0] ZZ #[.int .i64 40,.int .i64 1,.int .i64 13] 50 31
 generalize (((w5.alloc _).alloc _).setRow _ _).setRow _ _=w6 at *
 have X6:=Hxq (n6.at X5.out (by simp));have Y6:=Hxq (n6.at Y5.out (by simp));have A6:=Hxq (n6.at A5.out (by simp));have B6:=Hxq (n6.at B5.out (by simp));have M6:=Hxq (M5.out.trans n6 (by simp));have V6:=Hxq (valP_keep V5.out n6 (by simp) (Nat.le_refl _));have U6:=Hxq (valL_keep U5.out n6 (by simp) (Nat.le_refl _));have Y7:=Lib.hid y6
 clear x6 y6 n6 X5 Y5 A5 B5 V5 U5 M5 HO1 HO3 HO5 hC1 hC3 hZ5
 obtain ⟨rels,rus,u1,u2,e1,e2,b1,b2,-,-⟩:=V6.out
 simp only [Value.agg.injEq] at e1
 subst e1
 unfold Sy.sP at e2
 simp only [Pr.Prog.mk.injEq] at e2
 obtain ⟨e2,e3⟩:=e2
 obtain ⟨x,rfl⟩:∃ x,rels=[x]:=by
  match rels,e2 with
  | [x],_=>exact ⟨x,rfl⟩
  | [],e=>simp at e
  | _ :: _ :: _,e=>simp at e
 obtain ⟨y,rfl⟩:∃ y,rus=[y]:=by
  match rus,e3 with
  | [x],_=>exact ⟨x,rfl⟩
  | [],e=>simp at e
  | _ :: _ :: _,e=>simp at e
 simp only [List.map_cons,List.map_nil,List.cons.injEq,and_true] at e2 e3
 obtain ⟨a1,c1,rfl⟩:=b1.lit
 obtain ⟨a2,c2,rfl⟩:=b2.lit
 obtain ⟨g1,o1,rfl,k1⟩:=b1.at 0 (by simp)
 obtain ⟨g2,o2,rfl,k2⟩:=b2.at 0 (by simp)
 obtain ⟨r1,v1⟩:=x
 obtain ⟨r2,v2,v3⟩:=y
 simp only [List.getElem_cons_zero,csR,csU] at k1 k2 e2 e3
 subst e2
 subst e3
 have n1:w6.cell? ⟨g1,o1,none⟩=some (.string { data:=#[101] }):=by simpa using k1 0 (.string { data:=#[101] }) (by rfl)
 have q1:w6.cell? ⟨g2,o2+3,none⟩=some (.int .i64 1):=by simpa using k2 3 (.int .i64 1) (by rfl)
 have q2:w6.cell? ⟨g2,o2+4,none⟩=some (.int .i64 23):=by simpa using k2 4 (.int .i64 23) (by rfl)
 obtain ⟨U,f1,hL⟩:=U6.out
 simp only [Value.agg.injEq] at f1
 unfold Sy.sL at f1 hL
 obtain ⟨-,-,hr,-,-⟩:=hL.parts
 obtain ⟨a3,c3,h3⟩:=hr.lit
 rw [h3] at hr
 obtain ⟨g3,o3,uu,rfl,k3,-⟩:=hr.at 1 (by simp [Pr.Ex.args])
 have A7:=A6.out
 rw [f1] at A7
 have l16:w6.cell? ⟨w3.heap.size,16,none⟩=some (.int .i64 2):=cell_at A7 16
 have l17:w6.cell? ⟨w3.heap.size,17,none⟩=some (.slice (some ⟨g3,o3,none⟩) 2 c3):=(cell_at A7 17).trans (congrArg some h3)
 have z0:w6.cell? ⟨g3,o3+9,none⟩=some (.int .i64 1):=by have:=k3 2 (.int .i64 1) (by rfl);rw [Nat.one_mul,Nat.add_assoc] at this;exact this
 have z1:w6.cell? ⟨g3,o3+10,none⟩=some (.int .i64 (-1)):=by have:=k3 3 (.int .i64 (-1)) (by rfl);rw [Nat.one_mul,Nat.add_assoc] at this;exact this
 have z2:w6.cell? ⟨g3,o3+11,none⟩=some (.string ⟨#[]⟩):=by have:=k3 4 (.string ⟨#[]⟩) (by rfl);rw [Nat.one_mul,Nat.add_assoc] at this;exact this
 have p0:w6.cell? ⟨w1.heap.size,0,none⟩=some (.slice (some ⟨g1,o1,none⟩) 1 c1):=cell_at X6.out 0
 have p1:w6.cell? ⟨w1.heap.size,1,none⟩=some (.slice (some ⟨g2,o2,none⟩) 1 c2):=cell_at X6.out 1
 have t0:w6.cell? ⟨w1.heap.size+1,0,none⟩=some (.int .i64 0):=cell_at Y6.out 0
 have t1:w6.cell? ⟨w3.heap.size+1,0,none⟩=some (.int .i64 0):=cell_at B6.out 0
 have t2:w6.cell? ⟨w5.heap.size+1,0,none⟩=some (.int .i64 40):=cell_at Y7.out 0
 have t3:w6.cell? ⟨w5.heap.size+1,1,none⟩=some (.int .i64 1):=cell_at Y7.out 1
 have t4:w6.cell? ⟨w5.heap.size+1,2,none⟩=some (.int .i64 13):=cell_at Y7.out 2
 clear k1 k2 k3 hL hr A7 f1 h3 b1 b2 s2 s3 s4 s5 s6 X6 Y6 A6 B6 V6 U6 Y7 H1 H2 H3
 go_wp2_with fail
 go_ret
 exact ⟨rfl,M6.out⟩
end Go.Proofs.YtppigckioalhhaaGreatDoorR
namespace Go.Proofs.YtppigckioalhhaaGreatDoorR.Lx
set_option linter.unusedSimpArgs false
set_option linter.unusedVariables false
theorem esc_join {s:List Nat} {b j:Nat} (h:esc s=some (b,j)) (t:List Nat):esc (s++t)=some (b,j):=by
 match s with
 | []=>simp [esc] at h
 | [c] =>
  unfold esc at h ⊢
  simp only [List.cons_append,List.nil_append] at h ⊢
  by_cases h1:c=34\/c=92
  ·rw [if_pos h1] at h ⊢;exact h
  ·rw [if_neg h1] at h ⊢
   by_cases h2:c=110
   ·rw [if_pos h2] at h ⊢;exact h
   ·rw [if_neg h2] at h
    by_cases h3:c=120 <;> simp [h3] at h
 | [c,x] =>
  unfold esc at h ⊢
  simp only [List.cons_append,List.nil_append] at h ⊢
  by_cases h1:c=34\/c=92
  ·rw [if_pos h1] at h ⊢;exact h
  ·rw [if_neg h1] at h ⊢
   by_cases h2:c=110
   ·rw [if_pos h2] at h ⊢;exact h
   ·rw [if_neg h2] at h
    by_cases h3:c=120 <;> simp [h3] at h
 | c :: x :: y :: u=>simpa [esc] using h
theorem quoF_join:∀ (k:Nat) (s acc:List Nat) (n:Nat) (l:List Nat) (m:Nat),(∀ c∈s,c<256)->quoF k s acc n=some (l,m)->∀ (t:List Nat) (j:Nat),quoF (k+j) (s++t) acc n=some (l,m)
 | 0,_,_,_,_,_,_,h=>by simp [quoF] at h
 | k+1,[],_,_,_,_,_,h=>by simp [quoF] at h
 | k+1,c :: r,acc,n,l,m,hs,h=>fun t j=>by
  have hr:∀ c∈r,c<256:=fun x hx=>hs x (by simp [hx])
  rw [show k+1+j=(k+j)+1 by omega,List.cons_append]
  unfold quoF at h ⊢
  by_cases h1:c=34
  ·rw [if_pos h1] at h ⊢;exact h
  ·rw [if_neg h1] at h ⊢
   by_cases h2:c=10
   ·rw [if_pos h2] at h;simp at h
   ·rw [if_neg h2] at h ⊢
    by_cases h3:c=92
    ·rw [if_pos h3] at h ⊢
     cases he:esc r with
     | none=>rw [he] at h;simp at h
     | some p =>
      obtain ⟨b,m'⟩:=p
      rw [he] at h
      rw [esc_join he t]
      obtain ⟨e1,e2,-⟩:=esc_len hr he
      simp only at h ⊢
      rw [List.drop_append_of_le_length e2]
      exact quoF_join k _ _ _ l m (fun c hc=>hr c (List.mem_of_mem_drop hc)) h t j
    ·rw [if_neg h3] at h ⊢
     exact quoF_join k _ _ _ l m hr h t j
theorem quo_join {s l:List Nat} {m:Nat} (hs:∀ c∈s,c<256) (h:quo s=some (l,m)) (t:List Nat):quo (s++t)=some (l,m):=by
 cases s with
 | nil=>simp [quo,quoF] at h
 | cons c r =>
  unfold quo at h ⊢
  have:=quoF_join _ _ _ _ l m (fun c hc=>hs c (List.mem_of_mem_drop hc)) h t t.length
  rw [show (c :: r).length+t.length=(c :: r++t).length by simp;omega] at this
  exact this
theorem skip_stop:∀ (s:List Nat) (b:Bool),skipN false (s.drop (skipN b s))=0
 | [],b=>by simp [skipN]
 | c :: t,b=>by
  have ih:=skip_stop t (if c=35 then true else if c=10 then false else b)
  have e:skipN b (c :: t)=if !(if c=35 then true else if c=10 then false else b) && !blank c then 0 else skipN (if c=35 then true else if c=10 then false else b) t+1:=rfl
  by_cases h:(!(if c=35 then true else if c=10 then false else b) && !blank c)=true
  ·rw [e,if_pos h,List.drop_zero]
   simp only [Bool.and_eq_true,Bool.not_eq_true'] at h
   have h35:c≠35:=fun h0=>by rw [if_pos h0] at h;simp at h
   exact skip_none h.2 h35
  ·rw [e,if_neg h,List.drop_succ_cons]
   exact ih
theorem skip_done' (s:List Nat):skipN false (s.drop (skipN false s))=0:=skip_stop s false
theorem run_take (p:Nat->Bool) (s:List Nat) (k:Nat):run p (s.take k)=min k (run p s):=by
 induction s generalizing k with
 | nil=>simp [run_nil]
 | cons c t ih =>
  cases k with
  | zero=>simp [run_nil]
  | succ k =>
   rw [List.take_succ_cons,run_cons,run_cons,ih]
   split <;> omega
theorem esc_take {s:List Nat} {b j:Nat} (h:esc s=some (b,j)) (q:Nat) (hq:j<=q):esc (s.take q)=some (b,j):=by
 match s with
 | []=>simp [esc] at h
 | [c] =>
  unfold esc at h
  simp only at h
  by_cases h1:c=34\/c=92
  ·rw [if_pos h1] at h
   simp only [Option.some.injEq,Prod.mk.injEq] at h
   obtain ⟨rfl,rfl⟩:=h
   rw [List.take_of_length_le (by simpa using hq)]
   unfold esc;simp only;rw [if_pos h1]
  ·rw [if_neg h1] at h
   by_cases h2:c=110
   ·rw [if_pos h2] at h
    simp only [Option.some.injEq,Prod.mk.injEq] at h
    obtain ⟨rfl,rfl⟩:=h
    rw [List.take_of_length_le (by simpa using hq)]
    unfold esc;simp only;rw [if_neg h1,if_pos h2]
   ·rw [if_neg h2] at h
    by_cases h3:c=120 <;> simp [h3] at h
 | c :: x :: t =>
  unfold esc at h
  simp only at h
  by_cases h1:c=34\/c=92
  ·rw [if_pos h1] at h
   simp only [Option.some.injEq,Prod.mk.injEq] at h
   obtain ⟨rfl,rfl⟩:=h
   obtain ⟨q',rfl⟩:∃ q',q=q'+1:=⟨q - 1,by omega⟩
   rw [List.take_succ_cons]
   unfold esc;simp only;rw [if_pos h1]
  ·rw [if_neg h1] at h
   by_cases h2:c=110
   ·rw [if_pos h2] at h
    simp only [Option.some.injEq,Prod.mk.injEq] at h
    obtain ⟨rfl,rfl⟩:=h
    obtain ⟨q',rfl⟩:∃ q',q=q'+1:=⟨q - 1,by omega⟩
    rw [List.take_succ_cons]
    unfold esc;simp only;rw [if_neg h1,if_pos h2]
   ·rw [if_neg h2] at h
    by_cases h3:c=120
    ·rw [if_pos h3] at h
     cases t with
     | nil=>simp at h
     | cons y u =>
      have hj:j=3:=by
       simp only at h
       cases hx:hexv x with
       | none=>rw [hx] at h;simp at h
       | some u1 =>
        cases hy:hexv y with
        | none=>rw [hx,hy] at h;simp at h
        | some u2=>rw [hx,hy] at h;simp at h;omega
      subst hj
      obtain ⟨q',rfl⟩:∃ q',q=q'+3:=⟨q - 3,by omega⟩
      simp only [List.take_succ_cons]
      unfold esc
      simp only
      rw [if_neg h1,if_neg h2,if_pos h3]
      exact h
    ·simp [h3] at h
theorem quoF_take:∀ (k:Nat) (s acc:List Nat) (n:Nat) (l:List Nat) (m:Nat),(∀ c∈s,c<256)->(∀ c∈acc,c<256)->quoF k s acc n=some (l,m)->∀ k',m - n<=k'->quoF k' (s.take (m - n)) acc n=some (l,m)
 | 0,_,_,_,_,_,_,_,h=>by simp [quoF] at h
 | k+1,[],_,_,_,_,_,_,h=>by simp [quoF] at h
 | k+1,c :: r,acc,n,l,m,hs,ha,h=>fun k' hk=>by
  have hr:∀ c∈r,c<256:=fun x hx=>hs x (by simp [hx])
  have hl:=quoF_len (k+1) (c :: r) acc n l m hs ha h
  obtain ⟨q,hq⟩:∃ q,m - n=q+1:=⟨m - n - 1,by omega⟩
  obtain ⟨k'',rfl⟩:∃ k'',k'=k''+1:=⟨k' - 1,by omega⟩
  rw [hq,List.take_succ_cons]
  unfold quoF at h ⊢
  by_cases h1:c=34
  ·rw [if_pos h1] at h ⊢;exact h
  ·rw [if_neg h1] at h ⊢
   by_cases h2:c=10
   ·rw [if_pos h2] at h;simp at h
   ·rw [if_neg h2] at h ⊢
    by_cases h3:c=92
    ·rw [if_pos h3] at h ⊢
     cases he:esc r with
     | none=>rw [he] at h;simp at h
     | some p =>
      obtain ⟨b,j⟩:=p
      rw [he] at h
      simp only at h
      obtain ⟨e1,e2,e3⟩:=esc_len hr he
      have ha':∀ c∈acc++[b],c<256:=fun x hx=>by
       rcases List.mem_append.1 hx with hx | hx
       ·exact ha x hx
       ·simp at hx;omega
      have hl2:=quoF_len k (r.drop j) (acc++[b]) (n+1+j) l m (fun c hc=>hr c (List.mem_of_mem_drop hc)) ha' h
      rw [esc_take he q (by omega)]
      simp only
      have:=quoF_take k (r.drop j) (acc++[b]) (n+1+j) l m (fun c hc=>hr c (List.mem_of_mem_drop hc)) ha' h k'' (by omega)
      rw [List.drop_take,show q - j=m - (n+1+j) by omega]
      exact this
    ·rw [if_neg h3] at h ⊢
     have ha':∀ x∈acc++[c],x<256:=fun x hx=>by
      rcases List.mem_append.1 hx with hx | hx
      ·exact ha x hx
      ·simp at hx;have:=hs c (by simp);omega
     have:=quoF_take k r (acc++[c]) (n+1) l m hr ha' h k'' (by omega)
     rw [show q=m - (n+1) by omega]
     exact this
theorem quo_take {s l:List Nat} {m:Nat} (hs:∀ c∈s,c<256) (h:quo s=some (l,m)):quo (s.take m)=some (l,m):=by
 cases s with
 | nil=>simp [quo,quoF] at h
 | cons c r =>
  obtain ⟨l1,l2,-⟩:=quo_len hs h
  unfold quo at h ⊢
  obtain ⟨q,rfl⟩:∃ q,m=q+1:=⟨m - 1,by omega⟩
  have:=quoF_take _ _ _ _ l (q+1) (fun c hc=>hs c (List.mem_of_mem_drop hc)) (by simp) h (q+1) (by omega)
  simp only [List.take_succ_cons,List.drop_succ_cons,List.drop_zero,List.length_cons,List.length_take,Nat.add_sub_cancel] at this ⊢
  have hle:min q r.length=q:=by simp at l2;omega
  rw [hle]
  exact this
theorem headD_take {s:List Nat} {n:Nat} (h:1<=n):(s.take n).headD 0=s.headD 0:=by
 cases s with
 | nil=>simp
 | cons c t =>
  obtain ⟨q,rfl⟩:∃ q,n=q+1:=⟨n - 1,by omega⟩
  rfl
theorem skip_take:∀ (s:List Nat) (b:Bool) (k:Nat),skipN b (s.take k)=min k (skipN b s)
 | [],b,k=>by simp [skipN]
 | c :: t,b,0=>by simp [skipN]
 | c :: t,b,k+1=>by
  rw [List.take_succ_cons]
  unfold skipN
  simp only
  rw [skip_take t _ k]
  generalize (if c=35 then true else if c=10 then false else b)=b'
  by_cases h:(!b' && !blank c)=true
  ·rw [if_pos h,if_pos h];omega
  ·rw [if_neg h,if_neg h];omega
theorem word_takeN {s:List Nat} {w:Wd} (hb:∀ c∈s,c<256) (h0:s≠[]) (h:word s=.ok w) (k:Nat) (hk:w.n<=k):word (s.take k)=.ok w:=by
 obtain ⟨l1,l2,-⟩:=word_len hb h0 h
 have e1:=headD_take (s:=s) (n:=k) (by omega)
 unfold word at h ⊢
 rw [e1]
 by_cases c1:(small (s.headD 0) || capital (s.headD 0))=true
 ·rw [if_pos c1] at h ⊢
  by_cases c2:32<run goes s
  ·rw [if_pos c2] at h;simp at h
  ·rw [if_neg c2] at h
   simp only [Rw.ok.injEq] at h
   subst h
   simp only at hk
   have e2:run goes (s.take k)=run goes s:=by rw [run_take];omega
   rw [e2,if_neg c2]
 ·rw [if_neg c1] at h ⊢
  by_cases c2:digit (s.headD 0)=true
  ·rw [if_pos c2] at h ⊢
   by_cases c3:(1<run digit s/\s.headD 0=48)\/2147483647<numv (s.take (run digit s))\/run digit s<run goes s
   ·rw [if_pos c3] at h;simp at h
   ·rw [if_neg c3] at h
    simp only [Rw.ok.injEq] at h
    subst h
    simp only at hk
    have e2:run digit (s.take k)=run digit s:=by rw [run_take];omega
    have e3:run goes (s.take k)=min k (run goes s):=run_take _ _ _
    rw [e2,e3,List.take_take,show min (run digit s) k=run digit s by omega,if_neg (by omega)]
  ·rw [if_neg c2] at h ⊢
   by_cases c3:s.headD 0=34
   ·rw [if_pos c3] at h ⊢
    cases hq:quo s with
    | none=>rw [hq] at h;simp at h
    | some p =>
     obtain ⟨l,m⟩:=p
     rw [hq] at h
     simp only [Rw.ok.injEq] at h
     subst h
     simp only at hk l2
     have h1:=quo_take hb hq
     have h2:=quo_join (fun c hc=>hb c (List.mem_of_mem_take hc)) h1 ((s.drop m).take (k - m))
     rw [<-List.take_add,show m+(k - m)=k by omega] at h2
     rw [h2]
   ·rw [if_neg c3] at h ⊢
    by_cases c4:mark s=0
    ·rw [if_pos c4] at h;simp at h
    ·rw [if_neg c4] at h
     simp only [Rw.ok.injEq] at h
     subst h
     simp only at hk
     have:mark (s.take k)=mark s:=by
      match s,h0,k,hk with
      | [a],_,k,hk =>
       rw [List.take_of_length_le (by simp;simp at l1;omega)]
      | a :: b :: t,_,0,hk=>simp at l1;omega
      | a :: b :: t,_,1,hk =>
       have:mark (a :: b :: t)=1:=by omega
       have h1:two a b=false:=by
        cases ht:two a b with
        | false=>rfl
        | true=>simp [mark,ht] at this
       simp only [mark,h1] at this
       have h2:ones.contains a=true:=by
        cases ho:ones.contains a with
        | true=>rfl
        | false=>rw [ho] at this;simp at this
       simp only [List.take_succ_cons,List.take_zero,mark,h1,h2]
       rfl
      | a :: b :: t,_,k+2,hk=>simp [mark]
     rw [this,if_neg c4]
/-- s, that begins at place p, begins with the words l; what is left, and its place -/
inductive Sq:List Nat->Nat × Nat->List Tok->List Nat->Nat × Nat->Prop
 | nil (s:List Nat) (p:Nat × Nat):Sq s p [] s p
 | word {s:List Nat} {p:Nat × Nat} {u:List Nat} {w:Wd} {l:List Tok} {r:List Nat} {q:Nat × Nat} (hs:s.drop (skipN false s)=u) (h0:u≠[]) (hw:word u=.ok w)
   (h:Sq (u.drop w.n) (adv (adv p (s.take (skipN false s))) (u.take w.n)) l r q) :
   Sq s p (⟨w.kind,u.take w.n,w.vk,w.num,w.sym,(adv p (s.take (skipN false s))).1,(adv p (s.take (skipN false s))).2⟩ :: l) r q
theorem Sq.trans {a b c:List Nat} {p q o:Nat × Nat} {l m:List Tok} (h:Sq a p l b q) (k:Sq b q m c o):Sq a p (l++m) c o:=by
 induction h with
 | nil s p=>exact k
 | word hs h0 hw h ih=>exact .word hs h0 hw (ih k)
theorem Sq.split {c:List Nat} {o:Nat × Nat} (m:List Tok):∀ {l:List Tok} {a:List Nat} {p:Nat × Nat},Sq a p (l++m) c o->∃ b q,Sq a p l b q/\Sq b q m c o
 | [],a,p,h=>⟨a,p,.nil a p,h⟩
 | t :: l,a,p,h=>by
  rw [List.cons_append] at h
  generalize hx:t :: (l++m)=x at h
  cases h with
  | nil=>cases hx
  | word hs h0 hw h =>
   simp only [List.cons.injEq] at hx
   obtain ⟨rfl,hx⟩:=hx
   subst hx
   obtain ⟨b,q,h1,h2⟩:=Sq.split m h
   exact ⟨b,q,.word hs h0 hw h1,h2⟩
theorem Sq.suf {s r:List Nat} {p q:Nat × Nat} {l:List Tok} (h:Sq s p l r q):∃ a,s=a++r/\q=adv p a:=by
 induction h with
 | nil s p=>exact ⟨[],rfl,rfl⟩
 | @word s p u w l r q hs h0 hw h ih =>
  obtain ⟨a,h1,h2⟩:=ih
  refine ⟨s.take (skipN false s)++(u.take w.n++a),?_,?_⟩
  ·rw [List.append_assoc,List.append_assoc,<-h1,List.take_append_drop,<-hs,List.take_append_drop]
  ·rw [adv_append,adv_append,h2]
/-- nothing but blanks and remarks -/
def Bl (s:List Nat):Prop:=s.drop (skipN false s)=[]
theorem sq_of_all:∀ (k:Nat) (x:St),(∀ c∈x.s,c<256)->x.s.length<k->(allF k x).2.code=0->∃ r q,Sq x.s x.pos (allF k x).1 r q/\Bl r
 | 0,x,_,h,_=>by omega
 | k+1,x,hb,hk,hc=>by
  rw [allF] at hc ⊢
  cases hn:next x with
  | mk y o =>
   rw [hn] at hc
   unfold next at hn
   by_cases h1:x.code≠0
   ·rw [if_pos h1] at hn
    simp only [Prod.mk.injEq] at hn
    obtain ⟨rfl,rfl⟩:=hn
    exact absurd hc h1
   ·rw [if_neg h1] at hn
    cases h2:x.long with
    | true =>
     rw [h2] at hn
     simp only [if_true,Prod.mk.injEq] at hn
     obtain ⟨rfl,rfl⟩:=hn
     simp at hc
    | false =>
     rw [h2] at hn
     simp only [Bool.false_eq_true,if_false] at hn
     by_cases h3:x.skip.s=[]
     ·rw [if_pos h3] at hn
      simp only [Prod.mk.injEq] at hn
      obtain ⟨rfl,rfl⟩:=hn
      exact ⟨x.s,x.pos,.nil _ _,h3⟩
     ·rw [if_neg h3] at hn
      have hbs:∀ c∈x.skip.s,c<256:=fun c hc=>hb c (List.mem_of_mem_drop hc)
      cases hw:word x.skip.s with
      | bad e =>
       rw [hw] at hn
       simp only [Prod.mk.injEq] at hn
       obtain ⟨rfl,rfl⟩:=hn
       exfalso
       have:30<=e:=by
        unfold word at hw
        repeat' (split at hw)
        all_goals first | (simp at hw;omega) | simp at hw
       simp at hc;omega
      | ok w =>
       rw [hw] at hn
       simp only [Prod.mk.injEq] at hn
       obtain ⟨rfl,rfl⟩:=hn
       obtain ⟨l1,l2,-⟩:=word_len hbs h3 hw
       have hll:x.skip.s.length=x.s.length - skipN false x.s:=by simp [St.skip]
       obtain ⟨r,q,h4,h5⟩:=sq_of_all k _ (fun c hc=>hbs c (List.mem_of_mem_drop hc)) (by simp only [List.length_drop];omega) hc
       exact ⟨r,q,Sq.word (s:=x.s) (p:=x.pos) (u:=x.skip.s) rfl h3 hw h4,h5⟩
theorem all_of_sq {s r:List Nat} {p q:Nat × Nat} {l:List Tok} (h:Sq s p l r q):∀ (x:St) (k:Nat),x.s=s->x.pos=p->x.code=0->x.long=false->l.length<k->Bl r->∃ y,allF k x=(l,y)/\y.code=0:=by
 induction h with
 | nil s p =>
  intro x k hx hp hc hl hk hb
  obtain ⟨k,rfl⟩:∃ m,k=m+1:=⟨k - 1,by omega⟩
  have hn:next x=(x.skip,none):=by
   unfold next
   rw [if_neg (by omega),hl]
   have:x.skip.s=[]:=by unfold St.skip;rw [hx];exact hb
   rw [if_pos this]
   rfl
  exact ⟨x.skip,by rw [allF,hn],hc⟩
 | @word s p u w l r q hs h0 hw h ih =>
  intro x k hx hp hc hl hk hb
  obtain ⟨k,rfl⟩:∃ m,k=m+1:=⟨k - 1,by rw [List.length_cons] at hk;omega⟩
  have e1:x.skip.s=u:=by unfold St.skip;rw [hx];exact hs
  have e2:x.skip.pos=adv p (s.take (skipN false s)):=by unfold St.skip;rw [hx,hp]
  have hn:next x=({ x.skip with s:=u.drop w.n,pos:=adv x.skip.pos (u.take w.n),fin:=adv x.skip.pos (u.take w.n) },some ⟨w.kind,u.take w.n,w.vk,w.num,w.sym,x.skip.pos.1,x.skip.pos.2⟩):=by
   unfold next
   rw [if_neg (by omega),hl,e1,if_neg h0,hw]
   rfl
  obtain ⟨y,h1,h2⟩:=ih { x.skip with s:=u.drop w.n,pos:=adv x.skip.pos (u.take w.n),fin:=adv x.skip.pos (u.take w.n) } k rfl (by rw [e2]) hc hl (by simpa using hk) hb
  refine ⟨y,?_,h2⟩
  rw [allF,hn]
  simp only
  rw [h1,e2]
theorem Sq.len {s r:List Nat} {p q:Nat × Nat} {l:List Tok} (h:Sq s p l r q) (hb:∀ c∈s,c<256):l.length+r.length<=s.length:=by
 induction h with
 | nil s p=>simp
 | @word s p u w l r q hs h0 hw h ih =>
  have hu:∀ c∈u,c<256:=fun c hc=>hb c (by rw [<-hs] at hc;exact List.mem_of_mem_drop hc)
  obtain ⟨l1,l2,-⟩:=word_len hu h0 hw
  have:=ih (fun c hc=>hu c (List.mem_of_mem_drop hc))
  have hul:u.length<=s.length:=by rw [<-hs,List.length_drop];omega
  rw [List.length_drop] at this
  rw [List.length_cons]
  omega
theorem given_of_sq {s r:List Nat} {q:Nat × Nat} {l:List Tok} (h:Sq s (1,1) l r q) (hb:∀ c∈s,c<256) (hr:Bl r) (hl:s.length<=65536):(given s).1=l/\(given s).2.code=0:=by
 have:=h.len hb
 obtain ⟨y,h1,h2⟩:=all_of_sq h (start s) (s.length+1) rfl rfl rfl (by simp [start];omega) (by omega) hr
 unfold given
 rw [h1]
 exact ⟨rfl,h2⟩
theorem sq_of_given {s:List Nat} (hb:∀ c∈s,c<256) (hc:(given s).2.code=0):∃ r q,Sq s (1,1) (given s).1 r q/\Bl r :=
 sq_of_all (s.length+1) (start s) hb (by simp [start]) hc
theorem given_long {s:List Nat} (hc:(given s).2.code=0):s.length<=65536:=by
 refine Nat.le_of_not_lt fun h=>?_
 have:(given s).2.code=2:=by
  unfold given
  have hn:next (start s)=({ start s with code:=2 },none):=by
   unfold next
   rw [if_neg (by simp [start]),if_pos (by simp [start];omega)]
  rw [allF,hn]
 omega
/-- cut off behind the words -/
theorem Sq.take {s r:List Nat} {p q:Nat × Nat} {l:List Tok} (h:Sq s p l r q):∀ (hb:∀ c∈s,c<256) (j:Nat),Sq (s.take (s.length - r.length+j)) p l (r.take j) q:=by
 induction h with
 | nil s p =>
  intro hb j
  rw [show s.length - s.length+j=j by omega]
  exact .nil _ _
 | @word s p u w l r q hs h0 hw h ih =>
  intro hb j
  have hu:∀ c∈u,c<256:=fun c hc=>hb c (by rw [<-hs] at hc;exact List.mem_of_mem_drop hc)
  obtain ⟨l1,l2,-⟩:=word_len hu h0 hw
  have hd:∀ c∈u.drop w.n,c<256:=fun c hc=>hu c (List.mem_of_mem_drop hc)
  have ih:=ih hd j
  have hlen:=h.len hd
  rw [List.length_drop] at hlen
  have hul:u.length=s.length - skipN false s:=by rw [<-hs,List.length_drop]
  have hsk:=skipN_le false s
  have hul0:0<u.length:=List.length_pos_iff.2 h0
  generalize hJ:s.length - r.length+j=J
  have hJ2:skipN false s+w.n<=J:=by omega
  have hsk2:skipN false (s.take J)=skipN false s:=by rw [skip_take];omega
  have e1:(s.take J).drop (skipN false (s.take J))=u.take (J - skipN false s):=by rw [hsk2,List.drop_take,hs]
  have e2:(s.take J).take (skipN false (s.take J))=s.take (skipN false s):=by rw [hsk2,List.take_take,show min (skipN false s) J=skipN false s by omega]
  have e3:(u.take (J - skipN false s)).take w.n=u.take w.n:=by rw [List.take_take,show min w.n (J - skipN false s)=w.n by omega]
  have e4:(u.take (J - skipN false s)).drop w.n=(u.drop w.n).take ((u.drop w.n).length - r.length+j):=by
   rw [List.drop_take,List.length_drop]
   congr 1
   omega
  have:=Sq.word (s:=s.take J) (p:=p) (l:=l) (r:=r.take j) (q:=q) e1 (by
   intro h5
   have:=congrArg List.length h5
   rw [List.length_take,List.length_nil] at this
   omega) (word_takeN hu h0 hw _ (by omega)) (by rw [e2,e3,e4];exact ih)
  rw [e2,e3] at this
  exact this
/-- at another place the words are the same but for their places -/
theorem Sq.place {s r:List Nat} {p q:Nat × Nat} {l:List Tok} (h:Sq s p l r q):∀ p',∃ l' q',Sq s p' l' r q'/\l'.map (fun t=>(t.kind,t.text,t.vk,t.num,t.sym))=l.map (fun t=>(t.kind,t.text,t.vk,t.num,t.sym)):=by
 induction h with
 | nil s p=>exact fun p'=>⟨[],p',.nil _ _,rfl⟩
 | word hs h0 hw h ih =>
  intro p'
  obtain ⟨l',q',h1,h2⟩:=ih (adv (adv p' _) _)
  exact ⟨_,q',.word hs h0 hw h1,by simp [h2]⟩
theorem run_all (p:Nat->Bool) (s:List Nat):∀ c∈s.take (run p s),p c=true:=by
 unfold run
 induction s with
 | nil=>simp
 | cons c t ih =>
  rw [List.takeWhile_cons]
  split
  ·rename_i hc
   intro d hd
   simp only [List.length_cons,List.take_succ_cons,List.mem_cons] at hd
   rcases hd with rfl | hd
   ·exact hc
   ·exact ih d hd
  ·simp
/-- a name begins with a small letter -/
theorem word_name {s:List Nat} {w:Wd} (h:word s=.ok w) (hk:w.kind=1):small (s.headD 0)=true:=by
 unfold word at h
 split at h
 ·rename_i hc
  split at h
  ·simp at h
  ·simp at h;subst h
   simp only at hk
   rw [Bool.or_eq_true] at hc
   rcases hc with hc | hc
   ·exact hc
   ·simp at hk hc;simp [hc] at hk
 ·split at h
  ·split at h <;> simp at h
   subst h;simp at hk
  ·split at h
   ·split at h <;> simp at h
    subst h;simp at hk
   ·split at h <;> simp at h
    subst h;simp at hk
/-- how many bytes stand ahead of a line, so many lines on -/
def offF:List Nat->Nat->Nat
 | [],_=>0
 | _,0=>0
 | c :: r,m+1=>1+offF r (if c=10 then m else m+1)
theorem offF_zero (s:List Nat):offF s 0=0:=by cases s <;> rfl
theorem adv_line:∀ (s:List Nat) (p:Nat × Nat),p.1<=(adv p s).1
 | [],p=>Nat.le_refl _
 | c :: t,p=>by
  unfold adv
  split
  ·have:=adv_line t (p.1+1,1);simp at this;omega
  ·have:=adv_line t (p.1,p.2+1);simpa using this
theorem off_adv:∀ (s:List Nat) (p:Nat × Nat) (g:Nat),g<=s.length->1<=p.2 ->
  (p.1=(adv p (s.take g)).1->(adv p (s.take g)).2=p.2+g)/\(p.1<(adv p (s.take g)).1->offF s ((adv p (s.take g)).1 - p.1)+(adv p (s.take g)).2=g+1)
 | s,p,0,_,_=>by simp [adv]
 | [],p,g+1,h,_=>by simp at h
 | c :: t,p,g+1,h,hp=>by
  rw [List.take_succ_cons]
  unfold adv
  by_cases hc:c=10
  ·rw [if_pos hc]
   obtain ⟨h1,h2⟩:=off_adv t (p.1+1,1) g (by simpa using h) (Nat.le_refl _)
   have h3:=adv_line (t.take g) (p.1+1,1)
   simp only at h1 h2 h3
   refine ⟨fun e=>by omega,fun e=>?_⟩
   obtain ⟨d,hd⟩:∃ d,(adv (p.1+1,1) (t.take g)).1 - p.1=d+1:=⟨(adv (p.1+1,1) (t.take g)).1 - p.1 - 1,by omega⟩
   rw [hd,offF,if_pos hc]
   by_cases h4:p.1+1=(adv (p.1+1,1) (t.take g)).1
   ·have:=h1 h4
    have hd0:d=0:=by omega
    rw [hd0,offF_zero]
    omega
   ·have:=h2 (by omega)
    rw [show (adv (p.1+1,1) (t.take g)).1 - (p.1+1)=d by omega] at this
    omega
  ·rw [if_neg hc]
   obtain ⟨h1,h2⟩:=off_adv t (p.1,p.2+1) g (by simpa using h) (by simp)
   simp only at h1 h2
   refine ⟨fun e=>by rw [h1 e];omega,fun e=>?_⟩
   have:=h2 e
   obtain ⟨d,hd⟩:∃ d,(adv (p.1,p.2+1) (t.take g)).1 - p.1=d+1:=⟨(adv (p.1,p.2+1) (t.take g)).1 - p.1 - 1,by omega⟩
   rw [hd] at this ⊢
   rw [offF,if_neg hc]
   omega
/-- where a place is -/
theorem off_place (s:List Nat) (g:Nat) (h:g<=s.length):offF s ((adv (1,1) (s.take g)).1 - 1)+(adv (1,1) (s.take g)).2=g+1:=by
 obtain ⟨h1,h2⟩:=off_adv s (1,1) g h (Nat.le_refl _)
 have h3:=adv_line (s.take g) (1,1)
 simp only at h1 h2 h3
 by_cases e:1=(adv (1,1) (s.take g)).1
 ·rw [<-e,Nat.sub_self,offF_zero,h1 e];omega
 ·exact h2 (by omega)
end Go.Proofs.YtppigckioalhhaaGreatDoorR.Lx
