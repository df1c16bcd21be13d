/- THE TEXTS MERGED: SyShown RpFun RpCon. -/
import Derived.Test.YtppigckioalhhaaGreatDoorRKT1
import Derived.Test.YtppigckioalhhaaGreatDoorRKT20
import Derived.Test.YtppigckioalhhaaGreatDoorRKT8
import Derived.Test.YtppigckioalhhaaGreatDoorRKT9
namespace Go.Proofs.YtppigckioalhhaaGreatDoorR
open Go.RowKit
set_option linter.unusedVariables false
set_option linter.unusedSimpArgs false
set_option maxRecDepth 100000
section
variable (w:World) (Z F C D:Array Value) (T U:TypeId)
theorem two_a:((w.alloc (.cells Z T)).alloc (.cells F U)).heap[w.heap.size]?=some (.cells Z T (0,0)):=((Mod.refl [] (w.alloc (.cells Z T))).alloc (.cells F U)).at (heap_alloc_new w _) (by simp)
theorem two_b:((w.alloc (.cells Z T)).alloc (.cells F U)).heap[w.heap.size+1]?=some (.cells F U (0,0)):=by
 have:=heap_alloc_new (w.alloc (.cells Z T)) (.cells F U)
 rw [show (w.alloc (.cells Z T)).heap.size=w.heap.size+1 by simp] at this
 exact this
theorem two_c:(((w.alloc (.cells Z T)).alloc (.cells F U)).setRow w.heap.size C).heap[w.heap.size+1]?=some (.cells F U (0,0)):=(setRow_other _ _ _ _ (by omega)).trans (two_b w Z F T U)
/-- two new variables, stored into -/
theorem two_vars:((((w.alloc (.cells Z T)).alloc (.cells F U)).setRow w.heap.size C).setRow (w.heap.size+1) D).heap[w.heap.size]?=some (.cells C T (0,0)) /\
  ((((w.alloc (.cells Z T)).alloc (.cells F U)).setRow w.heap.size C).setRow (w.heap.size+1) D).heap[w.heap.size+1]?=some (.cells D U (0,0)) /\
  Mod [] w ((((w.alloc (.cells Z T)).alloc (.cells F U)).setRow w.heap.size C).setRow (w.heap.size+1) D)/\((((w.alloc (.cells Z T)).alloc (.cells F U)).setRow w.heap.size C).setRow (w.heap.size+1) D).heap.size=w.heap.size+2:=by
 refine ⟨(setRow_other _ _ _ _ (by omega)).trans (setRow_heap _ _ _ _ _ _ (two_a w Z F T U)),setRow_heap _ _ _ _ _ _ (two_c w Z F C T U),?_,by simp⟩
 refine (((((Mod.refl [] w).alloc _).alloc _).trans (Mod.setRow _ _ _) (fun t ht=>?_))).trans (Mod.setRow _ _ _) (fun t ht=>?_)
 ·rw [Msq] at ht;exact .inr (by omega)
 ·rw [Msq] at ht;exact .inr (by omega)
end
def tx1:ByteArray:={ data:=#[114,101,108,97,116,105,111,110,32,101,40,110,117,109,44,32,115,121,109,41,46,32,101,40,49,44,32,97,41,46] }
def tx2:ByteArray:={ data:=#[88,32,61,32,45,89,32,45,32,45,49] }
def tx3:ByteArray:={ data:=#[78,32,61,32,115,117,109,32,123,32,88,32,125] }
namespace Sy
def sP:Pr.Prog:=⟨[⟨txt [101],[1,2],1,10⟩],[⟨⟨txt [101],[⟨2,txt [],⟨1,1,[]⟩⟩,⟨2,txt [],⟨2,0,[97]⟩⟩]⟩,[],1,23⟩]⟩
def sA:Pr.Ex:=.mk 4 (txt []) Va.zero 6 [.mk 1 (txt [89]) Va.zero 0 []]
def sB:Pr.Ex:=.mk 2 (txt []) ⟨1,-1,[]⟩ 0 []
def sL:Pr.Li:=.mk 3 at0 1 (.mk 1 (txt [88]) Va.zero 0 []) (.mk 4 (txt []) Va.zero 2 [sA,sB]) 0 (txt []) ex0 [] 1 1
theorem shown1:∃ i,whole (envOf (Cod.str tx1)) (prog (envOf (Cod.str tx1)))=.ok sP i:=⟨15,by kernel_rfl⟩
theorem shown2:∃ i,whole (envOf (Cod.str tx2)) (lit (envOf (Cod.str tx2)) 0)=.ok sL i:=⟨7,by kernel_rfl⟩
theorem shown3:whole (envOf (Cod.str tx3)) (lit (envOf (Cod.str tx3)) 0)=.err (40,1,13):=by kernel_rfl
end Sy
set_option maxHeartbeats 8000000 in
theorem shown_any (w:World) (hG:Glob w):Calls Tryz.prog 9 #[] w fun e w'=>e=.returned (.bool true)/\Mod [] w w':=by
 obtain ⟨i1,hi1⟩:=Sy.shown1
 obtain ⟨i2,hi2⟩:=Sy.shown2
 have h1:=fun w hG=>entP_any tx1 (by decide) w hG
 have h2:=fun w hG=>entL_any tx2 (by decide) w hG
 have h3:=fun w hG=>entL_any tx3 (by decide) w hG
 rw [hi1] at h1
 rw [hi2] at h2
 rw [Sy.shown3] at h3
 unfold AllRes at h1 h2 h3
 simp only at h1 h2 h3
 obtain ⟨ZZ,hZZ⟩:∃ Q:Array Value,Q=#[.int .i64 0,.string ⟨#[]⟩,.slice none 0 0,.int .i64 0,.int .i64 0,.string ⟨#[]⟩,.int .i64 0,.int .i64 0,.string ⟨#[]⟩,.int .i64 0,.slice none 0 0,.int .i64 0,.string ⟨#[]⟩,.int .i64 0,.int .i64 0,.string ⟨#[]⟩,.int .i64 0,.slice none 0 0,.int .i64 0,.string ⟨#[]⟩,.int .i64 0,.string ⟨#[]⟩,.int .i64 0,.int .i64 0,.string ⟨#[]⟩,.int .i64 0,.slice none 0 0,.slice none 0 0,.int .i64 0,.int .i64 0]:=⟨_,rfl⟩
 have hZ5:ZZ.size=30:=by rw [hZZ];rfl
 have hO5:ZZ.toList.all (·.oneCell')=true:=by rw [hZZ];rfl
 rw [<-hZZ] at h3
 clear hZZ
 have HO5:=Lib.hid hO5
 clear hO5
 have H1:=Lib.hid h1;have H2:=Lib.hid h2;have H3:=Lib.hid h3
 clear h1 h2 h3 hi1 hi2
 unfold tx1 tx2 tx3 at *
 go_enter Tryz.func9,Tryz.ntmps9
 go_wp2_with fail
 refine (H1.out w hG).mono ?_
 rintro e1 w1 ⟨C1,rfl,v1,m1⟩
 obtain ⟨hC1,hO1⟩:=valP_cells v1
 have V1:=Lib.hid v1;have HO1:=Lib.hid hO1
 clear v1 hO1
 go_upto_region 2 with (first | refine wpList_store_at rfl 26 _ _ rfl w1.heap.size C1 _ 26 rfl rfl (two_a w1 #[.slice none 0 0,.slice none 0 0] #[.int .i64 0,.int .i64 0,.int .i64 0] 26 31) (size_of sizeP hC1) (by rw [hC1];rfl) HO1.out ?_ | refine wpList_store_at rfl 31 _ _ rfl (w1.heap.size+1) #[.int .i64 0,.int .i64 0,.int .i64 0] _ 31 rfl rfl (two_c w1 #[.slice none 0 0,.slice none 0 0] #[.int .i64 0,.int .i64 0,.int .i64 0] C1 26 31) sizeFlt rfl rfl ?_)
 obtain ⟨x2,y2,n2,s2⟩:=two_vars w1 #[.slice none 0 0,.slice none 0 0] #[.int .i64 0,.int .i64 0,.int .i64 0] C1 #[.int .i64 0,.int .i64 0,.int .i64 0] 26 31
 generalize (((w1.alloc _).alloc _).setRow _ _).setRow _ _=w2 at *
 have X2:=Lib.hid x2;have Y2:=Lib.hid y2;have M2:=Hxq (m1.trans n2 (by simp));have V2:=Hxq (valP_keep V1.out n2 (by simp) (Nat.le_refl _))
 clear x2 y2 n2 m1 V1
 go_wp2_with fail
 refine (H2.out w2 (hG.past M2.out (by simp))).mono ?_
 rintro e3 w3 ⟨C3,rfl,v3,m3⟩
 obtain ⟨hC3,hO3⟩:=valL_cells v3
 have V3:=Lib.hid v3;have HO3:=Lib.hid hO3
 have X3:=Hxq (m3.at X2.out (by simp));have Y3:=Hxq (m3.at Y2.out (by simp));have M3:=Hxq (M2.out.trans m3 (by simp));have W3:=Hxq (valP_keep V2.out m3 (by simp) (Nat.le_refl _))
 have s3:=m3.size
 clear v3 hO3 m3 X2 Y2 V2
 go_upto_region 3 with (first | refine wpList_store_at rfl 50 _ _ rfl w3.heap.size C3 _ 50 rfl rfl (two_a w3 #[.int .i64 0,.string ⟨#[]⟩,.slice none 0 0,.int .i64 0,.int .i64 0,.string ⟨#[]⟩,.int .i64 0,.int .i64 0,.string ⟨#[]⟩,.int .i64 0,.slice none 0 0,.int .i64 0,.string ⟨#[]⟩,.int .i64 0,.int .i64 0,.string ⟨#[]⟩,.int .i64 0,.slice none 0 0,.int .i64 0,.string ⟨#[]⟩,.int .i64 0,.string ⟨#[]⟩,.int .i64 0,.int .i64 0,.string ⟨#[]⟩,.int .i64 0,.slice none 0 0,.slice none 0 0,.int .i64 0,.int .i64 0] #[.int .i64 0,.int .i64 0,.int .i64 0] 50 31) (size_of sizeL hC3) (by rw [hC3];rfl) HO3.out ?_ | refine wpList_store_at rfl 31 _ _ rfl (w3.heap.size+1) #[.int .i64 0,.int .i64 0,.int .i64 0] _ 31 rfl rfl (two_c w3 #[.int .i64 0,.string ⟨#[]⟩,.slice none 0 0,.int .i64 0,.int .i64 0,.string ⟨#[]⟩,.int .i64 0,.int .i64 0,.string ⟨#[]⟩,.int .i64 0,.slice none 0 0,.int .i64 0,.string ⟨#[]⟩,.int .i64 0,.int .i64 0,.string ⟨#[]⟩,.int .i64 0,.slice none 0 0,.int .i64 0,.string ⟨#[]⟩,.int .i64 0,.string ⟨#[]⟩,.int .i64 0,.int .i64 0,.string ⟨#[]⟩,.int .i64 0,.slice none 0 0,.slice none 0 0,.int .i64 0,.int .i64 0] #[.int .i64 0,.int .i64 0,.int .i64 0] C3 50 31) sizeFlt rfl rfl ?_)
 obtain ⟨x4,y4,n4,s4⟩:=two_vars w3 #[.int .i64 0,.string ⟨#[]⟩,.slice none 0 0,.int .i64 0,.int .i64 0,.string ⟨#[]⟩,.int .i64 0,.int .i64 0,.string ⟨#[]⟩,.int .i64 0,.slice none 0 0,.int .i64 0,.string ⟨#[]⟩,.int .i64 0,.int .i64 0,.string ⟨#[]⟩,.int .i64 0,.slice none 0 0,.int .i64 0,.string ⟨#[]⟩,.int .i64 0,.string ⟨#[]⟩,.int .i64 0,.int .i64 0,.string ⟨#[]⟩,.int .i64 0,.slice none 0 0,.slice none 0 0,.int .i64 0,.int .i64 0] #[.int .i64 0,.int .i64 0,.int .i64 0] C3 #[.int .i64 0,.int .i64 0,.int .i64 0] 50 31
 generalize (((w3.alloc _).alloc _).setRow _ _).setRow _ _=w4 at *
 have X4:=Hxq (n4.at X3.out (by simp));have Y4:=Hxq (n4.at Y3.out (by simp));have A4:=Lib.hid x4;have B4:=Lib.hid y4;have M4:=Hxq (M3.out.trans n4 (by simp));have V4:=Hxq (valP_keep W3.out n4 (by simp) (Nat.le_refl _));have U4:=Hxq (valL_keep V3.out n4 (by simp) (Nat.le_refl _))
 clear x4 y4 n4 X3 Y3 V3 W3
 go_wp2_with fail
 refine (H3.out w4 (hG.past M4.out (by simp))).mono ?_
 rintro e5 w5 ⟨rfl,m5⟩
 have X5:=Hxq (m5.at X4.out (by simp));have Y5:=Hxq (m5.at Y4.out (by simp));have A5:=Hxq (m5.at A4.out (by simp));have B5:=Hxq (m5.at B4.out (by simp));have M5:=Hxq (M4.out.trans m5 (by simp));have V5:=Hxq (valP_keep V4.out m5 (by simp) (Nat.le_refl _));have U5:=Hxq (valL_keep U4.out m5 (by simp) (Nat.le_refl _))
 have s5:=m5.size
 clear m5 X4 Y4 A4 B4 V4 U4
 unfold fltC
 go_upto_region 4 with (first | refine wpList_store_at rfl 50 _ _ rfl w5.heap.size ZZ _ 50 rfl rfl (two_a w5 #[.int .i64 0,.string ⟨#[]⟩,.slice none 0 0,.int .i64 0,.int .i64 0,.string ⟨#[]⟩,.int .i64 0,.int .i64 0,.string ⟨#[]⟩,.int .i64 0,.slice none 0 0,.int .i64 0,.string ⟨#[]⟩,.int .i64 0,.int .i64 0,.string ⟨#[]⟩,.int .i64 0,.slice none 0 0,.int .i64 0,.string ⟨#[]⟩,.int .i64 0,.string ⟨#[]⟩,.int .i64 0,.int .i64 0,.string ⟨#[]⟩,.int .i64 0,.slice none 0 0,.slice none 0 0,.int .i64 0,.int .i64 0] #[.int .i64 0,.int .i64 0,.int .i64 0] 50 31) (size_of sizeL hZ5) (by rw [hZ5];rfl) HO5.out ?_ | refine wpList_store_at rfl 31 _ _ rfl (w5.heap.size+1) #[.int .i64 40,.int .i64 1,.int .i64 13] _ 31 rfl rfl (two_c w5 #[.int .i64 0,.string ⟨#[]⟩,.slice none 0 0,.int .i64 0,.int .i64 0,.string ⟨#[]⟩,.int .i64 0,.int .i64 0,.string ⟨#[]⟩,.int .i64 0,.slice none 0 0,.int .i64 0,.string ⟨#[]⟩,.int .i64 0,.int .i64 0,.string ⟨#[]⟩,.int .i64 0,.slice none 0 0,.int .i64 0,.string ⟨#[]⟩,.int .i64 0,.string ⟨#[]⟩,.int .i64 0,.int .i64 0,.string ⟨#[]⟩,.int .i64 0,.slice none 0 0,.slice none 0 0,.int .i64 0,.int .i64 0] #[.int .i64 0,.int .i64 0,.int .i64 0] ZZ 50 31) sizeFlt rfl rfl ?_)
 obtain ⟨x6,y6,n6,s6⟩:=two_vars w5 #[.int .i64 0,.string ⟨#[]⟩,.slice none 0 0,.int .i64 0,.int .i64 0,.string ⟨#[]⟩,.int .i64 0,.int .i64 0,.string ⟨#[]⟩,.int .i64 0,.slice none 0 0,.int .i64 0,.string ⟨#[]⟩,.int .i64 0,.int .i64 0,.string ⟨#[]⟩,.int .i64 0,.slice none 0 0,.int .i64 0,.string ⟨#[]⟩,.int .i64 0,.string ⟨#[]⟩,.int .i64 0,.int .i64 0,.string ⟨#[]⟩,.int .i64 0,.slice none 0 0,.slice none 0 0,.int .i64 0,.int .i64 0] #[.int .i64 0,.int .i64 0,.int .i64 0] ZZ #[.int .i64 40,.int .i64 1,.int .i64 13] 50 31
 generalize (((w5.alloc _).alloc _).setRow _ _).setRow _ _=w6 at *
 have X6:=Hxq (n6.at X5.out (by simp));have Y6:=Hxq (n6.at Y5.out (by simp));have A6:=Hxq (n6.at A5.out (by simp));have B6:=Hxq (n6.at B5.out (by simp));have M6:=Hxq (M5.out.trans n6 (by simp));have V6:=Hxq (valP_keep V5.out n6 (by simp) (Nat.le_refl _));have U6:=Hxq (valL_keep U5.out n6 (by simp) (Nat.le_refl _));have Y7:=Lib.hid y6
 clear x6 y6 n6 X5 Y5 A5 B5 V5 U5 M5 HO1 HO3 HO5 hC1 hC3 hZ5
 obtain ⟨rels,rus,u1,u2,e1,e2,b1,b2,-,-⟩:=V6.out
 simp only [Value.agg.injEq] at e1
 subst e1
 unfold Sy.sP at e2
 simp only [Pr.Prog.mk.injEq] at e2
 obtain ⟨e2,e3⟩:=e2
 obtain ⟨x,rfl⟩:∃ x,rels=[x]:=by
  match rels,e2 with
  | [x],_=>exact ⟨x,rfl⟩
  | [],e=>simp at e
  | _ :: _ :: _,e=>simp at e
 obtain ⟨y,rfl⟩:∃ y,rus=[y]:=by
  match rus,e3 with
  | [x],_=>exact ⟨x,rfl⟩
  | [],e=>simp at e
  | _ :: _ :: _,e=>simp at e
 simp only [List.map_cons,List.map_nil,List.cons.injEq,and_true] at e2 e3
 obtain ⟨a1,c1,rfl⟩:=b1.lit
 obtain ⟨a2,c2,rfl⟩:=b2.lit
 obtain ⟨g1,o1,rfl,k1⟩:=b1.at 0 (by simp)
 obtain ⟨g2,o2,rfl,k2⟩:=b2.at 0 (by simp)
 obtain ⟨r1,v1⟩:=x
 obtain ⟨r2,v2,v3⟩:=y
 simp only [List.getElem_cons_zero,csR,csU] at k1 k2 e2 e3
 subst e2
 subst e3
 have n1:w6.cell? ⟨g1,o1,none⟩=some (.string { data:=#[101] }):=by simpa using k1 0 (.string { data:=#[101] }) (by rfl)
 have q1:w6.cell? ⟨g2,o2+3,none⟩=some (.int .i64 1):=by simpa using k2 3 (.int .i64 1) (by rfl)
 have q2:w6.cell? ⟨g2,o2+4,none⟩=some (.int .i64 23):=by simpa using k2 4 (.int .i64 23) (by rfl)
 obtain ⟨U,f1,hL⟩:=U6.out
 simp only [Value.agg.injEq] at f1
 unfold Sy.sL at f1 hL
 obtain ⟨-,-,hr,-,-⟩:=hL.parts
 obtain ⟨a3,c3,h3⟩:=hr.lit
 rw [h3] at hr
 obtain ⟨g3,o3,uu,rfl,k3,-⟩:=hr.at 1 (by simp [Pr.Ex.args])
 have A7:=A6.out
 rw [f1] at A7
 have l16:w6.cell? ⟨w3.heap.size,16,none⟩=some (.int .i64 2):=cell_at A7 16
 have l17:w6.cell? ⟨w3.heap.size,17,none⟩=some (.slice (some ⟨g3,o3,none⟩) 2 c3):=(cell_at A7 17).trans (congrArg some h3)
 have z0:w6.cell? ⟨g3,o3+9,none⟩=some (.int .i64 1):=by have:=k3 2 (.int .i64 1) (by rfl);rw [Nat.one_mul,Nat.add_assoc] at this;exact this
 have z1:w6.cell? ⟨g3,o3+10,none⟩=some (.int .i64 (-1)):=by have:=k3 3 (.int .i64 (-1)) (by rfl);rw [Nat.one_mul,Nat.add_assoc] at this;exact this
 have z2:w6.cell? ⟨g3,o3+11,none⟩=some (.string ⟨#[]⟩):=by have:=k3 4 (.string ⟨#[]⟩) (by rfl);rw [Nat.one_mul,Nat.add_assoc] at this;exact this
 have p0:w6.cell? ⟨w1.heap.size,0,none⟩=some (.slice (some ⟨g1,o1,none⟩) 1 c1):=cell_at X6.out 0
 have p1:w6.cell? ⟨w1.heap.size,1,none⟩=some (.slice (some ⟨g2,o2,none⟩) 1 c2):=cell_at X6.out 1
 have t0:w6.cell? ⟨w1.heap.size+1,0,none⟩=some (.int .i64 0):=cell_at Y6.out 0
 have t1:w6.cell? ⟨w3.heap.size+1,0,none⟩=some (.int .i64 0):=cell_at B6.out 0
 have t2:w6.cell? ⟨w5.heap.size+1,0,none⟩=some (.int .i64 40):=cell_at Y7.out 0
 have t3:w6.cell? ⟨w5.heap.size+1,1,none⟩=some (.int .i64 1):=cell_at Y7.out 1
 have t4:w6.cell? ⟨w5.heap.size+1,2,none⟩=some (.int .i64 13):=cell_at Y7.out 2
 clear k1 k2 k3 hL hr A7 f1 h3 b1 b2 s2 s3 s4 s5 s6 X6 Y6 A6 B6 V6 U6 Y7 H1 H2 H3
 go_wp2_with fail
 go_ret
 exact ⟨rfl,M6.out⟩
open Go.RowKit
set_option linter.unusedVariables false
set_option linter.unusedSimpArgs false
set_option maxRecDepth 100000
def cmpL:List (List Nat):=[[61],[33,61],[60],[60,61],[62],[62,61]]
def fnL:List (List Nat):=[[99,111,117,110,116],[115,117,109],[109,105,110],[109,97,120]]
theorem cmp_small:∀ s∈cmpL,Lx.small (s.headD 0)=false:=by decide
theorem cmp_byte:∀ s∈cmpL,∀ c∈s,c<256:=by decide
theorem fn_small:∀ s∈fnL,Lx.small (s.headD 0)=true:=by decide
theorem fn_byte:∀ s∈fnL,∀ c∈s,c<256:=by decide
theorem cmp_cells {w:World} {g:Nat} {T:TypeId} {fr:Nat × Nat} (h:w.heap[g]?=some (.cells #[.string { data:=#[61] },.string { data:=#[33,61] },.string { data:=#[60] },.string { data:=#[60,61] },.string { data:=#[62] },.string { data:=#[62,61] }] T fr)) (q:Nat) (hq:q<cmpL.length) :
  w.cell? ⟨g,q,none⟩=some (.string (Lx.ofS cmpL[q])):=by
 have hq':q=0\/q=1\/q=2\/q=3\/q=4\/q=5:=by simp [cmpL] at hq;omega
 rcases hq' with rfl | rfl | rfl | rfl | rfl | rfl
 ·exact cell_at h 0
 ·exact cell_at h 1
 ·exact cell_at h 2
 ·exact cell_at h 3
 ·exact cell_at h 4
 ·exact cell_at h 5
theorem fn_cells {w:World} {g:Nat} {T:TypeId} {fr:Nat × Nat} (h:w.heap[g]?=some (.cells #[.string { data:=#[99,111,117,110,116] },.string { data:=#[115,117,109] },.string { data:=#[109,105,110] },.string { data:=#[109,97,120] }] T fr)) (q:Nat) (hq:q<fnL.length) :
  w.cell? ⟨g,q,none⟩=some (.string (Lx.ofS fnL[q])):=by
 have hq':q=0\/q=1\/q=2\/q=3:=by simp [fnL] at hq;omega
 rcases hq' with rfl | rfl | rfl | rfl
 ·exact cell_at h 0
 ·exact cell_at h 1
 ·exact cell_at h 2
 ·exact cell_at h 3
set_option maxHeartbeats 4000000 in
theorem rcomparison_any (t:Lx.Tok) (hk:Lx.TokK t) (w:World) (ht:∀ c∈t.text,c<256) :
  Calls Tryz.prog 84 #[.agg (tokC t)] w fun e w'=>e=.returned (.int .i64 (Sy.cmpOf t:Nat))/\Mod [] w w':=by
 have eA:=heap_alloc_new w (Obj.cells (tokC t) 74)
 have mA:=(Mod.refl [] w).alloc (Obj.cells (tokC t) 74)
 have HS:=Hxq (fun (i:Nat) (hi:i<cmpL.length) w=>rmark_sign (t:=t) (l:=cmpL[i]) (s:=Lx.ofS cmpL[i]) hk (cmp_small _ (List.getElem_mem hi)) w rfl ht (cmp_byte _ (List.getElem_mem hi)))
 have EA:=Lib.hid eA;have MA:=Lib.hid mA
 have HPl:Hid (Sy.cmpOf t=Sy.placeF t cmpL 0):=Lib.hid rfl
 generalize Sy.cmpOf t=q at *
 clear eA mA ht hk
 unfold tokC at *
 have mL:=((Mod.refl [] w).alloc (Obj.cells #[.int .i64 (t.kind:Nat),.string (Lx.ofS t.text),.int .i64 (t.vk:Nat),.int .i64 (t.num:Nat),.string (Lx.ofS t.sym),.int .i64 (t.line:Nat),.int .i64 (t.col:Nat)] 74)).alloc (Obj.cells #[.string { data:=#[61] },.string { data:=#[33,61] },.string { data:=#[60] },.string { data:=#[60,61] },.string { data:=#[62] },.string { data:=#[62,61] }] 9)
 have eL:=two_b w #[.int .i64 (t.kind:Nat),.string (Lx.ofS t.text),.int .i64 (t.vk:Nat),.int .i64 (t.num:Nat),.string (Lx.ofS t.sym),.int .i64 (t.line:Nat),.int .i64 (t.col:Nat)] #[.string { data:=#[61] },.string { data:=#[33,61] },.string { data:=#[60] },.string { data:=#[60,61] },.string { data:=#[62] },.string { data:=#[62,61] }] 74 9
 have eT:=two_a w #[.int .i64 (t.kind:Nat),.string (Lx.ofS t.text),.int .i64 (t.vk:Nat),.int .i64 (t.num:Nat),.string (Lx.ofS t.sym),.int .i64 (t.line:Nat),.int .i64 (t.col:Nat)] #[.string { data:=#[61] },.string { data:=#[33,61] },.string { data:=#[60] },.string { data:=#[60,61] },.string { data:=#[62] },.string { data:=#[62,61] }] 74 9
 have hcl:cmpL.length=6:=rfl
 go_enter Tryz.func84,Tryz.ntmps84
 go_upto_region 2 with fail
 generalize (w.alloc (Obj.cells _ 74)).alloc (Obj.cells _ 9)=wA at *
 have ML:=Lib.hid mL;have EL:=Hxq (fun i hi=>cmp_cells eL i hi);have ET:=Lib.hid eT
 clear mL eL eT
 go_wp2_with fail
 go_loopg [4] 6 (fun gk iv wr=>∃ k:Nat,6=gk+k/\iv=.int .i64 (k:Nat)/\Mod [] wA wr/\(∀ j (h:j<k) (h2:j<cmpL.length),Sy.sign t cmpL[j]=false))
 case atStart=>exact ⟨0,rfl,rfl,Mod.refl _ _,fun j h=>by omega⟩
 case round =>
  obtain ⟨k,hg,rfl,hm,hb⟩:=hrel
  by_cases hk:k<6
  ·have hkI:(k:Int)<6:=by omega
   have hk0:(0:Int)<=(k:Int):=by omega
   have hkc:k<cmpL.length:=by omega
   have hN:((k:Int)).toNat=k:=by omega
   have HM:=Lib.hid hm;have HB:=Lib.hid hb;have HG:=Lib.hid hg
   have HS1:=Hxq (fun w=>HS.out k hkc w)
   have CE:=Hxq (hm.cell (EL.out k hkc) (by simp));have TE:=Hxq (hm.at ET.out (by simp))
   have HP:Hid (Sy.sign t cmpL[k]=true->q=k+1):=Hxq (fun h=>by
    have:=placeF_hit cmpL 0 k hkc (fun j hj=>hb j hj (by omega)) h
    rw [HPl.out];omega)
   have HN2:Hid (Sy.sign t cmpL[k]=false->∀ j (h:j<k+1) (h2:j<cmpL.length),Sy.sign t cmpL[j]=false):=Hxq (fun h j hj h2=>by
    by_cases e:j=k
    ·subst e;exact h
    ·exact hb j (by omega) h2)
   clear hm hb hg
   generalize Sy.sign t cmpL[k]=r at *
   generalize Lx.ofS cmpL[k]=s at *
   go_wp2_with fail
   refine wp_region_held_drew (S:=(fun w':World=>Mod [] wr w')) (by kernel_rfl) (by (try dsimp only);exact (Mod.refl [] wr).drew) (fun hHeld=>?_)
   refine Tkq 0 (v:=?_) (by assumption) ?_ ?_ ?_
   rotate_left 1
   ·refine .inl ⟨by rfl,?_⟩;intro w hSw;have c0:=hSw.cell CE.out (by simp);obtain ⟨x0,x1,x2,x3,x4,x5,x6⟩:=tok_cells (t:=t) (hSw.at TE.out (by simp));clear hSw;go_simp
    all_goals with_reducible rfl
   ·exact fun _ _ _ h=>h
   try simp only [Act.put,Lq1,Lq2,Lq3]
   refine Tkq 1 (v:=?_) (by assumption) ?_ ?_ ?_
   rotate_left 1
   ·refine .inl ⟨by rfl,?_⟩;intro w hSw;have c0:=hSw.cell CE.out (by simp);obtain ⟨x0,x1,x2,x3,x4,x5,x6⟩:=tok_cells (t:=t) (hSw.at TE.out (by simp));clear hSw;go_simp
    all_goals with_reducible rfl
   ·exact fun _ _ _ h=>h
   try simp only [Act.put,Lq1,Lq2,Lq3]
   refine Tkq 2 (v:=?_) (by assumption) ?_ ?_ ?_
   rotate_left 1
   ·refine .inl ⟨by rfl,?_⟩;intro w hSw;have c0:=hSw.cell CE.out (by simp);obtain ⟨x0,x1,x2,x3,x4,x5,x6⟩:=tok_cells (t:=t) (hSw.at TE.out (by simp));clear hSw;go_simp
    all_goals with_reducible rfl
   ·exact fun _ _ _ h=>h
   try simp only [Act.put,Lq1,Lq2,Lq3]
   refine Tkq 3 (v:=?_) (by assumption) ?_ ?_ ?_
   rotate_left 1
   ·refine .inl ⟨by rfl,?_⟩;intro w hSw;have c0:=hSw.cell CE.out (by simp);obtain ⟨x0,x1,x2,x3,x4,x5,x6⟩:=tok_cells (t:=t) (hSw.at TE.out (by simp));clear hSw;go_simp
    all_goals with_reducible rfl
   ·exact fun _ _ _ h=>h
   try simp only [Act.put,Lq1,Lq2,Lq3]
   refine Tkq 4 (v:=?_) (by assumption) ?_ ?_ ?_
   rotate_left 1
   ·refine .inl ⟨by rfl,?_⟩;intro w hSw;have c0:=hSw.cell CE.out (by simp);obtain ⟨x0,x1,x2,x3,x4,x5,x6⟩:=tok_cells (t:=t) (hSw.at TE.out (by simp));clear hSw;go_simp
    all_goals with_reducible rfl
   ·exact fun _ _ _ h=>h
   try simp only [Act.put,Lq1,Lq2,Lq3]
   refine wpAnyH_ready (rs:=[5]) (by kernel_rfl) (by simp) ?_
   refine AllReadyH.cons (o:=?_) ?_ ?_ AllReadyH.nil
   rotate_left 1
   ·(simp only [Gq1,Gq2,Gq3])<;>rfl
   intro K hK
   go_simp
   refine (HS1.out _).mono ?_
   rintro e5 w5 ⟨rfl,m5⟩
   have N5:=Hxq ((Mod.refl [] wr).drew.trans m5 (by simp))
   clear m5
   refine hK.out _ _ (by (try dsimp only);exact N5.out) (fun hHeld=>?_)
   clear hK K
   try simp only [Act.put,Lq1,Lq2,Lq3]
   refine wpAnyH_done (by kernel_rfl) ?_ _
   have HM2:=Hxq (HM.out.trans N5.out (by simp))
   cases r
   ·have HN3:=Hxq (HN2.out rfl)
    clear HN2 HP
    go_wp2_with fail
    go_roundg (gk - 1)
    case measure=>have:=HG.out;omega
    case rel=>exact ⟨k+1,by have:=HG.out;omega,by go_num,HM2.out,HN3.out⟩
   ·have HP2:=Hxq (HP.out rfl)
    clear HN2 HP
    go_wp2_with fail
    go_ret
    exact ⟨by rw [HP2.out];rfl,ML.out.trans HM2.out (by simp)⟩
  ·have hkI:¬ (k:Int)<6:=by omega
   have HM:=Lib.hid hm
   have HP:Hid (q=0):=Hxq (by
    rw [HPl.out]
    exact placeF_miss cmpL 0 (fun s hs=>by
     obtain ⟨j,hj,rfl⟩:=List.getElem_of_mem hs
     exact hb j (by omega) hj))
   clear hm hb hg
   go_wp2_with fail
   go_ret
   exact ⟨by rw [HP.out];rfl,ML.out.trans HM.out (by simp)⟩
set_option maxHeartbeats 4000000 in
theorem rfunction_any (t:Lx.Tok) (hk:Lx.TokK t) (w:World) (ht:∀ c∈t.text,c<256) :
  Calls Tryz.prog 81 #[.agg (tokC t)] w fun e w'=>e=.returned (.int .i64 (Sy.fnOf t:Nat))/\Mod [] w w':=by
 have hsg:∀ (i:Nat) (hi:i<fnL.length),Sy.sign t fnL[i]=(decide (t.kind=1) && decide (t.text=fnL[i])):=fun i hi=>by
  rw [<-Sy.nm_sign hk (fn_small _ (List.getElem_mem hi))]
  rfl
 have hbq:∀ (i:Nat) (hi:i<fnL.length),((Lx.ofS t.text).toList == (Lx.ofS fnL[i]).toList)=decide (t.text=fnL[i]):=fun i hi=>ofS_beq ht (fn_byte _ (List.getElem_mem hi))
 have HPl:Hid (Sy.fnOf t=Sy.placeF t fnL 0):=Lib.hid rfl
 have HSG:=Lib.hid hsg;have HBQ:=Lib.hid hbq
 generalize Sy.fnOf t=q at *
 clear ht hk hsg hbq
 unfold tokC at *
 have mL:=((Mod.refl [] w).alloc (Obj.cells #[.int .i64 (t.kind:Nat),.string (Lx.ofS t.text),.int .i64 (t.vk:Nat),.int .i64 (t.num:Nat),.string (Lx.ofS t.sym),.int .i64 (t.line:Nat),.int .i64 (t.col:Nat)] 74)).alloc (Obj.cells #[.string { data:=#[99,111,117,110,116] },.string { data:=#[115,117,109] },.string { data:=#[109,105,110] },.string { data:=#[109,97,120] }] 9)
 have eL:=two_b w #[.int .i64 (t.kind:Nat),.string (Lx.ofS t.text),.int .i64 (t.vk:Nat),.int .i64 (t.num:Nat),.string (Lx.ofS t.sym),.int .i64 (t.line:Nat),.int .i64 (t.col:Nat)] #[.string { data:=#[99,111,117,110,116] },.string { data:=#[115,117,109] },.string { data:=#[109,105,110] },.string { data:=#[109,97,120] }] 74 9
 have eT:=two_a w #[.int .i64 (t.kind:Nat),.string (Lx.ofS t.text),.int .i64 (t.vk:Nat),.int .i64 (t.num:Nat),.string (Lx.ofS t.sym),.int .i64 (t.line:Nat),.int .i64 (t.col:Nat)] #[.string { data:=#[99,111,117,110,116] },.string { data:=#[115,117,109] },.string { data:=#[109,105,110] },.string { data:=#[109,97,120] }] 74 9
 have hcl:fnL.length=4:=rfl
 go_enter Tryz.func81,Tryz.ntmps81
 go_upto_region 2 with fail
 generalize (w.alloc (Obj.cells _ 74)).alloc (Obj.cells _ 9)=wA at *
 have ML:=Lib.hid mL;have EL:=Hxq (fun i hi=>fn_cells eL i hi);have ET:=Lib.hid eT
 clear mL eL eT
 go_wp2_with fail
 go_loopg [4] 4 (fun gk iv wr=>∃ k:Nat,4=gk+k/\iv=.int .i64 (k:Nat)/\Mod [] wA wr/\(∀ j (h:j<k) (h2:j<fnL.length),Sy.sign t fnL[j]=false))
 case atStart=>exact ⟨0,rfl,rfl,Mod.refl _ _,fun j h=>by omega⟩
 case round =>
  obtain ⟨k,hg,rfl,hm,hb⟩:=hrel
  by_cases hk:k<4
  ·have hkI:(k:Int)<4:=by omega
   have hk0:(0:Int)<=(k:Int):=by omega
   have hkc:k<fnL.length:=by omega
   have hN:((k:Int)).toNat=k:=by omega
   have HM:=Lib.hid hm;have HB:=Lib.hid hb;have HG:=Lib.hid hg
   have ce:=hm.cell (EL.out k hkc) (by simp)
   obtain ⟨x0,x1,x2,x3,x4,x5,x6⟩:=tok_cells (t:=t) (hm.at ET.out (by simp))
   have hbq:=HBQ.out k hkc
   have hsg:=HSG.out k hkc
   have HP:Hid (Sy.sign t fnL[k]=true->q=k+1):=Hxq (fun h=>by
    have:=placeF_hit fnL 0 k hkc (fun j hj=>hb j hj (by omega)) h
    rw [HPl.out];omega)
   have HN2:Hid (Sy.sign t fnL[k]=false->∀ j (h:j<k+1) (h2:j<fnL.length),Sy.sign t fnL[j]=false):=Hxq (fun h j hj h2=>by
    by_cases e:j=k
    ·subst e;exact h
    ·exact hb j (by omega) h2)
   clear hm hb hg
   generalize decide (t.text=fnL[k])=r5 at *
   generalize Sy.sign t fnL[k]=r at *
   generalize Lx.ofS fnL[k]=s at *
   by_cases k1:t.kind=1
   ·have b1:((t.kind:Int) == 1)=true:=by rw [k1];rfl
    obtain rfl:r=r5:=by rw [hsg,decide_eq_true k1];rfl
    clear k1 hsg
    cases r
    ·have HN3:=Hxq (HN2.out rfl)
     clear HN2 HP
     go_upto_region 5 with fail
     go_quiet (fail)
     go_wp2_with fail
     go_roundg (gk - 1)
     case measure=>have:=HG.out;omega
     case rel=>exact ⟨k+1,by have:=HG.out;omega,by go_num,HM.out.drewN nq,HN3.out⟩
    ·have HP2:=Hxq (HP.out rfl)
     clear HN2 HP
     go_upto_region 5 with fail
     go_quiet (fail)
     go_wp2_with fail
     go_ret
     exact ⟨by rw [HP2.out];rfl,ML.out.trans (HM.out.drewN nq) (by simp)⟩
   ·have b1:((t.kind:Int) == 1)=false:=by rw [beq_eq_false_iff_ne];omega
    obtain rfl:r=false:=by rw [hsg,decide_eq_false k1];rfl
    clear k1 hsg
    have HN3:=Hxq (HN2.out rfl)
    clear HN2 HP
    go_upto_region 5 with fail
    go_quiet (fail)
    go_wp2_with fail
    go_roundg (gk - 1)
    case measure=>have:=HG.out;omega
    case rel=>exact ⟨k+1,by have:=HG.out;omega,by go_num,HM.out.drewN nq,HN3.out⟩
  ·have hkI:¬ (k:Int)<4:=by omega
   have HM:=Lib.hid hm
   have HP:Hid (q=0):=Hxq (by
    rw [HPl.out]
    exact placeF_miss fnL 0 (fun s hs=>by
     obtain ⟨j,hj,rfl⟩:=List.getElem_of_mem hs
     exact hb j (by omega) hj))
   clear hm hb hg
   go_wp2_with fail
   go_ret
   exact ⟨by rw [HP.out];rfl,ML.out.trans HM.out (by simp)⟩
/-- what constant leaves -/
def RConR (b:Nat) (ra:Option Addr) (rc:Nat) (L:LX) (v:Sy.Env) (o:Option (Va.Val × Nat)) (i:Nat) (w:World) (e:Ending) (w':World):Prop :=
 e=.returned (ConV o)/\RpP w' b ra rc L v (i+((o.map (·.2)).getD 0)) nf0/\Mod [b] w w'
set_option maxHeartbeats 2000000 in
theorem rconstant_any (b:Nat) (ra:Option Addr) (rc:Nat) (L:LX) (v:Sy.Env) (i:Nat) (w:World) (h:RpP w b ra rc L v i nf0) (hk:EnvK v) (hi:i<=70000) :
  Calls Tryz.prog 111 #[.pointer (some ⟨b,0,none⟩)] w (RConR b ra rc L v (Sy.constant v i) i w):=by
 have hv:=hk.ok
 have mA:=(Mod.refl [] w).alloc (Obj.cells #[Value.int IntKind.i64 0,Value.int IntKind.i64 0,Value.string ⟨#[]⟩] 42)
 have hA:=h.past mA (by simp)
 have eA:=heap_alloc_new w (Obj.cells #[Value.int IntKind.i64 0,Value.int IntKind.i64 0,Value.string ⟨#[]⟩] 42)
 have hsA:(w.alloc (Obj.cells #[Value.int IntKind.i64 0,Value.int IntKind.i64 0,Value.string ⟨#[]⟩] 42)).heap.size=w.heap.size+1:=by simp
 have HR:Hid (Sy.constant v i=if (v.tk i).kind=3\/(v.tk i).kind=4 then some (⟨(v.tk i).vk,(v.tk i).num,(v.tk i).sym⟩,1)
  else if Sy.plain (v.tk i)=true then some (⟨2,0,(v.tk i).text⟩,1)
  else if Sy.sign (v.tk i) [45]=true/\(v.tk (i+1)).kind=3 then some (⟨1,-((v.tk (i+1)).num:Int),[]⟩,2)
  else none):=Lib.hid rfl
 have HPl:=Hxq (fun w=>rname_any (v.tk i) w (hv.tbyte i))
 have HSg:=Hxq (fun w=>rmark_sign (t:=v.tk i) (l:=[45]) (s:={ data:=#[45] }) (hk.tk i) rfl w rfl (hv.tbyte i) (by decide))
 have HP0:=Hxq (fun w h=>rword0 b ra rc L v i nf0 w h hv hi)
 have HP1:=Hxq (fun w h=>rword1 b ra rc L v i nf0 w h hv hi)
 have hnum:=hv.tnum (i+1)
 have HLo:=Lib.hid h.low
 have hbl:=h.lt
 have HH:=Lib.hid hA;have EA:=Lib.hid eA;have MA:=Lib.hid mA
 clear h hA eA mA
 generalize v.tk i=t at *
 generalize v.tk (i+1)=u at *
 generalize Sy.plain t=rp at *
 generalize Sy.sign t [45]=rs at *
 generalize Sy.constant v i=q at *
 go_enter Tryz.func111,Tryz.ntmps111
 go_upto_region 1 with fail
 generalize w.alloc (Obj.cells #[Value.int IntKind.i64 0,Value.int IntKind.i64 0,Value.string ⟨#[]⟩] 42)=wA at *
 go_wp2_with fail
 refine (HP0.out wA HH.out).mono ?_
 rintro e1 w1 ⟨rfl,m1⟩
 have z1:=m1.size
 have mT:=(Mod.refl [] w1).alloc (Obj.cells (tokC t) 74)
 have eT:=heap_alloc_new w1 (Obj.cells (tokC t) 74)
 have HT1:=Hxq ((HH.out.past m1 (by simp)).past mT (by simp));have MT1:=Hxq ((MA.out.trans m1 (by simp)).trans mT (by simp));have ET1:=Hxq (mT.at (m1.at EA.out (by simp)) (by simp));have ETT:=Lib.hid eT
 have hzT:(w1.alloc (Obj.cells (tokC t) 74)).heap.size=w1.heap.size+1:=by simp
 clear m1 mT eT
 unfold tokC at *
 go_upto_region 2 with fail
 generalize w1.alloc (Obj.cells _ 74)=wT at *
 go_wp2_with fail
 refine (HP1.out wT HT1.out).mono ?_
 rintro e2 w2 ⟨rfl,m2⟩
 have z2:=m2.size
 have mU:=(Mod.refl [] w2).alloc (Obj.cells (tokC u) 74)
 have eU:=heap_alloc_new w2 (Obj.cells (tokC u) 74)
 have zB:(w2.alloc (Obj.cells (tokC u) 74)).heap.size=w2.heap.size+1:=by simp
 have aB:=mU.at (m2.at ET1.out (by simp)) (by simp);have tB:=mU.at (m2.at ETT.out (by simp)) (by simp);have hB:=(HT1.out.past m2 (by simp)).past mU (by simp)
 have M2:=Hxq ((MT1.out.trans m2 (by simp)).trans mU (by simp))
 clear m2 mU
 unfold tokC at *
 go_upto_region 3 with fail
 generalize w2.alloc (Obj.cells _ 74)=wB at *
 have AB:=Lib.hid aB;have TB:=Lib.hid tB;have UB:=Lib.hid eU;have HB:=Lib.hid hB
 obtain ⟨x0,x1,x2,x3,x4,x5,x6⟩:=tok_cells (t:=t) tB
 clear aB eU tB hB
 by_cases k34:t.kind=3\/t.kind=4
 ·have HQ:Hid (q=some (⟨t.vk,t.num,t.sym⟩,1)):=Hxq (by rw [HR.out,if_pos k34])
  have hq:=HQ.out
  subst hq
  clear HR HQ
  by_cases k3:t.kind=3
  ·have b3:((t.kind:Int) == 3)=true:=by rw [k3];rfl
   clear k34 k3
   obtain ⟨c0,c1,c2,c3,c4,c5,c6,c7,c8,c9,fz⟩:=HB.out.cells
   have hT:=HB.out.to (i+1)
   have aC:(wB.setCell ⟨b,6,none⟩ (.int .i64 ((i:Int)+1))).heap[w.heap.size]?=_:=hT.2.at AB.out (by simp;omega)
   have tC:(wB.setCell ⟨b,6,none⟩ (.int .i64 ((i:Int)+1))).heap[w1.heap.size]?=_:=hT.2.at TB.out (by simp;omega)
   have uC:(wB.setCell ⟨b,6,none⟩ (.int .i64 ((i:Int)+1))).heap[w2.heap.size]?=_:=hT.2.at UB.out (by simp;omega)
   have HC:Hid (RpP (wB.setCell ⟨b,6,none⟩ (.int .i64 ((i:Int)+1))) b ra rc L v (i+1) nf0):=Lib.hid hT.1
   have MC:Hid (Mod [b] w (wB.setCell ⟨b,6,none⟩ (.int .i64 ((i:Int)+1)))):=Hxq ((M2.out.mono (T:=[b]) (by simp)).trans hT.2 (by simp))
   clear hT
   go_upto_region 6 with fail
   generalize wB.setCell ⟨b,6,none⟩ (.int .i64 ((i:Int)+1))=wC at *
   obtain ⟨x0,x1,x2,x3,x4,x5,x6⟩:=tok_cells (t:=t) tC
   obtain ⟨u0,u1,u2,u3,u4,u5,u6⟩:=tok_cells (t:=u) uC
   obtain ⟨y0,y1,y2⟩:=cells3 aC
   have fA:∀ j,wC.frozen? ⟨w.heap.size,j,none⟩=false:=fun j=>free_at aC j
   have AC:=Lib.hid aC
   clear aC tC uC c0 c1 c2 c3 c4 c5 c6 c7 c8 c9 fz
   go_wp2_with fail
   have mR:=setCs_mod w.heap.size [.int .i64 (t.vk:Nat),.int .i64 (t.num:Nat),.string (Lx.ofS t.sym)] 0 wC
   refine bodyPost_ret (res_val rfl _ _ _ _ _ _ _ rfl rfl (setCs_row (vs:=[.int .i64 (t.vk:Nat),.int .i64 (t.num:Nat),.string (Lx.ofS t.sym)]) AC.out rfl) rfl) rfl ⟨rfl,HC.out.new HLo.out mR (by simp),MC.out.trans mR (by simp)⟩
  ·have b3:((t.kind:Int) == 3)=false:=by rw [beq_eq_false_iff_ne];omega
   have b4:((t.kind:Int) == 4)=true:=by rw [beq_iff_eq];omega
   clear k34 k3
   obtain ⟨c0,c1,c2,c3,c4,c5,c6,c7,c8,c9,fz⟩:=HB.out.cells
   have hT:=HB.out.to (i+1)
   have aC:(wB.setCell ⟨b,6,none⟩ (.int .i64 ((i:Int)+1))).heap[w.heap.size]?=_:=hT.2.at AB.out (by simp;omega)
   have tC:(wB.setCell ⟨b,6,none⟩ (.int .i64 ((i:Int)+1))).heap[w1.heap.size]?=_:=hT.2.at TB.out (by simp;omega)
   have uC:(wB.setCell ⟨b,6,none⟩ (.int .i64 ((i:Int)+1))).heap[w2.heap.size]?=_:=hT.2.at UB.out (by simp;omega)
   have HC:Hid (RpP (wB.setCell ⟨b,6,none⟩ (.int .i64 ((i:Int)+1))) b ra rc L v (i+1) nf0):=Lib.hid hT.1
   have MC:Hid (Mod [b] w (wB.setCell ⟨b,6,none⟩ (.int .i64 ((i:Int)+1)))):=Hxq ((M2.out.mono (T:=[b]) (by simp)).trans hT.2 (by simp))
   clear hT
   go_upto_region 6 with fail
   generalize wB.setCell ⟨b,6,none⟩ (.int .i64 ((i:Int)+1))=wC at *
   obtain ⟨x0,x1,x2,x3,x4,x5,x6⟩:=tok_cells (t:=t) tC
   obtain ⟨u0,u1,u2,u3,u4,u5,u6⟩:=tok_cells (t:=u) uC
   obtain ⟨y0,y1,y2⟩:=cells3 aC
   have fA:∀ j,wC.frozen? ⟨w.heap.size,j,none⟩=false:=fun j=>free_at aC j
   have AC:=Lib.hid aC
   clear aC tC uC c0 c1 c2 c3 c4 c5 c6 c7 c8 c9 fz
   go_wp2_with fail
   have mR:=setCs_mod w.heap.size [.int .i64 (t.vk:Nat),.int .i64 (t.num:Nat),.string (Lx.ofS t.sym)] 0 wC
   refine bodyPost_ret (res_val rfl _ _ _ _ _ _ _ rfl rfl (setCs_row (vs:=[.int .i64 (t.vk:Nat),.int .i64 (t.num:Nat),.string (Lx.ofS t.sym)]) AC.out rfl) rfl) rfl ⟨rfl,HC.out.new HLo.out mR (by simp),MC.out.trans mR (by simp)⟩
 ·have b3:((t.kind:Int) == 3)=false:=by rw [beq_eq_false_iff_ne];omega
  have b4:((t.kind:Int) == 4)=false:=by rw [beq_eq_false_iff_ne];omega
  have HR2:Hid (q=if rp=true then some (⟨2,0,t.text⟩,1) else if rs=true/\u.kind=3 then some (⟨1,-(u.num:Int),[]⟩,2) else none):=Hxq (by rw [HR.out,if_neg k34])
  clear HR k34
  go_wp2_with fail
  refine (HPl.out wB).mono ?_
  rintro e3 w3 ⟨rfl,m3⟩
  have A3:=Hxq (m3.at AB.out (by simp));have T3:=Hxq (m3.at TB.out (by simp));have U3:=Hxq (m3.at UB.out (by simp));have H3:=Hxq (HB.out.past m3 (by simp));have M3:=Hxq (M2.out.trans m3 (by simp))
  have z3:=m3.size
  clear m3 x0 x1 x2 x3 x4 x5 x6
  obtain ⟨x0,x1,x2,x3,x4,x5,x6⟩:=tok_cells (t:=t) T3.out
  cases rp
  ·have HR3:Hid (q=if rs=true/\u.kind=3 then some (⟨1,-(u.num:Int),[]⟩,2) else none):=Lib.hid HR2.out
   clear HR2
   go_wp2_with fail
   refine (HSg.out w3).mono ?_
   rintro e4 w4 ⟨rfl,m4⟩
   have A4:=Hxq (m4.at A3.out (by simp));have T4:=Hxq (m4.at T3.out (by simp));have U4:=Hxq (m4.at U3.out (by simp));have H4:=Hxq (H3.out.past m4 (by simp));have M4:=Hxq (M3.out.trans m4 (by simp))
   have z4:=m4.size
   clear m4 x0 x1 x2 x3 x4 x5 x6
   obtain ⟨x0,x1,x2,x3,x4,x5,x6⟩:=tok_cells (t:=t) T4.out
   obtain ⟨u0,u1,u2,u3,u4,u5,u6⟩:=tok_cells (t:=u) U4.out
   obtain ⟨y0,y1,y2⟩:=cells3 A4.out
   have fA:∀ j,w4.frozen? ⟨w.heap.size,j,none⟩=false:=fun j=>free_at A4.out j
   cases rs
   ·have HQ:Hid (q=none):=Lib.hid HR3.out
    have hq:=HQ.out
    subst hq
    clear HR3 HQ
    go_wp2_with fail
    have mR:=setCs_mod w.heap.size [.int .i64 0,.int .i64 0,.string ⟨#[]⟩] 0 w4
    refine bodyPost_ret (res_val rfl _ _ _ _ _ _ _ rfl rfl (setCs_row (vs:=[.int .i64 0,.int .i64 0,.string ⟨#[]⟩]) A4.out rfl) rfl) rfl ⟨rfl,H4.out.new HLo.out mR (by simp),(M4.out.trans mR (by simp)).mono (by simp)⟩
   ·by_cases ku:u.kind=3
    ·have bu:((u.kind:Int) == 3)=true:=by rw [ku];rfl
     have HQ:Hid (q=some (⟨1,-(u.num:Int),[]⟩,2)):=Hxq (by rw [HR3.out,if_pos ⟨rfl,ku⟩])
     have hq:=HQ.out
     subst hq
     have hng:wrap64 (-(u.num:Int))=-(u.num:Int):=by unfold wrap64;omega
     have hng2:IntKind.i64.wrap (-(u.num:Int))=-(u.num:Int):=IntWalk.i64_in _ (by omega)
     clear HR3 HQ ku x0 x1 x2 x3 x4 x5 x6 u1 u2 u3 u4 u5 u6 y0 y1 y2 fA
     obtain ⟨c0,c1,c2,c3,c4,c5,c6,c7,c8,c9,fz⟩:=H4.out.cells
     have hT:=H4.out.to (i+2)
     have aC:(w4.setCell ⟨b,6,none⟩ (.int .i64 ((i:Int)+2))).heap[w.heap.size]?=_:=hT.2.at A4.out (by simp;omega)
     have tC:(w4.setCell ⟨b,6,none⟩ (.int .i64 ((i:Int)+2))).heap[w1.heap.size]?=_:=hT.2.at T4.out (by simp;omega)
     have uC:(w4.setCell ⟨b,6,none⟩ (.int .i64 ((i:Int)+2))).heap[w2.heap.size]?=_:=hT.2.at U4.out (by simp;omega)
     have HC:Hid (RpP (w4.setCell ⟨b,6,none⟩ (.int .i64 ((i:Int)+2))) b ra rc L v (i+2) nf0):=Lib.hid hT.1
     have MC:Hid (Mod [b] w (w4.setCell ⟨b,6,none⟩ (.int .i64 ((i:Int)+2)))):=Hxq ((M4.out.mono (T:=[b]) (by simp)).trans hT.2 (by simp))
     clear hT
     go_upto_region 12 with fail
     generalize w4.setCell ⟨b,6,none⟩ (.int .i64 ((i:Int)+2))=wC at *
     obtain ⟨x0,x1,x2,x3,x4,x5,x6⟩:=tok_cells (t:=t) tC
     obtain ⟨u0,u1,u2,u3,u4,u5,u6⟩:=tok_cells (t:=u) uC
     obtain ⟨y0,y1,y2⟩:=cells3 aC
     have fA:∀ j,wC.frozen? ⟨w.heap.size,j,none⟩=false:=fun j=>free_at aC j
     have AC:=Lib.hid aC
     clear aC tC uC c0 c1 c2 c3 c4 c5 c6 c7 c8 c9 fz
     go_wp2_with fail
     have mR:=setCs_mod w.heap.size [.int .i64 1,.int .i64 (-(u.num:Int)),.string ⟨#[]⟩] 0 wC
     refine bodyPost_ret (res_val rfl _ _ _ _ _ _ _ rfl rfl (setCs_row (vs:=[.int .i64 1,.int .i64 (-(u.num:Int)),.string ⟨#[]⟩]) AC.out rfl) rfl) rfl ⟨rfl,HC.out.new HLo.out mR (by simp),MC.out.trans mR (by simp)⟩
    ·have bu:((u.kind:Int) == 3)=false:=by rw [beq_eq_false_iff_ne];omega
     have HQ:Hid (q=none):=Hxq (by rw [HR3.out,if_neg (fun h=>ku h.2)])
     have hq:=HQ.out
     subst hq
     clear HR3 HQ ku
     go_wp2_with fail
     have mR:=setCs_mod w.heap.size [.int .i64 0,.int .i64 0,.string ⟨#[]⟩] 0 w4
     refine bodyPost_ret (res_val rfl _ _ _ _ _ _ _ rfl rfl (setCs_row (vs:=[.int .i64 0,.int .i64 0,.string ⟨#[]⟩]) A4.out rfl) rfl) rfl ⟨rfl,H4.out.new HLo.out mR (by simp),(M4.out.trans mR (by simp)).mono (by simp)⟩
  ·have HQ:Hid (q=some (⟨2,0,t.text⟩,1)):=Lib.hid HR2.out
   have hq:=HQ.out
   subst hq
   clear HR2 HQ x0 x1 x2 x3 x4 x5 x6
   obtain ⟨c0,c1,c2,c3,c4,c5,c6,c7,c8,c9,fz⟩:=H3.out.cells
   have hT:=H3.out.to (i+1)
   have aC:(w3.setCell ⟨b,6,none⟩ (.int .i64 ((i:Int)+1))).heap[w.heap.size]?=_:=hT.2.at A3.out (by simp;omega)
   have tC:(w3.setCell ⟨b,6,none⟩ (.int .i64 ((i:Int)+1))).heap[w1.heap.size]?=_:=hT.2.at T3.out (by simp;omega)
   have uC:(w3.setCell ⟨b,6,none⟩ (.int .i64 ((i:Int)+1))).heap[w2.heap.size]?=_:=hT.2.at U3.out (by simp;omega)
   have HC:Hid (RpP (w3.setCell ⟨b,6,none⟩ (.int .i64 ((i:Int)+1))) b ra rc L v (i+1) nf0):=Lib.hid hT.1
   have MC:Hid (Mod [b] w (w3.setCell ⟨b,6,none⟩ (.int .i64 ((i:Int)+1)))):=Hxq ((M3.out.mono (T:=[b]) (by simp)).trans hT.2 (by simp))
   clear hT
   go_upto_region 9 with fail
   generalize w3.setCell ⟨b,6,none⟩ (.int .i64 ((i:Int)+1))=wC at *
   obtain ⟨x0,x1,x2,x3,x4,x5,x6⟩:=tok_cells (t:=t) tC
   obtain ⟨u0,u1,u2,u3,u4,u5,u6⟩:=tok_cells (t:=u) uC
   obtain ⟨y0,y1,y2⟩:=cells3 aC
   have fA:∀ j,wC.frozen? ⟨w.heap.size,j,none⟩=false:=fun j=>free_at aC j
   have AC:=Lib.hid aC
   clear aC tC uC c0 c1 c2 c3 c4 c5 c6 c7 c8 c9 fz
   go_wp2_with fail
   have mR:=setCs_mod w.heap.size [.int .i64 2,.int .i64 0,.string (Lx.ofS t.text)] 0 wC
   refine bodyPost_ret (res_val rfl _ _ _ _ _ _ _ rfl rfl (setCs_row (vs:=[.int .i64 2,.int .i64 0,.string (Lx.ofS t.text)]) AC.out rfl) rfl) rfl ⟨rfl,HC.out.new HLo.out mR (by simp),MC.out.trans mR (by simp)⟩
end Go.Proofs.YtppigckioalhhaaGreatDoorR
