/- THE TEXTS MERGED: VaAwake SoOpen VaLent VaSame VaOrdPlain VaCmp VaCmp2 VaCmpRef SoFact. -/
import Derived.Test.YtcalbbfkgdfidaaDoorKV5
import Derived.Deep.RegionHeld3
import Derived.Deep.RegionWith
import Derived.ProofKit
import Derived.OpenShut
import Derived.LaidMore
import Derived.Stop.LaidErr
import Derived.Stop.Joined
import Derived.Deep.Slices
import Derived.Deep.Fields
import Derived.Laws.CopyOwn
import Derived.Lib.Bytealg
namespace Go.Proofs.YtcalbbfkgdfidaaDoor
open Go.RowKit
set_option linter.unusedVariables false
set_option linter.unusedSimpArgs false
set_option maxRecDepth 100000
theorem num_any (n:Int) (w:World):Calls Tryd.prog 13 #[.int .i64 n] w fun e w'=>e=.returned (.agg (valV ⟨1,n,[]⟩))/\Mod [] w w':=by
 go_enter Tryd.func13,Tryd.ntmps13
 go_wp2_with fail
 refine bodyPost_ret (results_cell_row rfl _ _ _ _ _ _ _ rfl (heap_alloc_new w _) Tryd.underlying44 rfl (by kernel_rfl)) rfl ⟨rfl,(Mod.refl [] w).alloc _⟩
theorem sym_any (s:ByteArray) (w:World):Calls Tryd.prog 15 #[.string s] w fun e w'=>e=.returned (.agg #[.int .i64 2,.int .i64 0,.string s])/\Mod [] w w':=by
 go_enter Tryd.func15,Tryd.ntmps15
 go_wp2_with fail
 refine bodyPost_ret (results_cell_row rfl _ _ _ _ _ _ _ rfl (heap_alloc_new w _) Tryd.underlying44 rfl (by kernel_rfl)) rfl ⟨rfl,(Mod.refl [] w).alloc _⟩
def aAnn:Va.Val:=⟨2,0,[65,110,110]⟩
theorem aMay:Va.may aAnn=true:=by decide
theorem aText:Va.text aAnn=[34,65,110,110,34]:=by
 unfold Va.text aAnn
 rw [if_neg (show ¬ (2:Int)=1 by decide)]
 decide
theorem aParse:Va.parse [34,65,110,110,34]=some aAnn:=by
 rw [<-aText]
 exact Va.parse_text (by decide) aMay
theorem aPut:putL [⟨1,1,[]⟩,⟨2,0,[97]⟩]=[2,1,2,2,1,97]:=by decide
theorem aPutE:putE [⟨1,1,[]⟩,⟨2,0,[97]⟩]=0:=by decide
theorem aN1:Va.name (Cod.str { data:=#[97,66,95,57] })=true:=by decide
theorem aN2:Va.name (Cod.str { data:=#[115,117,109] })=false:=by decide
theorem aC1:chk ⟨1,2147483647,[]⟩=0:=by decide
theorem aC2:chk ⟨1,2147483648,[]⟩=20:=by decide
theorem aS:Cod.str { data:=#[34,65,110,110,34] }=[34,65,110,110,34]:=by rfl
set_option maxHeartbeats 4000000 in
theorem awake_any (w:World) (hG:GlobV w):Calls Tryd.prog 5 #[] w fun e w'=>e=.returned (.bool true)/\Mod [] w w':=by
 have h1:=fun w=>check_any ⟨1,2147483647,[]⟩ w
 have h2:=fun w=>check_any ⟨1,2147483648,[]⟩ w
 rw [aC1] at h1
 rw [aC2] at h2
 have h3:=fun w hG=>Text_any aAnn (val_ok aMay (by decide)) w hG
 have h4:=fun w hG=>Parse_any { data:=#[34,65,110,110,34] } (by decide) w hG
 rw [aS,aParse] at h4
 have h5:=fun v w h=>Put_any v [⟨1,1,[]⟩,⟨2,0,[97]⟩] (by intro x hx;simp only [List.mem_cons,List.not_mem_nil,or_false] at hx;rcases hx with rfl | rfl <;> simp [VB]) (by decide) w h
 unfold PutR at h5
 rw [aPut,aPutE] at h5
 have h6:=fun w=>Name_any { data:=#[97,66,95,57] } (by decide) w
 have h7:=fun w=>Name_any { data:=#[115,117,109] } (by decide) w
 rw [aN1] at h6
 rw [aN2] at h7
 have ht:txtV aAnn=.tuple #[.string { data:=#[34,65,110,110,34] },.int .i64 0]:=by
  unfold txtV chk
  rw [aMay]
  simp only [if_true]
  rw [aText];rfl
 rw [ht] at h3
 have hp:prsV (some aAnn)=.tuple #[.agg #[.int .i64 2,.int .i64 0,.string { data:=#[65,110,110] }],.int .i64 0]:=rfl
 rw [hp] at h4
 have ha:valV aAnn=#[.int .i64 2,.int .i64 0,.string { data:=#[65,110,110] }]:=rfl
 rw [ha] at h3
 simp only [valV] at h1 h2
 have hem:Lx.ofS []=⟨#[]⟩:=rfl
 rw [hem] at h1 h2
 have hnum:=fun n w=>num_any n w
 simp only [valV,hem] at hnum
 have H1:=Lib.hid h1;have H2:=Lib.hid h2;have H3:=Lib.hid h3;have H4:=Lib.hid h4;have H5:=Lib.hid h5;have H6:=Lib.hid h6;have H7:=Lib.hid h7;have HN:=Lib.hid hnum
 clear h1 h2 h3 h4 h5 h6 h7 hnum ht hp ha hem
 go_enter Tryd.func5,Tryd.ntmps5
 go_wp2_with fail
 refine (HN.out _ _).mono ?_
 rintro e w1 ⟨rfl,m1⟩
 have M1:=Lib.hid m1
 clear m1
 go_wp2_with fail
 refine (H1.out _).mono ?_
 rintro e w2 ⟨rfl,m2⟩
 have M2:=Hxq (M1.out.trans m2 (by simp))
 clear m2 M1
 go_wp2_with fail
 refine (HN.out _ _).mono ?_
 rintro e w3 ⟨rfl,m3⟩
 have M3:=Hxq (M2.out.trans m3 (by simp))
 clear m3 M2
 go_wp2_with fail
 refine (H2.out _).mono ?_
 rintro e w4 ⟨rfl,m4⟩
 have M4:=Hxq (M3.out.trans m4 (by simp))
 clear m4 M3
 go_wp2_with fail
 refine (sym_any _ _).mono ?_
 rintro e w5 ⟨rfl,m5⟩
 have M5:=Hxq (M4.out.trans m5 (by simp))
 clear m5 M4
 go_wp2_with fail
 refine (H3.out _ (hG.past M5.out (by simp))).mono ?_
 rintro e w6 ⟨rfl,m6⟩
 have M6:=Hxq (M5.out.trans m6 (by simp))
 clear m6 M5
 go_wp2_with fail
 refine (H4.out _ (hG.past M6.out (by simp))).mono ?_
 rintro e w7 ⟨rfl,m7⟩
 have hB7:=heap_alloc_new w7 (Obj.cells #[Value.int IntKind.i64 2,Value.int IntKind.i64 0,Value.string { data:=#[65,110,110] }] 44)
 have M7:=Hxq ((M6.out.trans m7 (by simp)).alloc (Obj.cells #[Value.int IntKind.i64 2,Value.int IntKind.i64 0,Value.string { data:=#[65,110,110] }] 44));have HB7:=Lib.hid hB7
 clear m7 M6 hB7
 go_wp2_with fail
 refine (HN.out _ _).mono ?_
 rintro e w8 ⟨rfl,m8⟩
 have M8:=Hxq (M7.out.trans m8 (by simp));have HB8:=Hxq (m8.at HB7.out (by simp))
 clear m8 M7 HB7
 go_wp2_with fail
 refine (sym_any _ _).mono ?_
 rintro e w9 ⟨rfl,m9⟩
 have M9:=Hxq (M8.out.trans m9 (by simp));have HB9:=Hxq (m9.at HB8.out (by simp))
 clear m9 M8 HB8
 go_wp2_with fail
 have hB10:=heap_alloc_new w9 (Obj.cells #[Value.int IntKind.i64 1,Value.int IntKind.i64 1,Value.string ⟨#[]⟩,Value.int IntKind.i64 2,Value.int IntKind.i64 0,Value.string { data:=#[97] }] 44)
 have hv:VRow (w9.alloc (Obj.cells #[Value.int IntKind.i64 1,Value.int IntKind.i64 1,Value.string ⟨#[]⟩,Value.int IntKind.i64 2,Value.int IntKind.i64 0,Value.string { data:=#[97] }] 44)) (.slice (some ⟨w9.heap.size,0,none⟩) 2 2) [⟨1,1,[]⟩,⟨2,0,[97]⟩]:=by
  refine .inr ⟨w9.heap.size,0,2,rfl,fun i hi=>?_⟩
  match i,hi with
  | 0,_=>exact ⟨by simp only [World.cell?,hB10];rfl,by simp only [World.cell?,hB10];rfl,by simp only [World.cell?,hB10];rfl⟩
  | 1,_=>exact ⟨by simp only [World.cell?,hB10];rfl,by simp only [World.cell?,hB10];rfl,by simp only [World.cell?,hB10];rfl⟩
 refine (H5.out _ _ hv).mono ?_
 rintro e w10 ⟨v10,rfl,hown,m10,hf10⟩
 have m10':=((Mod.refl [] w9).alloc (Obj.cells #[Value.int IntKind.i64 1,Value.int IntKind.i64 1,Value.string ⟨#[]⟩,Value.int IntKind.i64 2,Value.int IntKind.i64 0,Value.string { data:=#[97] }] 44)).trans m10 (by simp)
 have M10:=Hxq (M9.out.trans m10' (by simp));have HB10:=Hxq (m10'.at HB9.out (by simp));have HO10:=Lib.hid hown
 clear hB10 hv hown m10 hf10 m10' M9 HB9
 go_wp2_with fail
 refine (H6.out _).mono ?_
 rintro e w11 ⟨rfl,m11⟩
 have M11:=Hxq (M10.out.trans m11 (by simp));have HB11:=Hxq (m11.at HB10.out (by simp));have HO11:=Hxq (m11.owns HO10.out (by simp))
 clear m11 M10 HB10 HO10
 go_wp2_with fail
 refine (H7.out _).mono ?_
 rintro e w12 ⟨rfl,m12⟩
 have M12:=Hxq (M11.out.trans m12 (by simp));have HB12:=Hxq (m12.at HB11.out (by simp));have HO12:=Hxq (m12.owns HO11.out (by simp))
 clear m12 M11 HB11 HO11 H1 H2 H3 H4 H5 H6 H7 HN
 go_wp2_with fail
 have hcell:∀ w':World,w'.heap[w7.heap.size]?=some (.cells #[Value.int IntKind.i64 2,Value.int IntKind.i64 0,Value.string { data:=#[65,110,110] }] 44 (0,0))->w'.cell? ⟨w7.heap.size,0,none⟩=some (.int .i64 2)/\w'.cell? ⟨w7.heap.size,1,none⟩=some (.int .i64 0)/\w'.cell? ⟨w7.heap.size,2,none⟩=some (.string { data:=#[65,110,110] }):=fun w' h=>by
  refine ⟨?_,?_,?_⟩ <;> simp only [World.cell?,h] <;> rfl
 have hconv:∀ w':World,w'.ownsRow 0 5 1 v10 6 (toCells [2,1,2,2,1,97])->(convert 51 9 v10).run Tryd.prog w'=.ok (.string { data:=#[2,1,2,2,1,97] }) w':=fun w' h=>conv_reads (l:=[2,1,2,2,1,97]) (reads_own h (by decide) (by decide))
 obtain ⟨c0,c1,c2⟩:=hcell w12 HB12.out
 obtain ⟨e0,e1,e2⟩:=hcell w12.drew HB12.out
 have k0:=hconv w12 HO12.out
 have k1:=hconv w12.drew HO12.out
 have HCELL:=Lib.hid hcell;have HCONV:=Lib.hid hconv
 clear hcell hconv
 refine wp_region_held_drew (S:=(fun w':World=>w'.cell? ⟨w7.heap.size,0,none⟩=some (.int .i64 2)/\w'.cell? ⟨w7.heap.size,1,none⟩=some (.int .i64 0)/\w'.cell? ⟨w7.heap.size,2,none⟩=some (.string { data:=#[65,110,110] })/\(convert 51 9 v10).run Tryd.prog w'=.ok (.string { data:=#[2,1,2,2,1,97] }) w')) (by kernel_rfl) (by (try dsimp only);exact ⟨e0,e1,e2,k1⟩) (fun hHeld=>?_)
 refine Tkq 0 (v:=?_) (by assumption) ?_ ?_ ?_
 rotate_left 1
 ·refine .inl ⟨by rfl,?_⟩;intro w hSw;(try dsimp only at hSw);go_simp
  all_goals with_reducible rfl
 ·exact fun _ _ _ h=>h
 try simp only [Act.put,Lq1,Lq2,Lq3]
 refine Tkq 1 (v:=?_) (by assumption) ?_ ?_ ?_
 rotate_left 1
 ·refine .inl ⟨by rfl,?_⟩;intro w hSw;(try dsimp only at hSw);go_simp
  all_goals with_reducible rfl
 ·exact fun _ _ _ h=>h
 try simp only [Act.put,Lq1,Lq2,Lq3]
 refine Tkq 2 (v:=?_) (by assumption) ?_ ?_ ?_
 rotate_left 1
 ·refine .inl ⟨by rfl,?_⟩;intro w hSw;(try dsimp only at hSw);go_simp
  all_goals with_reducible rfl
 ·exact fun _ _ _ h=>h
 try simp only [Act.put,Lq1,Lq2,Lq3]
 refine Tkq 3 (v:=?_) (by assumption) ?_ ?_ ?_
 rotate_left 1
 ·refine .inl ⟨by rfl,?_⟩;intro w hSw;(try dsimp only at hSw);go_simp
  all_goals with_reducible rfl
 ·exact fun _ _ _ h=>h
 try simp only [Act.put,Lq1,Lq2,Lq3]
 refine Tkq 4 (v:=?_) (by assumption) ?_ ?_ ?_
 rotate_left 1
 ·refine .inl ⟨by rfl,?_⟩;intro w hSw;(try dsimp only at hSw);go_simp
  all_goals with_reducible rfl
 ·exact fun _ _ _ h=>h
 try simp only [Act.put,Lq1,Lq2,Lq3]
 refine Tkq 5 (v:=?_) (by assumption) ?_ ?_ ?_
 rotate_left 1
 ·refine .inl ⟨by rfl,?_⟩;intro w hSw;(try dsimp only at hSw);go_simp
  all_goals with_reducible rfl
 ·exact fun _ _ _ h=>h
 try simp only [Act.put,Lq1,Lq2,Lq3]
 refine Tkq 6 (v:=?_) (by assumption) ?_ ?_ ?_
 rotate_left 1
 ·refine .inl ⟨by rfl,?_⟩;intro w hSw;(try dsimp only at hSw);go_simp
  all_goals with_reducible rfl
 ·exact fun _ _ _ h=>h
 try simp only [Act.put,Lq1,Lq2,Lq3]
 refine Tkq 7 (v:=?_) (by assumption) ?_ ?_ ?_
 rotate_left 1
 ·refine .inl ⟨by rfl,?_⟩;intro w hSw;(try dsimp only at hSw);go_simp
  all_goals with_reducible rfl
 ·exact fun _ _ _ h=>h
 try simp only [Act.put,Lq1,Lq2,Lq3]
 refine Tkq 8 (v:=?_) (by assumption) ?_ ?_ ?_
 rotate_left 1
 ·refine .inl ⟨by rfl,?_⟩;intro w hSw;(try dsimp only at hSw);go_simp
  all_goals with_reducible rfl
 ·exact fun _ _ _ h=>h
 try simp only [Act.put,Lq1,Lq2,Lq3]
 refine Tkq 9 (v:=?_) (by assumption) ?_ ?_ ?_
 rotate_left 1
 ·refine .inl ⟨by rfl,?_⟩;intro w hSw;(try dsimp only at hSw);go_simp
  all_goals with_reducible rfl
 ·exact fun _ _ _ h=>h
 try simp only [Act.put,Lq1,Lq2,Lq3]
 refine Tkq 10 (v:=?_) (by assumption) ?_ ?_ ?_
 rotate_left 1
 ·refine .inl ⟨by rfl,?_⟩;intro w hSw;(try dsimp only at hSw);go_simp
  all_goals with_reducible rfl
 ·exact fun _ _ _ h=>h
 try simp only [Act.put,Lq1,Lq2,Lq3]
 refine Tkq 11 (v:=?_) (by assumption) ?_ ?_ ?_
 rotate_left 1
 ·refine .inl ⟨by rfl,?_⟩;intro w hSw;(try dsimp only at hSw);go_simp
  all_goals with_reducible rfl
 ·exact fun _ _ _ h=>h
 try simp only [Act.put,Lq1,Lq2,Lq3]
 refine Tkq 12 (v:=?_) (by assumption) ?_ ?_ ?_
 rotate_left 1
 ·refine .inl ⟨by rfl,?_⟩;intro w hSw;(try dsimp only at hSw);go_simp
  all_goals with_reducible rfl
 ·exact fun _ _ _ h=>h
 try simp only [Act.put,Lq1,Lq2,Lq3]
 refine Tkq 13 (v:=?_) (by assumption) ?_ ?_ ?_
 rotate_left 1
 ·refine .inl ⟨by rfl,?_⟩;intro w hSw;(try dsimp only at hSw);go_simp
  all_goals with_reducible rfl
 ·exact fun _ _ _ h=>h
 try simp only [Act.put,Lq1,Lq2,Lq3]
 refine Tkq 14 (v:=?_) (by assumption) ?_ ?_ ?_
 rotate_left 1
 ·refine .inl ⟨by rfl,?_⟩;intro w hSw;(try dsimp only at hSw);go_simp
  all_goals with_reducible rfl
 ·exact fun _ _ _ h=>h
 try simp only [Act.put,Lq1,Lq2,Lq3]
 refine Tkq 15 (v:=?_) (by assumption) ?_ ?_ ?_
 rotate_left 1
 ·refine .inl ⟨by rfl,?_⟩;intro w hSw;(try dsimp only at hSw);go_simp
  all_goals with_reducible rfl
 ·exact fun _ _ _ h=>h
 try simp only [Act.put,Lq1,Lq2,Lq3]
 refine wpAnyH_ready (rs:=[16]) (by kernel_rfl) (by simp) ?_
 refine AllReadyH.cons (o:=?_) ?_ ?_ AllReadyH.nil
 rotate_left 1
 ·(simp only [Gq1,Gq2,Gq3])<;>rfl
 intro K hK
 go_simp
 refine (sym_any _ _).mono ?_
 rintro e w13 ⟨rfl,m13⟩
 obtain ⟨g0,g1,g2⟩:=HCELL.out w13 (m13.at HB12.out (by simp))
 have k2:=HCONV.out w13 (m13.owns HO12.out (by simp))
 have M13:Hid (Mod [] w12 w13):=Hxq (((Mod.refl [] w12).drew).trans m13 (by simp))
 clear m13
 refine hK.out _ _ (by (try dsimp only);exact ⟨g0,g1,g2,k2⟩) (fun hHeld=>?_)
 clear hK K
 try simp only [Act.put,Lq1,Lq2,Lq3]
 refine Tkq 17 (v:=?_) (by assumption) ?_ ?_ ?_
 rotate_left 1
 ·refine .inl ⟨by rfl,?_⟩;intro w hSw;(try dsimp only at hSw);go_simp
  all_goals with_reducible rfl
 ·exact fun _ _ _ h=>h
 try simp only [Act.put,Lq1,Lq2,Lq3]
 refine Tkq 18 (v:=?_) (by assumption) ?_ ?_ ?_
 rotate_left 1
 ·refine .inl ⟨by rfl,?_⟩;intro w hSw;(try dsimp only at hSw);go_simp
  all_goals with_reducible rfl
 ·exact fun _ _ _ h=>h
 try simp only [Act.put,Lq1,Lq2,Lq3]
 refine Tkq 19 (v:=?_) (by assumption) ?_ ?_ ?_
 rotate_left 1
 ·refine .inl ⟨by rfl,?_⟩;intro w hSw;(try dsimp only at hSw);go_simp
  all_goals with_reducible rfl
 ·exact fun _ _ _ h=>h
 try simp only [Act.put,Lq1,Lq2,Lq3]
 refine Tkq 20 (v:=?_) (by assumption) ?_ ?_ ?_
 rotate_left 1
 ·refine .inl ⟨by rfl,?_⟩;intro w hSw;(try dsimp only at hSw);go_simp
  all_goals with_reducible rfl
 ·exact fun _ _ _ h=>h
 try simp only [Act.put,Lq1,Lq2,Lq3]
 refine Tkq 21 (v:=?_) (by assumption) ?_ ?_ ?_
 rotate_left 1
 ·refine .inl ⟨by rfl,?_⟩;intro w hSw;(try dsimp only at hSw);go_simp
  all_goals with_reducible rfl
 ·exact fun _ _ _ h=>h
 try simp only [Act.put,Lq1,Lq2,Lq3]
 refine Tkq 22 (v:=?_) (by assumption) ?_ ?_ ?_
 rotate_left 1
 ·refine .inl ⟨by rfl,?_⟩;intro w hSw;(try dsimp only at hSw);go_simp
  all_goals with_reducible rfl
 ·exact fun _ _ _ h=>h
 try simp only [Act.put,Lq1,Lq2,Lq3]
 refine Tkq 23 (v:=?_) (by assumption) ?_ ?_ ?_
 rotate_left 1
 ·refine .inl ⟨by rfl,?_⟩;intro w hSw;(try dsimp only at hSw);go_simp
  all_goals with_reducible rfl
 ·exact fun _ _ _ h=>h
 try simp only [Act.put,Lq1,Lq2,Lq3]
 refine Tkq 24 (v:=?_) (by assumption) ?_ ?_ ?_
 rotate_left 1
 ·refine .inl ⟨by rfl,?_⟩;intro w hSw;(try dsimp only at hSw);go_simp
  all_goals with_reducible rfl
 ·exact fun _ _ _ h=>h
 try simp only [Act.put,Lq1,Lq2,Lq3]
 refine Tkq 25 (v:=?_) (by assumption) ?_ ?_ ?_
 rotate_left 1
 ·refine .inl ⟨by rfl,?_⟩;intro w hSw;(try dsimp only at hSw);go_simp
  all_goals with_reducible rfl
 ·exact fun _ _ _ h=>h
 try simp only [Act.put,Lq1,Lq2,Lq3]
 refine Tkq 26 (v:=?_) (by assumption) ?_ ?_ ?_
 rotate_left 1
 ·refine .inl ⟨by rfl,?_⟩;intro w hSw;(try dsimp only at hSw);go_simp
  all_goals with_reducible rfl
 ·exact fun _ _ _ h=>h
 try simp only [Act.put,Lq1,Lq2,Lq3]
 refine Tkq 27 (v:=?_) (by assumption) ?_ ?_ ?_
 rotate_left 1
 ·refine .inl ⟨by rfl,?_⟩;intro w hSw;(try dsimp only at hSw);go_simp
  all_goals with_reducible rfl
 ·exact fun _ _ _ h=>h
 try simp only [Act.put,Lq1,Lq2,Lq3]
 refine Tkq 28 (v:=?_) (by assumption) ?_ ?_ ?_
 rotate_left 1
 ·refine .inl ⟨by rfl,?_⟩;intro w hSw;(try dsimp only at hSw);go_simp
  all_goals with_reducible rfl
 ·exact fun _ _ _ h=>h
 try simp only [Act.put,Lq1,Lq2,Lq3]
 refine Tkq 29 (v:=?_) (by assumption) ?_ ?_ ?_
 rotate_left 1
 ·refine .inl ⟨by rfl,?_⟩;intro w hSw;(try dsimp only at hSw);go_simp
  all_goals with_reducible rfl
 ·exact fun _ _ _ h=>h
 try simp only [Act.put,Lq1,Lq2,Lq3]
 refine Tkq 30 (v:=?_) (by assumption) ?_ ?_ ?_
 rotate_left 1
 ·refine .inl ⟨by rfl,?_⟩;intro w hSw;(try dsimp only at hSw);go_simp
  all_goals with_reducible rfl
 ·exact fun _ _ _ h=>h
 try simp only [Act.put,Lq1,Lq2,Lq3]
 refine Tkq 31 (v:=?_) (by assumption) ?_ ?_ ?_
 rotate_left 1
 ·refine .inl ⟨by rfl,?_⟩;intro w hSw;(try dsimp only at hSw);go_simp
  all_goals with_reducible rfl
 ·exact fun _ _ _ h=>h
 try simp only [Act.put,Lq1,Lq2,Lq3]
 refine Tkq 32 (v:=?_) (by assumption) ?_ ?_ ?_
 rotate_left 1
 ·refine .inl ⟨by rfl,?_⟩;intro w hSw;(try dsimp only at hSw);go_simp
  all_goals with_reducible rfl
 ·exact fun _ _ _ h=>h
 try simp only [Act.put,Lq1,Lq2,Lq3]
 refine Tkq 33 (v:=?_) (by assumption) ?_ ?_ ?_
 rotate_left 1
 ·refine .inl ⟨by rfl,?_⟩;intro w hSw;(try dsimp only at hSw);go_simp
  all_goals with_reducible rfl
 ·exact fun _ _ _ h=>h
 try simp only [Act.put,Lq1,Lq2,Lq3]
 refine Tkq 34 (v:=?_) (by assumption) ?_ ?_ ?_
 rotate_left 1
 ·refine .inl ⟨by rfl,?_⟩;intro w hSw;(try dsimp only at hSw);go_simp
  all_goals with_reducible rfl
 ·exact fun _ _ _ h=>h
 try simp only [Act.put,Lq1,Lq2,Lq3]
 refine Tkq 35 (v:=?_) (by assumption) ?_ ?_ ?_
 rotate_left 1
 ·refine .inl ⟨by rfl,?_⟩;intro w hSw;(try dsimp only at hSw);go_simp
  all_goals with_reducible rfl
 ·exact fun _ _ _ h=>h
 try simp only [Act.put,Lq1,Lq2,Lq3]
 refine Tkq 36 (v:=?_) (by assumption) ?_ ?_ ?_
 rotate_left 1
 ·refine .inl ⟨by rfl,?_⟩;intro w hSw;(try dsimp only at hSw);go_simp
  all_goals with_reducible rfl
 ·exact fun _ _ _ h=>h
 try simp only [Act.put,Lq1,Lq2,Lq3]
 refine Tkq 37 (v:=?_) (by assumption) ?_ ?_ ?_
 rotate_left 1
 ·refine .inl ⟨by rfl,?_⟩;intro w hSw;(try dsimp only at hSw);go_simp
  all_goals with_reducible rfl
 ·exact fun _ _ _ h=>h
 try simp only [Act.put,Lq1,Lq2,Lq3]
 refine Tkq 38 (v:=?_) (by assumption) ?_ ?_ ?_
 rotate_left 1
 ·refine .inl ⟨by rfl,?_⟩;intro w hSw;(try dsimp only at hSw);go_simp
  all_goals with_reducible rfl
 ·exact fun _ _ _ h=>h
 try simp only [Act.put,Lq1,Lq2,Lq3]
 refine Tkq 39 (v:=?_) (by assumption) ?_ ?_ ?_
 rotate_left 1
 ·refine .inl ⟨by rfl,?_⟩;intro w hSw;(try dsimp only at hSw);go_simp
  all_goals with_reducible rfl
 ·exact fun _ _ _ h=>h
 try simp only [Act.put,Lq1,Lq2,Lq3]
 refine wpAnyH_done (by kernel_rfl) ?_ _
 go_wp2_with fail
 go_ret
 exact ⟨rfl,M12.out.trans M13.out (by simp)⟩
open Go.ChangeShapes Go.WideShapes Go.ChangeAt Go.RowKit
theorem gTabV : Tryd.prog.globalNamed "internal/strconv.uint64pow10" = some 2 := by kernel_rfl
theorem gRngV : Tryd.prog.globalNamed "strconv.ErrRange" = some 1 := by kernel_rfl
theorem gSynW : Tryd.prog.globalNamed "strconv.ErrSyntax" = some 0 := by kernel_rfl
theorem tRngV:(Tryd.prog.globals[1]?).map (·.type)=some 68:=by kernel_rfl
theorem tSynV:(Tryd.prog.globals[0]?).map (·.type)=some 68:=by kernel_rfl
theorem tTabV:(Tryd.prog.globals[2]?).map (·.type)=some 134:=by kernel_rfl
theorem starEV : "*" ++ "errors.errorString" = "*errors.errorString" := by decide
theorem rowEV (u : TypeId) (h : Tryd.prog.typeName? 3 u = some "*errors.errorString") : u = 129 :=
 typeName_ptr_named (nm := "errors.errorString") (by rw [starEV]; kernel_rfl) (by kernel_rfl) (by decide) u (by rw [starEV]; exact h)
theorem exists_list {α:Type} (P:Nat->α->Prop):∀ (n:Nat),(∀ i,i<n->∃ x,P i x)->∃ xs:List α,xs.length=n/\∀ i (hi:i<xs.length),P i xs[i]
 | 0,_=>⟨[],rfl,fun i hi=>by simp at hi⟩
 | n+1,h=>by
  obtain ⟨xs,hl,hp⟩:=exists_list P n (fun i hi=>h i (by omega))
  obtain ⟨x,hx⟩:=h n (by omega)
  refine ⟨xs++[x],by simp [hl],fun i hi=>?_⟩
  by_cases e:i<xs.length
  ·rw [List.getElem_append_left e];exact hp i e
  ·have:i=n:=by simp at hi;omega
   subst this
   have e2:(xs++[x])[i]=x:=by
    rw [List.getElem_append_right (by omega)];simp [hl]
   rw [e2];exact hx
theorem add_plain (b o k:Nat):(⟨b,o,none⟩:Addr).add k=⟨b,o+k,none⟩:=by
 simp [Addr.add]
def rowVals (ts:List Va.Val):List Value:=ts.flatMap fun v=>(valV v).toList
theorem rowVals_cons (v:Va.Val) (ts:List Va.Val):rowVals (v :: ts)=.int .i64 v.k :: .int .i64 v.n :: .string (Lx.ofS v.s) :: rowVals ts:=rfl
theorem rowVals_len:∀ ts:List Va.Val,(rowVals ts).length=ts.length * 3
 | []=>rfl
 | v :: ts=>by rw [rowVals_cons];simp only [List.length_cons];rw [rowVals_len ts];omega
theorem rowVals_get:∀ (ts:List Va.Val) (i:Nat) (h:i<ts.length),(rowVals ts)[i * 3]?=some (.int .i64 ts[i].k)/\(rowVals ts)[i * 3+1]?=some (.int .i64 ts[i].n)/\(rowVals ts)[i * 3+2]?=some (.string (Lx.ofS ts[i].s))
 | v :: ts,0,_=>⟨rfl,rfl,rfl⟩
 | v :: ts,i+1,h=>by
  have ih:=rowVals_get ts i (by simpa using h)
  rw [rowVals_cons,show (i+1) * 3=i * 3+1+1+1 by omega]
  simpa using ih
theorem VRow.src {w:World} {b off c:Nat} {ts:List Va.Val} (h:∀ i (h:i<ts.length),ValAt w b (off+i * 3) ts[i]) (j:Nat) (u:Value) (hu:(rowVals ts)[j]?=some u):w.cell? ((⟨b,off,none⟩:Addr).add j)=some u:=by
 have hj:j<ts.length * 3:=by
  obtain ⟨hh,-⟩:=List.getElem?_eq_some_iff.1 hu
  rwa [rowVals_len] at hh
 have hi:j / 3<ts.length:=by omega
 obtain ⟨h0,h1,h2⟩:=rowVals_get ts (j / 3) hi
 obtain ⟨c0,c1,c2⟩:=h (j / 3) hi
 rw [Addr.add_lit]
 generalize ts[j / 3]=x at *
 have h3:j % 3=0\/j % 3=1\/j % 3=2:=by omega
 rcases h3 with e | e | e
 ·have e':j=j / 3 * 3:=by omega
  rw [e',h0] at hu
  obtain rfl:=Option.some.inj hu
  rw [e'];exact c0
 ·have e':j=j / 3 * 3+1:=by omega
  rw [e',h1] at hu
  obtain rfl:=Option.some.inj hu
  rw [e'];exact c1
 ·have e':j=j / 3 * 3+2:=by omega
  rw [e',h2] at hu
  obtain rfl:=Option.some.inj hu
  rw [e'];exact c2
/-- copy, of elements of k cells -/
theorem run_copy_rowk {P:Program} (w:World) (dT sT ty elem:TypeId) (k g o dLen dCap:Nat) (a:Addr) (sLen sCap:Nat) (cur:Array Value) (t:TypeId) (cs:List Value)
  (hu:P.underlying dT=some (.slice elem)) (hs:(P.info? elem).map (·.size)=some k)
  (hg:w.heap[g]?=some (.cells cur t (0,0))) (hn:cs.length=Nat.min sLen dLen * k)
  (hsrc:∀ j v,cs[j]?=some v->w.cell? (a.add j)=some v) (hfit:o+cs.length<=cur.size) (h1:∀ v∈cs,v.oneCell'=true) :
  (Builtin.copy_ #[dT,sT] ty #[.slice (some ⟨g,o,none⟩) dLen dCap,.slice (some a) sLen sCap]).run P w =
   .ok (goInt (Nat.min sLen dLen)) (w.setRow g (cur.toList.take o++cs++cur.toList.drop (o+cs.length)).toArray):=by
 have hl:=run_loadCells_list (P:=P) w a cs hsrc
 have hst:=run_storeCells_at P g o t cs 0 cur w hg (by simpa using hfit) h1
 cases hq:P.info? elem with
 | none=>simp [hq] at hs
 | some i =>
  have hi:i.size=k:=by simpa [hq] using hs
  simp [Builtin.copy_,run_underlying hu,Builtin.lenOf,Builtin.firstCells,sizeOf,typeInfo,hq,hi,<-hn,hl,hst]
theorem run_copy_nonek {P:Program} (w:World) (dT sT ty elem:TypeId) (k:Nat) (d a:Option Addr) (dLen dCap sLen sCap:Nat) (hu:P.underlying dT=some (.slice elem)) (hs:(P.info? elem).map (·.size)=some k) (hn:Nat.min sLen dLen=0) :
  (Builtin.copy_ #[dT,sT] ty #[.slice d dLen dCap,.slice a sLen sCap]).run P w=.ok (goInt 0) w:=by
 cases hq:P.info? elem with
 | none=>simp [hq] at hs
 | some i =>
  have hl:∀ (x:Addr),(loadCells x 0).run P w=.ok #[] w:=fun x=>by simpa using run_loadCells_list (P:=P) w x [] (by simp)
  cases d <;> cases a <;> simp [Builtin.copy_,run_underlying hu,Builtin.lenOf,Builtin.firstCells,sizeOf,typeInfo,hq,hn,storeCells,hl]
theorem val_ext {x y:Va.Val} (h1:x.k=y.k) (h2:x.n=y.n) (h3:x.s=y.s):x=y:=by
 obtain ⟨a,b,c⟩:=x;obtain ⟨d,e,f⟩:=y;simp_all
theorem ofS_inj {a b:List Nat} (ha:∀ c∈a,c<256) (hb:∀ c∈b,c<256) (h:Lx.ofS a=Lx.ofS b):a=b:=by
 rw [<-Lx.str_ofS ha,<-Lx.str_ofS hb,h]
theorem ofS_beq {a b:List Nat} (ha:∀ c∈a,c<256) (hb:∀ c∈b,c<256) (h:a≠b):((Lx.ofS a).toList == (Lx.ofS b).toList)=false:=by
 rw [str_beq,decide_eq_false (fun e=>h (ofS_inj ha hb e))]
set_option maxHeartbeats 1000000 in
theorem sameTuple_any (v u:Value) (xs ys:List Va.Val) (hx:∀ x∈xs,VB x) (hy:∀ y∈ys,VB y) (hl:xs.length<=140737488355328) (hl2:ys.length<=140737488355328) (w:World) (h:VRow w v xs) (h2:VRow w u ys) :
  Calls Tryd.prog 25 #[v,u] w fun e w'=>e=.returned (.bool (decide (xs=ys)))/\Mod [] w w':=by
 obtain ⟨a,c,rfl⟩:=h.lit
 obtain ⟨a2,c2,rfl⟩:=h2.lit
 by_cases hlen:xs.length=ys.length
 ·rw [<-hlen] at h2 ⊢
  have H:=Lib.hid h;have H2:=Lib.hid h2;have HLE:=Lib.hid hlen
  clear h h2 hl2
  go_enter Tryd.func25,Tryd.ntmps25
  go_wp2_with fail
  go_loopw [5] (fun iv wr=>∃ k:Nat,k<=xs.length/\iv=.int .i64 (k:Nat)/\xs.take k=ys.take k/\Mod [] w wr) (fun iv _=>xs.length - (intOf iv).toNat)
  case atStart=>exact ⟨0,Nat.zero_le _,rfl,rfl,Mod.refl _ _⟩
  case round =>
   obtain ⟨k,hk,rfl,hal,hmr⟩:=hrel
   by_cases hlt:k<xs.length
   ·have hlt2:k<ys.length:=by have:=HLE.out;omega
    have hkI:(k:Int)<(xs.length:Int):=by omega
    have hk0:(0:Int)<=(k:Int):=by omega
    obtain ⟨b,off,rfl,hv⟩:=(H.out.past hmr (by simp)).at k hlt
    have hrow2:=H2.out.past hmr (by simp)
    rw [HLE.out] at hrow2
    obtain ⟨b2,off2,rfl,hv2⟩:=hrow2.at k hlt2
    obtain ⟨c00,c01,c02⟩:=hv
    obtain ⟨c10,c11,c12⟩:=hv2
    have hsn:xs[k]=ys[k]->xs.take (k+1)=ys.take (k+1):=fun e=>by
     rw [List.take_succ_eq_append_getElem hlt,List.take_succ_eq_append_getElem hlt2,hal,e]
    have hno:xs[k]≠ys[k]->decide (xs=ys)=false:=fun e=>decide_eq_false (fun e'=>e (by subst e';rfl))
    have hxk:=hx _ (List.getElem_mem hlt)
    have hyk:=hy _ (List.getElem_mem hlt2)
    generalize xs[k]=x at *
    generalize ys[k]=y at *
    by_cases e:x=y
    ·have HS:=Hxq (hsn e)
     subst e
     clear hsn hno hxk hyk hal
     go_wp2_with fail
     go_quiet (fail)
     go_wp2_with fail
     go_roundw
     case rel=>exact ⟨k+1,by omega,by go_num,HS.out,by first | exact hmr.drewN _ | exact hmr.drew | exact hmr⟩
     case measure=>simp [intOf];omega
    ·have HN:=Hxq (hno e)
     have hne:¬ (x.k=y.k/\x.n=y.n/\x.s=y.s):=fun hh=>e (val_ext hh.1 hh.2.1 hh.2.2)
     clear hsn hno hal e
     by_cases e1:x.k=y.k
     ·by_cases e2:x.n=y.n
      ·have e3:=ofS_beq hxk hyk (fun e3=>hne ⟨e1,e2,e3⟩)
       rw [<-e1] at c10
       rw [<-e2] at c11
       clear e1 e2 hne hxk hyk
       go_wp2_with fail
       go_quiet (fail)
       go_wp2_with fail
       go_ret
       exact ⟨by rw [HN.out];rfl,by first | exact hmr.drewN _ | exact hmr.drew | exact hmr⟩
      ·have e3:(x.n == y.n)=false:=by rw [beq_eq_false_iff_ne];exact e2
       rw [<-e1] at c10
       clear e1 hne hxk hyk
       go_wp2_with fail
       go_quiet (fail)
       go_wp2_with fail
       go_ret
       exact ⟨by rw [HN.out];rfl,by first | exact hmr.drewN _ | exact hmr.drew | exact hmr⟩
     ·have e3:(x.k == y.k)=false:=by rw [beq_eq_false_iff_ne];exact e1
      clear hne hxk hyk
      go_wp2_with fail
      go_quiet (fail)
      go_wp2_with fail
      go_ret
      exact ⟨by rw [HN.out];rfl,by first | exact hmr.drewN _ | exact hmr.drew | exact hmr⟩
   ·obtain rfl:k=xs.length:=by omega
    have hkI:¬ (xs.length:Int)<(xs.length:Int):=by omega
    have HA:=Hxq (show decide (xs=ys)=true from decide_eq_true (by have h1:=hal;rw [List.take_length,List.take_of_length_le (by have:=HLE.out;omega)] at h1;exact h1))
    clear hal
    go_wp2_with fail
    go_ret
    exact ⟨by rw [HA.out];rfl,hmr⟩
 ·have hne:((xs.length:Int) == (ys.length:Int))=false:=by rw [beq_eq_false_iff_ne];omega
  have hneI:¬ ((xs.length:Int)=(ys.length:Int)):=by omega
  have HN:=Hxq (show decide (xs=ys)=false from decide_eq_false (fun e=>hlen (by rw [e])))
  clear h h2 hlen
  go_enter Tryd.func25,Tryd.ntmps25
  go_wp2_with fail
  go_ret
  exact ⟨by rw [HN.out];rfl,Mod.refl _ _⟩
end Go.Proofs.YtcalbbfkgdfidaaDoor
namespace Go.Proofs.YtcalbbfkgdfidaaDoor.Va
set_option linter.unusedSimpArgs false
set_option linter.unusedVariables false
/-- a comparison that is an order -/
structure Ord3 {α:Type} (f:α->α->Int):Prop where
 rng:∀ a b,f a b=-1\/f a b=0\/f a b=1
 anti:∀ a b,f b a=- f a b
 zero:∀ a b,f a b=0 ↔ a=b
 trans:∀ a b c,f a b<=0->f b c<=0->f a c<=0
def orI (a b:Int):Int:=if a=0 then b else a
theorem Ord3.self {α:Type} {f:α->α->Int} (h:Ord3 f) (a:α):f a a=0:=(h.zero a a).2 rfl
/-- two in a row -/
theorem Ord3.strict {α:Type} {f:α->α->Int} (h:Ord3 f) {a b c:α} (h1:f a b=-1) (h2:f b c<=0):f a c=-1:=by
 have h3:=h.trans a b c (by omega) h2
 rcases h.rng a c with e | e | e
 ·exact e
 ·obtain rfl:=(h.zero a c).1 e
  have:=h.anti a b
  omega
 ·omega
theorem Ord3.prod {α β:Type} {f:α->α->Int} {g:β->β->Int} (hf:Ord3 f) (hg:Ord3 g):Ord3 (fun (x y:α × β)=>orI (f x.1 y.1) (g x.2 y.2)) where
 rng a b:=by
  unfold orI;split
  ·exact hg.rng _ _
  ·exact hf.rng _ _
 anti a b:=by
  have h1:=hf.anti a.1 b.1
  have h2:=hg.anti a.2 b.2
  simp only [orI]
  by_cases e:f a.1 b.1=0
  ·rw [if_pos e,if_pos (by omega),h2]
  ·rw [if_neg e,if_neg (by omega),h1]
 zero a b:=by
  simp only [orI]
  by_cases e:f a.1 b.1=0
  ·rw [if_pos e,hg.zero]
   have:=(hf.zero _ _).1 e
   constructor
   ·intro h;exact Prod.ext this h
   ·rintro rfl;rfl
  ·rw [if_neg e]
   constructor
   ·intro h;exact absurd h e
   ·rintro rfl;exact absurd (hf.self _) e
 trans a b c:=by
  simp only [orI]
  intro h1 h2
  by_cases e1:f a.1 b.1=0
  ·rw [if_pos e1] at h1
   have e:=(hf.zero _ _).1 e1
   rw [e]
   by_cases e2:f b.1 c.1=0
   ·rw [if_pos e2] at h2 ⊢
    exact hg.trans _ _ _ h1 h2
   ·rw [if_neg e2] at h2 ⊢
    exact h2
  ·rw [if_neg e1] at h1
   have e1':f a.1 b.1=-1:=by rcases hf.rng a.1 b.1 with h | h | h <;> omega
   have e3:f a.1 c.1=-1:=by
    by_cases e2:f b.1 c.1=0
    ·rw [<-(hf.zero _ _).1 e2];exact e1'
    ·rw [if_neg e2] at h2
     exact hf.strict e1' h2
   rw [e3,if_neg (by decide)];decide
/-- lists, by their first difference -/
def lexi {α:Type} (f:α->α->Int):List α->List α->Int
 | [],[]=>0
 | [],_ :: _=>-1
 | _ :: _,[]=>1
 | x :: xs,y :: ys=>orI (f x y) (lexi f xs ys)
theorem Ord3.lexi {α:Type} {f:α->α->Int} (hf:Ord3 f):Ord3 (lexi f) where
 rng:=by
  intro a
  induction a with
  | nil=>intro b;cases b <;> simp [Va.lexi]
  | cons x xs ih =>
   intro b
   cases b with
   | nil=>simp [Va.lexi]
   | cons y ys =>
    simp only [Va.lexi,orI];split
    ·exact ih ys
    ·exact hf.rng _ _
 anti:=by
  intro a
  induction a with
  | nil=>intro b;cases b <;> simp [Va.lexi]
  | cons x xs ih =>
   intro b
   cases b with
   | nil=>simp [Va.lexi]
   | cons y ys =>
    have h1:=hf.anti x y
    simp only [Va.lexi,orI]
    by_cases e:f x y=0
    ·rw [if_pos e,if_pos (by omega),ih]
    ·rw [if_neg e,if_neg (by omega),h1]
 zero:=by
  intro a
  induction a with
  | nil=>intro b;cases b <;> simp [Va.lexi]
  | cons x xs ih =>
   intro b
   cases b with
   | nil=>simp [Va.lexi]
   | cons y ys =>
    simp only [Va.lexi,orI,List.cons.injEq]
    by_cases e:f x y=0
    ·rw [if_pos e,ih]
     exact ⟨fun h=>⟨(hf.zero _ _).1 e,h⟩,fun h=>h.2⟩
    ·rw [if_neg e]
     exact ⟨fun h=>absurd h e,fun h=>(hf.zero _ _).2 h.1⟩
 trans:=by
  intro a
  induction a with
  | nil=>intro b c;cases b <;> cases c <;> simp [Va.lexi]
  | cons x xs ih =>
   intro b c
   cases b with
   | nil=>simp [Va.lexi]
   | cons y ys =>
    cases c with
    | nil=>simp [Va.lexi]
    | cons z zs =>
     simp only [Va.lexi,orI]
     intro h1 h2
     by_cases e1:f x y=0
     ·rw [if_pos e1] at h1
      have e:=(hf.zero _ _).1 e1
      rw [e]
      by_cases e2:f y z=0
      ·rw [if_pos e2] at h2 ⊢
       exact ih _ _ h1 h2
      ·rw [if_neg e2] at h2 ⊢
       exact h2
     ·rw [if_neg e1] at h1
      have e1':f x y=-1:=by rcases hf.rng x y with h | h | h <;> omega
      have e3:f x z=-1:=by
       by_cases e2:f y z=0
       ·rw [<-(hf.zero _ _).1 e2];exact e1'
       ·rw [if_neg e2] at h2
        exact hf.strict e1' h2
      rw [e3,if_neg (by decide)];decide
def cmpI (a b:Int):Int:=if a<b then -1 else if b<a then 1 else 0
theorem ordI:Ord3 cmpI where
 rng a b:=by unfold cmpI;split;simp;split <;> simp
 anti a b:=by unfold cmpI;split <;> split <;> simp <;> omega
 zero a b:=by unfold cmpI;split;simp;omega;split;simp;omega;simp;omega
 trans a b c:=by unfold cmpI;intro h1 h2;split;decide;split;(exfalso;split at h1 <;> split at h2 <;> simp_all <;> omega);decide
def cmpN (a b:Nat):Int:=cmpI a b
theorem ordN:Ord3 cmpN where
 rng a b:=ordI.rng _ _
 anti a b:=ordI.anti _ _
 zero a b:=(ordI.zero _ _).trans (by omega)
 trans a b c:=ordI.trans _ _ _
/-- texts -/
def cmpS:List Nat->List Nat->Int:=lexi cmpN
theorem ordS:Ord3 cmpS:=ordN.lexi
/-- values -/
def cmpV (x y:Val):Int:=orI (cmpI x.k y.k) (orI (cmpI x.n y.n) (cmpS x.s y.s))
theorem ordV:Ord3 cmpV:=by
 have h:=ordI.prod (ordI.prod ordS)
 constructor
 ·intro a b;exact h.rng (a.k,a.n,a.s) (b.k,b.n,b.s)
 ·intro a b;exact h.anti (a.k,a.n,a.s) (b.k,b.n,b.s)
 ·intro a b
  refine (h.zero (a.k,a.n,a.s) (b.k,b.n,b.s)).trans ?_
  obtain ⟨a1,a2,a3⟩:=a;obtain ⟨b1,b2,b3⟩:=b
  simp
 ·intro a b c;exact h.trans (a.k,a.n,a.s) (b.k,b.n,b.s) (c.k,c.n,c.s)
/-- tuples, facts -/
def cmpT:List Val->List Val->Int:=lexi cmpV
theorem ordT:Ord3 cmpT:=ordV.lexi
def cmpF (x y:List Nat × List Val):Int:=orI (cmpS x.1 y.1) (cmpT x.2 y.2)
theorem ordF:Ord3 cmpF:=ordS.prod ordT
/-- what the loops know: the first k places agree -/
theorem lexi_drop {α:Type} {f:α->α->Int} (h0:∀ x,f x x=0):∀ (k:Nat) (a b:List α),k<=a.length->k<=b.length->a.take k=b.take k->lexi f a b=lexi f (a.drop k) (b.drop k)
 | 0,a,b,_,_,_=>rfl
 | k+1,x :: a,y :: b,h1,h2,h=>by
  simp only [List.take_succ_cons,List.cons.injEq] at h
  obtain ⟨rfl,h⟩:=h
  simp only [lexi,orI,List.drop_succ_cons]
  rw [if_pos (h0 x)]
  exact lexi_drop h0 k a b (by simpa using h1) (by simpa using h2) h
 | k+1,[],b,h1,_,_=>by simp at h1
 | k+1,x :: a,[],_,h2,_=>by simp at h2
theorem lexi_at {α:Type} {f:α->α->Int} (h0:∀ x,f x x=0) (k:Nat) (a b:List α) (h1:k<a.length) (h2:k<b.length) (h:a.take k=b.take k) (hne:f a[k] b[k]≠0):lexi f a b=f a[k] b[k]:=by
 rw [lexi_drop h0 k a b (by omega) (by omega) h,List.drop_eq_getElem_cons h1,List.drop_eq_getElem_cons h2]
 simp only [lexi,orI]
 rw [if_neg hne]
theorem lexi_end {α:Type} {f:α->α->Int} (h0:∀ x,f x x=0) (k:Nat) (a b:List α) (h1:k<=a.length) (h2:k<=b.length) (h:a.take k=b.take k) (he:k=a.length\/k=b.length):lexi f a b=cmpI a.length b.length:=by
 rw [lexi_drop h0 k a b h1 h2 h]
 rcases he with he | he
 ·rw [List.drop_of_length_le (by omega:a.length<=k)]
  cases hb:b.drop k with
  | nil =>
   have:b.length<=k:=by simpa using hb
   simp [lexi,cmpI];omega
  | cons y ys =>
   have:k<b.length:=by
    have:=congrArg List.length hb
    simp at this;omega
   simp [lexi,cmpI];omega
 ·rw [List.drop_of_length_le (by omega:b.length<=k)]
  cases hb:a.drop k with
  | nil =>
   have:a.length<=k:=by simpa using hb
   simp [lexi,cmpI];omega
  | cons y ys =>
   have:k<a.length:=by
    have:=congrArg List.length hb
    simp at this;omega
   simp [lexi,cmpI];omega
end Go.Proofs.YtcalbbfkgdfidaaDoor.Va
namespace Go.Proofs.YtcalbbfkgdfidaaDoor
open Go.RowKit
set_option linter.unusedVariables false
set_option linter.unusedSimpArgs false
set_option maxRecDepth 100000
def VL (v:Va.Val):Prop:=VB v/\v.s.length<=9223372036854775807
theorem bneI {a b:Int} (h:a≠b):(a != b)=true:=by rw [bne_iff_ne];exact h
/-- two boxes: two facts -/
structure FFBox (w:World) (b d:Nat) (r:ByteArray) (u:Value) (q:ByteArray) (v:Value):Prop where
 c0:w.cell? ⟨b,0,none⟩=some (.string r)
 c1:w.cell? ⟨b,1,none⟩=some u
 d0:w.cell? ⟨d,0,none⟩=some (.string q)
 d1:w.cell? ⟨d,1,none⟩=some v
theorem FFBox.past {w w':World} {b d:Nat} {r q:ByteArray} {u v:Value} (h:FFBox w b d r u q v) (hm:Mod [] w w'):FFBox w' b d r u q v :=
 ⟨hm.cell h.c0 (by simp),hm.cell h.c1 (by simp),hm.cell h.d0 (by simp),hm.cell h.d1 (by simp)⟩
theorem FFBox.new (w:World) (r:ByteArray) (u:Value) (q:ByteArray) (v:Value) (T1 T2:TypeId):FFBox ((w.alloc (Obj.cells #[.string r,u] T1)).alloc (Obj.cells #[.string q,v] T2)) w.heap.size (w.heap.size+1) r u q v:=by
 have h1:=two_at w (Obj.cells #[.string r,u] T1) (Obj.cells #[.string q,v] T2)
 have h2:=heap_alloc_new (w.alloc (Obj.cells #[.string r,u] T1)) (Obj.cells #[.string q,v] T2)
 have hs:(w.alloc (Obj.cells #[.string r,u] T1)).heap.size=w.heap.size+1:=by simp
 rw [hs] at h2
 constructor <;> simp only [World.cell?,h1,h2] <;> rfl
theorem SameFact_any (r q:ByteArray) (u v:Value) (xs ys:List Va.Val) (hx:∀ x∈xs,VB x) (hy:∀ y∈ys,VB y) (hl:xs.length<=140737488355328) (hl2:ys.length<=140737488355328) (w:World) (h:VRow w u xs) (h2:VRow w v ys) :
  Calls Tryd.prog 8 #[.agg #[.string r,u],.agg #[.string q,v]] w fun e w'=>e=.returned (.bool (decide (r=q) && decide (xs=ys)))/\Mod [] w w':=by
 have HS:=Hxq (fun w h h2=>sameTuple_any u v xs ys hx hy hl hl2 w h h2)
 have HR:=Lib.hid h;have HR2:=Lib.hid h2
 have HM0:=Hxq (((Mod.refl [] w).alloc (Obj.cells #[.string r,u] 26)).alloc (Obj.cells #[.string q,v] 26))
 clear h h2 hx hy
 have hsb:=str_beq r q
 generalize decide (xs=ys)=t at *
 by_cases e:r=q
 ·rw [decide_eq_true e] at hsb ⊢
  have hsb':=hsb
  clear hsb
  subst e
  go_enter Tryd.func8,Tryd.ntmps8
  go_wp2_with fail
  refine (HS.out _ (HR.out.past HM0.out (by simp)) (HR2.out.past HM0.out (by simp))).mono ?_
  rintro e w1 ⟨rfl,m1⟩
  go_wp2_with fail
  go_ret
  exact ⟨rfl,HM0.out.trans m1 (by simp)⟩
 ·rw [decide_eq_false e] at hsb ⊢
  clear e
  go_enter Tryd.func8,Tryd.ntmps8
  go_wp2_with fail
  go_ret
  exact ⟨rfl,HM0.out⟩
theorem rnum_any (a b:Int) (w:World):Calls Tryd.prog 61 #[.int .i64 a,.int .i64 b] w fun e w'=>e=.returned (.int .i64 (Va.cmpI a b))/\w'=w:=by
 have hc1:Hid (a<b->Va.cmpI a b=-1):=Hxq (fun h=>if_pos h)
 have hc2:Hid (¬ a<b->b<a->Va.cmpI a b=1):=Hxq (fun h k=>(if_neg h).trans (if_pos k))
 have hc3:Hid (¬ a<b->¬ b<a->Va.cmpI a b=0):=Hxq (fun h k=>(if_neg h).trans (if_neg k))
 by_cases h1:a<b
 ·go_enter Tryd.func61,Tryd.ntmps61
  go_wp2_with fail
  go_ret
  exact ⟨by rw [hc1.out h1];rfl,rfl⟩
 ·by_cases h2:b<a
  ·go_enter Tryd.func61,Tryd.ntmps61
   go_wp2_with fail
   go_ret
   exact ⟨by rw [hc2.out (by omega) h2];rfl,rfl⟩
  ·go_enter Tryd.func61,Tryd.ntmps61
   go_wp2_with fail
   go_ret
   exact ⟨by rw [hc3.out (by omega) (by omega)];rfl,rfl⟩
theorem byte_eq (s:ByteArray) (k:Nat) (hlt:k<s.size) (hltl:k<(Cod.str s).length):s[k].toNat=(Cod.str s)[k]:=by
 have:=Lx.get_str s k hlt
 rw [<-this,List.getD_eq_getElem?_getD,List.getElem?_eq_getElem hltl];rfl
set_option maxHeartbeats 2000000 in
theorem rtexts_any (a b:ByteArray) (ha:a.size<=9223372036854775807) (hb:b.size<=9223372036854775807) (w:World) :
  Calls Tryd.prog 44 #[.string a,.string b] w fun e w'=>e=.returned (.int .i64 (Va.cmpS (Cod.str a) (Cod.str b)))/\Mod [] w w':=by
 have hla:=Cod.str_len a
 have hlb:=Cod.str_len b
 have HN:=Hxq (fun w=>rnum_any (a.size:Int) (b.size:Int) w)
 go_enter Tryd.func44,Tryd.ntmps44
 go_wp2_with fail
 go_loopw [5] (fun iv wr=>∃ k:Nat,k<=a.size/\k<=b.size/\iv=.int .i64 (k:Nat)/\Mod [] w wr/\(Cod.str a).take k=(Cod.str b).take k) (fun iv _=>a.size - (intOf iv).toNat)
 case atStart=>exact ⟨0,by omega,by omega,rfl,Mod.refl _ _,rfl⟩
 case round =>
  obtain ⟨k,hk,hk2,rfl,hmr,hal⟩:=hrel
  by_cases hlt:k<a.size
  ·by_cases hlt2:k<b.size
   ·have hkI:(k:Int)<(a.size:Int):=by omega
    have hkJ:(k:Int)<(b.size:Int):=by omega
    have hk0:(0:Int)<=(k:Int):=by omega
    have hltl:k<(Cod.str a).length:=by omega
    have hltm:k<(Cod.str b).length:=by omega
    have hcd:=byte_eq a k hlt hltl
    have hce:=byte_eq b k hlt2 hltm
    have hsn:(Cod.str a)[k]=(Cod.str b)[k]->(Cod.str a).take (k+1)=(Cod.str b).take (k+1):=fun e=>by
     rw [List.take_succ_eq_append_getElem hltl,List.take_succ_eq_append_getElem hltm,hal,e]
    have hno:Va.cmpN (Cod.str a)[k] (Cod.str b)[k]≠0->Va.cmpS (Cod.str a) (Cod.str b)=Va.cmpN (Cod.str a)[k] (Cod.str b)[k]:=fun e=>Va.lexi_at Va.ordN.self k _ _ hltl hltm hal e
    generalize (Cod.str a)[k]=c at *
    generalize (Cod.str b)[k]=d at *
    have hcn:Va.cmpN c d=if (c:Int)<(d:Int) then -1 else if (d:Int)<(c:Int) then 1 else 0:=rfl
    by_cases h1:(c:Int)<(d:Int)
    ·rw [if_pos h1] at hcn
     have HE:=Hxq ((hno (by omega)).trans hcn)
     have HM:=Lib.hid hmr
     clear hno hsn hcn hal hmr
     go_wp2_with fail
     go_quiet (fail)
     go_wp2_with fail
     go_ret
     exact ⟨by rw [HE.out];rfl,by first | exact HM.out.drewN _ | exact HM.out.drew | exact HM.out⟩
    ·rw [if_neg h1] at hcn
     by_cases h2:(d:Int)<(c:Int)
     ·rw [if_pos h2] at hcn
      have HE:=Hxq ((hno (by omega)).trans hcn)
      have HM:=Lib.hid hmr
      clear hno hsn hcn hal hmr
      go_wp2_with fail
      go_quiet (fail)
      go_wp2_with fail
      go_quiet (fail)
      go_wp2_with fail
      go_ret
      exact ⟨by rw [HE.out];rfl,by first | exact (HM.out.drewN _).drewN _ | exact HM.out.drewN _ | exact HM.out.drew.drew | exact HM.out.drew | exact HM.out⟩
     ·have HS:=Hxq (hsn (by omega))
      have HM:=Lib.hid hmr
      clear hno hsn hcn hal hmr
      go_wp2_with fail
      go_quiet (fail)
      go_wp2_with fail
      go_quiet (fail)
      go_wp2_with fail
      go_roundw
      case rel=>exact ⟨k+1,by omega,by omega,by go_num,by first | exact (HM.out.drewN _).drewN _ | exact HM.out.drewN _ | exact HM.out.drew.drew | exact HM.out.drew | exact HM.out,HS.out⟩
      case measure=>simp [intOf];omega
   ·have hkI:(k:Int)<(a.size:Int):=by omega
    have hkJ:¬ (k:Int)<(b.size:Int):=by omega
    have HE:Hid (Va.cmpS (Cod.str a) (Cod.str b)=Va.cmpI a.size b.size):=Hxq (by have:=Va.lexi_end Va.ordN.self k _ _ (by omega) (by omega) hal (.inr (by omega));rw [hla,hlb] at this;exact this)
    have HM:=Lib.hid hmr
    clear hal hmr hla hlb
    go_wp2_with fail
    refine (HN.out _).mono ?_
    rintro e w1 ⟨rfl,rfl⟩
    go_wp2_with fail
    go_ret
    exact ⟨by rw [HE.out];rfl,HM.out⟩
  ·have hkI:¬ (k:Int)<(a.size:Int):=by omega
   have HE:Hid (Va.cmpS (Cod.str a) (Cod.str b)=Va.cmpI a.size b.size):=Hxq (by have:=Va.lexi_end Va.ordN.self k _ _ (by omega) (by omega) hal (.inl (by omega));rw [hla,hlb] at this;exact this)
   have HM:=Lib.hid hmr
   clear hal hmr hla hlb
   go_wp2_with fail
   refine (HN.out _).mono ?_
   rintro e w1 ⟨rfl,rfl⟩
   go_wp2_with fail
   go_ret
   exact ⟨by rw [HE.out];rfl,HM.out⟩
set_option maxHeartbeats 1000000 in
theorem rCompare_any (x y:Va.Val) (hx:VL x) (hy:VL y) (w:World) :
  Calls Tryd.prog 62 #[.agg (valV x),.agg (valV y)] w fun e w'=>e=.returned (.int .i64 (Va.cmpV x y))/\Mod [] w w':=by
 obtain ⟨k1,n1,s1⟩:=x
 obtain ⟨k2,n2,s2⟩:=y
 obtain ⟨hx1,hx2⟩:=hx
 obtain ⟨hy1,hy2⟩:=hy
 have h1:=fun w=>rnum_any k1 k2 w
 have h2:=fun w=>rnum_any n1 n2 w
 have h3:=fun w=>rtexts_any (Lx.ofS s1) (Lx.ofS s2) (by rw [ofS_size];exact hx2) (by rw [ofS_size];exact hy2) w
 rw [Lx.str_ofS hx1,Lx.str_ofS hy1] at h3
 have hE:Va.cmpV ⟨k1,n1,s1⟩ ⟨k2,n2,s2⟩=Va.orI (Va.cmpI k1 k2) (Va.orI (Va.cmpI n1 n2) (Va.cmpS s1 s2)):=rfl
 have HM0:=Hxq (((Mod.refl [] w).alloc (Obj.cells #[Value.int IntKind.i64 k1,Value.int IntKind.i64 n1,Value.string (Lx.ofS s1)] 44)).alloc (Obj.cells #[Value.int IntKind.i64 k2,Value.int IntKind.i64 n2,Value.string (Lx.ofS s2)] 44))
 have hxx:valV ⟨k1,n1,s1⟩=#[.int .i64 k1,.int .i64 n1,.string (Lx.ofS s1)]:=rfl
 have hyy:valV ⟨k2,n2,s2⟩=#[.int .i64 k2,.int .i64 n2,.string (Lx.ofS s2)]:=rfl
 rw [hxx,hyy]
 clear hxx hyy
 have H1:=Lib.hid h1;have H2:=Lib.hid h2;have H3:=Lib.hid h3
 clear h1 h2 h3
 by_cases e1:k1=k2
 ·subst e1
  have z1:=Va.ordI.self k1
  rw [show Va.orI (Va.cmpI k1 k1) (Va.orI (Va.cmpI n1 n2) (Va.cmpS s1 s2))=Va.orI (Va.cmpI n1 n2) (Va.cmpS s1 s2) from if_pos z1] at hE
  by_cases e2:n1=n2
  ·subst e2
   have z2:=Va.ordI.self n1
   rw [show Va.orI (Va.cmpI n1 n1) (Va.cmpS s1 s2)=Va.cmpS s1 s2 from if_pos z2] at hE
   have HE:=Lib.hid hE
   clear hE z1 z2
   go_enter Tryd.func62,Tryd.ntmps62
   go_wp2_with fail
   refine (H3.out _).mono ?_
   rintro e w1 ⟨rfl,m1⟩
   go_wp2_with fail
   go_ret
   exact ⟨by rw [HE.out];rfl,HM0.out.trans m1 (by simp)⟩
  ·have z2:Va.cmpI n1 n2≠0:=fun h=>e2 ((Va.ordI.zero _ _).1 h)
   rw [show Va.orI (Va.cmpI n1 n2) (Va.cmpS s1 s2)=Va.cmpI n1 n2 from if_neg z2] at hE
   have HE:=Lib.hid hE
   have nB:=bneI e2
   clear hE z1 z2
   go_enter Tryd.func62,Tryd.ntmps62
   go_wp2_with fail
   refine (H2.out _).mono ?_
   rintro e w1 ⟨rfl,rfl⟩
   go_wp2_with fail
   go_ret
   exact ⟨by rw [HE.out];rfl,HM0.out⟩
 ·have z1:Va.cmpI k1 k2≠0:=fun h=>e1 ((Va.ordI.zero _ _).1 h)
  rw [show Va.orI (Va.cmpI k1 k2) (Va.orI (Va.cmpI n1 n2) (Va.cmpS s1 s2))=Va.cmpI k1 k2 from if_neg z1] at hE
  have HE:=Lib.hid hE
  have nB:=bneI e1
  clear hE z1
  go_enter Tryd.func62,Tryd.ntmps62
  go_wp2_with fail
  refine (H1.out _).mono ?_
  rintro e w1 ⟨rfl,rfl⟩
  go_wp2_with fail
  go_ret
  exact ⟨by rw [HE.out];rfl,HM0.out⟩
set_option maxHeartbeats 2000000 in
theorem rCompareTuples_any (v u:Value) (xs ys:List Va.Val) (hx:∀ x∈xs,VL x) (hy:∀ y∈ys,VL y) (hl:xs.length<=140737488355328) (hl2:ys.length<=140737488355328) (w:World) (h:VRow w v xs) (h2:VRow w u ys) :
  Calls Tryd.prog 45 #[v,u] w fun e w'=>e=.returned (.int .i64 (Va.cmpT xs ys))/\Mod [] w w':=by
 obtain ⟨a,c,rfl⟩:=h.lit
 obtain ⟨a2,c2,rfl⟩:=h2.lit
 have H:=Lib.hid h;have H2:=Lib.hid h2
 have HN:=Hxq (fun w=>rnum_any (xs.length:Int) (ys.length:Int) w)
 clear h h2
 go_enter Tryd.func45,Tryd.ntmps45
 go_wp2_with fail
 go_loopw [5] (fun iv wr=>∃ k:Nat,k<=xs.length/\k<=ys.length/\iv=.int .i64 (k:Nat)/\Mod [] w wr/\xs.take k=ys.take k) (fun iv _=>xs.length - (intOf iv).toNat)
 case atStart=>exact ⟨0,by omega,by omega,rfl,Mod.refl _ _,rfl⟩
 case round =>
  obtain ⟨k,hk,hk2,rfl,hmr,hal⟩:=hrel
  by_cases hlt:k<xs.length
  ·by_cases hlt2:k<ys.length
   ·have hkI:(k:Int)<(xs.length:Int):=by omega
    have hkJ:(k:Int)<(ys.length:Int):=by omega
    have hk0:(0:Int)<=(k:Int):=by omega
    obtain ⟨b,off,rfl,hv⟩:=(H.out.past hmr (by simp)).at k hlt
    obtain ⟨b2,off2,rfl,hv2⟩:=(H2.out.past hmr (by simp)).at k hlt2
    obtain ⟨c00,c01,c02⟩:=hv
    obtain ⟨c10,c11,c12⟩:=hv2
    have hc:=fun w=>rCompare_any xs[k] ys[k] (hx _ (List.getElem_mem hlt)) (hy _ (List.getElem_mem hlt2)) w
    have hsn:Va.cmpV xs[k] ys[k]=0->xs.take (k+1)=ys.take (k+1):=fun e=>by
     rw [List.take_succ_eq_append_getElem hlt,List.take_succ_eq_append_getElem hlt2,hal,(Va.ordV.zero _ _).1 e]
    have hno:Va.cmpV xs[k] ys[k]≠0->Va.cmpT xs ys=Va.cmpV xs[k] ys[k]:=fun e=>Va.lexi_at Va.ordV.self k _ _ hlt hlt2 hal e
    unfold valV at hc
    generalize xs[k]=x at *
    generalize ys[k]=y at *
    generalize Va.cmpV x y=cv at *
    have HC:=Lib.hid hc
    have HM:=Lib.hid hmr
    clear hc hmr hal
    have HV:Hid (ValAt wr.drew b (off+k * 3) x):=Lib.hid ⟨(Mod.refl [] wr).drew.cell c00 (by simp),(Mod.refl [] wr).drew.cell c01 (by simp),(Mod.refl [] wr).drew.cell c02 (by simp)⟩
    have HV2:Hid (ValAt wr.drew b2 (off2+k * 3) y):=Lib.hid ⟨(Mod.refl [] wr).drew.cell c10 (by simp),(Mod.refl [] wr).drew.cell c11 (by simp),(Mod.refl [] wr).drew.cell c12 (by simp)⟩
    have HMD:=Hxq (HM.out.drew)
    go_wp2_with fail
    refine wp_region_held_drew (S:=(fun w':World=>w'.cell? ⟨b,off+k * 3,none⟩=some (.int .i64 x.k)/\w'.cell? ⟨b,off+k * 3+1,none⟩=some (.int .i64 x.n)/\w'.cell? ⟨b,off+k * 3+2,none⟩=some (.string (Lx.ofS x.s))/\w'.cell? ⟨b2,off2+k * 3,none⟩=some (.int .i64 y.k)/\w'.cell? ⟨b2,off2+k * 3+1,none⟩=some (.int .i64 y.n)/\w'.cell? ⟨b2,off2+k * 3+2,none⟩=some (.string (Lx.ofS y.s)))) (by kernel_rfl) (by (try dsimp only);exact ⟨HV.out.c0,HV.out.c1,HV.out.c2,HV2.out.c0,HV2.out.c1,HV2.out.c2⟩) (fun hHeld=>?_)
    refine Tkq 0 (v:=?_) (by assumption) ?_ ?_ ?_
    rotate_left 1
    ·refine .inl ⟨by rfl,?_⟩;intro w hSw;(try dsimp only at hSw);go_simp
     all_goals with_reducible rfl
    ·exact fun _ _ _ h=>h
    try simp only [Act.put,Lq1,Lq2,Lq3]
    refine Tkq 1 (v:=?_) (by assumption) ?_ ?_ ?_
    rotate_left 1
    ·refine .inl ⟨by rfl,?_⟩;intro w hSw;(try dsimp only at hSw);go_simp
     all_goals with_reducible rfl
    ·exact fun _ _ _ h=>h
    try simp only [Act.put,Lq1,Lq2,Lq3]
    refine Tkq 2 (v:=?_) (by assumption) ?_ ?_ ?_
    rotate_left 1
    ·refine .inl ⟨by rfl,?_⟩;intro w hSw;(try dsimp only at hSw);go_simp
     all_goals with_reducible rfl
    ·exact fun _ _ _ h=>h
    try simp only [Act.put,Lq1,Lq2,Lq3]
    refine Tkq 3 (v:=?_) (by assumption) ?_ ?_ ?_
    rotate_left 1
    ·refine .inl ⟨by rfl,?_⟩;intro w hSw;(try dsimp only at hSw);go_simp
     all_goals with_reducible rfl
    ·exact fun _ _ _ h=>h
    try simp only [Act.put,Lq1,Lq2,Lq3]
    refine Tkq 4 (v:=?_) (by assumption) ?_ ?_ ?_
    rotate_left 1
    ·refine .inl ⟨by rfl,?_⟩;intro w hSw;(try dsimp only at hSw);go_simp
     all_goals with_reducible rfl
    ·exact fun _ _ _ h=>h
    try simp only [Act.put,Lq1,Lq2,Lq3]
    refine Tkq 5 (v:=?_) (by assumption) ?_ ?_ ?_
    rotate_left 1
    ·refine .inl ⟨by rfl,?_⟩;intro w hSw;(try dsimp only at hSw);go_simp
     all_goals with_reducible rfl
    ·exact fun _ _ _ h=>h
    try simp only [Act.put,Lq1,Lq2,Lq3]
    refine Tkq 6 (v:=?_) (by assumption) ?_ ?_ ?_
    rotate_left 1
    ·refine .inl ⟨by rfl,?_⟩;intro w hSw;(try dsimp only at hSw);go_simp
     all_goals with_reducible rfl
    ·exact fun _ _ _ h=>h
    try simp only [Act.put,Lq1,Lq2,Lq3]
    refine Tkq 7 (v:=?_) (by assumption) ?_ ?_ ?_
    rotate_left 1
    ·refine .inl ⟨by rfl,?_⟩;intro w hSw;(try dsimp only at hSw);go_simp
     all_goals with_reducible rfl
    ·exact fun _ _ _ h=>h
    try simp only [Act.put,Lq1,Lq2,Lq3]
    refine wpAnyH_ready (rs:=[8]) (by kernel_rfl) (by simp) ?_
    refine AllReadyH.cons (o:=?_) ?_ ?_ AllReadyH.nil
    rotate_left 1
    ·(simp only [Gq1,Gq2,Gq3])<;>rfl
    intro K hK
    go_simp
    refine (HC.out _).mono ?_
    rintro e w1 ⟨rfl,m1⟩
    refine hK.out _ _ (by (try dsimp only);exact ⟨m1.cell HV.out.c0 (by simp),m1.cell HV.out.c1 (by simp),m1.cell HV.out.c2 (by simp),m1.cell HV2.out.c0 (by simp),m1.cell HV2.out.c1 (by simp),m1.cell HV2.out.c2 (by simp)⟩) (fun hHeld=>?_)
    clear hK K
    try simp only [Act.put,Lq1,Lq2,Lq3]
    refine Tkq 9 (v:=?_) (by assumption) ?_ ?_ ?_
    rotate_left 1
    ·refine .inl ⟨by rfl,?_⟩;intro w hSw;(try dsimp only at hSw);go_simp
     all_goals with_reducible rfl
    ·exact fun _ _ _ h=>h
    try simp only [Act.put,Lq1,Lq2,Lq3]
    refine wpAnyH_done (by kernel_rfl) ?_ _
    have M1:=Hxq (HMD.out.trans m1 (by simp))
    clear m1 hHeld
    by_cases e:cv=0
    ·have HS:=Hxq (hsn e)
     subst e
     clear hsn hno
     go_wp2_with fail
     go_roundw
     case rel=>exact ⟨k+1,by omega,by omega,by go_num,M1.out,HS.out⟩
     case measure=>simp [intOf];omega
    ·have HE:=Hxq (hno e)
     have nB:=bneI e
     clear hsn hno
     go_wp2_with fail
     go_ret
     exact ⟨by rw [HE.out];rfl,M1.out⟩
   ·have hkI:(k:Int)<(xs.length:Int):=by omega
    have hkJ:¬ (k:Int)<(ys.length:Int):=by omega
    have HE:Hid (Va.cmpT xs ys=Va.cmpI xs.length ys.length):=Hxq (Va.lexi_end Va.ordV.self k _ _ (by omega) (by omega) hal (.inr (by omega)))
    have HM:=Lib.hid hmr
    clear hal hmr
    go_wp2_with fail
    refine (HN.out _).mono ?_
    rintro e w1 ⟨rfl,rfl⟩
    go_wp2_with fail
    go_ret
    exact ⟨by rw [HE.out];rfl,HM.out⟩
  ·have hkI:¬ (k:Int)<(xs.length:Int):=by omega
   have HE:Hid (Va.cmpT xs ys=Va.cmpI xs.length ys.length):=Hxq (Va.lexi_end Va.ordV.self k _ _ (by omega) (by omega) hal (.inl (by omega)))
   have HM:=Lib.hid hmr
   clear hal hmr
   go_wp2_with fail
   refine (HN.out _).mono ?_
   rintro e w1 ⟨rfl,rfl⟩
   go_wp2_with fail
   go_ret
   exact ⟨by rw [HE.out];rfl,HM.out⟩
set_option maxHeartbeats 1000000 in
theorem rCompareFacts_any (r q:ByteArray) (u v:Value) (xs ys:List Va.Val) (hx:∀ x∈xs,VL x) (hy:∀ y∈ys,VL y) (hr:r.size<=140737488355328) (hq:q.size<=140737488355328) (hl:xs.length<=140737488355328) (hl2:ys.length<=140737488355328) (w:World) (h:VRow w u xs) (h2:VRow w v ys) :
  Calls Tryd.prog 24 #[.agg #[.string r,u],.agg #[.string q,v]] w fun e w'=>e=.returned (.int .i64 (Va.orI (Va.cmpS (Cod.str r) (Cod.str q)) (Va.cmpT xs ys)))/\Mod [] w w':=by
 have H1:=Hxq (fun w=>rtexts_any r q (by omega) (by omega) w)
 have HT:=Hxq (fun w h h2=>rCompareTuples_any u v xs ys hx hy hl hl2 w h h2)
 have HB0:=Hxq (FFBox.new w r u q v 26 26)
 have HM0:=Hxq (((Mod.refl [] w).alloc (Obj.cells #[.string r,u] 26)).alloc (Obj.cells #[.string q,v] 26))
 have HR:=Lib.hid h;have HR2:=Lib.hid h2
 clear h h2 hx hy
 generalize Va.cmpS (Cod.str r) (Cod.str q)=a1 at *
 generalize Va.cmpT xs ys=a2 at *
 by_cases e1:a1=0
 ·subst e1
  rw [show Va.orI 0 a2=a2 from rfl]
  go_enter Tryd.func24,Tryd.ntmps24
  go_wp2_with fail
  refine (H1.out _).mono ?_
  rintro e w1 ⟨rfl,m1⟩
  have M1:=Hxq (HM0.out.trans m1 (by simp))
  obtain ⟨c0,c1,d0,d1⟩:=HB0.out.past m1
  clear m1 HM0
  go_wp2_with fail
  refine (HT.out _ (HR.out.past M1.out (by simp)) (HR2.out.past M1.out (by simp))).mono ?_
  rintro e w2 ⟨rfl,m2⟩
  go_wp2_with fail
  go_ret
  exact ⟨rfl,M1.out.trans m2 (by simp)⟩
 ·have nB:=bneI e1
  rw [show Va.orI a1 a2=a1 from if_neg e1]
  go_enter Tryd.func24,Tryd.ntmps24
  go_wp2_with fail
  refine (H1.out _).mono ?_
  rintro e w1 ⟨rfl,m1⟩
  have M1:=Hxq (HM0.out.trans m1 (by simp))
  clear m1 HM0
  go_wp2_with fail
  go_ret
  exact ⟨rfl,M1.out⟩
open Go.RowKit Go.Sort Go.Lib
/-- a fact with a tag: its name, its values' slice, its values, its tag -/
structure Tgd where
 rel:ByteArray
 u:Value
 ts:List Va.Val
 tag:Int
/-- its values lie behind its slice -/
structure FOk (w:World) (t:Tgd):Prop where
 row:VRow w t.u t.ts
 vl:∀ x∈t.ts,VL x
 rs:t.rel.size<=140737488355328
 len:t.ts.length<=140737488355328
theorem FOk.past {S:List Nat} {w w':World} {t:Tgd} (h:FOk w t) (hm:Mod S w w') (hS:∀ s∈S,w.heap.size<=s):FOk w' t:=⟨h.row.past hm hS,h.vl,h.rs,h.len⟩
def fcmp (a b:Tgd):Int:=Va.orI (Va.cmpS (Cod.str a.rel) (Cod.str b.rel)) (Va.cmpT a.ts b.ts)
theorem fcmp_F (a b:Tgd):fcmp a b=Va.cmpF (Cod.str a.rel,a.ts) (Cod.str b.rel,b.ts):=rfl
def encG (T:Nat->Tgd) (i:Nat):List Value:=[.string (T i).rel,(T i).u,.int .i64 (T i).tag]
def cmpG (T:Nat->Tgd) (i j:Nat):Int:=fcmp (T i) (T j)
theorem encG_enc (T:Nat->Tgd) (hU:∀ i,∃ a n c,(T i).u=.slice a n c):Enc (encG T) 3:=⟨fun _=>rfl,fun x v hv=>by
 obtain ⟨a,n,c,hu⟩:=hU x
 simp only [encG,hu,List.mem_cons,List.not_mem_nil,or_false] at hv
 rcases hv with rfl | rfl | rfl <;> rfl⟩
theorem cmpG_ord (T:Nat->Tgd):So.Ord (cmpG T):=by
 refine ⟨fun x y=>?_,fun x y z h1 h2=>?_⟩
 ·have:=Va.ordF.anti (Cod.str (T x).rel,(T x).ts) (Cod.str (T y).rel,(T y).ts)
  simp only [cmpG,fcmp_F]
  omega
 ·exact Va.ordF.trans (Cod.str (T x).rel,(T x).ts) (Cod.str (T y).rel,(T y).ts) (Cod.str (T z).rel,(T z).ts) h1 h2
theorem fcmp_rng (a b:Tgd):fcmp a b=-1\/fcmp a b=0\/fcmp a b=1:=Va.ordF.rng (Cod.str a.rel,a.ts) (Cod.str b.rel,b.ts)
set_option maxHeartbeats 1000000 in
theorem byFact_any (a b:Tgd) (w:World) (ha:FOk w a) (hb:FOk w b) :
  Calls Tryd.prog 7 #[.agg #[.string a.rel,a.u,.int .i64 a.tag],.agg #[.string b.rel,b.u,.int .i64 b.tag]] w fun e w'=>e=.returned (.int .i64 (fcmp a b))/\Mod [] w w':=by
 obtain ⟨ra,ua,ta,ga⟩:=a
 obtain ⟨rb,ub,tb,gb⟩:=b
 have m1:=((Mod.refl [] w).alloc (Obj.cells #[.string ra,ua,.int .i64 ga] 28)).alloc (Obj.cells #[.string rb,ub,.int .i64 gb] 28)
 have HC:=Hxq (rCompareFacts_any ra rb ua ub ta tb ha.vl hb.vl ha.rs hb.rs ha.len hb.len _ (ha.row.past m1 (by simp)) (hb.row.past m1 (by simp)))
 have M1:=Lib.hid m1
 obtain ⟨a1,n1,e1⟩:=ha.row.lit
 obtain ⟨a2,n2,e2⟩:=hb.row.lit
 unfold fcmp
 simp only at e1 e2 HC ⊢
 subst e1 e2
 generalize Va.orI (Va.cmpS (Cod.str ra) (Cod.str rb)) (Va.cmpT ta tb)=r at *
 generalize ta.length=la at *
 generalize tb.length=lb at *
 clear ha hb m1
 go_enter Tryd.func7,Tryd.ntmps7
 go_wp2_with fail
 refine HC.out.mono ?_
 rintro e w2 ⟨rfl,m2⟩
 go_wp2_with fail
 go_ret
 exact ⟨rfl,M1.out.trans m2 (by simp)⟩
theorem cmpG_cmp (T:Nat->Tgd) (w0 W:World) (g:Nat) (hT:∀ i,FOk w0 (T i)) (hm:Mod [] w0 W) (hg:w0.heap.size<=g):CmpOk 7 (encG T) (cmpG T) W g:=by
 intro w' hm' x y
 have m2:Mod [g] w0 w':=(hm.mono (T:=[g]) (by simp)).trans hm' (fun t ht=>.inl ht)
 have hS:∀ s∈[g],w0.heap.size<=s:=fun s hs=>by rw [Msq] at hs;omega
 exact byFact_any (T x) (T y) w' ((hT x).past m2 hS) ((hT y).past m2 hS)
end Go.Proofs.YtcalbbfkgdfidaaDoor
