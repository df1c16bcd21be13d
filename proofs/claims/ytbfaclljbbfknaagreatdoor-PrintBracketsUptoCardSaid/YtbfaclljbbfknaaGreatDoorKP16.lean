/- THE TEXTS MERGED: SyAllL. -/
import Derived.Test.YtbfaclljbbfknaaGreatDoorKP15
namespace Go.Proofs.YtbfaclljbbfknaaGreatDoor
open Go.RowKit
set_option linter.unusedVariables false
set_option linter.unusedSimpArgs false
set_option maxRecDepth 100000
theorem sizeL:(Tryz.prog.info? 40).map (·.size)=some 30:=by kernel_rfl
theorem valL_cells {n:Nat} {a:Pr.Li} {w:World} {C:Array Value} (h:valL n a w (.agg C)):C.size=30/\C.toList.all (·.oneCell')=true:=by
 obtain ⟨U,h0,hb1⟩:=h
 simp only [Value.agg.injEq] at h0
 subst h0
 exact ⟨liV_len _ _,liV_all hb1⟩
theorem valL_keep {n m:Nat} {S:List Nat} {w w':World} {a:Pr.Li} {x:Value} (h:valL n a w x) (hm:Mod S w w') (hS:∀ s∈S,¬ n<=s) (hn:m<=n):valL m a w' x:=by
 obtain ⟨U,h0,hb1⟩:=h
 exact ⟨U,h0,(hb1.keep hm hS).mono (fun k hk _=>by omega)⟩
theorem buildL (p f:Value) (w:World) (hp:∃ x,p=.pointer x) (hf:f=.func (.func 17) #[] #[]):(Instr.build 87 #[(0,p),(1,f)]).run Tryz.prog w=.ok (.agg (#[p,f]++#[.int .i64 0,.string ⟨#[]⟩,.slice none 0 0,.int .i64 0,.int .i64 0,.string ⟨#[]⟩,.int .i64 0,.int .i64 0,.string ⟨#[]⟩,.int .i64 0,.slice none 0 0,.int .i64 0,.string ⟨#[]⟩,.int .i64 0,.int .i64 0,.string ⟨#[]⟩,.int .i64 0,.slice none 0 0,.int .i64 0,.string ⟨#[]⟩,.int .i64 0,.string ⟨#[]⟩,.int .i64 0,.int .i64 0,.string ⟨#[]⟩,.int .i64 0,.slice none 0 0,.slice none 0 0,.int .i64 0,.int .i64 0])) w:=by
 obtain ⟨x,rfl⟩:=hp
 subst hf
 exact run_build w 87 _ _ (by kernel_rfl)
theorem appL (p f:Value):(#[p,f]++#[.int .i64 0,.string ⟨#[]⟩,.slice none 0 0,.int .i64 0,.int .i64 0,.string ⟨#[]⟩,.int .i64 0,.int .i64 0,.string ⟨#[]⟩,.int .i64 0,.slice none 0 0,.int .i64 0,.string ⟨#[]⟩,.int .i64 0,.int .i64 0,.string ⟨#[]⟩,.int .i64 0,.slice none 0 0,.int .i64 0,.string ⟨#[]⟩,.int .i64 0,.string ⟨#[]⟩,.int .i64 0,.int .i64 0,.string ⟨#[]⟩,.int .i64 0,.slice none 0 0,.slice none 0 0,.int .i64 0,.int .i64 0]:Array Value)=#[p,f,.int .i64 0,.string ⟨#[]⟩,.slice none 0 0,.int .i64 0,.int .i64 0,.string ⟨#[]⟩,.int .i64 0,.int .i64 0,.string ⟨#[]⟩,.int .i64 0,.slice none 0 0,.int .i64 0,.string ⟨#[]⟩,.int .i64 0,.int .i64 0,.string ⟨#[]⟩,.int .i64 0,.slice none 0 0,.int .i64 0,.string ⟨#[]⟩,.int .i64 0,.string ⟨#[]⟩,.int .i64 0,.int .i64 0,.string ⟨#[]⟩,.int .i64 0,.slice none 0 0,.slice none 0 0,.int .i64 0,.int .i64 0]:=by simp
theorem enterL (args:Array Value) (w:World):(callFunc 30 args).run Tryz.prog w=.ok (.enter 30 args) w:=by kernel_rfl
set_option maxHeartbeats 8000000 in
theorem allL_any (s:ByteArray) (hs:s.size<=140737488355328) (w:World) (hG:Glob w) :
  Calls Tryz.prog 16 #[.string s,.func (.func 17) #[] #[]] w (AllRes (Sy.whole (Sy.envOf (Cod.str s)) ((fun v=>Sy.lit v 0) (Sy.envOf (Cod.str s)))) (valL w.heap.size) (.agg #[.int .i64 0,.string ⟨#[]⟩,.slice none 0 0,.int .i64 0,.int .i64 0,.string ⟨#[]⟩,.int .i64 0,.int .i64 0,.string ⟨#[]⟩,.int .i64 0,.slice none 0 0,.int .i64 0,.string ⟨#[]⟩,.int .i64 0,.int .i64 0,.string ⟨#[]⟩,.int .i64 0,.slice none 0 0,.int .i64 0,.string ⟨#[]⟩,.int .i64 0,.string ⟨#[]⟩,.int .i64 0,.int .i64 0,.string ⟨#[]⟩,.int .i64 0,.slice none 0 0,.slice none 0 0,.int .i64 0,.int .i64 0]) w):=by
 have hmf:=makeFunc_any
 have hv:=envOk s
 have hnz:Sy.Nz (Sy.whole (Sy.envOf (Cod.str s)) ((fun v=>Sy.lit v 0) (Sy.envOf (Cod.str s)))):=Sy.nz_whole (Sy.env_last _) ((fun hv i=>Sy.nz_lit hv 0 i) (Sy.env_last _) 0)
 have hB:=fun w hG=>begin_any s hs w hG
 have HG:=Lib.hid hG
 generalize Sy.envOf (Cod.str s)=v at *
 have HB:=Lib.hid hB;have HV:=Lib.hid hv;have HNZ:=Lib.hid hnz
 clear hB hv hnz hG
 have m0:=((Mod.refl [] w).alloc (Obj.cells #[.int .i64 0,.string ⟨#[]⟩,.slice none 0 0,.int .i64 0,.int .i64 0,.string ⟨#[]⟩,.int .i64 0,.int .i64 0,.string ⟨#[]⟩,.int .i64 0,.slice none 0 0,.int .i64 0,.string ⟨#[]⟩,.int .i64 0,.int .i64 0,.string ⟨#[]⟩,.int .i64 0,.slice none 0 0,.int .i64 0,.string ⟨#[]⟩,.int .i64 0,.string ⟨#[]⟩,.int .i64 0,.int .i64 0,.string ⟨#[]⟩,.int .i64 0,.slice none 0 0,.slice none 0 0,.int .i64 0,.int .i64 0] 40)).alloc (Obj.cells #[.int .i64 0,.int .i64 0,.int .i64 0] 42)
 have e0:=(((Mod.refl [] (w.alloc (Obj.cells #[.int .i64 0,.string ⟨#[]⟩,.slice none 0 0,.int .i64 0,.int .i64 0,.string ⟨#[]⟩,.int .i64 0,.int .i64 0,.string ⟨#[]⟩,.int .i64 0,.slice none 0 0,.int .i64 0,.string ⟨#[]⟩,.int .i64 0,.int .i64 0,.string ⟨#[]⟩,.int .i64 0,.slice none 0 0,.int .i64 0,.string ⟨#[]⟩,.int .i64 0,.string ⟨#[]⟩,.int .i64 0,.int .i64 0,.string ⟨#[]⟩,.int .i64 0,.slice none 0 0,.slice none 0 0,.int .i64 0,.int .i64 0] 40))).alloc (Obj.cells #[.int .i64 0,.int .i64 0,.int .i64 0] 42))).at (heap_alloc_new w (Obj.cells #[.int .i64 0,.string ⟨#[]⟩,.slice none 0 0,.int .i64 0,.int .i64 0,.string ⟨#[]⟩,.int .i64 0,.int .i64 0,.string ⟨#[]⟩,.int .i64 0,.slice none 0 0,.int .i64 0,.string ⟨#[]⟩,.int .i64 0,.int .i64 0,.string ⟨#[]⟩,.int .i64 0,.slice none 0 0,.int .i64 0,.string ⟨#[]⟩,.int .i64 0,.string ⟨#[]⟩,.int .i64 0,.int .i64 0,.string ⟨#[]⟩,.int .i64 0,.slice none 0 0,.slice none 0 0,.int .i64 0,.int .i64 0] 40)) (by simp)
 have e1:=heap_alloc_new (w.alloc (Obj.cells #[.int .i64 0,.string ⟨#[]⟩,.slice none 0 0,.int .i64 0,.int .i64 0,.string ⟨#[]⟩,.int .i64 0,.int .i64 0,.string ⟨#[]⟩,.int .i64 0,.slice none 0 0,.int .i64 0,.string ⟨#[]⟩,.int .i64 0,.int .i64 0,.string ⟨#[]⟩,.int .i64 0,.slice none 0 0,.int .i64 0,.string ⟨#[]⟩,.int .i64 0,.string ⟨#[]⟩,.int .i64 0,.int .i64 0,.string ⟨#[]⟩,.int .i64 0,.slice none 0 0,.slice none 0 0,.int .i64 0,.int .i64 0] 40)) (Obj.cells #[.int .i64 0,.int .i64 0,.int .i64 0] 42)
 have hs1:(w.alloc (Obj.cells #[.int .i64 0,.string ⟨#[]⟩,.slice none 0 0,.int .i64 0,.int .i64 0,.string ⟨#[]⟩,.int .i64 0,.int .i64 0,.string ⟨#[]⟩,.int .i64 0,.slice none 0 0,.int .i64 0,.string ⟨#[]⟩,.int .i64 0,.int .i64 0,.string ⟨#[]⟩,.int .i64 0,.slice none 0 0,.int .i64 0,.string ⟨#[]⟩,.int .i64 0,.string ⟨#[]⟩,.int .i64 0,.int .i64 0,.string ⟨#[]⟩,.int .i64 0,.slice none 0 0,.slice none 0 0,.int .i64 0,.int .i64 0] 40)).heap.size=w.heap.size+1:=by simp
 rw [hs1] at e1
 have hG0:=HG.out.past m0 (by simp)
 go_enter Tryz.func16,Tryz.ntmps16
 go_upto_region 1 with fail
 generalize (w.alloc (Obj.cells _ 40)).alloc (Obj.cells _ 42)=w0 at *
 have E0:=Lib.hid e0;have E1:=Lib.hid e1;have M0:=Lib.hid m0;have HG0:=Lib.hid hG0
 have hw0:w.heap.size+2<=w0.heap.size:=by have:=lt_of_block e1;omega
 clear e0 e1 m0 hG0 hs1
 go_wp2_with fail
 refine (HB.out w0 HG0.out).mono ?_
 rintro e1 w1 ⟨b,ra,rc,rfl,h1,hb1,hf1,m1⟩
 have A1:=Hxq (m1.at E0.out (by simp));have B1:=Hxq (m1.at E1.out (by simp));have M1:=Hxq (M0.out.trans m1 (by simp));have H1:=Lib.hid h1;have HF1:=Lib.hid hf1
 have hsz1:=m1.size
 have hbl:=h1.lt
 clear m1 h1 hf1 HB HG0
 go_upto_region 2 with (refine wpList_built2 rfl 87 0 1 _ _ rfl (.pointer (some ⟨b,0,none⟩)) (.func (.func 17) #[] #[]) rfl rfl _ (buildL _ _ _ ⟨_,rfl⟩ rfl) ?_)
 have mP:=(Mod.refl [] w1).alloc (Obj.cells #[.pointer (some ⟨b,0,none⟩),.func (.func 17) #[] #[],.int .i64 0,.string ⟨#[]⟩,.slice none 0 0,.int .i64 0,.int .i64 0,.string ⟨#[]⟩,.int .i64 0,.int .i64 0,.string ⟨#[]⟩,.int .i64 0,.slice none 0 0,.int .i64 0,.string ⟨#[]⟩,.int .i64 0,.int .i64 0,.string ⟨#[]⟩,.int .i64 0,.slice none 0 0,.int .i64 0,.string ⟨#[]⟩,.int .i64 0,.string ⟨#[]⟩,.int .i64 0,.int .i64 0,.string ⟨#[]⟩,.int .i64 0,.slice none 0 0,.slice none 0 0,.int .i64 0,.int .i64 0] 87)
 have eP:=heap_alloc_new w1 (Obj.cells #[.pointer (some ⟨b,0,none⟩),.func (.func 17) #[] #[],.int .i64 0,.string ⟨#[]⟩,.slice none 0 0,.int .i64 0,.int .i64 0,.string ⟨#[]⟩,.int .i64 0,.int .i64 0,.string ⟨#[]⟩,.int .i64 0,.slice none 0 0,.int .i64 0,.string ⟨#[]⟩,.int .i64 0,.int .i64 0,.string ⟨#[]⟩,.int .i64 0,.slice none 0 0,.int .i64 0,.string ⟨#[]⟩,.int .i64 0,.string ⟨#[]⟩,.int .i64 0,.int .i64 0,.string ⟨#[]⟩,.int .i64 0,.slice none 0 0,.slice none 0 0,.int .i64 0,.int .i64 0] 87)
 generalize w1.alloc (Obj.cells _ 87)=wP at *
 have A2:=Hxq (mP.at A1.out (by simp));have B2:=Hxq (mP.at B1.out (by simp));have M2:=Hxq (M1.out.trans mP (by simp));have H2:=Hxq (H1.out.past mP (by simp));have P2:=Lib.hid eP
 have hpxb:w1.heap.size≠b:=by omega
 have hpxf:w1.heap.size∉fp (.slice ra v.ws.length rc):=fun hk=>by have:=fp_lt H1.out.row.row _ hk;omega
 have hwp:=lt_of_block eP
 clear A1 B1 M1 H1 mP eP
 generalize w1.heap.size=px at *
 have p0:=cell_at P2.out 0
 have c5:=cell_at H2.out.at_ 5
 simp only [List.getElem?_toArray,List.getElem?_cons_zero,List.getElem?_cons_succ] at p0 c5
 have f5:=free_at H2.out.at_ 5
 go_upto_region 3 with fail
 obtain ⟨h3,m3⟩:=H2.out.setF (.func (.func 30) #[.pointer (some ⟨px,0,none⟩)] #[])
 generalize wP.setCell ⟨b,5,none⟩ _=wS at *
 have hpb:∀ (k:Nat) (o:Obj),wP.heap[k]?=some o->k≠b->wS.heap[k]?=some o:=fun k o hk hb=>m3.at hk (by simpa using hb)
 have A3:=Hxq (hpb _ _ A2.out (by omega));have B3:=Hxq (hpb _ _ B2.out (by omega));have P3:=Hxq (hpb _ _ P2.out hpxb);have M3:=Hxq (M2.out.trans m3 (fun t ht=>by rw [Msq] at ht;exact .inr (by omega)));have H3:=Lib.hid h3
 have hsz3:=m3.size
 clear A2 B2 P2 M2 H2 m3 h3 p0 c5 f5 hpb
 have hwp3:px<wS.heap.size:=by omega
 have HW:=Hxq (whole_any b ra rc 30 (.pointer (some ⟨px,0,none⟩)) v (Sy.lit v 0) [b,px] (fun a w'=>∃ C:Array Value,w'.heap[px]?=some (.cells (#[.pointer (some ⟨b,0,none⟩),.func (.func 17) #[] #[]]++C) 87 (0,0))/\valL (wS.heap.size+1) a w' (.agg C)) wS H3.out HV.out enterL
  (fun w' hm hsz=>by
   have h':=H3.out.past hm (by simp)
   have hp':=hm.at P3.out (by simp)
   rw [<-appL] at hp'
   have hv:=HV.out
   have hne:=hpxb
   have hpx:=hpxf
   refine (readL_any b ra rc (.func (.func 30) #[.pointer (some ⟨px,0,none⟩)] #[]) v px #[.int .i64 0,.string ⟨#[]⟩,.slice none 0 0,.int .i64 0,.int .i64 0,.string ⟨#[]⟩,.int .i64 0,.int .i64 0,.string ⟨#[]⟩,.int .i64 0,.slice none 0 0,.int .i64 0,.string ⟨#[]⟩,.int .i64 0,.int .i64 0,.string ⟨#[]⟩,.int .i64 0,.slice none 0 0,.int .i64 0,.string ⟨#[]⟩,.int .i64 0,.string ⟨#[]⟩,.int .i64 0,.int .i64 0,.string ⟨#[]⟩,.int .i64 0,.slice none 0 0,.slice none 0 0,.int .i64 0,.int .i64 0] rfl w' h' hv hp' hne hpx).mono ?_
   intro e w'' hh
   exact hh.mono fun a w' ⟨C,h1,h2⟩=>⟨C,h1,valL_keep h2 (Mod.refl [] w') (by simp) (by omega)⟩)
  (fun s hs=>by simp at hs;omega) ((fun v=>Sy.adv_lit v 0) v))
 have p0:=cell_at P3.out 0
 simp only [List.getElem?_toArray,List.getElem?_cons_zero,List.getElem?_cons_succ] at p0
 have hq:(fun v=>Sy.lit v 0) v=Sy.lit v 0:=rfl
 try rw [hq] at HNZ
 try rw [hq]
 generalize Sy.whole v (Sy.lit v 0)=q at *
 clear hq
 cases q with
 | err g =>
  have hg:g.1≠0:=HNZ.out g rfl
  have hgB:((g.1:Int) != 0)=true:=by rw [bne_iff_ne];omega
  go_wp2_with fail
  refine HW.out.mono ?_
  rintro e4 w4 ⟨rfl,m4⟩
  have hnb:∀ (k:Nat),k≠b->k≠px->k∉[b,px]:=fun k h1 h2=>by simp [h1,h2]
  have A4:=m4.at A3.out (hnb _ (by omega) (by omega));have B4:=m4.at B3.out (hnb _ (by omega) (by omega));have M4:=M3.out.trans m4 (fun t ht=>by simp at ht;exact .inr (by omega))
  unfold fltC at *
  have m5:=((Mod.refl [] w4).alloc (Obj.cells #[.int .i64 (g.1:Nat),.int .i64 (g.2.1:Nat),.int .i64 (g.2.2:Nat)] 42)).alloc (Obj.cells #[.int .i64 0,.string ⟨#[]⟩,.slice none 0 0,.int .i64 0,.int .i64 0,.string ⟨#[]⟩,.int .i64 0,.int .i64 0,.string ⟨#[]⟩,.int .i64 0,.slice none 0 0,.int .i64 0,.string ⟨#[]⟩,.int .i64 0,.int .i64 0,.string ⟨#[]⟩,.int .i64 0,.slice none 0 0,.int .i64 0,.string ⟨#[]⟩,.int .i64 0,.string ⟨#[]⟩,.int .i64 0,.int .i64 0,.string ⟨#[]⟩,.int .i64 0,.slice none 0 0,.slice none 0 0,.int .i64 0,.int .i64 0] 40)
  have x5:=heap_alloc_new w4 (Obj.cells #[.int .i64 (g.1:Nat),.int .i64 (g.2.1:Nat),.int .i64 (g.2.2:Nat)] 42)
  have hs5:(w4.alloc (Obj.cells #[.int .i64 (g.1:Nat),.int .i64 (g.2.1:Nat),.int .i64 (g.2.2:Nat)] 42)).heap.size=w4.heap.size+1:=by simp
  have z5:=heap_alloc_new (w4.alloc (Obj.cells #[.int .i64 (g.1:Nat),.int .i64 (g.2.1:Nat),.int .i64 (g.2.2:Nat)] 42)) (Obj.cells #[.int .i64 0,.string ⟨#[]⟩,.slice none 0 0,.int .i64 0,.int .i64 0,.string ⟨#[]⟩,.int .i64 0,.int .i64 0,.string ⟨#[]⟩,.int .i64 0,.slice none 0 0,.int .i64 0,.string ⟨#[]⟩,.int .i64 0,.int .i64 0,.string ⟨#[]⟩,.int .i64 0,.slice none 0 0,.int .i64 0,.string ⟨#[]⟩,.int .i64 0,.string ⟨#[]⟩,.int .i64 0,.int .i64 0,.string ⟨#[]⟩,.int .i64 0,.slice none 0 0,.slice none 0 0,.int .i64 0,.int .i64 0] 40)
  have y5:=((Mod.refl [] (w4.alloc (Obj.cells #[.int .i64 (g.1:Nat),.int .i64 (g.2.1:Nat),.int .i64 (g.2.2:Nat)] 42))).alloc (Obj.cells #[.int .i64 0,.string ⟨#[]⟩,.slice none 0 0,.int .i64 0,.int .i64 0,.string ⟨#[]⟩,.int .i64 0,.int .i64 0,.string ⟨#[]⟩,.int .i64 0,.slice none 0 0,.int .i64 0,.string ⟨#[]⟩,.int .i64 0,.int .i64 0,.string ⟨#[]⟩,.int .i64 0,.slice none 0 0,.int .i64 0,.string ⟨#[]⟩,.int .i64 0,.string ⟨#[]⟩,.int .i64 0,.int .i64 0,.string ⟨#[]⟩,.int .i64 0,.slice none 0 0,.slice none 0 0,.int .i64 0,.int .i64 0] 40)).at x5 (by simp)
  rw [hs5] at z5
  have A5:=Hxq (m5.at A4 (by simp));have B5:=Hxq (m5.at B4 (by simp));have M5:=Hxq (M4.trans m5 (by simp));have Y5:=Lib.hid y5;have Z5:=Lib.hid z5
  have hs4:=m4.size
  clear m4 A4 B4 M4 m5 y5 z5 hnb hs5 HW A3 B3 M3 P3 p0 H3 HV HNZ
  obtain ⟨x50,x51,x52⟩:=cells3 x5
  clear x5
  go_upto_region 6 with fail
  generalize (w4.alloc (Obj.cells _ 42)).alloc (Obj.cells _ 40)=w5 at *
  clear x50 x51 x52
  go_wp2_with fail
  refine wp_region_held_drew (S:=(fun w':World=>w'.heap[w4.heap.size+1]?=some (.cells #[.int .i64 0,.string ⟨#[]⟩,.slice none 0 0,.int .i64 0,.int .i64 0,.string ⟨#[]⟩,.int .i64 0,.int .i64 0,.string ⟨#[]⟩,.int .i64 0,.slice none 0 0,.int .i64 0,.string ⟨#[]⟩,.int .i64 0,.int .i64 0,.string ⟨#[]⟩,.int .i64 0,.slice none 0 0,.int .i64 0,.string ⟨#[]⟩,.int .i64 0,.string ⟨#[]⟩,.int .i64 0,.int .i64 0,.string ⟨#[]⟩,.int .i64 0,.slice none 0 0,.slice none 0 0,.int .i64 0,.int .i64 0] 40 (0,0))/\w'.heap[w4.heap.size]?=some (.cells #[.int .i64 (g.1:Nat),.int .i64 (g.2.1:Nat),.int .i64 (g.2.2:Nat)] 42 (0,0)))) (by kernel_rfl) (by (try dsimp only);exact ⟨drew_cells Z5.out,drew_cells Y5.out⟩) (fun hHeld=>?_)
  refine wpAnyH_take (i:=0) (oi:=?_) (v:=.agg #[.int .i64 0,.string ⟨#[]⟩,.slice none 0 0,.int .i64 0,.int .i64 0,.string ⟨#[]⟩,.int .i64 0,.int .i64 0,.string ⟨#[]⟩,.int .i64 0,.slice none 0 0,.int .i64 0,.string ⟨#[]⟩,.int .i64 0,.int .i64 0,.string ⟨#[]⟩,.int .i64 0,.slice none 0 0,.int .i64 0,.string ⟨#[]⟩,.int .i64 0,.string ⟨#[]⟩,.int .i64 0,.int .i64 0,.string ⟨#[]⟩,.int .i64 0,.slice none 0 0,.slice none 0 0,.int .i64 0,.int .i64 0]) ?_ ?_ ?_ ?_ ?_ ?_ (by assumption) ?_
  rotate_left 1
  ·(simp only [Gq1,Gq2,Gq3])<;>rfl
  ·kernel_rfl
  ·kernel_rfl
  ·kernel_rfl
  rotate_left 1
  ·refine yieldsIf_load_mid ?_ 40 _ rfl (w4.heap.size+1) 0 rfl [.int .i64 0,.string ⟨#[]⟩,.slice none 0 0,.int .i64 0,.int .i64 0,.string ⟨#[]⟩,.int .i64 0,.int .i64 0,.string ⟨#[]⟩,.int .i64 0,.slice none 0 0,.int .i64 0,.string ⟨#[]⟩,.int .i64 0,.int .i64 0,.string ⟨#[]⟩,.int .i64 0,.slice none 0 0,.int .i64 0,.string ⟨#[]⟩,.int .i64 0,.string ⟨#[]⟩,.int .i64 0,.int .i64 0,.string ⟨#[]⟩,.int .i64 0,.slice none 0 0,.slice none 0 0,.int .i64 0,.int .i64 0] _ ?_ Tryz.underlying40 rfl sizeL
   ·rfl
   ·intro w hSw
    exact wp_range (C:=#[.int .i64 0,.string ⟨#[]⟩,.slice none 0 0,.int .i64 0,.int .i64 0,.string ⟨#[]⟩,.int .i64 0,.int .i64 0,.string ⟨#[]⟩,.int .i64 0,.slice none 0 0,.int .i64 0,.string ⟨#[]⟩,.int .i64 0,.int .i64 0,.string ⟨#[]⟩,.int .i64 0,.slice none 0 0,.int .i64 0,.string ⟨#[]⟩,.int .i64 0,.string ⟨#[]⟩,.int .i64 0,.int .i64 0,.string ⟨#[]⟩,.int .i64 0,.slice none 0 0,.slice none 0 0,.int .i64 0,.int .i64 0]) hSw.1
  rotate_left 1
  ·exact fun _ _ _ h=>h
  try simp only [Act.put,Lq1,Lq2,Lq3]
  refine wpAnyH_take (i:=1) (oi:=?_) (v:=.agg #[.int .i64 (g.1:Nat),.int .i64 (g.2.1:Nat),.int .i64 (g.2.2:Nat)]) ?_ ?_ ?_ ?_ ?_ ?_ (by assumption) ?_
  rotate_left 1
  ·(simp only [Gq1,Gq2,Gq3])<;>rfl
  ·kernel_rfl
  ·kernel_rfl
  ·kernel_rfl
  rotate_left 1
  ·refine yieldsIf_load_mid ?_ 42 _ rfl w4.heap.size 0 rfl [.int .i64 (g.1:Nat),.int .i64 (g.2.1:Nat),.int .i64 (g.2.2:Nat)] _ ?_ Tryz.underlying42 rfl sizeFlt
   ·rfl
   ·intro w hSw
    exact wp_range (C:=#[.int .i64 (g.1:Nat),.int .i64 (g.2.1:Nat),.int .i64 (g.2.2:Nat)]) hSw.2
  rotate_left 1
  ·exact fun _ _ _ h=>h
  try simp only [Act.put,Lq1,Lq2,Lq3]
  have hlt0:=lt_of_block A5.out
  refine wpAnyH_ready (rs:=[2]) (by kernel_rfl) (by simp) ?_
  refine AllReadyH.cons (o:=?_) ?_ ?_ AllReadyH.nil
  rotate_left 1
  ·(simp only [Gq1,Gq2,Gq3])<;>rfl
  intro K hK
  refine (if_pos (by rfl)).mpr ?_
  refine wp_store_row 40 _ _ rfl w.heap.size #[.int .i64 0,.string ⟨#[]⟩,.slice none 0 0,.int .i64 0,.int .i64 0,.string ⟨#[]⟩,.int .i64 0,.int .i64 0,.string ⟨#[]⟩,.int .i64 0,.slice none 0 0,.int .i64 0,.string ⟨#[]⟩,.int .i64 0,.int .i64 0,.string ⟨#[]⟩,.int .i64 0,.slice none 0 0,.int .i64 0,.string ⟨#[]⟩,.int .i64 0,.string ⟨#[]⟩,.int .i64 0,.int .i64 0,.string ⟨#[]⟩,.int .i64 0,.slice none 0 0,.slice none 0 0,.int .i64 0,.int .i64 0] rfl rfl 40 _ (drew_cells A5.out) sizeL rfl (by rw [<-Array.all_toList];rfl) ?_
  refine hK.out _ _ (by (try dsimp only);exact ⟨(setRow_other w5.drew w.heap.size (w4.heap.size+1) #[.int .i64 0,.string ⟨#[]⟩,.slice none 0 0,.int .i64 0,.int .i64 0,.string ⟨#[]⟩,.int .i64 0,.int .i64 0,.string ⟨#[]⟩,.int .i64 0,.slice none 0 0,.int .i64 0,.string ⟨#[]⟩,.int .i64 0,.int .i64 0,.string ⟨#[]⟩,.int .i64 0,.slice none 0 0,.int .i64 0,.string ⟨#[]⟩,.int .i64 0,.string ⟨#[]⟩,.int .i64 0,.int .i64 0,.string ⟨#[]⟩,.int .i64 0,.slice none 0 0,.slice none 0 0,.int .i64 0,.int .i64 0] (by omega)).trans (drew_cells Z5.out),(setRow_other w5.drew w.heap.size w4.heap.size #[.int .i64 0,.string ⟨#[]⟩,.slice none 0 0,.int .i64 0,.int .i64 0,.string ⟨#[]⟩,.int .i64 0,.int .i64 0,.string ⟨#[]⟩,.int .i64 0,.slice none 0 0,.int .i64 0,.string ⟨#[]⟩,.int .i64 0,.int .i64 0,.string ⟨#[]⟩,.int .i64 0,.slice none 0 0,.int .i64 0,.string ⟨#[]⟩,.int .i64 0,.string ⟨#[]⟩,.int .i64 0,.int .i64 0,.string ⟨#[]⟩,.int .i64 0,.slice none 0 0,.slice none 0 0,.int .i64 0,.int .i64 0] (by omega)).trans (drew_cells Y5.out)⟩) (fun hHeld=>?_)
  clear hK K
  try simp only [Act.put,Lq1,Lq2,Lq3]
  refine wpAnyH_ready (rs:=[3]) (by kernel_rfl) (by simp) ?_
  refine AllReadyH.cons (o:=?_) ?_ ?_ AllReadyH.nil
  rotate_left 1
  ·(simp only [Gq1,Gq2,Gq3])<;>rfl
  intro K hK
  refine (if_pos (by rfl)).mpr ?_
  refine wp_store_row 42 _ _ rfl (w.heap.size+1) #[.int .i64 (g.1:Nat),.int .i64 (g.2.1:Nat),.int .i64 (g.2.2:Nat)] rfl rfl 42 _ ((setRow_other w5.drew w.heap.size (w.heap.size+1) #[.int .i64 0,.string ⟨#[]⟩,.slice none 0 0,.int .i64 0,.int .i64 0,.string ⟨#[]⟩,.int .i64 0,.int .i64 0,.string ⟨#[]⟩,.int .i64 0,.slice none 0 0,.int .i64 0,.string ⟨#[]⟩,.int .i64 0,.int .i64 0,.string ⟨#[]⟩,.int .i64 0,.slice none 0 0,.int .i64 0,.string ⟨#[]⟩,.int .i64 0,.string ⟨#[]⟩,.int .i64 0,.int .i64 0,.string ⟨#[]⟩,.int .i64 0,.slice none 0 0,.slice none 0 0,.int .i64 0,.int .i64 0] (by omega)).trans (drew_cells B5.out)) sizeFlt rfl (by rw [<-Array.all_toList];rfl) ?_
  refine hK.out _ _ (by (try dsimp only);exact ⟨(setRow_other (w5.drew.setRow w.heap.size #[.int .i64 0,.string ⟨#[]⟩,.slice none 0 0,.int .i64 0,.int .i64 0,.string ⟨#[]⟩,.int .i64 0,.int .i64 0,.string ⟨#[]⟩,.int .i64 0,.slice none 0 0,.int .i64 0,.string ⟨#[]⟩,.int .i64 0,.int .i64 0,.string ⟨#[]⟩,.int .i64 0,.slice none 0 0,.int .i64 0,.string ⟨#[]⟩,.int .i64 0,.string ⟨#[]⟩,.int .i64 0,.int .i64 0,.string ⟨#[]⟩,.int .i64 0,.slice none 0 0,.slice none 0 0,.int .i64 0,.int .i64 0]) (w.heap.size+1) (w4.heap.size+1) #[.int .i64 (g.1:Nat),.int .i64 (g.2.1:Nat),.int .i64 (g.2.2:Nat)] (by omega)).trans ((setRow_other w5.drew w.heap.size (w4.heap.size+1) #[.int .i64 0,.string ⟨#[]⟩,.slice none 0 0,.int .i64 0,.int .i64 0,.string ⟨#[]⟩,.int .i64 0,.int .i64 0,.string ⟨#[]⟩,.int .i64 0,.slice none 0 0,.int .i64 0,.string ⟨#[]⟩,.int .i64 0,.int .i64 0,.string ⟨#[]⟩,.int .i64 0,.slice none 0 0,.int .i64 0,.string ⟨#[]⟩,.int .i64 0,.string ⟨#[]⟩,.int .i64 0,.int .i64 0,.string ⟨#[]⟩,.int .i64 0,.slice none 0 0,.slice none 0 0,.int .i64 0,.int .i64 0] (by omega)).trans (drew_cells Z5.out)),(setRow_other (w5.drew.setRow w.heap.size #[.int .i64 0,.string ⟨#[]⟩,.slice none 0 0,.int .i64 0,.int .i64 0,.string ⟨#[]⟩,.int .i64 0,.int .i64 0,.string ⟨#[]⟩,.int .i64 0,.slice none 0 0,.int .i64 0,.string ⟨#[]⟩,.int .i64 0,.int .i64 0,.string ⟨#[]⟩,.int .i64 0,.slice none 0 0,.int .i64 0,.string ⟨#[]⟩,.int .i64 0,.string ⟨#[]⟩,.int .i64 0,.int .i64 0,.string ⟨#[]⟩,.int .i64 0,.slice none 0 0,.slice none 0 0,.int .i64 0,.int .i64 0]) (w.heap.size+1) w4.heap.size #[.int .i64 (g.1:Nat),.int .i64 (g.2.1:Nat),.int .i64 (g.2.2:Nat)] (by omega)).trans ((setRow_other w5.drew w.heap.size w4.heap.size #[.int .i64 0,.string ⟨#[]⟩,.slice none 0 0,.int .i64 0,.int .i64 0,.string ⟨#[]⟩,.int .i64 0,.int .i64 0,.string ⟨#[]⟩,.int .i64 0,.slice none 0 0,.int .i64 0,.string ⟨#[]⟩,.int .i64 0,.int .i64 0,.string ⟨#[]⟩,.int .i64 0,.slice none 0 0,.int .i64 0,.string ⟨#[]⟩,.int .i64 0,.string ⟨#[]⟩,.int .i64 0,.int .i64 0,.string ⟨#[]⟩,.int .i64 0,.slice none 0 0,.slice none 0 0,.int .i64 0,.int .i64 0] (by omega)).trans (drew_cells Y5.out))⟩) (fun hHeld=>?_)
  clear hK K
  try simp only [Act.put,Lq1,Lq2,Lq3]
  refine wpAnyH_done (by kernel_rfl) ?_ _
  have n0:=setRow_heap w5.drew w.heap.size _ #[.int .i64 0,.string ⟨#[]⟩,.slice none 0 0,.int .i64 0,.int .i64 0,.string ⟨#[]⟩,.int .i64 0,.int .i64 0,.string ⟨#[]⟩,.int .i64 0,.slice none 0 0,.int .i64 0,.string ⟨#[]⟩,.int .i64 0,.int .i64 0,.string ⟨#[]⟩,.int .i64 0,.slice none 0 0,.int .i64 0,.string ⟨#[]⟩,.int .i64 0,.string ⟨#[]⟩,.int .i64 0,.int .i64 0,.string ⟨#[]⟩,.int .i64 0,.slice none 0 0,.slice none 0 0,.int .i64 0,.int .i64 0] 40 _ (drew_cells A5.out)
  have n1:=setRow_heap (w5.drew.setRow w.heap.size #[.int .i64 0,.string ⟨#[]⟩,.slice none 0 0,.int .i64 0,.int .i64 0,.string ⟨#[]⟩,.int .i64 0,.int .i64 0,.string ⟨#[]⟩,.int .i64 0,.slice none 0 0,.int .i64 0,.string ⟨#[]⟩,.int .i64 0,.int .i64 0,.string ⟨#[]⟩,.int .i64 0,.slice none 0 0,.int .i64 0,.string ⟨#[]⟩,.int .i64 0,.string ⟨#[]⟩,.int .i64 0,.int .i64 0,.string ⟨#[]⟩,.int .i64 0,.slice none 0 0,.slice none 0 0,.int .i64 0,.int .i64 0]) (w.heap.size+1) _ #[.int .i64 (g.1:Nat),.int .i64 (g.2.1:Nat),.int .i64 (g.2.2:Nat)] 42 _ ((setRow_other w5.drew w.heap.size (w.heap.size+1) #[.int .i64 0,.string ⟨#[]⟩,.slice none 0 0,.int .i64 0,.int .i64 0,.string ⟨#[]⟩,.int .i64 0,.int .i64 0,.string ⟨#[]⟩,.int .i64 0,.slice none 0 0,.int .i64 0,.string ⟨#[]⟩,.int .i64 0,.int .i64 0,.string ⟨#[]⟩,.int .i64 0,.slice none 0 0,.int .i64 0,.string ⟨#[]⟩,.int .i64 0,.string ⟨#[]⟩,.int .i64 0,.int .i64 0,.string ⟨#[]⟩,.int .i64 0,.slice none 0 0,.slice none 0 0,.int .i64 0,.int .i64 0] (by omega)).trans (drew_cells B5.out))
  have k0:=(setRow_other (w5.drew.setRow w.heap.size #[.int .i64 0,.string ⟨#[]⟩,.slice none 0 0,.int .i64 0,.int .i64 0,.string ⟨#[]⟩,.int .i64 0,.int .i64 0,.string ⟨#[]⟩,.int .i64 0,.slice none 0 0,.int .i64 0,.string ⟨#[]⟩,.int .i64 0,.int .i64 0,.string ⟨#[]⟩,.int .i64 0,.slice none 0 0,.int .i64 0,.string ⟨#[]⟩,.int .i64 0,.string ⟨#[]⟩,.int .i64 0,.int .i64 0,.string ⟨#[]⟩,.int .i64 0,.slice none 0 0,.slice none 0 0,.int .i64 0,.int .i64 0]) (w.heap.size+1) w.heap.size #[.int .i64 (g.1:Nat),.int .i64 (g.2.1:Nat),.int .i64 (g.2.2:Nat)] (by omega)).trans n0
  have mm:=((M5.out.drew).trans (Mod.setRow w5.drew w.heap.size #[.int .i64 0,.string ⟨#[]⟩,.slice none 0 0,.int .i64 0,.int .i64 0,.string ⟨#[]⟩,.int .i64 0,.int .i64 0,.string ⟨#[]⟩,.int .i64 0,.slice none 0 0,.int .i64 0,.string ⟨#[]⟩,.int .i64 0,.int .i64 0,.string ⟨#[]⟩,.int .i64 0,.slice none 0 0,.int .i64 0,.string ⟨#[]⟩,.int .i64 0,.string ⟨#[]⟩,.int .i64 0,.int .i64 0,.string ⟨#[]⟩,.int .i64 0,.slice none 0 0,.slice none 0 0,.int .i64 0,.int .i64 0]) (fun t ht=>by rw [Msq] at ht;exact .inr (by omega))).trans (Mod.setRow (w5.drew.setRow w.heap.size #[.int .i64 0,.string ⟨#[]⟩,.slice none 0 0,.int .i64 0,.int .i64 0,.string ⟨#[]⟩,.int .i64 0,.int .i64 0,.string ⟨#[]⟩,.int .i64 0,.slice none 0 0,.int .i64 0,.string ⟨#[]⟩,.int .i64 0,.int .i64 0,.string ⟨#[]⟩,.int .i64 0,.slice none 0 0,.int .i64 0,.string ⟨#[]⟩,.int .i64 0,.string ⟨#[]⟩,.int .i64 0,.int .i64 0,.string ⟨#[]⟩,.int .i64 0,.slice none 0 0,.slice none 0 0,.int .i64 0,.int .i64 0]) (w.heap.size+1) #[.int .i64 (g.1:Nat),.int .i64 (g.2.1:Nat),.int .i64 (g.2.2:Nat)]) (fun t ht=>by rw [Msq] at ht;exact .inr (by omega))
  go_wp2_with fail
  exact bodyPost_ret (res_pair rfl _ _ w.heap.size (w.heap.size+1) #[.int .i64 0,.string ⟨#[]⟩,.slice none 0 0,.int .i64 0,.int .i64 0,.string ⟨#[]⟩,.int .i64 0,.int .i64 0,.string ⟨#[]⟩,.int .i64 0,.slice none 0 0,.int .i64 0,.string ⟨#[]⟩,.int .i64 0,.int .i64 0,.string ⟨#[]⟩,.int .i64 0,.slice none 0 0,.int .i64 0,.string ⟨#[]⟩,.int .i64 0,.string ⟨#[]⟩,.int .i64 0,.int .i64 0,.string ⟨#[]⟩,.int .i64 0,.slice none 0 0,.slice none 0 0,.int .i64 0,.int .i64 0] #[.int .i64 (g.1:Nat),.int .i64 (g.2.1:Nat),.int .i64 (g.2.2:Nat)] rfl rfl (run_loadVar_row (P:=Tryz.prog) _ _ _ _ _ _ _ k0 Tryz.underlying40 rfl sizeL) (run_loadVar_row (P:=Tryz.prog) _ _ _ _ _ _ _ n1 Tryz.underlying42 rfl sizeFlt)) rfl ⟨rfl,mm⟩
 | ok a i =>
  go_wp2_with fail
  refine HW.out.mono ?_
  rintro e4 w4 ⟨rfl,⟨wg,⟨C,hpC,hval⟩,mg⟩,m4⟩
  have hnb:∀ (k:Nat),k≠b->k≠px->k∉[b,px]:=fun k h1 h2=>by simp [h1,h2]
  have A4:=m4.at A3.out (hnb _ (by omega) (by omega));have B4:=m4.at B3.out (hnb _ (by omega) (by omega));have M4:=M3.out.trans m4 (fun t ht=>by simp at ht;exact .inr (by omega))
  have P4:=mg.at hpC (by simp;omega)
  have V4:=valL_keep (m:=wS.heap.size+1) hval mg (by simp) (Nat.le_refl _)
  have m5:=(Mod.refl [] w4).alloc (Obj.cells #[.int .i64 0,.int .i64 0,.int .i64 0] 42)
  have x5:=heap_alloc_new w4 (Obj.cells #[.int .i64 0,.int .i64 0,.int .i64 0] 42)
  have A5:=Hxq (m5.at A4 (by simp));have B5:=Hxq (m5.at B4 (by simp));have M5:=Hxq (M4.trans m5 (by simp));have P5:=Hxq (m5.at P4 (by simp));have V5:=Hxq (valL_keep (m:=wS.heap.size+1) V4 m5 (by simp) (Nat.le_refl _))
  have hs4:=m4.size
  obtain ⟨hC,hO⟩:=valL_cells hval
  have HO:=Lib.hid hO
  clear m4 A4 B4 M4 P4 V4 m5 hnb HW A3 B3 M3 P3 p0 H3 HV HNZ mg hpC hval hO
  obtain ⟨x50,x51,x52⟩:=cells3 x5
  clear x5
  go_upto_region 7 with fail
  generalize w4.alloc (Obj.cells _ 42)=w5 at *
  clear x50 x51 x52
  obtain ⟨p50,p51⟩:=part_c0 P5.out
  have b0:=cell_at B5.out 0;have b1:=cell_at B5.out 1;have b2:=cell_at B5.out 2
  simp only [List.getElem?_toArray,List.getElem?_cons_zero,List.getElem?_cons_succ] at b0 b1 b2
  go_wp2_with (first | refine wpList_load_mid rfl 40 _ rfl px 2 rfl C.toList _ (part_range P5.out) Tryz.underlying40 rfl (by rw [Array.length_toList];exact size_of sizeL hC) ?_ | refine wpList_store_at rfl 40 _ _ rfl w.heap.size C _ 40 rfl rfl A5.out (size_of sizeL hC) (by rw [hC];rfl) HO.out ?_ | refine wpList_store_at rfl 42 _ _ rfl (w.heap.size+1) #[.int .i64 0,.int .i64 0,.int .i64 0] _ 42 rfl rfl ((setRow_other w5 w.heap.size (w.heap.size+1) C (by omega)).trans B5.out) sizeFlt rfl rfl ?_)
  have mR:=Mod.setRow w5 w.heap.size C
  have mR2:=Mod.setRow (w5.setRow w.heap.size C) (w.heap.size+1) #[.int .i64 0,.int .i64 0,.int .i64 0]
  have a6:=setRow_heap w5 w.heap.size _ C 40 _ A5.out
  have a7:=mR2.at a6 (by simp)
  have b7:=setRow_heap (w5.setRow w.heap.size C) (w.heap.size+1) _ #[.int .i64 0,.int .i64 0,.int .i64 0] 42 _ ((setRow_other w5 w.heap.size (w.heap.size+1) C (by omega)).trans B5.out)
  refine bodyPost_ret (res_pair rfl _ _ w.heap.size (w.heap.size+1) C #[.int .i64 0,.int .i64 0,.int .i64 0] rfl rfl (run_loadVar_row (P:=Tryz.prog) _ _ _ _ _ _ _ a7 Tryz.underlying40 rfl (size_of sizeL hC)) (run_loadVar_row (P:=Tryz.prog) _ _ _ _ _ _ _ b7 Tryz.underlying42 rfl sizeFlt)) rfl ⟨C,rfl,valL_keep (valL_keep (m:=wS.heap.size+1) V5.out mR (by simp;omega) (Nat.le_refl _)) mR2 (by simp;omega) (by omega),(M5.out.trans mR (fun t ht=>?_)).trans mR2 (fun t ht=>?_)⟩
  ·rw [Msq] at ht;exact .inr (by omega)
  ·rw [Msq] at ht;exact .inr (by omega)
set_option maxHeartbeats 8000000 in
/-- the entry -/
theorem entL_any (s:ByteArray) (hs:s.size<=140737488355328) (w:World) (hG:Glob w) :
  Calls Tryz.prog 6 #[.string s] w (AllRes (Sy.whole (Sy.envOf (Cod.str s)) ((fun v=>Sy.lit v 0) (Sy.envOf (Cod.str s)))) (valL w.heap.size) (.agg #[.int .i64 0,.string ⟨#[]⟩,.slice none 0 0,.int .i64 0,.int .i64 0,.string ⟨#[]⟩,.int .i64 0,.int .i64 0,.string ⟨#[]⟩,.int .i64 0,.slice none 0 0,.int .i64 0,.string ⟨#[]⟩,.int .i64 0,.int .i64 0,.string ⟨#[]⟩,.int .i64 0,.slice none 0 0,.int .i64 0,.string ⟨#[]⟩,.int .i64 0,.string ⟨#[]⟩,.int .i64 0,.int .i64 0,.string ⟨#[]⟩,.int .i64 0,.slice none 0 0,.slice none 0 0,.int .i64 0,.int .i64 0]) w):=by
 have m0:=((Mod.refl [] w).alloc (Obj.cells #[.int .i64 0,.string ⟨#[]⟩,.slice none 0 0,.int .i64 0,.int .i64 0,.string ⟨#[]⟩,.int .i64 0,.int .i64 0,.string ⟨#[]⟩,.int .i64 0,.slice none 0 0,.int .i64 0,.string ⟨#[]⟩,.int .i64 0,.int .i64 0,.string ⟨#[]⟩,.int .i64 0,.slice none 0 0,.int .i64 0,.string ⟨#[]⟩,.int .i64 0,.string ⟨#[]⟩,.int .i64 0,.int .i64 0,.string ⟨#[]⟩,.int .i64 0,.slice none 0 0,.slice none 0 0,.int .i64 0,.int .i64 0] 40)).alloc (Obj.cells #[.int .i64 0,.int .i64 0,.int .i64 0] 42)
 have e0:=(((Mod.refl [] (w.alloc (Obj.cells #[.int .i64 0,.string ⟨#[]⟩,.slice none 0 0,.int .i64 0,.int .i64 0,.string ⟨#[]⟩,.int .i64 0,.int .i64 0,.string ⟨#[]⟩,.int .i64 0,.slice none 0 0,.int .i64 0,.string ⟨#[]⟩,.int .i64 0,.int .i64 0,.string ⟨#[]⟩,.int .i64 0,.slice none 0 0,.int .i64 0,.string ⟨#[]⟩,.int .i64 0,.string ⟨#[]⟩,.int .i64 0,.int .i64 0,.string ⟨#[]⟩,.int .i64 0,.slice none 0 0,.slice none 0 0,.int .i64 0,.int .i64 0] 40))).alloc (Obj.cells #[.int .i64 0,.int .i64 0,.int .i64 0] 42))).at (heap_alloc_new w (Obj.cells #[.int .i64 0,.string ⟨#[]⟩,.slice none 0 0,.int .i64 0,.int .i64 0,.string ⟨#[]⟩,.int .i64 0,.int .i64 0,.string ⟨#[]⟩,.int .i64 0,.slice none 0 0,.int .i64 0,.string ⟨#[]⟩,.int .i64 0,.int .i64 0,.string ⟨#[]⟩,.int .i64 0,.slice none 0 0,.int .i64 0,.string ⟨#[]⟩,.int .i64 0,.string ⟨#[]⟩,.int .i64 0,.int .i64 0,.string ⟨#[]⟩,.int .i64 0,.slice none 0 0,.slice none 0 0,.int .i64 0,.int .i64 0] 40)) (by simp)
 have e1:=heap_alloc_new (w.alloc (Obj.cells #[.int .i64 0,.string ⟨#[]⟩,.slice none 0 0,.int .i64 0,.int .i64 0,.string ⟨#[]⟩,.int .i64 0,.int .i64 0,.string ⟨#[]⟩,.int .i64 0,.slice none 0 0,.int .i64 0,.string ⟨#[]⟩,.int .i64 0,.int .i64 0,.string ⟨#[]⟩,.int .i64 0,.slice none 0 0,.int .i64 0,.string ⟨#[]⟩,.int .i64 0,.string ⟨#[]⟩,.int .i64 0,.int .i64 0,.string ⟨#[]⟩,.int .i64 0,.slice none 0 0,.slice none 0 0,.int .i64 0,.int .i64 0] 40)) (Obj.cells #[.int .i64 0,.int .i64 0,.int .i64 0] 42)
 have hs1:(w.alloc (Obj.cells #[.int .i64 0,.string ⟨#[]⟩,.slice none 0 0,.int .i64 0,.int .i64 0,.string ⟨#[]⟩,.int .i64 0,.int .i64 0,.string ⟨#[]⟩,.int .i64 0,.slice none 0 0,.int .i64 0,.string ⟨#[]⟩,.int .i64 0,.int .i64 0,.string ⟨#[]⟩,.int .i64 0,.slice none 0 0,.int .i64 0,.string ⟨#[]⟩,.int .i64 0,.string ⟨#[]⟩,.int .i64 0,.int .i64 0,.string ⟨#[]⟩,.int .i64 0,.slice none 0 0,.slice none 0 0,.int .i64 0,.int .i64 0] 40)).heap.size=w.heap.size+1:=by simp
 rw [hs1] at e1
 have hA:=allL_any s hs _ (hG.past m0 (by simp))
 go_enter Tryz.func6,Tryz.ntmps6
 go_upto_region 1 with fail
 generalize (w.alloc (Obj.cells _ 40)).alloc (Obj.cells _ 42)=w0 at *
 have E0:=Lib.hid e0;have E1:=Lib.hid e1;have M0:=Lib.hid m0;have HA:=Lib.hid hA
 have hw0:w.heap.size+2<=w0.heap.size:=by have:=lt_of_block e1;omega
 clear e0 e1 m0 hs1 hA
 generalize Sy.whole (Sy.envOf (Cod.str s)) _=q at *
 cases q with
 | err g =>
  go_wp2_with fail
  refine HA.out.mono ?_
  rintro e1 w1 ⟨rfl,m1⟩
  have A1:=Hxq (m1.at E0.out (by simp));have B1:=Hxq (m1.at E1.out (by simp));have M1:=Hxq (M0.out.trans m1 (by simp))
  have hsz1:=m1.size
  clear m1 HA
  unfold fltC
  go_wp2_with (first | refine wpList_store_at rfl 40 _ _ rfl w.heap.size #[.int .i64 0,.string ⟨#[]⟩,.slice none 0 0,.int .i64 0,.int .i64 0,.string ⟨#[]⟩,.int .i64 0,.int .i64 0,.string ⟨#[]⟩,.int .i64 0,.slice none 0 0,.int .i64 0,.string ⟨#[]⟩,.int .i64 0,.int .i64 0,.string ⟨#[]⟩,.int .i64 0,.slice none 0 0,.int .i64 0,.string ⟨#[]⟩,.int .i64 0,.string ⟨#[]⟩,.int .i64 0,.int .i64 0,.string ⟨#[]⟩,.int .i64 0,.slice none 0 0,.slice none 0 0,.int .i64 0,.int .i64 0] _ 40 rfl rfl A1.out sizeL rfl rfl ?_ | refine wpList_store_at rfl 42 _ _ rfl (w.heap.size+1) #[.int .i64 (g.1:Nat),.int .i64 (g.2.1:Nat),.int .i64 (g.2.2:Nat)] _ 42 rfl rfl ((setRow_other w1 w.heap.size (w.heap.size+1) #[.int .i64 0,.string ⟨#[]⟩,.slice none 0 0,.int .i64 0,.int .i64 0,.string ⟨#[]⟩,.int .i64 0,.int .i64 0,.string ⟨#[]⟩,.int .i64 0,.slice none 0 0,.int .i64 0,.string ⟨#[]⟩,.int .i64 0,.int .i64 0,.string ⟨#[]⟩,.int .i64 0,.slice none 0 0,.int .i64 0,.string ⟨#[]⟩,.int .i64 0,.string ⟨#[]⟩,.int .i64 0,.int .i64 0,.string ⟨#[]⟩,.int .i64 0,.slice none 0 0,.slice none 0 0,.int .i64 0,.int .i64 0] (by omega)).trans B1.out) sizeFlt rfl rfl ?_)
  have mR:=Mod.setRow w1 w.heap.size #[.int .i64 0,.string ⟨#[]⟩,.slice none 0 0,.int .i64 0,.int .i64 0,.string ⟨#[]⟩,.int .i64 0,.int .i64 0,.string ⟨#[]⟩,.int .i64 0,.slice none 0 0,.int .i64 0,.string ⟨#[]⟩,.int .i64 0,.int .i64 0,.string ⟨#[]⟩,.int .i64 0,.slice none 0 0,.int .i64 0,.string ⟨#[]⟩,.int .i64 0,.string ⟨#[]⟩,.int .i64 0,.int .i64 0,.string ⟨#[]⟩,.int .i64 0,.slice none 0 0,.slice none 0 0,.int .i64 0,.int .i64 0]
  have mR2:=Mod.setRow (w1.setRow w.heap.size #[.int .i64 0,.string ⟨#[]⟩,.slice none 0 0,.int .i64 0,.int .i64 0,.string ⟨#[]⟩,.int .i64 0,.int .i64 0,.string ⟨#[]⟩,.int .i64 0,.slice none 0 0,.int .i64 0,.string ⟨#[]⟩,.int .i64 0,.int .i64 0,.string ⟨#[]⟩,.int .i64 0,.slice none 0 0,.int .i64 0,.string ⟨#[]⟩,.int .i64 0,.string ⟨#[]⟩,.int .i64 0,.int .i64 0,.string ⟨#[]⟩,.int .i64 0,.slice none 0 0,.slice none 0 0,.int .i64 0,.int .i64 0]) (w.heap.size+1) #[.int .i64 (g.1:Nat),.int .i64 (g.2.1:Nat),.int .i64 (g.2.2:Nat)]
  have a6:=setRow_heap w1 w.heap.size _ #[.int .i64 0,.string ⟨#[]⟩,.slice none 0 0,.int .i64 0,.int .i64 0,.string ⟨#[]⟩,.int .i64 0,.int .i64 0,.string ⟨#[]⟩,.int .i64 0,.slice none 0 0,.int .i64 0,.string ⟨#[]⟩,.int .i64 0,.int .i64 0,.string ⟨#[]⟩,.int .i64 0,.slice none 0 0,.int .i64 0,.string ⟨#[]⟩,.int .i64 0,.string ⟨#[]⟩,.int .i64 0,.int .i64 0,.string ⟨#[]⟩,.int .i64 0,.slice none 0 0,.slice none 0 0,.int .i64 0,.int .i64 0] 40 _ A1.out
  have a7:=mR2.at a6 (by simp)
  have b7:=setRow_heap (w1.setRow w.heap.size #[.int .i64 0,.string ⟨#[]⟩,.slice none 0 0,.int .i64 0,.int .i64 0,.string ⟨#[]⟩,.int .i64 0,.int .i64 0,.string ⟨#[]⟩,.int .i64 0,.slice none 0 0,.int .i64 0,.string ⟨#[]⟩,.int .i64 0,.int .i64 0,.string ⟨#[]⟩,.int .i64 0,.slice none 0 0,.int .i64 0,.string ⟨#[]⟩,.int .i64 0,.string ⟨#[]⟩,.int .i64 0,.int .i64 0,.string ⟨#[]⟩,.int .i64 0,.slice none 0 0,.slice none 0 0,.int .i64 0,.int .i64 0]) (w.heap.size+1) _ #[.int .i64 (g.1:Nat),.int .i64 (g.2.1:Nat),.int .i64 (g.2.2:Nat)] 42 _ ((setRow_other w1 w.heap.size (w.heap.size+1) #[.int .i64 0,.string ⟨#[]⟩,.slice none 0 0,.int .i64 0,.int .i64 0,.string ⟨#[]⟩,.int .i64 0,.int .i64 0,.string ⟨#[]⟩,.int .i64 0,.slice none 0 0,.int .i64 0,.string ⟨#[]⟩,.int .i64 0,.int .i64 0,.string ⟨#[]⟩,.int .i64 0,.slice none 0 0,.int .i64 0,.string ⟨#[]⟩,.int .i64 0,.string ⟨#[]⟩,.int .i64 0,.int .i64 0,.string ⟨#[]⟩,.int .i64 0,.slice none 0 0,.slice none 0 0,.int .i64 0,.int .i64 0] (by omega)).trans B1.out)
  refine bodyPost_ret (res_pair rfl _ _ w.heap.size (w.heap.size+1) #[.int .i64 0,.string ⟨#[]⟩,.slice none 0 0,.int .i64 0,.int .i64 0,.string ⟨#[]⟩,.int .i64 0,.int .i64 0,.string ⟨#[]⟩,.int .i64 0,.slice none 0 0,.int .i64 0,.string ⟨#[]⟩,.int .i64 0,.int .i64 0,.string ⟨#[]⟩,.int .i64 0,.slice none 0 0,.int .i64 0,.string ⟨#[]⟩,.int .i64 0,.string ⟨#[]⟩,.int .i64 0,.int .i64 0,.string ⟨#[]⟩,.int .i64 0,.slice none 0 0,.slice none 0 0,.int .i64 0,.int .i64 0] #[.int .i64 (g.1:Nat),.int .i64 (g.2.1:Nat),.int .i64 (g.2.2:Nat)] rfl rfl (run_loadVar_row (P:=Tryz.prog) _ _ _ _ _ _ _ a7 Tryz.underlying40 rfl sizeL) (run_loadVar_row (P:=Tryz.prog) _ _ _ _ _ _ _ b7 Tryz.underlying42 rfl sizeFlt)) rfl ⟨rfl,(M1.out.trans mR (fun t ht=>?_)).trans mR2 (fun t ht=>?_)⟩
  ·rw [Msq] at ht;exact .inr (by omega)
  ·rw [Msq] at ht;exact .inr (by omega)
 | ok a i =>
  go_wp2_with fail
  refine HA.out.mono ?_
  rintro e1 w1 ⟨C,rfl,hval,m1⟩
  have A1:=Hxq (m1.at E0.out (by simp));have B1:=Hxq (m1.at E1.out (by simp));have M1:=Hxq (M0.out.trans m1 (by simp))
  have hsz1:=m1.size
  obtain ⟨hC,hO⟩:=valL_cells hval
  have HO:=Lib.hid hO;have HV:=Lib.hid hval
  clear m1 HA hO hval
  go_wp2_with (first | refine wpList_store_at rfl 40 _ _ rfl w.heap.size C _ 40 rfl rfl A1.out (size_of sizeL hC) (by rw [hC];rfl) HO.out ?_ | refine wpList_store_at rfl 42 _ _ rfl (w.heap.size+1) #[.int .i64 0,.int .i64 0,.int .i64 0] _ 42 rfl rfl ((setRow_other w1 w.heap.size (w.heap.size+1) C (by omega)).trans B1.out) sizeFlt rfl rfl ?_)
  have mR:=Mod.setRow w1 w.heap.size C
  have mR2:=Mod.setRow (w1.setRow w.heap.size C) (w.heap.size+1) #[.int .i64 0,.int .i64 0,.int .i64 0]
  have a6:=setRow_heap w1 w.heap.size _ C 40 _ A1.out
  have a7:=mR2.at a6 (by simp)
  have b7:=setRow_heap (w1.setRow w.heap.size C) (w.heap.size+1) _ #[.int .i64 0,.int .i64 0,.int .i64 0] 42 _ ((setRow_other w1 w.heap.size (w.heap.size+1) C (by omega)).trans B1.out)
  refine bodyPost_ret (res_pair rfl _ _ w.heap.size (w.heap.size+1) C #[.int .i64 0,.int .i64 0,.int .i64 0] rfl rfl (run_loadVar_row (P:=Tryz.prog) _ _ _ _ _ _ _ a7 Tryz.underlying40 rfl (size_of sizeL hC)) (run_loadVar_row (P:=Tryz.prog) _ _ _ _ _ _ _ b7 Tryz.underlying42 rfl sizeFlt)) rfl ⟨C,rfl,valL_keep (valL_keep (m:=w0.heap.size) HV.out mR (by simp;omega) (Nat.le_refl _)) mR2 (by simp;omega) (by omega),(M1.out.trans mR (fun t ht=>?_)).trans mR2 (fun t ht=>?_)⟩
  ·rw [Msq] at ht;exact .inr (by omega)
  ·rw [Msq] at ht;exact .inr (by omega)
end Go.Proofs.YtbfaclljbbfknaaGreatDoor
