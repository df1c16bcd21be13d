/- THE TEXTS MERGED: SyRead SyReadL SyNz. -/
import Derived.Test.YtppigckioalhhaaGreatDoorRKP1
import Derived.Test.YtppigckioalhhaaGreatDoorRKP15
import Derived.Deep.MidRow
import Derived.Test.YtppigckioalhhaaGreatDoorRKP8
namespace Go.Proofs.YtppigckioalhhaaGreatDoorR
open Go.RowKit
set_option linter.unusedVariables false
set_option linter.unusedSimpArgs false
set_option maxRecDepth 100000
set_option maxHeartbeats 4000000 in
theorem readP_any (b:Nat) (ra:Option Addr) (rc:Nat) (f:Value) (v:Sy.Env) (px:Nat) (x1 x2:Value) (w:World) (h:RdP w b ra rc f v 0) (hv:EnvOk v) (hp:w.heap[px]?=some (.cells #[.pointer (some ⟨b,0,none⟩),.func (.func 31) #[] #[],x1,x2] 126 (0,0))) (hne:px≠b) (hpx:px∉fp (.slice ra v.ws.length rc)) :
  Calls Tryz.prog 57 #[.pointer (some ⟨px,0,none⟩)] w (RdRes b ra rc f v (Sy.prog v 0) [b,px] (fun p w'=>∃ C:Array Value,w'.heap[px]?=some (.cells (#[.pointer (some ⟨b,0,none⟩),.func (.func 31) #[] #[]]++C) 126 (0,0))/\valP w.heap.size p w' (.agg C)) w):=by
 have HC:=Hxq (program_any b ra rc f v w.drew (h.past ((Mod.refl [] w).drew) (by simp)) hv)
 have hlt:=lt_of_block hp
 have HH:=Lib.hid h;have HP:=Lib.hid hp
 have D1:w.drew.cell? ⟨px,0,none⟩=some (.pointer (some ⟨b,0,none⟩))/\w.drew.cell? ⟨px,1,none⟩=some (.func (.func 31) #[] #[]):=⟨cell_at hp 0,cell_at hp 1⟩
 go_enter Tryz.func57,Tryz.ntmps57
 generalize Sy.prog v 0=q at *
 cases q with
 | err g =>
  go_wp2_with fail
  refine wp_region_held_drew (S:=(fun w':World=>w'.cell? ⟨px,0,none⟩=some (.pointer (some ⟨b,0,none⟩))/\w'.cell? ⟨px,1,none⟩=some (.func (.func 31) #[] #[]))) (by kernel_rfl) (by (try dsimp only);exact D1) (fun hHeld=>?_)
  refine Tkq 0 (v:=?_) (by assumption) ?_ ?_ ?_
  rotate_left 1
  ·refine .inl ⟨by rfl,?_⟩;intro w hSw;(try dsimp only at hSw);obtain ⟨hS1,hS2⟩:=hSw;go_simp
   all_goals with_reducible rfl
  ·exact fun _ _ _ h=>h
  try simp only [Act.put,Lq1,Lq2,Lq3]
  refine Tkq 1 (v:=?_) (by assumption) ?_ ?_ ?_
  rotate_left 1
  ·refine .inl ⟨by rfl,?_⟩;intro w hSw;(try dsimp only at hSw);obtain ⟨hS1,hS2⟩:=hSw;go_simp
   all_goals with_reducible rfl
  ·exact fun _ _ _ h=>h
  try simp only [Act.put,Lq1,Lq2,Lq3]
  refine Tkq 2 (v:=?_) (by assumption) ?_ ?_ ?_
  rotate_left 1
  ·refine .inl ⟨by rfl,?_⟩;intro w hSw;(try dsimp only at hSw);obtain ⟨hS1,hS2⟩:=hSw;go_simp
   all_goals with_reducible rfl
  ·exact fun _ _ _ h=>h
  try simp only [Act.put,Lq1,Lq2,Lq3]
  refine Tkq 3 (v:=?_) (by assumption) ?_ ?_ ?_
  rotate_left 1
  ·refine .inl ⟨by rfl,?_⟩;intro w hSw;(try dsimp only at hSw);obtain ⟨hS1,hS2⟩:=hSw;go_simp
   all_goals with_reducible rfl
  ·exact fun _ _ _ h=>h
  try simp only [Act.put,Lq1,Lq2,Lq3]
  refine Tkq 4 (v:=?_) (by assumption) ?_ ?_ ?_
  rotate_left 1
  ·refine .inl ⟨by rfl,?_⟩;intro w hSw;(try dsimp only at hSw);obtain ⟨hS1,hS2⟩:=hSw;go_simp
   all_goals with_reducible rfl
  ·exact fun _ _ _ h=>h
  try simp only [Act.put,Lq1,Lq2,Lq3]
  refine Tkq 5 (v:=?_) (by assumption) ?_ ?_ ?_
  rotate_left 1
  ·refine .inl ⟨by rfl,?_⟩;intro w hSw;(try dsimp only at hSw);obtain ⟨hS1,hS2⟩:=hSw;go_simp
   all_goals with_reducible rfl
  ·exact fun _ _ _ h=>h
  try simp only [Act.put,Lq1,Lq2,Lq3]
  refine Tkq 6 (v:=?_) (by assumption) ?_ ?_ ?_
  rotate_left 1
  ·refine .inl ⟨by rfl,?_⟩;intro w hSw;(try dsimp only at hSw);obtain ⟨hS1,hS2⟩:=hSw;go_simp
   all_goals with_reducible rfl
  ·exact fun _ _ _ h=>h
  try simp only [Act.put,Lq1,Lq2,Lq3]
  refine Tkq 7 (v:=?_) (by assumption) ?_ ?_ ?_
  rotate_left 1
  ·refine .inl ⟨by rfl,?_⟩;intro w hSw;(try dsimp only at hSw);obtain ⟨hS1,hS2⟩:=hSw;go_simp
   all_goals with_reducible rfl
  ·exact fun _ _ _ h=>h
  try simp only [Act.put,Lq1,Lq2,Lq3]
  refine Tkq 8 (v:=?_) (by assumption) ?_ ?_ ?_
  rotate_left 1
  ·refine .inl ⟨by rfl,?_⟩;intro w hSw;(try dsimp only at hSw);obtain ⟨hS1,hS2⟩:=hSw;go_simp
   all_goals with_reducible rfl
  ·exact fun _ _ _ h=>h
  try simp only [Act.put,Lq1,Lq2,Lq3]
  refine wpAnyH_ready (rs:=[9]) (by kernel_rfl) (by simp) ?_
  refine AllReadyH.cons (o:=?_) ?_ ?_ AllReadyH.nil
  rotate_left 1
  ·(simp only [Gq1,Gq2,Gq3])<;>rfl
  intro K hK
  go_simp
  refine HC.out.mono ?_
  rintro e7 w7 ⟨rfl,m7⟩
  have M7:=Hxq (((Mod.refl [b] w).drew).trans m7 (by simp))
  clear m7
  unfold stopE
  dsimp only
  clear hK K
  go_wp2_with fail
  exact ⟨rfl,rfl,M7.out.mono (T:=[b,px]) (fun t ht=>.inl (by simp at ht;simp [ht]))⟩
 | ok p j =>
  have q1:=D1.1
  have q2:=D1.2
  go_wp2_with fail
  go_region_law (first
   | (go_simp;refine HC.out.mono ?_;rintro e3 w3 ⟨y3,rfl,hy3,h3,m3⟩;obtain ⟨rels,rus,u1,u2,rfl,hpp,hb1,hb2,hs1,hs2⟩:=hy3;obtain ⟨a1,c1,rfl⟩:=hb1.lit;obtain ⟨a2,c2,rfl⟩:=hb2.lit;have m03:=(((Mod.refl [b] w).drew).trans m3 (by simp));have P3:=Hxq (m03.at HP.out (by simp;omega));have r2:=cell_at P3.out 2;have r3:=cell_at P3.out 3;simp only [List.getElem?_toArray,List.getElem?_cons_zero,List.getElem?_cons_succ] at r2 r3;have f3:∀ j,w3.frozen? ⟨px,j,none⟩=false:=(fun j=>free_at P3.out j);have H3:=Lib.hid h3;have M3:=Lib.hid m03;clear h3 m3 m03))
  all_goals (
   go_wp2_with fail
   go_end0
   have mS:Mod [px] w3 (setCs w3 px 2 [.slice a1 rels.length c1,.slice a2 rus.length c2]):=setCs_mod px _ 2 w3
   have hS:∀ s∈[px],¬ w.heap.size<=s:=fun s hs=>by rw [Msq] at hs;omega
   exact ⟨rfl,⟨#[.slice a1 rels.length c1,.slice a2 rus.length c2],setCs_heap [.slice a1 rels.length c1,.slice a2 rus.length c2] 2 [.pointer (some ⟨b,0,none⟩),.func (.func 31) #[] #[],x1,x2] w3 P3.out,⟨rels,rus,_,_,rfl,hpp,hb1.keep mS hS,hb2.keep mS hS,fun p hp=>(hs1 p hp).keep mS hS,fun p hp=>(hs2 p hp).keep mS hS⟩⟩,H3.out.keep mS (by simp;omega) (fun k hk hs=>by rw [Msq] at hs;exact hpx (hs ▸ hk)),(M3.out.mono (T:=[b,px]) (fun t ht=>.inl (by simp at ht;simp [ht]))).trans mS (by simp)⟩)
set_option maxHeartbeats 4000000 in
theorem readA_any (b:Nat) (ra:Option Addr) (rc:Nat) (f:Value) (v:Sy.Env) (px:Nat) (x1 x2:Value) (w:World) (h:RdP w b ra rc f v 0) (hv:EnvOk v) (hp:w.heap[px]?=some (.cells #[.pointer (some ⟨b,0,none⟩),.func (.func 46) #[] #[],x1,x2] 159 (0,0))) (hne:px≠b) (hpx:px∉fp (.slice ra v.ws.length rc)) :
  Calls Tryz.prog 85 #[.pointer (some ⟨px,0,none⟩)] w (RdRes b ra rc f v (Sy.atom v 0) [b,px] (fun p w'=>∃ C:Array Value,w'.heap[px]?=some (.cells (#[.pointer (some ⟨b,0,none⟩),.func (.func 46) #[] #[]]++C) 159 (0,0))/\valA w.heap.size p w' (.agg C)) w):=by
 have HC:=Hxq (atom_any b ra rc f v 0 w.drew (h.past ((Mod.refl [] w).drew) (by simp)) hv (Nat.zero_le _))
 have hlt:=lt_of_block hp
 have HH:=Lib.hid h;have HP:=Lib.hid hp
 have D1:w.drew.cell? ⟨px,0,none⟩=some (.pointer (some ⟨b,0,none⟩))/\w.drew.cell? ⟨px,1,none⟩=some (.func (.func 46) #[] #[]):=⟨cell_at hp 0,cell_at hp 1⟩
 go_enter Tryz.func85,Tryz.ntmps85
 generalize Sy.atom v 0=q at *
 cases q with
 | err g =>
  go_wp2_with fail
  refine wp_region_held_drew (S:=(fun w':World=>w'.cell? ⟨px,0,none⟩=some (.pointer (some ⟨b,0,none⟩))/\w'.cell? ⟨px,1,none⟩=some (.func (.func 46) #[] #[]))) (by kernel_rfl) (by (try dsimp only);exact D1) (fun hHeld=>?_)
  refine Tkq 0 (v:=?_) (by assumption) ?_ ?_ ?_
  rotate_left 1
  ·refine .inl ⟨by rfl,?_⟩;intro w hSw;(try dsimp only at hSw);obtain ⟨hS1,hS2⟩:=hSw;go_simp
   all_goals with_reducible rfl
  ·exact fun _ _ _ h=>h
  try simp only [Act.put,Lq1,Lq2,Lq3]
  refine Tkq 1 (v:=?_) (by assumption) ?_ ?_ ?_
  rotate_left 1
  ·refine .inl ⟨by rfl,?_⟩;intro w hSw;(try dsimp only at hSw);obtain ⟨hS1,hS2⟩:=hSw;go_simp
   all_goals with_reducible rfl
  ·exact fun _ _ _ h=>h
  try simp only [Act.put,Lq1,Lq2,Lq3]
  refine Tkq 2 (v:=?_) (by assumption) ?_ ?_ ?_
  rotate_left 1
  ·refine .inl ⟨by rfl,?_⟩;intro w hSw;(try dsimp only at hSw);obtain ⟨hS1,hS2⟩:=hSw;go_simp
   all_goals with_reducible rfl
  ·exact fun _ _ _ h=>h
  try simp only [Act.put,Lq1,Lq2,Lq3]
  refine Tkq 3 (v:=?_) (by assumption) ?_ ?_ ?_
  rotate_left 1
  ·refine .inl ⟨by rfl,?_⟩;intro w hSw;(try dsimp only at hSw);obtain ⟨hS1,hS2⟩:=hSw;go_simp
   all_goals with_reducible rfl
  ·exact fun _ _ _ h=>h
  try simp only [Act.put,Lq1,Lq2,Lq3]
  refine Tkq 4 (v:=?_) (by assumption) ?_ ?_ ?_
  rotate_left 1
  ·refine .inl ⟨by rfl,?_⟩;intro w hSw;(try dsimp only at hSw);obtain ⟨hS1,hS2⟩:=hSw;go_simp
   all_goals with_reducible rfl
  ·exact fun _ _ _ h=>h
  try simp only [Act.put,Lq1,Lq2,Lq3]
  refine Tkq 5 (v:=?_) (by assumption) ?_ ?_ ?_
  rotate_left 1
  ·refine .inl ⟨by rfl,?_⟩;intro w hSw;(try dsimp only at hSw);obtain ⟨hS1,hS2⟩:=hSw;go_simp
   all_goals with_reducible rfl
  ·exact fun _ _ _ h=>h
  try simp only [Act.put,Lq1,Lq2,Lq3]
  refine Tkq 6 (v:=?_) (by assumption) ?_ ?_ ?_
  rotate_left 1
  ·refine .inl ⟨by rfl,?_⟩;intro w hSw;(try dsimp only at hSw);obtain ⟨hS1,hS2⟩:=hSw;go_simp
   all_goals with_reducible rfl
  ·exact fun _ _ _ h=>h
  try simp only [Act.put,Lq1,Lq2,Lq3]
  refine Tkq 7 (v:=?_) (by assumption) ?_ ?_ ?_
  rotate_left 1
  ·refine .inl ⟨by rfl,?_⟩;intro w hSw;(try dsimp only at hSw);obtain ⟨hS1,hS2⟩:=hSw;go_simp
   all_goals with_reducible rfl
  ·exact fun _ _ _ h=>h
  try simp only [Act.put,Lq1,Lq2,Lq3]
  refine Tkq 8 (v:=?_) (by assumption) ?_ ?_ ?_
  rotate_left 1
  ·refine .inl ⟨by rfl,?_⟩;intro w hSw;(try dsimp only at hSw);obtain ⟨hS1,hS2⟩:=hSw;go_simp
   all_goals with_reducible rfl
  ·exact fun _ _ _ h=>h
  try simp only [Act.put,Lq1,Lq2,Lq3]
  refine wpAnyH_ready (rs:=[9]) (by kernel_rfl) (by simp) ?_
  refine AllReadyH.cons (o:=?_) ?_ ?_ AllReadyH.nil
  rotate_left 1
  ·(simp only [Gq1,Gq2,Gq3])<;>rfl
  intro K hK
  go_simp
  refine HC.out.mono ?_
  rintro e7 w7 ⟨rfl,m7⟩
  have M7:=Hxq (((Mod.refl [b] w).drew).trans m7 (by simp))
  clear m7
  unfold stopE
  dsimp only
  clear hK K
  go_wp2_with fail
  exact ⟨rfl,rfl,M7.out.mono (T:=[b,px]) (fun t ht=>.inl (by simp at ht;simp [ht]))⟩
 | ok p j =>
  have q1:=D1.1
  have q2:=D1.2
  go_wp2_with fail
  go_region_law (first
   | (go_simp;refine HC.out.mono ?_;rintro e3 w3 ⟨y3,rfl,hy3,h3,m3⟩;obtain ⟨u1,rfl,hb1⟩:=hy3;obtain ⟨a1,c1,rfl⟩:=hb1.lit;have m03:=(((Mod.refl [b] w).drew).trans m3 (by simp));have P3:=Hxq (m03.at HP.out (by simp;omega));have r2:=cell_at P3.out 2;have r3:=cell_at P3.out 3;simp only [List.getElem?_toArray,List.getElem?_cons_zero,List.getElem?_cons_succ] at r2 r3;have f3:∀ j,w3.frozen? ⟨px,j,none⟩=false:=(fun j=>free_at P3.out j);have H3:=Lib.hid h3;have M3:=Lib.hid m03;clear h3 m3 m03))
  all_goals (
   go_wp2_with fail
   go_end0
   have mS:Mod [px] w3 (setCs w3 px 2 [.string p.rel,.slice a1 p.terms.length c1]):=setCs_mod px _ 2 w3
   have hS:∀ s∈[px],¬ w.heap.size<=s:=fun s hs=>by rw [Msq] at hs;omega
   exact ⟨rfl,⟨#[.string p.rel,.slice a1 p.terms.length c1],setCs_heap [.string p.rel,.slice a1 p.terms.length c1] 2 [.pointer (some ⟨b,0,none⟩),.func (.func 46) #[] #[],x1,x2] w3 P3.out,⟨_,rfl,hb1.keep mS hS⟩⟩,H3.out.keep mS (by simp;omega) (fun k hk hs=>by rw [Msq] at hs;exact hpx (hs ▸ hk)),(M3.out.mono (T:=[b,px]) (fun t ht=>.inl (by simp at ht;simp [ht]))).trans mS (by simp)⟩)
set_option maxHeartbeats 4000000 in
theorem readU_any (b:Nat) (ra:Option Addr) (rc:Nat) (f:Value) (v:Sy.Env) (px:Nat) (x1 x2 x3 x4 x5:Value) (w:World) (h:RdP w b ra rc f v 0) (hv:EnvOk v) (hp:w.heap[px]?=some (.cells #[.pointer (some ⟨b,0,none⟩),.func (.func 43) #[] #[],x1,x2,x3,x4,x5] 151 (0,0))) (hne:px≠b) (hpx:px∉fp (.slice ra v.ws.length rc)) :
  Calls Tryz.prog 78 #[.pointer (some ⟨px,0,none⟩)] w (RdRes b ra rc f v (Sy.rule v 0) [b,px] (fun p w'=>∃ C:Array Value,w'.heap[px]?=some (.cells (#[.pointer (some ⟨b,0,none⟩),.func (.func 43) #[] #[]]++C) 151 (0,0))/\valR w.heap.size p w' (.agg C)) w):=by
 have HC:=Hxq (rule_any b ra rc f v 0 w.drew (h.past ((Mod.refl [] w).drew) (by simp)) hv (Nat.zero_le _))
 have hlt:=lt_of_block hp
 have HH:=Lib.hid h;have HP:=Lib.hid hp
 have D1:w.drew.cell? ⟨px,0,none⟩=some (.pointer (some ⟨b,0,none⟩))/\w.drew.cell? ⟨px,1,none⟩=some (.func (.func 43) #[] #[]):=⟨cell_at hp 0,cell_at hp 1⟩
 go_enter Tryz.func78,Tryz.ntmps78
 generalize Sy.rule v 0=q at *
 cases q with
 | err g =>
  go_wp2_with fail
  refine wp_region_held_drew (S:=(fun w':World=>w'.cell? ⟨px,0,none⟩=some (.pointer (some ⟨b,0,none⟩))/\w'.cell? ⟨px,1,none⟩=some (.func (.func 43) #[] #[]))) (by kernel_rfl) (by (try dsimp only);exact D1) (fun hHeld=>?_)
  refine Tkq 0 (v:=?_) (by assumption) ?_ ?_ ?_
  rotate_left 1
  ·refine .inl ⟨by rfl,?_⟩;intro w hSw;(try dsimp only at hSw);obtain ⟨hS1,hS2⟩:=hSw;go_simp
   all_goals with_reducible rfl
  ·exact fun _ _ _ h=>h
  try simp only [Act.put,Lq1,Lq2,Lq3]
  refine Tkq 1 (v:=?_) (by assumption) ?_ ?_ ?_
  rotate_left 1
  ·refine .inl ⟨by rfl,?_⟩;intro w hSw;(try dsimp only at hSw);obtain ⟨hS1,hS2⟩:=hSw;go_simp
   all_goals with_reducible rfl
  ·exact fun _ _ _ h=>h
  try simp only [Act.put,Lq1,Lq2,Lq3]
  refine Tkq 2 (v:=?_) (by assumption) ?_ ?_ ?_
  rotate_left 1
  ·refine .inl ⟨by rfl,?_⟩;intro w hSw;(try dsimp only at hSw);obtain ⟨hS1,hS2⟩:=hSw;go_simp
   all_goals with_reducible rfl
  ·exact fun _ _ _ h=>h
  try simp only [Act.put,Lq1,Lq2,Lq3]
  refine Tkq 3 (v:=?_) (by assumption) ?_ ?_ ?_
  rotate_left 1
  ·refine .inl ⟨by rfl,?_⟩;intro w hSw;(try dsimp only at hSw);obtain ⟨hS1,hS2⟩:=hSw;go_simp
   all_goals with_reducible rfl
  ·exact fun _ _ _ h=>h
  try simp only [Act.put,Lq1,Lq2,Lq3]
  refine Tkq 4 (v:=?_) (by assumption) ?_ ?_ ?_
  rotate_left 1
  ·refine .inl ⟨by rfl,?_⟩;intro w hSw;(try dsimp only at hSw);obtain ⟨hS1,hS2⟩:=hSw;go_simp
   all_goals with_reducible rfl
  ·exact fun _ _ _ h=>h
  try simp only [Act.put,Lq1,Lq2,Lq3]
  refine Tkq 5 (v:=?_) (by assumption) ?_ ?_ ?_
  rotate_left 1
  ·refine .inl ⟨by rfl,?_⟩;intro w hSw;(try dsimp only at hSw);obtain ⟨hS1,hS2⟩:=hSw;go_simp
   all_goals with_reducible rfl
  ·exact fun _ _ _ h=>h
  try simp only [Act.put,Lq1,Lq2,Lq3]
  refine Tkq 6 (v:=?_) (by assumption) ?_ ?_ ?_
  rotate_left 1
  ·refine .inl ⟨by rfl,?_⟩;intro w hSw;(try dsimp only at hSw);obtain ⟨hS1,hS2⟩:=hSw;go_simp
   all_goals with_reducible rfl
  ·exact fun _ _ _ h=>h
  try simp only [Act.put,Lq1,Lq2,Lq3]
  refine Tkq 7 (v:=?_) (by assumption) ?_ ?_ ?_
  rotate_left 1
  ·refine .inl ⟨by rfl,?_⟩;intro w hSw;(try dsimp only at hSw);obtain ⟨hS1,hS2⟩:=hSw;go_simp
   all_goals with_reducible rfl
  ·exact fun _ _ _ h=>h
  try simp only [Act.put,Lq1,Lq2,Lq3]
  refine Tkq 8 (v:=?_) (by assumption) ?_ ?_ ?_
  rotate_left 1
  ·refine .inl ⟨by rfl,?_⟩;intro w hSw;(try dsimp only at hSw);obtain ⟨hS1,hS2⟩:=hSw;go_simp
   all_goals with_reducible rfl
  ·exact fun _ _ _ h=>h
  try simp only [Act.put,Lq1,Lq2,Lq3]
  refine wpAnyH_ready (rs:=[9]) (by kernel_rfl) (by simp) ?_
  refine AllReadyH.cons (o:=?_) ?_ ?_ AllReadyH.nil
  rotate_left 1
  ·(simp only [Gq1,Gq2,Gq3])<;>rfl
  intro K hK
  go_simp
  refine HC.out.mono ?_
  rintro e7 w7 ⟨rfl,m7⟩
  have M7:=Hxq (((Mod.refl [b] w).drew).trans m7 (by simp))
  clear m7
  unfold stopE
  dsimp only
  clear hK K
  go_wp2_with fail
  exact ⟨rfl,rfl,M7.out.mono (T:=[b,px]) (fun t ht=>.inl (by simp at ht;simp [ht]))⟩
 | ok p j =>
  have q1:=D1.1
  have q2:=D1.2
  go_wp2_with fail
  go_region_law (first
   | (go_simp;refine HC.out.mono ?_;rintro e3 w3 ⟨y3,rfl,hy3,h3,m3⟩;obtain ⟨u1,t1,rfl,hb1,hc1⟩:=hy3;obtain ⟨a1,c1,rfl⟩:=hb1.lit;obtain ⟨a2,c2,rfl⟩:=hc1.lit;unfold ruV;have m03:=(((Mod.refl [b] w).drew).trans m3 (by simp));have P3:=Hxq (m03.at HP.out (by simp;omega));have r2:=cell_at P3.out 2;have r3:=cell_at P3.out 3;have r4:=cell_at P3.out 4;have r5:=cell_at P3.out 5;have r6:=cell_at P3.out 6;simp only [List.getElem?_toArray,List.getElem?_cons_zero,List.getElem?_cons_succ] at r2 r3 r4 r5 r6;have f3:∀ j,w3.frozen? ⟨px,j,none⟩=false:=(fun j=>free_at P3.out j);have H3:=Lib.hid h3;have M3:=Lib.hid m03;clear h3 m3 m03))
  all_goals (
   go_wp2_with fail
   go_end0
   have mS:Mod [px] w3 (setCs w3 px 2 [.string p.head.rel,.slice a1 p.head.terms.length c1,.slice a2 p.body.length c2,.int .i64 p.line,.int .i64 p.col]):=setCs_mod px _ 2 w3
   have hS:∀ s∈[px],¬ w.heap.size<=s:=fun s hs=>by rw [Msq] at hs;omega
   exact ⟨rfl,⟨#[.string p.head.rel,.slice a1 p.head.terms.length c1,.slice a2 p.body.length c2,.int .i64 p.line,.int .i64 p.col],setCs_heap [.string p.head.rel,.slice a1 p.head.terms.length c1,.slice a2 p.body.length c2,.int .i64 p.line,.int .i64 p.col] 2 [.pointer (some ⟨b,0,none⟩),.func (.func 43) #[] #[],x1,x2,x3,x4,x5] w3 P3.out,⟨_,_,rfl,hb1.keep mS hS,hc1.keep mS hS⟩⟩,H3.out.keep mS (by simp;omega) (fun k hk hs=>by rw [Msq] at hs;exact hpx (hs ▸ hk)),(M3.out.mono (T:=[b,px]) (fun t ht=>.inl (by simp at ht;simp [ht]))).trans mS (by simp)⟩)
theorem EB.one_cell {F:Nat->Prop} {w:World} {e:Pr.Ex} {u:Value} (h:EB F w e u):u.oneCell'=true:=by
 obtain ⟨a,c,rfl⟩:=h.lit
 rfl
theorem liV_all {F:Nat->Prop} {w:World} {l:Pr.Li} {U:LU} (h:LB F w l U):(liV l U).toList.all (·.oneCell')=true:=by
 obtain ⟨k,a,op,l1,r1,fn,av,of,body,ln,cl⟩:=l
 obtain ⟨ht,hl,hr,ho,hb⟩:=h.parts
 obtain ⟨a1,c1,h1⟩:=ht.lit
 obtain ⟨a2,c2,h2⟩:=hb.lit
 have e1:=hl.one_cell
 have e2:=hr.one_cell
 have e3:=ho.one_cell
 have e4:U.t.oneCell'=true:=by rw [h1];rfl
 have e5:U.b.oneCell'=true:=by rw [h2];rfl
 simp only [liV,List.all_cons,List.all_nil,e1,e2,e3,e4,e5]
 rfl
theorem liV_len (l:Pr.Li) (U:LU):(liV l U).size=30:=liV_size (l,U)
theorem size_of {T:TypeId} {n:Nat} {C:Array Value} (h:(Tryz.prog.info? T).map (·.size)=some n) (hC:C.size=n):(Tryz.prog.info? T).map (·.size)=some C.size:=by rw [hC];exact h
set_option maxHeartbeats 4000000 in
theorem lit1_any (b:Nat) (ra:Option Addr) (rc:Nat) (f:Value) (v:Sy.Env) (i:Nat) (w:World) (h:RdP w b ra rc f v i) (hv:EnvOk v) (hi:i<=v.ws.length) :
  Calls Tryz.prog 40 #[.pointer (some ⟨b,0,none⟩)] w (PRes b ra rc f v (Sy.lit v 0 i) (valL w.heap.size) w):=by
 have mA:=(Mod.refl [] w).alloc (Obj.cells #[Value.int IntKind.i64 0,Value.string ⟨#[]⟩,Value.slice none 0 0,Value.int IntKind.i64 0,Value.int IntKind.i64 0,Value.string ⟨#[]⟩,Value.int IntKind.i64 0,Value.int IntKind.i64 0,Value.string ⟨#[]⟩,Value.int IntKind.i64 0,Value.slice none 0 0,Value.int IntKind.i64 0,Value.string ⟨#[]⟩,Value.int IntKind.i64 0,Value.int IntKind.i64 0,Value.string ⟨#[]⟩,Value.int IntKind.i64 0,Value.slice none 0 0,Value.int IntKind.i64 0,Value.string ⟨#[]⟩,Value.int IntKind.i64 0,Value.string ⟨#[]⟩,Value.int IntKind.i64 0,Value.int IntKind.i64 0,Value.string ⟨#[]⟩,Value.int IntKind.i64 0,Value.slice none 0 0,Value.slice none 0 0,Value.int IntKind.i64 0,Value.int IntKind.i64 0] 50)
 have eA:=heap_alloc_new w (Obj.cells #[Value.int IntKind.i64 0,Value.string ⟨#[]⟩,Value.slice none 0 0,Value.int IntKind.i64 0,Value.int IntKind.i64 0,Value.string ⟨#[]⟩,Value.int IntKind.i64 0,Value.int IntKind.i64 0,Value.string ⟨#[]⟩,Value.int IntKind.i64 0,Value.slice none 0 0,Value.int IntKind.i64 0,Value.string ⟨#[]⟩,Value.int IntKind.i64 0,Value.int IntKind.i64 0,Value.string ⟨#[]⟩,Value.int IntKind.i64 0,Value.slice none 0 0,Value.int IntKind.i64 0,Value.string ⟨#[]⟩,Value.int IntKind.i64 0,Value.string ⟨#[]⟩,Value.int IntKind.i64 0,Value.int IntKind.i64 0,Value.string ⟨#[]⟩,Value.int IntKind.i64 0,Value.slice none 0 0,Value.slice none 0 0,Value.int IntKind.i64 0,Value.int IntKind.i64 0] 50)
 have HC:=Hxq (lit_any b ra rc f v i _ (h.past mA (by simp)) hv hi)
 have hbl:=h.lt
 have HLo:=Lib.hid h.low
 have EA:=Lib.hid eA;have MA:=Lib.hid mA
 have hsz:(w.alloc (Obj.cells #[Value.int IntKind.i64 0,Value.string ⟨#[]⟩,Value.slice none 0 0,Value.int IntKind.i64 0,Value.int IntKind.i64 0,Value.string ⟨#[]⟩,Value.int IntKind.i64 0,Value.int IntKind.i64 0,Value.string ⟨#[]⟩,Value.int IntKind.i64 0,Value.slice none 0 0,Value.int IntKind.i64 0,Value.string ⟨#[]⟩,Value.int IntKind.i64 0,Value.int IntKind.i64 0,Value.string ⟨#[]⟩,Value.int IntKind.i64 0,Value.slice none 0 0,Value.int IntKind.i64 0,Value.string ⟨#[]⟩,Value.int IntKind.i64 0,Value.string ⟨#[]⟩,Value.int IntKind.i64 0,Value.int IntKind.i64 0,Value.string ⟨#[]⟩,Value.int IntKind.i64 0,Value.slice none 0 0,Value.slice none 0 0,Value.int IntKind.i64 0,Value.int IntKind.i64 0] 50)).heap.size=w.heap.size+1:=by simp
 clear h eA mA
 generalize Sy.lit v 0 i=q at *
 go_enter Tryz.func40,Tryz.ntmps40
 go_upto_region 1 with fail
 generalize w.alloc (Obj.cells _ 50)=wA at *
 cases q with
 | err g =>
  go_wp2_with fail
  refine HC.out.mono ?_
  rintro e1 w1 ⟨rfl,m1⟩
  have M1:=Hxq ((MA.out.mono (T:=[b]) (by simp)).trans m1 (by simp))
  clear m1
  unfold stopE
  go_wp2_with fail
  exact ⟨rfl,rfl,M1.out⟩
 | ok l j =>
  go_wp2_with fail
  refine HC.out.mono ?_
  rintro e1 w1 ⟨y,rfl,⟨U,rfl,hL⟩,h1,m1⟩
  have M1:=Hxq ((MA.out.mono (T:=[b]) (by simp)).trans m1 (by simp))
  have E1:=Hxq (m1.at EA.out (by simp;omega))
  have H1:=Lib.hid h1
  have HO:=Hxq (liV_all hL)
  have HL:=Lib.hid hL
  have hC:=liV_len l U
  have HX:Hid (Value.agg (liV l U)=.agg (liV l U)):=Lib.hid rfl
  clear m1 h1 hL HC
  generalize hCC:liV l U=C at *
  have HCC:=Lib.hid hCC
  clear hCC
  have hlt1:=lt_of_block E1.out
  go_wp2_with (refine wpList_store_at rfl 50 _ _ rfl w.heap.size C _ 50 rfl rfl E1.out (size_of Tryz.sizeLit hC) (by rw [hC];rfl) HO.out ?_)
  have mR:=Mod.setRow w1 w.heap.size C
  refine bodyPost_ret (results_cell_row rfl _ _ _ _ _ _ _ rfl (setRow_heap w1 w.heap.size _ C 50 _ E1.out) Tryz.underlying50 rfl (size_of Tryz.sizeLit hC)) rfl ⟨_,rfl,⟨U,by rw [HCC.out],(HL.out.keep mR (by simp;omega)).mono (fun k hk _=>by omega)⟩,H1.out.new HLo.out mR (by simp),M1.out.trans mR (by simp)⟩
/-- a part: its two pointers, what is got -/
theorem part_there {w:World} {px:Nat} {a o:Value} {X C:Array Value} {T:TypeId} {n:Nat} (h:w.heap[px]?=some (.cells (#[a,o]++X) T (0,0))) (hX:X.size=n) (hC:C.size=n):w.there px 2 C.size:=by
 intro j hj
 refine ⟨?_,free_at h _⟩
 rw [cell_at h]
 simp
 omega
theorem part_c0 {w:World} {px:Nat} {a o:Value} {X:Array Value} {T:TypeId} {fr:Nat × Nat} (h:w.heap[px]?=some (.cells (#[a,o]++X) T fr)):w.cell? ⟨px,0,none⟩=some a/\w.cell? ⟨px,1,none⟩=some o :=
 ⟨(cell_at h 0).trans ((Array.getElem?_append_left (by simp)).trans rfl),(cell_at h 1).trans ((Array.getElem?_append_left (by simp)).trans rfl)⟩
theorem setCells_eq:∀ (vs:List Value) (b o:Nat) (w:World),w.setCells b o vs=setCs w b o vs
 | [],b,o,w=>rfl
 | v :: r,b,o,w=>by rw [World.setCells,setCs,setCells_eq r b (o+1)]
theorem putL_over:∀ (c p x:List Value),x.length=c.length->putL (p++x) p.length c=p++c
 | [],p,x,h=>by
  have:x=[]:=List.eq_nil_of_length_eq_zero (by simpa using h)
  subst this
  rfl
 | c0 :: c,p,x0 :: x,h=>by
  rw [putL]
  have e:(p++x0 :: x).set p.length c0=(p++[c0])++x:=by simp
  rw [e]
  have:=putL_over c (p++[c0]) x (by simpa using h)
  rw [List.length_append] at this
  rw [show p.length+1=p.length+[c0].length from rfl,this]
  simp
 | c0 :: c,p,[],h=>by simp at h
theorem part_got {w:World} {px:Nat} {a o:Value} {X C:Array Value} {T:TypeId} (h:w.heap[px]?=some (.cells (#[a,o]++X) T (0,0))) (hX:X.size=C.size):(w.setCells px 2 C.toList).heap[px]?=some (.cells (#[a,o]++C) T (0,0)):=by
 rw [setCells_eq]
 have h2:=setCs_heap (T:=T) (fr:=(0,0)) C.toList 2 ([a,o]++X.toList) w (by rw [h];simp)
 have h3:=putL_over C.toList [a,o] X.toList (by simpa using hX)
 rw [show [a,o].length=2 from rfl] at h3
 rw [h2,h3]
 simp
theorem part_mod (w:World) (px:Nat) (C:List Value):Mod [px] w (w.setCells px 2 C):=by
 rw [setCells_eq]
 exact setCs_mod px C 2 w
set_option maxHeartbeats 4000000 in
theorem readL_any (b:Nat) (ra:Option Addr) (rc:Nat) (f:Value) (v:Sy.Env) (px:Nat) (X:Array Value) (hX:X.size=30) (w:World) (h:RdP w b ra rc f v 0) (hv:EnvOk v) (hp:w.heap[px]?=some (.cells (#[.pointer (some ⟨b,0,none⟩),.func (.func 40) #[] #[]]++X) 141 (0,0))) (hne:px≠b) (hpx:px∉fp (.slice ra v.ws.length rc)) :
  Calls Tryz.prog 69 #[.pointer (some ⟨px,0,none⟩)] w (RdRes b ra rc f v (Sy.lit v 0 0) [b,px] (fun p w'=>∃ C:Array Value,w'.heap[px]?=some (.cells (#[.pointer (some ⟨b,0,none⟩),.func (.func 40) #[] #[]]++C) 141 (0,0))/\valL w.heap.size p w' (.agg C)) w):=by
 have HC:=Hxq (lit1_any b ra rc f v 0 w.drew (h.past ((Mod.refl [] w).drew) (by simp)) hv (Nat.zero_le _))
 have hlt:=lt_of_block hp
 have HH:=Lib.hid h;have HP:=Lib.hid hp
 have D1:w.drew.cell? ⟨px,0,none⟩=some (.pointer (some ⟨b,0,none⟩))/\w.drew.cell? ⟨px,1,none⟩=some (.func (.func 40) #[] #[]):=part_c0 (drew_cells hp)
 clear hp
 go_enter Tryz.func69,Tryz.ntmps69
 generalize Sy.lit v 0 0=q at *
 cases q with
 | err g =>
  go_wp2_with fail
  refine wp_region_held_drew (S:=(fun w':World=>w'.cell? ⟨px,0,none⟩=some (.pointer (some ⟨b,0,none⟩))/\w'.cell? ⟨px,1,none⟩=some (.func (.func 40) #[] #[]))) (by kernel_rfl) (by (try dsimp only);exact D1) (fun hHeld=>?_)
  refine Tkq 0 (v:=?_) (by assumption) ?_ ?_ ?_
  rotate_left 1
  ·refine .inl ⟨by rfl,?_⟩;intro w hSw;(try dsimp only at hSw);obtain ⟨hS1,hS2⟩:=hSw;go_simp
   all_goals with_reducible rfl
  ·exact fun _ _ _ h=>h
  try simp only [Act.put,Lq1,Lq2,Lq3]
  refine Tkq 1 (v:=?_) (by assumption) ?_ ?_ ?_
  rotate_left 1
  ·refine .inl ⟨by rfl,?_⟩;intro w hSw;(try dsimp only at hSw);obtain ⟨hS1,hS2⟩:=hSw;go_simp
   all_goals with_reducible rfl
  ·exact fun _ _ _ h=>h
  try simp only [Act.put,Lq1,Lq2,Lq3]
  refine Tkq 2 (v:=?_) (by assumption) ?_ ?_ ?_
  rotate_left 1
  ·refine .inl ⟨by rfl,?_⟩;intro w hSw;(try dsimp only at hSw);obtain ⟨hS1,hS2⟩:=hSw;go_simp
   all_goals with_reducible rfl
  ·exact fun _ _ _ h=>h
  try simp only [Act.put,Lq1,Lq2,Lq3]
  refine Tkq 3 (v:=?_) (by assumption) ?_ ?_ ?_
  rotate_left 1
  ·refine .inl ⟨by rfl,?_⟩;intro w hSw;(try dsimp only at hSw);obtain ⟨hS1,hS2⟩:=hSw;go_simp
   all_goals with_reducible rfl
  ·exact fun _ _ _ h=>h
  try simp only [Act.put,Lq1,Lq2,Lq3]
  refine Tkq 4 (v:=?_) (by assumption) ?_ ?_ ?_
  rotate_left 1
  ·refine .inl ⟨by rfl,?_⟩;intro w hSw;(try dsimp only at hSw);obtain ⟨hS1,hS2⟩:=hSw;go_simp
   all_goals with_reducible rfl
  ·exact fun _ _ _ h=>h
  try simp only [Act.put,Lq1,Lq2,Lq3]
  refine Tkq 5 (v:=?_) (by assumption) ?_ ?_ ?_
  rotate_left 1
  ·refine .inl ⟨by rfl,?_⟩;intro w hSw;(try dsimp only at hSw);obtain ⟨hS1,hS2⟩:=hSw;go_simp
   all_goals with_reducible rfl
  ·exact fun _ _ _ h=>h
  try simp only [Act.put,Lq1,Lq2,Lq3]
  refine Tkq 6 (v:=?_) (by assumption) ?_ ?_ ?_
  rotate_left 1
  ·refine .inl ⟨by rfl,?_⟩;intro w hSw;(try dsimp only at hSw);obtain ⟨hS1,hS2⟩:=hSw;go_simp
   all_goals with_reducible rfl
  ·exact fun _ _ _ h=>h
  try simp only [Act.put,Lq1,Lq2,Lq3]
  refine Tkq 7 (v:=?_) (by assumption) ?_ ?_ ?_
  rotate_left 1
  ·refine .inl ⟨by rfl,?_⟩;intro w hSw;(try dsimp only at hSw);obtain ⟨hS1,hS2⟩:=hSw;go_simp
   all_goals with_reducible rfl
  ·exact fun _ _ _ h=>h
  try simp only [Act.put,Lq1,Lq2,Lq3]
  refine Tkq 8 (v:=?_) (by assumption) ?_ ?_ ?_
  rotate_left 1
  ·refine .inl ⟨by rfl,?_⟩;intro w hSw;(try dsimp only at hSw);obtain ⟨hS1,hS2⟩:=hSw;go_simp
   all_goals with_reducible rfl
  ·exact fun _ _ _ h=>h
  try simp only [Act.put,Lq1,Lq2,Lq3]
  refine wpAnyH_ready (rs:=[9]) (by kernel_rfl) (by simp) ?_
  refine AllReadyH.cons (o:=?_) ?_ ?_ AllReadyH.nil
  rotate_left 1
  ·(simp only [Gq1,Gq2,Gq3])<;>rfl
  intro K hK
  go_simp
  refine HC.out.mono ?_
  rintro e7 w7 ⟨rfl,m7⟩
  have M7:=Hxq (((Mod.refl [b] w).drew).trans m7 (by simp))
  clear m7
  unfold stopE
  dsimp only
  clear hK K
  go_wp2_with fail
  exact ⟨rfl,rfl,M7.out.mono (T:=[b,px]) (fun t ht=>.inl (by simp at ht;simp [ht]))⟩
 | ok p j =>
  have q1:=D1.1
  have q2:=D1.2
  go_wp2_with fail
  refine wp_region_held_drew (S:=(fun w':World=>w'.cell? ⟨px,0,none⟩=some (.pointer (some ⟨b,0,none⟩))/\w'.cell? ⟨px,1,none⟩=some (.func (.func 40) #[] #[]))) (by kernel_rfl) (by (try dsimp only);exact D1) (fun hHeld=>?_)
  refine Tkq 0 (v:=?_) (by assumption) ?_ ?_ ?_
  rotate_left 1
  ·refine .inl ⟨by rfl,?_⟩;intro w hSw;(try dsimp only at hSw);obtain ⟨hS1,hS2⟩:=hSw;go_simp
   all_goals with_reducible rfl
  ·exact fun _ _ _ h=>h
  try simp only [Act.put,Lq1,Lq2,Lq3]
  refine Tkq 1 (v:=?_) (by assumption) ?_ ?_ ?_
  rotate_left 1
  ·refine .inl ⟨by rfl,?_⟩;intro w hSw;(try dsimp only at hSw);obtain ⟨hS1,hS2⟩:=hSw;go_simp
   all_goals with_reducible rfl
  ·exact fun _ _ _ h=>h
  try simp only [Act.put,Lq1,Lq2,Lq3]
  refine Tkq 2 (v:=?_) (by assumption) ?_ ?_ ?_
  rotate_left 1
  ·refine .inl ⟨by rfl,?_⟩;intro w hSw;(try dsimp only at hSw);obtain ⟨hS1,hS2⟩:=hSw;go_simp
   all_goals with_reducible rfl
  ·exact fun _ _ _ h=>h
  try simp only [Act.put,Lq1,Lq2,Lq3]
  refine Tkq 3 (v:=?_) (by assumption) ?_ ?_ ?_
  rotate_left 1
  ·refine .inl ⟨by rfl,?_⟩;intro w hSw;(try dsimp only at hSw);obtain ⟨hS1,hS2⟩:=hSw;go_simp
   all_goals with_reducible rfl
  ·exact fun _ _ _ h=>h
  try simp only [Act.put,Lq1,Lq2,Lq3]
  refine Tkq 4 (v:=?_) (by assumption) ?_ ?_ ?_
  rotate_left 1
  ·refine .inl ⟨by rfl,?_⟩;intro w hSw;(try dsimp only at hSw);obtain ⟨hS1,hS2⟩:=hSw;go_simp
   all_goals with_reducible rfl
  ·exact fun _ _ _ h=>h
  try simp only [Act.put,Lq1,Lq2,Lq3]
  refine Tkq 5 (v:=?_) (by assumption) ?_ ?_ ?_
  rotate_left 1
  ·refine .inl ⟨by rfl,?_⟩;intro w hSw;(try dsimp only at hSw);obtain ⟨hS1,hS2⟩:=hSw;go_simp
   all_goals with_reducible rfl
  ·exact fun _ _ _ h=>h
  try simp only [Act.put,Lq1,Lq2,Lq3]
  refine Tkq 6 (v:=?_) (by assumption) ?_ ?_ ?_
  rotate_left 1
  ·refine .inl ⟨by rfl,?_⟩;intro w hSw;(try dsimp only at hSw);obtain ⟨hS1,hS2⟩:=hSw;go_simp
   all_goals with_reducible rfl
  ·exact fun _ _ _ h=>h
  try simp only [Act.put,Lq1,Lq2,Lq3]
  refine Tkq 7 (v:=?_) (by assumption) ?_ ?_ ?_
  rotate_left 1
  ·refine .inl ⟨by rfl,?_⟩;intro w hSw;(try dsimp only at hSw);obtain ⟨hS1,hS2⟩:=hSw;go_simp
   all_goals with_reducible rfl
  ·exact fun _ _ _ h=>h
  try simp only [Act.put,Lq1,Lq2,Lq3]
  refine Tkq 8 (v:=?_) (by assumption) ?_ ?_ ?_
  rotate_left 1
  ·refine .inl ⟨by rfl,?_⟩;intro w hSw;(try dsimp only at hSw);obtain ⟨hS1,hS2⟩:=hSw;go_simp
   all_goals with_reducible rfl
  ·exact fun _ _ _ h=>h
  try simp only [Act.put,Lq1,Lq2,Lq3]
  refine wpAnyH_ready (rs:=[9]) (by kernel_rfl) (by simp) ?_
  refine AllReadyH.cons (o:=?_) ?_ ?_ AllReadyH.nil
  rotate_left 1
  ·(simp only [Gq1,Gq2,Gq3])<;>rfl
  intro K hK
  go_simp
  refine HC.out.mono ?_
  rintro e3 w3 ⟨y3,rfl,⟨U,rfl,hL⟩,h3,m3⟩
  have m03:=(((Mod.refl [b] w).drew).trans m3 (by simp))
  have P3:=Hxq (m03.at HP.out (by simp;omega))
  have H3:=Lib.hid h3;have M3:=Lib.hid m03;have HL:=Lib.hid hL;have HO:=Hxq (liV_all hL)
  have hC:=liV_len p U
  clear h3 m3 m03 hL
  generalize hCC:liV p U=C at *
  have HCC:=Lib.hid hCC
  clear hCC
  refine hK.out _ _ (by (try dsimp only);exact part_c0 P3.out) (fun hHeld=>?_)
  clear hK K
  try simp only [Act.put,Lq1,Lq2,Lq3]
  refine Tkq 10 (v:=?_) (by assumption) ?_ ?_ ?_
  rotate_left 1
  ·refine .inl ⟨by rfl,?_⟩;intro w hSw;(try dsimp only at hSw);obtain ⟨hS1,hS2⟩:=hSw;go_simp
   all_goals with_reducible rfl
  ·exact fun _ _ _ h=>h
  try simp only [Act.put,Lq1,Lq2,Lq3]
  refine Tkq 11 (v:=?_) (by assumption) ?_ ?_ ?_
  rotate_left 1
  ·refine .inl ⟨by rfl,?_⟩;intro w hSw;(try dsimp only at hSw);obtain ⟨hS1,hS2⟩:=hSw;go_simp
   all_goals with_reducible rfl
  ·exact fun _ _ _ h=>h
  try simp only [Act.put,Lq1,Lq2,Lq3]
  refine wpAnyH_ready (rs:=[12]) (by kernel_rfl) (by simp) ?_
  refine AllReadyH.cons (o:=?_) ?_ ?_ AllReadyH.nil
  rotate_left 1
  ·(simp only [Gq1,Gq2,Gq3])<;>rfl
  intro K hK
  refine (if_pos (by rfl)).mpr ?_
  refine wp_store_mid 50 _ _ rfl px 2 C rfl rfl (part_there P3.out hX hC) (size_of Tryz.sizeLit hC) (by rw [<-Array.all_toList];exact HO.out) ?_
  refine hK.out _ _ (by (try dsimp only);exact (part_c0 (part_got P3.out (hX.trans hC.symm)))) (fun hHeld=>?_)
  clear hK K
  try simp only [Act.put,Lq1,Lq2,Lq3]
  refine wpAnyH_done (by kernel_rfl) ?_ _
  go_wp2_with fail
  go_end0
  have mS:=part_mod w3 px C.toList
  have hS:∀ s∈[px],¬ w.heap.size<=s:=fun s hs=>by rw [Msq] at hs;omega
  have hS2:∀ s∈[px],¬ w.drew.heap.size<=s:=hS
  exact ⟨rfl,⟨C,part_got P3.out (hX.trans hC.symm),⟨U,by rw [HCC.out],HL.out.keep mS hS2⟩⟩,H3.out.keep mS (by simp;omega) (fun k hk hs=>by rw [Msq] at hs;exact hpx (hs ▸ hk)),(M3.out.mono (T:=[b,px]) (fun t ht=>.inl (by simp at ht;simp [ht]))).trans mS (by simp)⟩
end Go.Proofs.YtppigckioalhhaaGreatDoorR
namespace Go.Proofs.YtppigckioalhhaaGreatDoorR.Sy
open Lx (Tok)
open Pr (Term Atom Ex Li Rul Rel Prog)
set_option linter.unusedVariables false
set_option linter.unusedSimpArgs false
def Nz {α:Type} (p:PR α):Prop:=∀ f,p=.err f->f.1≠0
section
variable {α β:Type} {v:Env}
theorem Nz.bind {p:PR α} {f:α->Nat->PR β} (h:Nz p) (hf:∀ a i,Nz (f a i)):Nz (p.bind f):=by
 cases p with
 | ok a i=>exact hf a i
 | err e=>exact fun g hg=>by cases hg;exact h e rfl
theorem nz_ok (a:α) (i:Nat):Nz (.ok a i):=fun f h=>by cases h
theorem nz_give (hv:v.last.1≠0) (c i:Nat) (hc:c≠0):Nz (.err (v.give c i):PR α):=fun f h=>by
 cases h
 unfold Env.give
 split
 ·exact hc
 ·exact hv
theorem nz_last (hv:v.last.1≠0):Nz (.err v.last:PR α):=fun f h=>by cases h;exact hv
theorem nz_must (hv:v.last.1≠0) (s:List Nat) (i:Nat):Nz (must v s i):=by
 unfold must
 split
 ·exact nz_ok _ _
 ·exact nz_give hv _ _ (by decide)
theorem nz_listF (hv:v.last.1≠0) (fin:List Nat) {one:Nat->PR α} (h:∀ i,Nz (one i)):∀ (n:Nat) (acc:List α) (i:Nat),Nz (listF v fin one n acc i)
 | 0,acc,i=>nz_last hv
 | n+1,acc,i=>by
  rw [listF]
  split
  ·exact (h _).bind fun a j=>nz_listF hv fin h n _ j
  ·exact (nz_must hv _ _).bind fun _ j=>nz_ok _ _
theorem nz_list (hv:v.last.1≠0) (fin:List Nat) {one:Nat->PR α} (h:∀ i,Nz (one i)) (i:Nat):Nz (list v fin one i):=by
 unfold list
 split
 ·exact nz_ok _ _
 ·exact (h _).bind fun a j=>nz_listF hv fin h _ _ j
theorem nz_name (hv:v.last.1≠0) (i:Nat):Nz (name v i):=by
 unfold name
 split
 ·exact nz_ok _ _
 ·exact nz_give hv _ _ (by decide)
theorem nz_value (hv:v.last.1≠0) (i:Nat):Nz (value v i):=by
 unfold value
 split
 ·exact nz_ok _ _
 ·exact nz_give hv _ _ (by decide)
theorem nz_term (hv:v.last.1≠0) (i:Nat):Nz (term v i):=by
 unfold term
 split
 ·exact nz_ok _ _
 ·split
  ·exact nz_ok _ _
  ·exact (nz_value hv _).bind fun _ _=>nz_ok _ _
theorem nz_atom (hv:v.last.1≠0) (i:Nat):Nz (atom v i):=(nz_name hv _).bind fun _ _=>(nz_must hv _ _).bind fun _ j=>(nz_list hv _ (nz_term hv) j).bind fun _ _=>nz_ok _ _
theorem nz_chain (hv:v.last.1≠0) {line:Nat} {sub:Nat->Nat->PR (Ex × Nat)} (h:∀ ab i,Nz (sub ab i)) {above:Nat}:∀ (n:Nat) (e:Ex) (d i:Nat),Nz (chainF v line sub above n e d i)
 | 0,e,d,i=>nz_last hv
 | n+1,e,d,i=>by
  rw [chainF]
  split
  ·exact nz_ok _ _
  ·split
   ·exact nz_give hv _ _ (by decide)
   ·exact (h _ _).bind fun _ j=>nz_chain hv h n _ _ j
theorem nz_exprF (hv:v.last.1≠0):∀ (k line above i:Nat),Nz (exprF v k line above i)
 | 0,line,above,i=>nz_last hv
 | k+1,line,above,i=>by
  rw [exprF]
  split
  ·split
   ·exact nz_ok _ _
   ·split
    ·exact nz_ok _ _
    ·split
     ·split
      ·exact nz_give hv _ _ (by decide)
      ·exact (nz_exprF hv k _ _ _).bind fun _ _=>nz_ok _ _
     ·split
      ·exact nz_give hv _ _ (by decide)
      ·exact (nz_must hv _ _).bind fun _ j=>(nz_exprF hv k _ _ j).bind fun _ j=>(nz_must hv _ j).bind fun _ _=>nz_ok _ _
  ·exact (nz_exprF hv k _ _ _).bind fun _ j=>nz_chain hv (fun ab i=>nz_exprF hv k _ ab i) _ _ _ j
theorem nz_expr (hv:v.last.1≠0) (i:Nat):Nz (expr v i):=(nz_exprF hv _ _ _ _).bind fun _ _=>nz_ok _ _
theorem nz_bodyF (hv:v.last.1≠0) {one:Nat->PR Li} (h:∀ i,Nz (one i)):∀ (n:Nat) (acc:List Li) (i:Nat),Nz (bodyF v one n acc i)
 | 0,acc,i=>nz_last hv
 | n+1,acc,i=>by
  rw [bodyF]
  split
  ·exact (h _).bind fun a j=>nz_bodyF hv h n _ j
  ·exact nz_ok _ _
theorem nz_bodyOf (hv:v.last.1≠0) {one:Nat->PR Li} (h:∀ i,Nz (one i)) (i:Nat):Nz (bodyOf v one i):=(h _).bind fun a j=>nz_bodyF hv h _ _ j
theorem nz_agg (hv:v.last.1≠0) {one:Nat->PR Li} (h:∀ i,Nz (one i)) (br i:Nat):Nz (aggOf v one br i):=by
 unfold aggOf
 split
 ·exact nz_give hv _ _ (by decide)
 ·refine (nz_must hv _ _).bind fun _ j=>Nz.bind ?_ fun o j=>(nz_bodyOf hv h j).bind fun _ j=>(nz_must hv _ j).bind fun _ _=>nz_ok _ _
  split
  ·exact (nz_expr hv _).bind fun _ j=>(nz_must hv _ j).bind fun _ _=>nz_ok _ _
  ·exact nz_ok _ _
theorem nz_litF (hv:v.last.1≠0):∀ (k br i:Nat),Nz (litF v k br i)
 | 0,br,i=>nz_last hv
 | k+1,br,i=>by
  rw [litF]
  split
  ·exact (nz_atom hv _).bind fun _ _=>nz_ok _ _
  ·split
   ·exact (nz_atom hv _).bind fun _ _=>nz_ok _ _
   ·split
    ·exact (nz_agg hv (fun i=>nz_litF hv k _ i) _ _).bind fun _ _=>nz_ok _ _
    ·refine (nz_expr hv _).bind fun _ j=>?_
     split
     ·exact nz_give hv _ _ (by decide)
     ·exact (nz_expr hv _).bind fun _ _=>nz_ok _ _
theorem nz_lit (hv:v.last.1≠0) (br i:Nat):Nz (lit v br i):=nz_litF hv _ _ _
theorem nz_rule (hv:v.last.1≠0) (i:Nat):Nz (rule v i):=by
 unfold rule
 refine (nz_atom hv _).bind fun _ j=>Nz.bind ?_ fun _ _=>nz_ok _ _
 split
 ·exact nz_bodyOf hv (fun i=>nz_lit hv 0 i) _
 ·exact nz_ok _ _
theorem nz_relation (hv:v.last.1≠0) (i:Nat):Nz (relation v i):=(nz_name hv _).bind fun _ _=>(nz_must hv _ _).bind fun _ j=>(nz_list hv _ (fun i=>by
  unfold ty
  split
  ·exact nz_give hv _ _ (by decide)
  ·exact nz_ok _ _) j).bind fun _ _=>nz_ok _ _
theorem nz_progF (hv:v.last.1≠0):∀ (n:Nat) (p:Prog) (i:Nat),Nz (progF v n p i)
 | 0,p,i=>nz_last hv
 | n+1,p,i=>by
  rw [progF]
  split
  ·split
   ·exact (nz_relation hv _).bind fun _ j=>(nz_must hv _ j).bind fun _ j=>nz_progF hv n _ j
   ·exact (nz_rule hv _).bind fun _ j=>(nz_must hv _ j).bind fun _ j=>nz_progF hv n _ j
  ·exact nz_ok _ _
theorem nz_prog (hv:v.last.1≠0) (i:Nat):Nz (prog v i):=nz_progF hv _ _ _
theorem nz_whole (hv:v.last.1≠0) {one:Nat->PR α} (h:Nz (one 0)):Nz (whole v one):=by
 unfold whole
 refine h.bind fun a i=>?_
 split
 ·exact nz_give hv _ _ (by decide)
 ·exact nz_ok _ _
end
theorem adv_progF (v:Env):∀ (n:Nat) (p:Prog),Adv v (progF v n p)
 | 0,p=>fun j a k hj h=>by cases h
 | n+1,p=>by
  intro j a k hj h
  rw [progF] at h
  split at h
  ·rename_i hl
   split at h
   ·obtain ⟨x,m,h1,h2⟩:=bind_ok h
    have h3:=adv_relation v (j+1) x m (by omega) h1
    obtain ⟨_,m2,h4,h5⟩:=bind_ok h2
    have h6:=adv_must v _ m _ m2 h3.2 h4
    have:=adv_progF v n _ m2 a k h6.2 h5
    omega
   ·obtain ⟨x,m,h1,h2⟩:=bind_ok h
    have h3:=adv_rule v j x m hj h1
    obtain ⟨_,m2,h4,h5⟩:=bind_ok h2
    have h6:=adv_must v _ m _ m2 h3.2 h4
    have:=adv_progF v n _ m2 a k h6.2 h5
    omega
  ·cases h;omega
theorem adv_prog (v:Env):Adv v (prog v):=adv_progF v _ _
theorem env_last (s:List Nat):(envOf s).last.1≠0:=by
 unfold envOf
 simp only
 split
 ·exact (by decide:(42:Nat)≠0)
 ·assumption
end Go.Proofs.YtppigckioalhhaaGreatDoorR.Sy
