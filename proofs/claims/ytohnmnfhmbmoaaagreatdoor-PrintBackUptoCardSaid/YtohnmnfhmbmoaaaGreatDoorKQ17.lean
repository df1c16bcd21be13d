/- THE TEXTS MERGED: SyRead SyReadL SyNz SyEnv SyBegin. -/
import Derived.Test.YtohnmnfhmbmoaaaGreatDoorKQ1
import Derived.Test.YtohnmnfhmbmoaaaGreatDoorKQ16
import Derived.Deep.MidRow
import Derived.Test.YtohnmnfhmbmoaaaGreatDoorKQ8
import Derived.Test.YtohnmnfhmbmoaaaGreatDoorKQ6
import Derived.Test.YtohnmnfhmbmoaaaGreatDoorKQ9
import Derived.Test.YtohnmnfhmbmoaaaGreatDoorKQ2
namespace Go.Proofs.YtohnmnfhmbmoaaaGreatDoor
open Go.RowKit
set_option linter.unusedVariables false
set_option linter.unusedSimpArgs false
set_option maxRecDepth 100000
set_option maxHeartbeats 4000000 in
theorem readP_any (b:Nat) (ra:Option Addr) (rc:Nat) (f:Value) (v:Sy.Env) (px:Nat) (x1 x2:Value) (w:World) (h:RdP w b ra rc f v 0) (hv:EnvOk v) (hp:w.heap[px]?=some (.cells #[.pointer (some ⟨b,0,none⟩),.func (.func 47) #[] #[],x1,x2] 144 (0,0))) (hne:px≠b) (hpx:px∉fp (.slice ra v.ws.length rc)) :
  Calls Tryz.prog 80 #[.pointer (some ⟨px,0,none⟩)] w (RdRes b ra rc f v (Sy.prog v 0) [b,px] (fun p w'=>∃ C:Array Value,w'.heap[px]?=some (.cells (#[.pointer (some ⟨b,0,none⟩),.func (.func 47) #[] #[]]++C) 144 (0,0))/\valP w.heap.size p w' (.agg C)) w):=by
 have HC:=Hxq (program_any b ra rc f v w.drew (h.past ((Mod.refl [] w).drew) (by simp)) hv)
 have hlt:=lt_of_block hp
 have HH:=Lib.hid h;have HP:=Lib.hid hp
 have D1:w.drew.cell? ⟨px,0,none⟩=some (.pointer (some ⟨b,0,none⟩))/\w.drew.cell? ⟨px,1,none⟩=some (.func (.func 47) #[] #[]):=⟨cell_at hp 0,cell_at hp 1⟩
 go_enter Tryz.func80,Tryz.ntmps80
 generalize Sy.prog v 0=q at *
 cases q with
 | err g =>
  go_wp2_with fail
  refine wp_region_held_drew (S:=(fun w':World=>w'.cell? ⟨px,0,none⟩=some (.pointer (some ⟨b,0,none⟩))/\w'.cell? ⟨px,1,none⟩=some (.func (.func 47) #[] #[]))) (by kernel_rfl) (by (try dsimp only);exact D1) (fun hHeld=>?_)
  refine Tkq 0 (v:=?_) (by assumption) ?_ ?_ ?_
  rotate_left 1
  ·refine .inl ⟨by rfl,?_⟩;intro w hSw;(try dsimp only at hSw);obtain ⟨hS1,hS2⟩:=hSw;go_simp
   all_goals with_reducible rfl
  ·exact fun _ _ _ h=>h
  try simp only [Act.put,Lq1,Lq2,Lq3]
  refine Tkq 1 (v:=?_) (by assumption) ?_ ?_ ?_
  rotate_left 1
  ·refine .inl ⟨by rfl,?_⟩;intro w hSw;(try dsimp only at hSw);obtain ⟨hS1,hS2⟩:=hSw;go_simp
   all_goals with_reducible rfl
  ·exact fun _ _ _ h=>h
  try simp only [Act.put,Lq1,Lq2,Lq3]
  refine Tkq 2 (v:=?_) (by assumption) ?_ ?_ ?_
  rotate_left 1
  ·refine .inl ⟨by rfl,?_⟩;intro w hSw;(try dsimp only at hSw);obtain ⟨hS1,hS2⟩:=hSw;go_simp
   all_goals with_reducible rfl
  ·exact fun _ _ _ h=>h
  try simp only [Act.put,Lq1,Lq2,Lq3]
  refine Tkq 3 (v:=?_) (by assumption) ?_ ?_ ?_
  rotate_left 1
  ·refine .inl ⟨by rfl,?_⟩;intro w hSw;(try dsimp only at hSw);obtain ⟨hS1,hS2⟩:=hSw;go_simp
   all_goals with_reducible rfl
  ·exact fun _ _ _ h=>h
  try simp only [Act.put,Lq1,Lq2,Lq3]
  refine Tkq 4 (v:=?_) (by assumption) ?_ ?_ ?_
  rotate_left 1
  ·refine .inl ⟨by rfl,?_⟩;intro w hSw;(try dsimp only at hSw);obtain ⟨hS1,hS2⟩:=hSw;go_simp
   all_goals with_reducible rfl
  ·exact fun _ _ _ h=>h
  try simp only [Act.put,Lq1,Lq2,Lq3]
  refine Tkq 5 (v:=?_) (by assumption) ?_ ?_ ?_
  rotate_left 1
  ·refine .inl ⟨by rfl,?_⟩;intro w hSw;(try dsimp only at hSw);obtain ⟨hS1,hS2⟩:=hSw;go_simp
   all_goals with_reducible rfl
  ·exact fun _ _ _ h=>h
  try simp only [Act.put,Lq1,Lq2,Lq3]
  refine Tkq 6 (v:=?_) (by assumption) ?_ ?_ ?_
  rotate_left 1
  ·refine .inl ⟨by rfl,?_⟩;intro w hSw;(try dsimp only at hSw);obtain ⟨hS1,hS2⟩:=hSw;go_simp
   all_goals with_reducible rfl
  ·exact fun _ _ _ h=>h
  try simp only [Act.put,Lq1,Lq2,Lq3]
  refine Tkq 7 (v:=?_) (by assumption) ?_ ?_ ?_
  rotate_left 1
  ·refine .inl ⟨by rfl,?_⟩;intro w hSw;(try dsimp only at hSw);obtain ⟨hS1,hS2⟩:=hSw;go_simp
   all_goals with_reducible rfl
  ·exact fun _ _ _ h=>h
  try simp only [Act.put,Lq1,Lq2,Lq3]
  refine Tkq 8 (v:=?_) (by assumption) ?_ ?_ ?_
  rotate_left 1
  ·refine .inl ⟨by rfl,?_⟩;intro w hSw;(try dsimp only at hSw);obtain ⟨hS1,hS2⟩:=hSw;go_simp
   all_goals with_reducible rfl
  ·exact fun _ _ _ h=>h
  try simp only [Act.put,Lq1,Lq2,Lq3]
  refine wpAnyH_ready (rs:=[9]) (by kernel_rfl) (by simp) ?_
  refine AllReadyH.cons (o:=?_) ?_ ?_ AllReadyH.nil
  rotate_left 1
  ·(simp only [Gq1,Gq2,Gq3])<;>rfl
  intro K hK
  go_simp
  refine HC.out.mono ?_
  rintro e7 w7 ⟨rfl,m7⟩
  have M7:=Hxq (((Mod.refl [b] w).drew).trans m7 (by simp))
  clear m7
  unfold stopE
  dsimp only
  clear hK K
  go_wp2_with fail
  exact ⟨rfl,rfl,M7.out.mono (T:=[b,px]) (fun t ht=>.inl (by simp at ht;simp [ht]))⟩
 | ok p j =>
  have q1:=D1.1
  have q2:=D1.2
  go_wp2_with fail
  go_region_law (first
   | (go_simp;refine HC.out.mono ?_;rintro e3 w3 ⟨y3,rfl,hy3,h3,m3⟩;obtain ⟨rels,rus,u1,u2,rfl,hpp,hb1,hb2,hs1,hs2⟩:=hy3;obtain ⟨a1,c1,rfl⟩:=hb1.lit;obtain ⟨a2,c2,rfl⟩:=hb2.lit;have m03:=(((Mod.refl [b] w).drew).trans m3 (by simp));have P3:=Hxq (m03.at HP.out (by simp;omega));have r2:=cell_at P3.out 2;have r3:=cell_at P3.out 3;simp only [List.getElem?_toArray,List.getElem?_cons_zero,List.getElem?_cons_succ] at r2 r3;have f3:∀ j,w3.frozen? ⟨px,j,none⟩=false:=(fun j=>free_at P3.out j);have H3:=Lib.hid h3;have M3:=Lib.hid m03;clear h3 m3 m03))
  all_goals (
   go_wp2_with fail
   go_end0
   have mS:Mod [px] w3 (setCs w3 px 2 [.slice a1 rels.length c1,.slice a2 rus.length c2]):=setCs_mod px _ 2 w3
   have hS:∀ s∈[px],¬ w.heap.size<=s:=fun s hs=>by rw [Msq] at hs;omega
   exact ⟨rfl,⟨#[.slice a1 rels.length c1,.slice a2 rus.length c2],setCs_heap [.slice a1 rels.length c1,.slice a2 rus.length c2] 2 [.pointer (some ⟨b,0,none⟩),.func (.func 47) #[] #[],x1,x2] w3 P3.out,⟨rels,rus,_,_,rfl,hpp,hb1.keep mS hS,hb2.keep mS hS,fun p hp=>(hs1 p hp).keep mS hS,fun p hp=>(hs2 p hp).keep mS hS⟩⟩,H3.out.keep mS (by simp;omega) (fun k hk hs=>by rw [Msq] at hs;exact hpx (hs ▸ hk)),(M3.out.mono (T:=[b,px]) (fun t ht=>.inl (by simp at ht;simp [ht]))).trans mS (by simp)⟩)
set_option maxHeartbeats 4000000 in
theorem readU_any (b:Nat) (ra:Option Addr) (rc:Nat) (f:Value) (v:Sy.Env) (px:Nat) (x1 x2 x3 x4 x5:Value) (w:World) (h:RdP w b ra rc f v 0) (hv:EnvOk v) (hp:w.heap[px]?=some (.cells #[.pointer (some ⟨b,0,none⟩),.func (.func 49) #[] #[],x1,x2,x3,x4,x5] 149 (0,0))) (hne:px≠b) (hpx:px∉fp (.slice ra v.ws.length rc)) :
  Calls Tryz.prog 83 #[.pointer (some ⟨px,0,none⟩)] w (RdRes b ra rc f v (Sy.rule v 0) [b,px] (fun p w'=>∃ C:Array Value,w'.heap[px]?=some (.cells (#[.pointer (some ⟨b,0,none⟩),.func (.func 49) #[] #[]]++C) 149 (0,0))/\valR w.heap.size p w' (.agg C)) w):=by
 have HC:=Hxq (rule_any b ra rc f v 0 w.drew (h.past ((Mod.refl [] w).drew) (by simp)) hv (Nat.zero_le _))
 have hlt:=lt_of_block hp
 have HH:=Lib.hid h;have HP:=Lib.hid hp
 have D1:w.drew.cell? ⟨px,0,none⟩=some (.pointer (some ⟨b,0,none⟩))/\w.drew.cell? ⟨px,1,none⟩=some (.func (.func 49) #[] #[]):=⟨cell_at hp 0,cell_at hp 1⟩
 go_enter Tryz.func83,Tryz.ntmps83
 generalize Sy.rule v 0=q at *
 cases q with
 | err g =>
  go_wp2_with fail
  refine wp_region_held_drew (S:=(fun w':World=>w'.cell? ⟨px,0,none⟩=some (.pointer (some ⟨b,0,none⟩))/\w'.cell? ⟨px,1,none⟩=some (.func (.func 49) #[] #[]))) (by kernel_rfl) (by (try dsimp only);exact D1) (fun hHeld=>?_)
  refine Tkq 0 (v:=?_) (by assumption) ?_ ?_ ?_
  rotate_left 1
  ·refine .inl ⟨by rfl,?_⟩;intro w hSw;(try dsimp only at hSw);obtain ⟨hS1,hS2⟩:=hSw;go_simp
   all_goals with_reducible rfl
  ·exact fun _ _ _ h=>h
  try simp only [Act.put,Lq1,Lq2,Lq3]
  refine Tkq 1 (v:=?_) (by assumption) ?_ ?_ ?_
  rotate_left 1
  ·refine .inl ⟨by rfl,?_⟩;intro w hSw;(try dsimp only at hSw);obtain ⟨hS1,hS2⟩:=hSw;go_simp
   all_goals with_reducible rfl
  ·exact fun _ _ _ h=>h
  try simp only [Act.put,Lq1,Lq2,Lq3]
  refine Tkq 2 (v:=?_) (by assumption) ?_ ?_ ?_
  rotate_left 1
  ·refine .inl ⟨by rfl,?_⟩;intro w hSw;(try dsimp only at hSw);obtain ⟨hS1,hS2⟩:=hSw;go_simp
   all_goals with_reducible rfl
  ·exact fun _ _ _ h=>h
  try simp only [Act.put,Lq1,Lq2,Lq3]
  refine Tkq 3 (v:=?_) (by assumption) ?_ ?_ ?_
  rotate_left 1
  ·refine .inl ⟨by rfl,?_⟩;intro w hSw;(try dsimp only at hSw);obtain ⟨hS1,hS2⟩:=hSw;go_simp
   all_goals with_reducible rfl
  ·exact fun _ _ _ h=>h
  try simp only [Act.put,Lq1,Lq2,Lq3]
  refine Tkq 4 (v:=?_) (by assumption) ?_ ?_ ?_
  rotate_left 1
  ·refine .inl ⟨by rfl,?_⟩;intro w hSw;(try dsimp only at hSw);obtain ⟨hS1,hS2⟩:=hSw;go_simp
   all_goals with_reducible rfl
  ·exact fun _ _ _ h=>h
  try simp only [Act.put,Lq1,Lq2,Lq3]
  refine Tkq 5 (v:=?_) (by assumption) ?_ ?_ ?_
  rotate_left 1
  ·refine .inl ⟨by rfl,?_⟩;intro w hSw;(try dsimp only at hSw);obtain ⟨hS1,hS2⟩:=hSw;go_simp
   all_goals with_reducible rfl
  ·exact fun _ _ _ h=>h
  try simp only [Act.put,Lq1,Lq2,Lq3]
  refine Tkq 6 (v:=?_) (by assumption) ?_ ?_ ?_
  rotate_left 1
  ·refine .inl ⟨by rfl,?_⟩;intro w hSw;(try dsimp only at hSw);obtain ⟨hS1,hS2⟩:=hSw;go_simp
   all_goals with_reducible rfl
  ·exact fun _ _ _ h=>h
  try simp only [Act.put,Lq1,Lq2,Lq3]
  refine Tkq 7 (v:=?_) (by assumption) ?_ ?_ ?_
  rotate_left 1
  ·refine .inl ⟨by rfl,?_⟩;intro w hSw;(try dsimp only at hSw);obtain ⟨hS1,hS2⟩:=hSw;go_simp
   all_goals with_reducible rfl
  ·exact fun _ _ _ h=>h
  try simp only [Act.put,Lq1,Lq2,Lq3]
  refine Tkq 8 (v:=?_) (by assumption) ?_ ?_ ?_
  rotate_left 1
  ·refine .inl ⟨by rfl,?_⟩;intro w hSw;(try dsimp only at hSw);obtain ⟨hS1,hS2⟩:=hSw;go_simp
   all_goals with_reducible rfl
  ·exact fun _ _ _ h=>h
  try simp only [Act.put,Lq1,Lq2,Lq3]
  refine wpAnyH_ready (rs:=[9]) (by kernel_rfl) (by simp) ?_
  refine AllReadyH.cons (o:=?_) ?_ ?_ AllReadyH.nil
  rotate_left 1
  ·(simp only [Gq1,Gq2,Gq3])<;>rfl
  intro K hK
  go_simp
  refine HC.out.mono ?_
  rintro e7 w7 ⟨rfl,m7⟩
  have M7:=Hxq (((Mod.refl [b] w).drew).trans m7 (by simp))
  clear m7
  unfold stopE
  dsimp only
  clear hK K
  go_wp2_with fail
  exact ⟨rfl,rfl,M7.out.mono (T:=[b,px]) (fun t ht=>.inl (by simp at ht;simp [ht]))⟩
 | ok p j =>
  have q1:=D1.1
  have q2:=D1.2
  go_wp2_with fail
  go_region_law (first
   | (go_simp;refine HC.out.mono ?_;rintro e3 w3 ⟨y3,rfl,hy3,h3,m3⟩;obtain ⟨u1,t1,rfl,hb1,hc1⟩:=hy3;obtain ⟨a1,c1,rfl⟩:=hb1.lit;obtain ⟨a2,c2,rfl⟩:=hc1.lit;unfold ruV;have m03:=(((Mod.refl [b] w).drew).trans m3 (by simp));have P3:=Hxq (m03.at HP.out (by simp;omega));have r2:=cell_at P3.out 2;have r3:=cell_at P3.out 3;have r4:=cell_at P3.out 4;have r5:=cell_at P3.out 5;have r6:=cell_at P3.out 6;simp only [List.getElem?_toArray,List.getElem?_cons_zero,List.getElem?_cons_succ] at r2 r3 r4 r5 r6;have f3:∀ j,w3.frozen? ⟨px,j,none⟩=false:=(fun j=>free_at P3.out j);have H3:=Lib.hid h3;have M3:=Lib.hid m03;clear h3 m3 m03))
  all_goals (
   go_wp2_with fail
   go_end0
   have mS:Mod [px] w3 (setCs w3 px 2 [.string p.head.rel,.slice a1 p.head.terms.length c1,.slice a2 p.body.length c2,.int .i64 p.line,.int .i64 p.col]):=setCs_mod px _ 2 w3
   have hS:∀ s∈[px],¬ w.heap.size<=s:=fun s hs=>by rw [Msq] at hs;omega
   exact ⟨rfl,⟨#[.string p.head.rel,.slice a1 p.head.terms.length c1,.slice a2 p.body.length c2,.int .i64 p.line,.int .i64 p.col],setCs_heap [.string p.head.rel,.slice a1 p.head.terms.length c1,.slice a2 p.body.length c2,.int .i64 p.line,.int .i64 p.col] 2 [.pointer (some ⟨b,0,none⟩),.func (.func 49) #[] #[],x1,x2,x3,x4,x5] w3 P3.out,⟨_,_,rfl,hb1.keep mS hS,hc1.keep mS hS⟩⟩,H3.out.keep mS (by simp;omega) (fun k hk hs=>by rw [Msq] at hs;exact hpx (hs ▸ hk)),(M3.out.mono (T:=[b,px]) (fun t ht=>.inl (by simp at ht;simp [ht]))).trans mS (by simp)⟩)
theorem size_of {T:TypeId} {n:Nat} {C:Array Value} (h:(Tryz.prog.info? T).map (·.size)=some n) (hC:C.size=n):(Tryz.prog.info? T).map (·.size)=some C.size:=by rw [hC];exact h
theorem part_c0 {w:World} {px:Nat} {a o:Value} {X:Array Value} {T:TypeId} {fr:Nat × Nat} (h:w.heap[px]?=some (.cells (#[a,o]++X) T fr)):w.cell? ⟨px,0,none⟩=some a/\w.cell? ⟨px,1,none⟩=some o :=
 ⟨(cell_at h 0).trans ((Array.getElem?_append_left (by simp)).trans rfl),(cell_at h 1).trans ((Array.getElem?_append_left (by simp)).trans rfl)⟩
end Go.Proofs.YtohnmnfhmbmoaaaGreatDoor
namespace Go.Proofs.YtohnmnfhmbmoaaaGreatDoor.Sy
open Lx (Tok)
open Pr (Term Atom Ex Li Rul Rel Prog)
set_option linter.unusedVariables false
set_option linter.unusedSimpArgs false
def Nz {α:Type} (p:PR α):Prop:=∀ f,p=.err f->f.1≠0
section
variable {α β:Type} {v:Env}
theorem Nz.bind {p:PR α} {f:α->Nat->PR β} (h:Nz p) (hf:∀ a i,Nz (f a i)):Nz (p.bind f):=by
 cases p with
 | ok a i=>exact hf a i
 | err e=>exact fun g hg=>by cases hg;exact h e rfl
theorem nz_ok (a:α) (i:Nat):Nz (.ok a i):=fun f h=>by cases h
theorem nz_give (hv:v.last.1≠0) (c i:Nat) (hc:c≠0):Nz (.err (v.give c i):PR α):=fun f h=>by
 cases h
 unfold Env.give
 split
 ·exact hc
 ·exact hv
theorem nz_last (hv:v.last.1≠0):Nz (.err v.last:PR α):=fun f h=>by cases h;exact hv
theorem nz_must (hv:v.last.1≠0) (s:List Nat) (i:Nat):Nz (must v s i):=by
 unfold must
 split
 ·exact nz_ok _ _
 ·exact nz_give hv _ _ (by decide)
theorem nz_listF (hv:v.last.1≠0) (fin:List Nat) {one:Nat->PR α} (h:∀ i,Nz (one i)):∀ (n:Nat) (acc:List α) (i:Nat),Nz (listF v fin one n acc i)
 | 0,acc,i=>nz_last hv
 | n+1,acc,i=>by
  rw [listF]
  split
  ·exact (h _).bind fun a j=>nz_listF hv fin h n _ j
  ·exact (nz_must hv _ _).bind fun _ j=>nz_ok _ _
theorem nz_list (hv:v.last.1≠0) (fin:List Nat) {one:Nat->PR α} (h:∀ i,Nz (one i)) (i:Nat):Nz (list v fin one i):=by
 unfold list
 split
 ·exact nz_ok _ _
 ·exact (h _).bind fun a j=>nz_listF hv fin h _ _ j
theorem nz_name (hv:v.last.1≠0) (i:Nat):Nz (name v i):=by
 unfold name
 split
 ·exact nz_ok _ _
 ·exact nz_give hv _ _ (by decide)
theorem nz_value (hv:v.last.1≠0) (i:Nat):Nz (value v i):=by
 unfold value
 split
 ·exact nz_ok _ _
 ·exact nz_give hv _ _ (by decide)
theorem nz_term (hv:v.last.1≠0) (i:Nat):Nz (term v i):=by
 unfold term
 split
 ·exact nz_ok _ _
 ·split
  ·exact nz_ok _ _
  ·exact (nz_value hv _).bind fun _ _=>nz_ok _ _
theorem nz_atom (hv:v.last.1≠0) (i:Nat):Nz (atom v i):=(nz_name hv _).bind fun _ _=>(nz_must hv _ _).bind fun _ j=>(nz_list hv _ (nz_term hv) j).bind fun _ _=>nz_ok _ _
theorem nz_chain (hv:v.last.1≠0) {line:Nat} {sub:Nat->Nat->PR (Ex × Nat)} (h:∀ ab i,Nz (sub ab i)) {above:Nat}:∀ (n:Nat) (e:Ex) (d i:Nat),Nz (chainF v line sub above n e d i)
 | 0,e,d,i=>nz_last hv
 | n+1,e,d,i=>by
  rw [chainF]
  split
  ·exact nz_ok _ _
  ·split
   ·exact nz_give hv _ _ (by decide)
   ·exact (h _ _).bind fun _ j=>nz_chain hv h n _ _ j
theorem nz_exprF (hv:v.last.1≠0):∀ (k line above i:Nat),Nz (exprF v k line above i)
 | 0,line,above,i=>nz_last hv
 | k+1,line,above,i=>by
  rw [exprF]
  split
  ·split
   ·exact nz_ok _ _
   ·split
    ·exact nz_ok _ _
    ·split
     ·split
      ·exact nz_give hv _ _ (by decide)
      ·exact (nz_exprF hv k _ _ _).bind fun _ _=>nz_ok _ _
     ·split
      ·exact nz_give hv _ _ (by decide)
      ·exact (nz_must hv _ _).bind fun _ j=>(nz_exprF hv k _ _ j).bind fun _ j=>(nz_must hv _ j).bind fun _ _=>nz_ok _ _
  ·exact (nz_exprF hv k _ _ _).bind fun _ j=>nz_chain hv (fun ab i=>nz_exprF hv k _ ab i) _ _ _ j
theorem nz_expr (hv:v.last.1≠0) (i:Nat):Nz (expr v i):=(nz_exprF hv _ _ _ _).bind fun _ _=>nz_ok _ _
theorem nz_bodyF (hv:v.last.1≠0) {one:Nat->PR Li} (h:∀ i,Nz (one i)):∀ (n:Nat) (acc:List Li) (i:Nat),Nz (bodyF v one n acc i)
 | 0,acc,i=>nz_last hv
 | n+1,acc,i=>by
  rw [bodyF]
  split
  ·exact (h _).bind fun a j=>nz_bodyF hv h n _ j
  ·exact nz_ok _ _
theorem nz_bodyOf (hv:v.last.1≠0) {one:Nat->PR Li} (h:∀ i,Nz (one i)) (i:Nat):Nz (bodyOf v one i):=(h _).bind fun a j=>nz_bodyF hv h _ _ j
theorem nz_agg (hv:v.last.1≠0) {one:Nat->PR Li} (h:∀ i,Nz (one i)) (br i:Nat):Nz (aggOf v one br i):=by
 unfold aggOf
 split
 ·exact nz_give hv _ _ (by decide)
 ·refine (nz_must hv _ _).bind fun _ j=>Nz.bind ?_ fun o j=>(nz_bodyOf hv h j).bind fun _ j=>(nz_must hv _ j).bind fun _ _=>nz_ok _ _
  split
  ·exact (nz_expr hv _).bind fun _ j=>(nz_must hv _ j).bind fun _ _=>nz_ok _ _
  ·exact nz_ok _ _
theorem nz_litF (hv:v.last.1≠0):∀ (k br i:Nat),Nz (litF v k br i)
 | 0,br,i=>nz_last hv
 | k+1,br,i=>by
  rw [litF]
  split
  ·exact (nz_atom hv _).bind fun _ _=>nz_ok _ _
  ·split
   ·exact (nz_atom hv _).bind fun _ _=>nz_ok _ _
   ·split
    ·exact (nz_agg hv (fun i=>nz_litF hv k _ i) _ _).bind fun _ _=>nz_ok _ _
    ·refine (nz_expr hv _).bind fun _ j=>?_
     split
     ·exact nz_give hv _ _ (by decide)
     ·exact (nz_expr hv _).bind fun _ _=>nz_ok _ _
theorem nz_lit (hv:v.last.1≠0) (br i:Nat):Nz (lit v br i):=nz_litF hv _ _ _
theorem nz_rule (hv:v.last.1≠0) (i:Nat):Nz (rule v i):=by
 unfold rule
 refine (nz_atom hv _).bind fun _ j=>Nz.bind ?_ fun _ _=>nz_ok _ _
 split
 ·exact nz_bodyOf hv (fun i=>nz_lit hv 0 i) _
 ·exact nz_ok _ _
theorem nz_relation (hv:v.last.1≠0) (i:Nat):Nz (relation v i):=(nz_name hv _).bind fun _ _=>(nz_must hv _ _).bind fun _ j=>(nz_list hv _ (fun i=>by
  unfold ty
  split
  ·exact nz_give hv _ _ (by decide)
  ·exact nz_ok _ _) j).bind fun _ _=>nz_ok _ _
theorem nz_progF (hv:v.last.1≠0):∀ (n:Nat) (p:Prog) (i:Nat),Nz (progF v n p i)
 | 0,p,i=>nz_last hv
 | n+1,p,i=>by
  rw [progF]
  split
  ·split
   ·exact (nz_relation hv _).bind fun _ j=>(nz_must hv _ j).bind fun _ j=>nz_progF hv n _ j
   ·exact (nz_rule hv _).bind fun _ j=>(nz_must hv _ j).bind fun _ j=>nz_progF hv n _ j
  ·exact nz_ok _ _
theorem nz_prog (hv:v.last.1≠0) (i:Nat):Nz (prog v i):=nz_progF hv _ _ _
theorem nz_whole (hv:v.last.1≠0) {one:Nat->PR α} (h:Nz (one 0)):Nz (whole v one):=by
 unfold whole
 refine h.bind fun a i=>?_
 split
 ·exact nz_give hv _ _ (by decide)
 ·exact nz_ok _ _
end
theorem adv_progF (v:Env):∀ (n:Nat) (p:Prog),Adv v (progF v n p)
 | 0,p=>fun j a k hj h=>by cases h
 | n+1,p=>by
  intro j a k hj h
  rw [progF] at h
  split at h
  ·rename_i hl
   split at h
   ·obtain ⟨x,m,h1,h2⟩:=bind_ok h
    have h3:=adv_relation v (j+1) x m (by omega) h1
    obtain ⟨_,m2,h4,h5⟩:=bind_ok h2
    have h6:=adv_must v _ m _ m2 h3.2 h4
    have:=adv_progF v n _ m2 a k h6.2 h5
    omega
   ·obtain ⟨x,m,h1,h2⟩:=bind_ok h
    have h3:=adv_rule v j x m hj h1
    obtain ⟨_,m2,h4,h5⟩:=bind_ok h2
    have h6:=adv_must v _ m _ m2 h3.2 h4
    have:=adv_progF v n _ m2 a k h6.2 h5
    omega
  ·cases h;omega
theorem adv_prog (v:Env):Adv v (prog v):=adv_progF v _ _
theorem env_last (s:List Nat):(envOf s).last.1≠0:=by
 unfold envOf
 simp only
 split
 ·exact (by decide:(42:Nat)≠0)
 ·assumption
end Go.Proofs.YtohnmnfhmbmoaaaGreatDoor.Sy
namespace Go.Proofs.YtohnmnfhmbmoaaaGreatDoor.Lx
set_option linter.unusedVariables false
theorem next_ok {x y:St} {t:Tok} (hb:∀ c∈x.s,c<256) (h:next x=(y,some t)):t.num<=2147483647/\(∀ c∈t.text,c<256)/\(∀ c∈t.sym,c<256)/\t.kind<=5/\t.vk<=2/\y.s.length<x.s.length/\(∀ c∈y.s,c<256)/\x.long=false/\y.long=false:=by
 unfold next at h
 split at h
 ·simp at h
 ·split at h
  ·simp at h
  ·rename_i hl
   have hl':x.long=false:=by simpa using hl
   split at h
   ·simp at h
   ·rename_i he
    split at h
    ·simp at h
    ·rename_i wd hw
     have hbs:∀ c∈x.skip.s,c<256:=fun c hc=>hb c (List.mem_of_mem_drop hc)
     obtain ⟨h1,h2,h3,h4,h5,h6⟩:=word_len hbs he hw
     simp only [Prod.mk.injEq,Option.some.injEq] at h
     obtain ⟨rfl,rfl⟩:=h
     have hsk:x.skip.s.length<=x.s.length:=by unfold St.skip;simp
     refine ⟨h4,fun c hc=>hbs c (List.mem_of_mem_take hc),h3,h5,h6,?_,fun c hc=>hbs c (List.mem_of_mem_drop hc),hl',hl'⟩
     simp only [List.length_drop];omega
structure TokOk (t:Tok):Prop where
 num:t.num<=2147483647
 byte:∀ c∈t.text,c<256
 sym:∀ c∈t.sym,c<256
 kind:t.kind<=5
 vk:t.vk<=2
theorem all_ok:∀ (k:Nat) (x:St),(∀ c∈x.s,c<256)->(∀ t∈(allF k x).1,TokOk t)/\(allF k x).1.length<=x.s.length/\((allF k x).1≠[]->x.long=false)
 | 0,x,hb=>⟨by simp [allF],by simp [allF],by simp [allF]⟩
 | k+1,x,hb=>by
  rw [allF]
  cases hn:next x with
  | mk y o =>
   cases o with
   | none=>exact ⟨by simp,by simp,by simp⟩
   | some t =>
    obtain ⟨h1,h2,h3,h4,h5,h6,h7,h8,h9⟩:=next_ok hb hn
    obtain ⟨g1,g2,g3⟩:=all_ok k y h7
    refine ⟨fun u hu=>?_,by simp only [List.length_cons];omega,fun _=>h8⟩
    rcases List.mem_cons.1 hu with rfl | hu
    ·exact ⟨h1,h2,h3,h4,h5⟩
    ·exact g1 u hu
end Go.Proofs.YtohnmnfhmbmoaaaGreatDoor.Lx
namespace Go.Proofs.YtohnmnfhmbmoaaaGreatDoor.Sy
theorem env_toks (s:List Nat) (hb:∀ c∈s,c<256):(∀ t∈(envOf s).ws,Lx.TokOk t)/\(envOf s).ws.length<=65536:=by
 obtain ⟨h1,h2,h3⟩:=Lx.all_ok (s.length+1) (Lx.start s) hb
 refine ⟨h1,?_⟩
 show (Lx.allF (s.length+1) (Lx.start s)).1.length<=65536
 by_cases h:(Lx.allF (s.length+1) (Lx.start s)).1=[]
 ·rw [h];simp
 ·have:=h3 h
  simp only [Lx.start,decide_eq_false_iff_not] at this
  have h4:(Lx.start s).s.length=s.length:=rfl
  omega
end Go.Proofs.YtohnmnfhmbmoaaaGreatDoor.Sy
namespace Go.Proofs.YtohnmnfhmbmoaaaGreatDoor
open Go.RowKit
set_option linter.unusedVariables false
set_option linter.unusedSimpArgs false
set_option maxRecDepth 100000
/-- how many bytes stand behind a text's last line's end -/
def tailN (l:List Nat):Nat:=(l.reverse.takeWhile (fun c=>!(c == 10))).length
theorem tw_all {p:Nat->Bool}:∀ {l:List Nat},(∀ c∈l,p c=true)->l.takeWhile p=l
 | [],_=>rfl
 | c :: t,h=>by rw [List.takeWhile_cons,if_pos (h c (by simp)),tw_all (fun d hd=>h d (by simp [hd]))]
theorem tailN_none {l:List Nat} (h:10∉l):tailN l=l.length:=by
 unfold tailN
 rw [tw_all,List.length_reverse]
 intro c hc
 rw [List.mem_reverse] at hc
 simp
 rintro rfl
 exact h hc
theorem tailN_hit (l:List Nat) (k:Nat) (hk:k<l.length) (h1:l[k]=10) (h2:10∉l.drop (k+1)):tailN l=l.length - 1 - k:=by
 have e:l=l.take k++(10 :: l.drop (k+1)):=by
  rw [<-h1,<-List.drop_eq_getElem_cons hk,List.take_append_drop]
 unfold tailN
 have e2:l.reverse=(l.drop (k+1)).reverse++(10 :: (l.take k).reverse):=by
  conv=>lhs;rw [e]
  simp
 rw [e2,List.takeWhile_append]
 have h3:((l.drop (k+1)).reverse.takeWhile (fun c=>!(c == 10)))=(l.drop (k+1)).reverse:=by
  refine tw_all fun c hc=>?_
  rw [List.mem_reverse] at hc
  simp
  rintro rfl
  exact h2 hc
 rw [h3,if_pos rfl]
 simp
 omega
set_option maxHeartbeats 1000000 in
theorem lastByteS_any (s:ByteArray) (hs:s.size<=140737488355328) (w:World) :
  Calls Tryz.prog 136 #[.string s,.int .u8 10] w fun e w'=>e=.returned (.int .i64 ((s.size:Int) - 1 - (tailN (Cod.str s):Nat)))/\w'=w:=by
 go_enter Tryz.func136,Tryz.ntmps136
 go_wp2_with fail
 go_loopw [5] (fun iv wr=>∃ m:Int,-1<=m/\m<s.size/\iv=.int .i64 m/\10∉(Cod.str s).drop (m+1).toNat/\wr=w) (fun iv _=>(intOf iv+1).toNat)
 case atStart=>exact ⟨_,by omega,by omega,rfl,by rw [List.drop_eq_nil_of_le (by rw [Cod.str_len];omega)];simp,rfl⟩
 case round =>
  obtain ⟨m,h1,h2,rfl,h3,rfl⟩:=hrel
  by_cases h0:0<=m
  ·obtain ⟨k,rfl⟩:∃ k:Nat,m=k:=⟨m.toNat,by omega⟩
   have hk:k<s.size:=by omega
   have hk2:k<(Cod.str s).length:=by rw [Cod.str_len];exact hk
   have hge:(k:Int) ≥ 0:=h0
   have hy0:s[k].toNat=(Cod.str s)[k]:=by
    have:=Lx.get_str s k hk
    rw [List.getD_eq_getElem?_getD,List.getElem?_eq_getElem hk2] at this
    exact this.symm
   have e3:(Cod.str s).drop k=(Cod.str s)[k] :: (Cod.str s).drop (k+1):=List.drop_eq_getElem_cons hk2
   rw [show ((k:Int)+1).toNat=k+1 by omega] at h3
   by_cases hy:(Cod.str s)[k]=10
   ·have hyb:((s[k].toNat:Int) == 10)=true:=by rw [beq_iff_eq,hy0,hy];rfl
    have ht:=Hxq (tailN_hit (Cod.str s) k hk2 hy h3)
    clear h3 e3 hy hy0
    go_wp2_with fail
    go_ret
    have e:(s.size:Int) - 1 - ((tailN (Cod.str s):Nat):Int)=k:=by rw [ht.out,Cod.str_len];omega
    exact ⟨by rw [e];rfl,rfl⟩
   ·have hyb:((s[k].toNat:Int) == 10)=false:=by rw [beq_eq_false_iff_ne,hy0];omega
    have HT:Hid (10∉(Cod.str s).drop k):=Hxq (by rw [e3];simp only [List.mem_cons,not_or];exact ⟨fun e=>hy e.symm,h3⟩)
    clear h3 e3 hy hy0
    go_wp2_with fail
    go_roundw
    case rel=>exact ⟨(k:Int) - 1,by omega,by omega,by go_num,by rw [show ((k:Int) - 1+1).toNat=k by omega];exact HT.out,trivial⟩
    case measure=>simp [intOf]
  ·obtain rfl:m=-1:=by omega
   have ht:=Hxq (tailN_none (l:=Cod.str s) (by simpa using h3))
   clear h3
   go_wp2_with fail
   go_ret
   have e:(s.size:Int) - 1 - ((tailN (Cod.str s):Nat):Int)=-1:=by rw [ht.out,Cod.str_len];omega
   exact ⟨by rw [e];rfl,rfl⟩
theorem lastByte_any (s:ByteArray) (hs:s.size<=140737488355328) (w:World) :
  Calls Tryz.prog 102 #[.string s,.int .u8 10] w fun e w'=>e=.returned (.int .i64 ((s.size:Int) - 1 - (tailN (Cod.str s):Nat)))/\w'=w:=by
 go_enter Tryz.func102,Tryz.ntmps102
 go_wp2_with fail
 refine (lastByteS_any s hs w).mono ?_
 rintro e1 w1 ⟨rfl,rfl⟩
 go_wp2_with fail
 go_ret
 exact ⟨rfl,rfl⟩
/-- the loop over all words: what it holds -/
structure BLoop (l:List Nat) (w wr:World) (p b:Nat) (va:Option Addr) (vc:Nat) (acc:List Lx.Tok) (x:Lx.St) (k gk:Nat) (s':ByteArray):Prop where
 box:wr.heap[p]?=some (.cells #[.slice va acc.length vc,.int .i64 0,.int .i64 0,.int .i64 0,.int .i64 0,.nilFunc] 128 (0,0))
 row:TokRow wr (w.heap.size+1) (.slice va acc.length vc) acc
 sc:ScIs wr b s' x
 pb:p≠b
 pv:p∉fp (.slice va acc.length vc)
 bv:b∉fp (.slice va acc.length vc)
 all:Lx.given l=(acc++(Lx.allF k x).1,(Lx.allF k x).2)
 lim:x.s.length+1<=k/\x.s.length+1<=gk/\acc.length+x.s.length<=l.length/\x.long=decide (65536<l.length)
 byte:∀ c∈x.s,c<256
 mod:Mod [] w wr
/-- a word more -/
theorem BLoop.grow {l:List Nat} {w W w5:World} {b:Nat} {va va5:Option Addr} {vc vc5:Nat} {acc:List Lx.Tok} {t:Lx.Tok} {y:Lx.St} {k gk:Nat} {s4:ByteArray}
  (hx:W.heap[w.heap.size]?=some (.cells #[.slice va acc.length vc,.int .i64 0,.int .i64 0,.int .i64 0,.int .i64 0,.nilFunc] 128 (0,0))) (hr:TokRow W (w.heap.size+1) (.slice va acc.length vc) acc) (hs:ScIs W b s4 y)
  (pb:w.heap.size≠b) (pv:w.heap.size∉fp (.slice va acc.length vc)) (bv:b∉fp (.slice va acc.length vc)) (hm:Mod [] w W)
  (hown:w5.ownsRow 0 131 7 (.slice va5 (acc.length+1) vc5) (acc.length+1) (tokCells acc++(tokC t).toList)) (hm5:Mod (fp (.slice va acc.length vc)) W w5)
  (hf:∀ k∈fp (.slice va5 (acc.length+1) vc5),k∈fp (.slice va acc.length vc)\/W.heap.size<=k)
  (hall:Lx.given l=((acc++[t])++(Lx.allF k y).1,(Lx.allF k y).2))
  (hlim:(y.s.length+1<=k/\y.s.length+1<=gk/\(acc++[t]).length+y.s.length<=l.length/\y.long=decide (65536<l.length))/\∀ c∈y.s,c<256) :
  BLoop l w (w5.setCell ⟨w.heap.size,0,none⟩ (.slice va5 (acc.length+1) vc5)) w.heap.size b va5 vc5 (acc++[t]) y k gk s4:=by
 have e1:(acc++[t]).length=acc.length+1:=by simp
 have hcl:tokCells acc++(tokC t).toList=tokCells (acc++[t]):=by rw [tokCells_append];simp [tokCells]
 have hsz:=hm.size
 have hbl:=hs.lt
 have hxl:=lt_of_block hx
 have hp5:w.heap.size∉fp (.slice va5 (acc.length+1) vc5):=fun hk=>by
  rcases hf _ hk with h | h
  ·exact pv h
  ·omega
 have hb5:b∉fp (.slice va5 (acc.length+1) vc5):=fun hk=>by
  rcases hf _ hk with h | h
  ·exact bv h
  ·omega
 have hm6:Mod [w.heap.size] w5 (w5.setCell ⟨w.heap.size,0,none⟩ (.slice va5 (acc.length+1) vc5)):=(Mod.refl [w.heap.size] w5).setCell (p:=⟨w.heap.size,0,none⟩) (.inl (by simp)) _
 refine ⟨?_,?_,?_,pb,by rw [e1];exact hp5,by rw [e1];exact hb5,hall,hlim.1,hlim.2,?_⟩
 ·have:=setCell_at (hm5.at hx pv) 0 (.slice va5 (acc.length+1) vc5)
  rw [this,e1]
  simp
 ·rw [e1]
  refine (TokRow.mk (w:=w5) (base:=w.heap.size+1) (v:=.slice va5 (acc.length+1) vc5) (l:=acc++[t]) (by rw [e1,<-hcl];exact hown) (fun k hk=>?_)).keep hm6 (fun k hk=>by simp;rintro rfl;exact hp5 hk)
  rcases hf _ hk with h | h
  ·exact hr.new k h
  ·omega
 ·exact (hs.keep hm5 bv).keep hm6 (by simp;omega)
 ·exact (hm.trans hm5 (fun k hk=>by have:=hr.new k hk;exact .inr (by omega))).trans hm6 (by simp)
theorem count_nl (s:ByteArray):Lib.countByte s.data.toList 10=(Cod.str s).count 10:=by
 have:∀ l:List UInt8,l.count 10=(l.map UInt8.toNat).count 10:=by
  intro l
  induction l with
  | nil=>rfl
  | cons c t ih =>
   rw [List.count_cons,List.map_cons,List.count_cons,ih]
   congr 1
   by_cases h:c=10
   ·subst h;rfl
   ·have h2:¬ c.toNat=10:=fun e=>h (by
     have:(10:UInt8).toNat=10:=rfl
     exact UInt8.toNat_inj.1 (e.trans this.symm))
    simp [h,h2]
 exact this s.data.toList
theorem nextC (r:Lx.St × Option Lx.Tok):nextV r.2=.tuple #[.agg (tokC (r.2.getD zeroT)),.bool r.2.isSome]:=nextV_eq r.2
set_option maxHeartbeats 4000000 in
theorem begin_any (s:ByteArray) (hs:s.size<=140737488355328) (w:World) (hG:Glob w) :
  Calls Tryz.prog 67 #[.string s] w fun e w'=>∃ b ra rc,e=.returned (.pointer (some ⟨b,0,none⟩))/\RdP w' b ra rc .nilFunc (Sy.envOf (Cod.str s)) 0/\w.heap.size<=b/\(∀ k∈fp (.slice ra (Sy.envOf (Cod.str s)).ws.length rc),w.heap.size<=k)/\Mod [] w w':=by
 obtain ⟨i0,hinf,hz0,hz1,hz2⟩:=info_parts Tryz.infoTok
 obtain ⟨l,hl⟩:∃ l,Cod.str s=l:=⟨_,rfl⟩
 have hlb:∀ c∈l,c<256:=by rw [<-hl];exact Cod.str_lt s
 have hsl:s.size=l.length:=by rw [<-hl,Cod.str_len]
 have hcn:Hid (Lib.countByte s.data.toList 10=l.count 10):=Hxq (by rw [count_nl,hl])
 have hlbt:=lastByte_any s hs
 rw [hl] at hlbt ⊢
 have HLB:=Lib.hid hlbt
 have HL:=Lib.hid hl
 clear hl hlbt
 have m0:=(Mod.refl [] w).alloc (Obj.cells #[Value.slice none 0 0,Value.int IntKind.i64 0,Value.int IntKind.i64 0,Value.int IntKind.i64 0,Value.int IntKind.i64 0,Value.nilFunc] 128)
 have e0:=heap_alloc_new w (Obj.cells #[Value.slice none 0 0,Value.int IntKind.i64 0,Value.int IntKind.i64 0,Value.int IntKind.i64 0,Value.int IntKind.i64 0,Value.nilFunc] 128)
 go_enter Tryz.func67,Tryz.ntmps67
 go_wp2_with fail
 refine (Scan_any s hs _).mono ?_
 rintro e1 w1 ⟨b,rfl,h1,hb1,m1⟩
 rw [HL.out] at h1
 have hbw:w.heap.size<b:=by simp at hb1;omega
 have e1:=m1.at e0 (by simp)
 have M1:=m0.trans m1 (by simp)
 have hw3:=hG.size
 have hb3:5<=b:=by omega
 have hB0:BLoop l w w1 w.heap.size b none 0 [] (Lx.start l) (l.length+1) (l.length+1) s:=⟨e1,TokRow.nil _ _,h1,by omega,by simp [fp],by simp [fp],by simp [Lx.given],⟨by simp [Lx.start],by simp [Lx.start],by simp [Lx.start],rfl⟩,hlb,M1⟩
 have HB0:=Lib.hid hB0
 clear hB0 e1 M1 m1 m0 e0 h1 hb1
 go_wp2_with fail
 go_loopg [5,6] (l.length+1) (fun gk tv mv wr=>∃ (va:Option Addr) (vc k:Nat) (acc:List Lx.Tok) (x:Lx.St) (s':ByteArray),BLoop l w wr w.heap.size b va vc acc x k gk s')
 case atStart=>exact ⟨none,0,_,[],_,s,HB0.out⟩
 case round =>
  clear HB0
  obtain ⟨va,vc,k,acc,x,s',hT⟩:=hrel
  have hm:=hT.mod
  have hGr:=hG.past hm (by simp)
  obtain ⟨hl1,hl2,hl3,hl4⟩:=hT.lim
  obtain ⟨k',rfl⟩:∃ k',k=k'+1:=⟨k - 1,by omega⟩
  have hall:=hT.all
  rw [allF_succ] at hall
  have hnl:=fun (y:Lx.St) (u:Lx.Tok) (hy:Lx.next x=(y,some u))=>next_len hT.byte hy
  have hnb:=next_bytes hT.byte
  have HN:=Hxq (next_any b s' x wr hT.sc hGr hb3)
  have HT:=Lib.hid hT
  have HALL:=Lib.hid hall;have HNL:=Lib.hid hnl;have HNB:=Lib.hid hnb
  clear hT hall hnl hnb hGr hm
  go_wp2_with fail
  refine HN.out.mono ?_
  rintro e w4 ⟨rfl,s4,h4,hm4⟩
  have hbx4:=hm4.at HT.out.box (by simp;omega)
  have hrow4:=HT.out.row.keep hm4 (fun k hk=>by simp;rintro rfl;exact HT.out.bv hk)
  have hm4w:=HT.out.mod.trans hm4 (fun t ht=>.inr (by simp at ht;omega))
  rw [nextC]
  generalize hr:Lx.next x=r at *
  obtain ⟨y,o⟩:=r
  have HR:=Lib.hid hr
  clear hr HN
  have mA:=(Mod.refl [] w4).alloc (Obj.cells (tokC (o.getD zeroT)) 131)
  have eA:=heap_alloc_new w4 (Obj.cells (tokC (o.getD zeroT)) 131)
  have hszw:=hm4w.size
  have hlt4:=lt_of_block hbx4
  cases o with
  | none =>
   simp only [rest,List.append_nil] at HALL
   simp only [Option.getD,Option.isSome] at *
   generalize zeroT=u at *
   unfold tokC at *
   have hF:=Fault_any b s4 y _ (h4.past mA (by simp))
   unfold faultV at hF
   have HF:=Lib.hid hF;have HA:=Lib.hid mA;have HX:=Hxq (mA.at hbx4 (by simp));have HW:=Hxq (hrow4.past mA (by simp));have HM:=Hxq (hm4w.trans mA (by simp))
   clear hF mA eA hbx4 hrow4 hm4w h4 hm4
   go_wp2_with fail
   refine HF.out.mono ?_
   rintro e5 w5 ⟨rfl,m5⟩
   have X5:=Hxq (m5.at HX.out (by simp));have W5:=Hxq (HW.out.past m5 (by simp));have M5:=Hxq (HM.out.trans m5 (by simp))
   have c2:=cell_at X5.out 2;have c3:=cell_at X5.out 3;have c4:=cell_at X5.out 4
   simp only [List.getElem?_toArray,List.getElem?_cons_zero,List.getElem?_cons_succ] at c2 c3 c4
   have f2:=free_at X5.out 2;have f3:=free_at X5.out 3;have f4:=free_at X5.out 4
   clear m5 HF HA HX HW HM
   go_upto_region 7 with fail
   generalize hwS:World.setCell (World.setCell (World.setCell w5 _ _) _ _) _ _=wS at *
   have hS:wS.heap[w.heap.size]?=some (.cells #[.slice va acc.length vc,.int .i64 0,.int .i64 (y.code:Nat),.int .i64 (y.fp.1:Nat),.int .i64 (y.fp.2:Nat),.nilFunc] 128 (0,0)):=by
    rw [<-hwS];exact setCs_heap [.int .i64 (y.code:Nat),.int .i64 (y.fp.1:Nat),.int .i64 (y.fp.2:Nat)] 2 [.slice va acc.length vc,.int .i64 0,.int .i64 0,.int .i64 0,.int .i64 0,.nilFunc] w5 X5.out
   have mS:Mod [w.heap.size] w5 wS:=by
    rw [<-hwS];exact setCs_mod w.heap.size [.int .i64 (y.code:Nat),.int .i64 (y.fp.1:Nat),.int .i64 (y.fp.2:Nat)] 2 w5
   have hpv:∀ k∈fp (.slice va acc.length vc),k∉[w.heap.size]:=fun k hk=>by simp;rintro rfl;exact HT.out.pv hk
   have WS:=Hxq (W5.out.keep mS hpv);have MS:=Hxq (M5.out.trans mS (by simp));have XS:=Lib.hid hS
   clear hwS mS W5 M5 X5 c2 c3 c4 f2 f3 f4 hS
   have c2:=cell_at XS.out 2;have c3:=cell_at XS.out 3;have c4:=cell_at XS.out 4
   simp only [List.getElem?_toArray,List.getElem?_cons_zero,List.getElem?_cons_succ] at c2 c3 c4
   have f2:=free_at XS.out 2;have f3:=free_at XS.out 3;have f4:=free_at XS.out 4
   have hws:(Sy.envOf l).ws=acc:=by unfold Sy.envOf;rw [HALL.out]
   have hnewk:∀ k∈fp (.slice va acc.length vc),w.heap.size<=k:=fun k hk=>by have:=WS.out.new k hk;omega
   by_cases hc:y.code=0
   ·have hcB:((y.code:Int) == 0)=true:=by rw [hc];rfl
    have hla:(Sy.envOf l).last=(42,1+l.count 10,1+tailN l):=by unfold Sy.envOf;rw [HALL.out];simp only;rw [if_pos hc];rfl
    have HLA:=Lib.hid hla;have HWS:=Lib.hid hws;have HNK:=Lib.hid hnewk;have HPV:=Lib.hid hpv
    have hbd:l.count 10<=l.length:=List.count_le_length
    have htl:tailN l<=l.length:=by
     unfold tailN
     have:=(List.takeWhile_sublist (l:=l.reverse) (fun c=>!(c == 10))).length_le
     simpa using this
    clear hla hws hnewk hpv hc
    go_wp2_with fail
    refine (Tryz.strings_Count_one s 10 wS).mono ?_
    rintro e6 w6 ⟨rfl,rfl⟩
    rw [hcn.out]
    go_wp2_with fail
    refine (HLB.out _).mono ?_
    rintro e7 w7 ⟨rfl,rfl⟩
    go_wp2_with fail
    go_ret
    have hvI:((1+l.count 10:Nat):Int)=(l.count 10:Int)+1:=by omega
    have hvJ:((1+tailN l:Nat):Int)=(l.length:Int) - ((l.length:Int) - 1 - (tailN l:Int)):=by omega
    have mS2:=setCs_mod w.heap.size [.int .i64 42,.int .i64 ((l.count 10:Int)+1),.int .i64 ((l.length:Int) - ((l.length:Int) - 1 - (tailN l:Int)))] 2 w7
    refine ⟨_,va,vc,rfl,⟨?_,?_,?_⟩,Nat.le_refl _,?_,MS.out.trans mS2 (by simp)⟩
    ·rw [HLA.out,HWS.out]
     simp only
     rw [hvI,hvJ]
     exact setCs_heap [.int .i64 42,.int .i64 ((l.count 10:Int)+1),.int .i64 ((l.length:Int) - ((l.length:Int) - 1 - (tailN l:Int)))] 2 [.slice va acc.length vc,.int .i64 0,.int .i64 (y.code:Nat),.int .i64 (y.fp.1:Nat),.int .i64 (y.fp.2:Nat),.nilFunc] w7 XS.out
    ·rw [HWS.out];exact (WS.out.base (by omega)).keep mS2 HPV.out
    ·rw [HWS.out];exact HT.out.pv
    ·rw [HWS.out];exact HNK.out
   ·have hcB:((y.code:Int) == 0)=false:=by rw [beq_eq_false_iff_ne];omega
    have hla:(Sy.envOf l).last=(y.code,y.fp):=by unfold Sy.envOf;rw [HALL.out];simp only;rw [if_neg hc]
    have HLA:=Lib.hid hla;have HWS:=Lib.hid hws;have HNK:=Lib.hid hnewk
    clear hla hws hnewk
    go_wp2_with fail
    go_ret
    refine ⟨_,va,vc,rfl,⟨?_,?_,?_⟩,Nat.le_refl _,?_,MS.out⟩
    ·rw [HLA.out,HWS.out];exact XS.out
    ·rw [HWS.out];exact WS.out.base (by omega)
    ·rw [HWS.out];exact HT.out.pv
    ·rw [HWS.out];exact HNK.out
  | some t =>
   simp only [rest] at HALL
   simp only [Option.getD,Option.isSome] at *
   have hnl:=HNL.out y t rfl
   have hlong:l.length<=65536:=by
    have:=hnl.2.2.1
    rw [hl4] at this
    simpa using this
   have hXA:=mA.at hbx4 (by simp)
   have mB:=(Mod.refl [] (w4.alloc (Obj.cells (tokC t) 131))).alloc (Obj.cells (tokC t) 131)
   have mC:=mB.drew
   have hXB:=mC.at hXA (by simp)
   have hWB:=(hrow4.past mA (by simp)).past mC (by simp)
   have hSB:=(h4.past mA (by simp)).past mC (by simp)
   have hMB:=(hm4w.trans mA (by simp)).trans mC (by simp)
   have HS3:=Hxq (src_tok (drew_cells (heap_alloc_new (w4.alloc (Obj.cells (tokC t) 131)) (Obj.cells (tokC t) 131))))
   have HO3:=Lib.hid hWB.row
   have HXB:=Lib.hid hXB;have HWB:=Lib.hid hWB;have HSB:=Lib.hid hSB;have HMB:=Lib.hid hMB
   have hwA:=lt_of_block eA
   have q0:(w4.alloc (Obj.cells (tokC t) 131)).cell? ⟨w.heap.size,0,none⟩=some (.slice va acc.length vc):=cell_at hXA 0
   have q1:(w4.alloc (Obj.cells (tokC t) 131)).drew.cell? ⟨w.heap.size,0,none⟩=some (.slice va acc.length vc):=cell_at hXA 0
   have q2:=cell_at HXB.out 0
   simp only [List.getElem?_toArray,List.getElem?_cons_zero] at q2
   obtain ⟨t0,t1,t2,t3,t4,t5,t6⟩:=tok_cells eA
   have HNL2:=Lib.hid hnl
   have HF0:=Hxq (fun j=>free_at HXB.out j)
   clear mA mB mC eA hXA hXB hWB hSB hMB hbx4 hrow4 hm4w h4 hm4 hnl HNL
   unfold tokC at *
   go_upto_region 5 with fail
   generalize w4.alloc (Obj.cells _ 131)=wA at *
   go_region_law (refine step_append_src _ rfl _ _ 126 126 rfl 131 i0 (.agg (tokC zeroT)) 7 72 Tryz.underlying126 hinf hz0 hz1 hz2 rfl (.slice va acc.length vc) acc.length (tokCells acc) rfl HO3.out _ 1 _ rfl HS3.out (by unfold maxLen;omega) (by omega) ?_;intro v5 w5 hown5 hm5 hf5;obtain ⟨va5,vc5,rfl⟩:=owns_slice hown5;have q5:=hm5.cell (cell_at HXB.out 0) HT.out.pv;have f5:w5.frozen? ⟨w.heap.size,0,none⟩=false:=(World.frozen?_of_block (hm5.block _ (lt_of_block HXB.out) HT.out.pv)).trans (HF0.out 0);have HG5:=Hxq (fun gk h1 h2=>BLoop.grow (l:=l) (t:=t) (gk:=gk) (k:=k') HXB.out HWB.out HSB.out HT.out.pb HT.out.pv HT.out.bv HMB.out hown5 hm5 hf5 h1 h2);clear hown5 hm5 hf5)
   all_goals (
    go_wp2_with fail
    go_roundg (x.s.length)
    case measure=>omega
    case rel=>exact ⟨va5,vc5,k',acc++[t],y,s4,HG5.out _ (by rw [HALL.out];simp) ⟨⟨by have:=HNL2.out.1;omega,by have:=HNL2.out.1;omega,by have:=HNL2.out.1;simp;omega,by rw [HNL2.out.2.2.2];simp;omega⟩,HNB.out⟩⟩)
end Go.Proofs.YtohnmnfhmbmoaaaGreatDoor
