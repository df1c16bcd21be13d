/- THE TEXTS MERGED: SyWhole SyRead. -/
import Derived.Test.YtppigckioalhhaaGreatDoorRKS1
import Derived.Test.YtppigckioalhhaaGreatDoorRKS22
import Derived.BigQuiet
namespace Go.Proofs.YtppigckioalhhaaGreatDoorR
open Go.RowKit
set_option linter.unusedVariables false
set_option linter.unusedSimpArgs false
set_option maxRecDepth 100000
/-- a fault in memory's word -/
def fltC (g:Sy.Flt):Array Value:=#[.int .i64 (g.1:Nat),.int .i64 (g.2.1:Nat),.int .i64 (g.2.2:Nat)]
/-- what the reading of one kind leaves: Got a thing in the world, the reader past it, in blocks of S -/
def RdRes {α:Type} (b:Nat) (ra:Option Addr) (rc:Nat) (f:Value) (v:Sy.Env) (r:Sy.PR α) (S:List Nat) (Got:α->World->Prop) (w:World) (e:Ending) (w':World):Prop :=
 match r with
 | .ok a j=>e=.returned (.tuple #[])/\Got a w'/\RdP w' b ra rc f v j/\Mod S w w'
 | .err g=>e=stopE g/\Mod S w w'
set_option maxHeartbeats 4000000 in
theorem whole_err {α:Type} (b:Nat) (ra:Option Addr) (rc:Nat) (n:Nat) (x:Value) (v:Sy.Env) (one:Nat->Sy.PR α) (S:List Nat) (Got:α->World->Prop) (w:World) (g:Sy.Flt) (h:RdP w b ra rc (.func (.func n) #[x] #[]) v 0) (hv:EnvOk v)
  (he:∀ (args:Array Value) (w:World),(callFunc n args).run Tryz.prog w=.ok (.enter n args) w)
  (hr:∀ w' ,Mod [] w w'->w.heap.size<w'.heap.size->Calls Tryz.prog n #[x] w' (RdRes b ra rc (.func (.func n) #[x] #[]) v (one 0) S Got w')) (hS:∀ s∈S,s<w.heap.size) (ho:one 0=.err g) :
  Calls Tryz.prog 58 #[.pointer (some ⟨b,0,none⟩)] w fun e w'=>e=.returned (.agg (fltC g))/\Mod S w w':=by
 have hmf:=makeFunc_any
 have mA:=(Mod.refl [] w).alloc (Obj.cells #[Value.int .i64 0,Value.int .i64 0,Value.int .i64 0] 31)
 have hA:=h.past mA (by simp)
 have eA:=heap_alloc_new w (Obj.cells #[Value.int .i64 0,Value.int .i64 0,Value.int .i64 0] 31)
 obtain ⟨c0,c1,c2,c3,c4,c5,fz⟩:=hA.cells
 have HC:=Hxq (hr _ mA (by simp))
 rw [ho] at HC
 go_enter_defers Tryz.func58,Tryz.ntmps58
 go_wp2_with fail
 refine HC.out.mono ?_
 rintro e1 w1 ⟨rfl,m1⟩
 have e1:=m1.at eA (fun hs=>by have:=hS _ hs;omega)
 have M1:=Hxq ((mA.mono (T:=S) (by simp)).trans m1 (fun t ht=>.inl ht))
 clear HC m1 c0 c1 c2 c3 c4 c5 fz hA eA mA
 unfold stopE
 go_wp2_with fail
 refine leaves_cons (f:=102) (args:=#[.pointer (some ⟨w.heap.size,0,none⟩)]) (by simp) (by simp [go_sem]) ?_
 refine (catch_stop _ g w1 _ _ _ e1).mono ?_
 rintro e2 u2 w2 ⟨rfl,rfl,h2,m2⟩
 exact ⟨_,results_cell_row rfl _ _ _ _ _ _ _ rfl h2 Tryz.underlying31 rfl (by kernel_rfl),rfl,M1.out.trans m2 (fun t ht=>by rw [Msq] at ht;exact .inr (by omega))⟩
set_option maxHeartbeats 4000000 in
/-- read, but something stands behind it (or the text's end is a fault) -/
theorem whole_more {α:Type} (b:Nat) (ra:Option Addr) (rc:Nat) (n:Nat) (x:Value) (v:Sy.Env) (one:Nat->Sy.PR α) (S:List Nat) (Got:α->World->Prop) (w:World) (a:α) (i:Nat) (h:RdP w b ra rc (.func (.func n) #[x] #[]) v 0) (hv:EnvOk v)
  (he:∀ (args:Array Value) (w:World),(callFunc n args).run Tryz.prog w=.ok (.enter n args) w)
  (hr:∀ w' ,Mod [] w w'->w.heap.size<w'.heap.size->Calls Tryz.prog n #[x] w' (RdRes b ra rc (.func (.func n) #[x] #[]) v (one 0) S Got w')) (hS:∀ s∈S,s<w.heap.size) (ho:one 0=.ok a i) (hi:i<=v.ws.length) (hm:i<v.ws.length\/v.last.1≠42) :
  Calls Tryz.prog 58 #[.pointer (some ⟨b,0,none⟩)] w fun e w'=>e=.returned (.agg (fltC (v.give 40 i)))/\Mod S w w':=by
 have hmf:=makeFunc_any
 have hlen:=hv.len
 have mA:=(Mod.refl [] w).alloc (Obj.cells #[Value.int .i64 0,Value.int .i64 0,Value.int .i64 0] 31)
 have hA:=h.past mA (by simp)
 have eA:=heap_alloc_new w (Obj.cells #[Value.int .i64 0,Value.int .i64 0,Value.int .i64 0] 31)
 obtain ⟨c0,c1,c2,c3,c4,c5,fz⟩:=hA.cells
 have HC:=Hxq (hr _ mA (by simp))
 rw [ho] at HC
 by_cases hlt:i<v.ws.length
 all_goals (
  go_enter_defers Tryz.func58,Tryz.ntmps58
  go_wp2_with fail
  refine HC.out.mono ?_
  rintro e1 w1 ⟨rfl,hg,h1,m1⟩
  have e1:=m1.at eA (fun hs=>by have:=hS _ hs;omega)
  have M1:=Hxq ((mA.mono (T:=S) (by simp)).trans m1 (fun t ht=>.inl ht))
  have H1:=Lib.hid h1
  clear HC m1 c0 c1 c2 c3 c4 c5 fz hA eA mA
  obtain ⟨c0,c1,c2,c3,c4,c5,fz⟩:=h1.cells
  try have hI:(i:Int)<(v.ws.length:Int):=by omega
  try have hI:¬ (i:Int)<(v.ws.length:Int):=by omega
  try have hK:((v.last.1:Int) != 42)=true:=by simp;omega
  clear h1
  go_wp2_with fail
  go_quiet (fail)
  go_wp2_with fail
  have mq:Mod [] w1 (w1.drewN nq):=(Mod.refl [] w1).drewN nq
  refine (give_any b ra rc _ v i 40 _ (H1.out.past mq (by simp)) hv (by omega)).mono ?_
  rintro e3 w3 ⟨rfl,m3⟩
  have m13:=mq.trans m3 (by simp)
  have e3:=m13.at e1 (by simp)
  have M3:=Hxq (M1.out.trans m13 (by simp))
  clear m3 mq m13
  unfold stopE
  go_wp2_with fail
  refine leaves_cons (f:=102) (args:=#[.pointer (some ⟨w.heap.size,0,none⟩)]) (by simp) (by simp [go_sem]) ?_
  refine (catch_stop _ (v.give 40 i) w3 _ _ _ e3).mono ?_
  rintro e2 u2 w2 ⟨rfl,rfl,h2,m2⟩
  exact ⟨_,results_cell_row rfl _ _ _ _ _ _ _ rfl h2 Tryz.underlying31 rfl (by kernel_rfl),rfl,M3.out.trans m2 (fun t ht=>by rw [Msq] at ht;exact .inr (by omega))⟩)
set_option maxHeartbeats 4000000 in
/-- read whole -/
theorem whole_ok {α:Type} (b:Nat) (ra:Option Addr) (rc:Nat) (n:Nat) (x:Value) (v:Sy.Env) (one:Nat->Sy.PR α) (S:List Nat) (Got:α->World->Prop) (w:World) (a:α) (i:Nat) (h:RdP w b ra rc (.func (.func n) #[x] #[]) v 0) (hv:EnvOk v)
  (he:∀ (args:Array Value) (w:World),(callFunc n args).run Tryz.prog w=.ok (.enter n args) w)
  (hr:∀ w' ,Mod [] w w'->w.heap.size<w'.heap.size->Calls Tryz.prog n #[x] w' (RdRes b ra rc (.func (.func n) #[x] #[]) v (one 0) S Got w')) (hS:∀ s∈S,s<w.heap.size) (ho:one 0=.ok a i) (hi:¬ i<v.ws.length) (hi2:i<=65536) (hm:v.last.1=42) :
  Calls Tryz.prog 58 #[.pointer (some ⟨b,0,none⟩)] w fun e w'=>e=.returned (.agg #[.int .i64 0,.int .i64 0,.int .i64 0])/\(∃ w1,Got a w1/\Mod [w.heap.size] w1 w')/\Mod S w w':=by
 have hmf:=makeFunc_any
 have hlen:=hv.len
 have mA:=(Mod.refl [] w).alloc (Obj.cells #[Value.int .i64 0,Value.int .i64 0,Value.int .i64 0] 31)
 have hA:=h.past mA (by simp)
 have eA:=heap_alloc_new w (Obj.cells #[Value.int .i64 0,Value.int .i64 0,Value.int .i64 0] 31)
 obtain ⟨c0,c1,c2,c3,c4,c5,fz⟩:=hA.cells
 have HC:=Hxq (hr _ mA (by simp))
 rw [ho] at HC
 go_enter_defers Tryz.func58,Tryz.ntmps58
 go_wp2_with fail
 refine HC.out.mono ?_
 rintro e1 w1 ⟨rfl,hg,h1,m1⟩
 have e1:=m1.at eA (fun hs=>by have:=hS _ hs;omega)
 have M1:=Hxq ((mA.mono (T:=S) (by simp)).trans m1 (fun t ht=>.inl ht))
 have H1:=Lib.hid h1;have HGt:=Lib.hid hg
 clear HC m1 c0 c1 c2 c3 c4 c5 fz hA eA mA hg
 obtain ⟨c0,c1,c2,c3,c4,c5,fz⟩:=h1.cells
 have hI:¬ (i:Int)<(v.ws.length:Int):=by omega
 have hK:((v.last.1:Int) != 42)=false:=by rw [hm];rfl
 clear h1
 go_wp2_with fail
 go_quiet (fail)
 have mq:Mod [] w1 (w1.drewN nq):=(Mod.refl [] w1).drewN nq
 have e3:=mq.at e1 (by simp)
 generalize w1.drewN nq=w3 at *
 obtain ⟨y0,y1,y2⟩:=cells3 e3
 have f0:=free_at e3 0
 have f1:=free_at e3 1
 have f2:=free_at e3 2
 clear c0 c1 c2 c3 c4 c5 fz
 go_wp2_with fail
 refine leaves_cons (f:=102) (args:=#[.pointer (some ⟨w.heap.size,0,none⟩)]) (by simp) (by simp [go_sem]) ?_
 refine (catch_idle _ _).mono ?_
 rintro e2 u2 w2 ⟨rfl,rfl,m2⟩
 have mR:=setCs_mod w.heap.size [.int .i64 0,.int .i64 0,.int .i64 0] 0 w3
 have mT:=(mq.mono (T:=[w.heap.size]) (by simp)).trans (mR.trans m2 (by simp)) (by simp)
 have h2:=m2.at (setCs_row (vs:=[.int .i64 0,.int .i64 0,.int .i64 0]) e3 rfl) (by simp)
 exact ⟨_,results_cell_row rfl _ _ _ _ _ _ _ rfl h2 Tryz.underlying31 rfl (by kernel_rfl),rfl,⟨w1,HGt.out,mT⟩,M1.out.trans mT (fun t ht=>by rw [Msq] at ht;exact .inr (by omega))⟩
/-- what whole leaves -/
def WhRes {α:Type} (r:Sy.PR α) (S:List Nat) (Got:α->World->Prop) (w:World) (e:Ending) (w':World):Prop :=
 match r with
 | .ok a _=>e=.returned (.agg #[.int .i64 0,.int .i64 0,.int .i64 0])/\(∃ w1,Got a w1/\Mod [w.heap.size] w1 w')/\Mod S w w'
 | .err g=>e=.returned (.agg (fltC g))/\Mod S w w'
theorem whole_any {α:Type} (b:Nat) (ra:Option Addr) (rc:Nat) (n:Nat) (x:Value) (v:Sy.Env) (one:Nat->Sy.PR α) (S:List Nat) (Got:α->World->Prop) (w:World) (h:RdP w b ra rc (.func (.func n) #[x] #[]) v 0) (hv:EnvOk v)
  (he:∀ (args:Array Value) (w:World),(callFunc n args).run Tryz.prog w=.ok (.enter n args) w)
  (hr:∀ w' ,Mod [] w w'->w.heap.size<w'.heap.size->Calls Tryz.prog n #[x] w' (RdRes b ra rc (.func (.func n) #[x] #[]) v (one 0) S Got w')) (hS:∀ s∈S,s<w.heap.size) (hadv:Sy.Adv v one) :
  Calls Tryz.prog 58 #[.pointer (some ⟨b,0,none⟩)] w (WhRes (Sy.whole v one) S Got w):=by
 have hlen:=hv.len
 cases ho:one 0 with
 | err g =>
  have e:Sy.whole v one=.err g:=by unfold Sy.whole;rw [ho];rfl
  rw [e]
  exact whole_err b ra rc n x v one S Got w g h hv he hr hS ho
 | ok a i =>
  have hi:=(hadv 0 a i (Nat.zero_le _) ho).2
  by_cases hm:i<v.ws.length\/v.last.1≠42
  ·have e:Sy.whole v one=.err (v.give 40 i):=by unfold Sy.whole;rw [ho,Sy.PR.bind_ok,if_pos hm]
   rw [e]
   exact whole_more b ra rc n x v one S Got w a i h hv he hr hS ho hi hm
  ·have e:Sy.whole v one=.ok a i:=by unfold Sy.whole;rw [ho,Sy.PR.bind_ok,if_neg hm]
   rw [e]
   exact whole_ok b ra rc n x v one S Got w a i h hv he hr hS ho (by omega) (by omega) (by omega)
set_option maxHeartbeats 4000000 in
theorem readP_any (b:Nat) (ra:Option Addr) (rc:Nat) (f:Value) (v:Sy.Env) (px:Nat) (x1 x2:Value) (w:World) (h:RdP w b ra rc f v 0) (hv:EnvOk v) (hp:w.heap[px]?=some (.cells #[.pointer (some ⟨b,0,none⟩),.func (.func 31) #[] #[],x1,x2] 126 (0,0))) (hne:px≠b) (hpx:px∉fp (.slice ra v.ws.length rc)) :
  Calls Tryz.prog 57 #[.pointer (some ⟨px,0,none⟩)] w (RdRes b ra rc f v (Sy.prog v 0) [b,px] (fun p w'=>∃ C:Array Value,w'.heap[px]?=some (.cells (#[.pointer (some ⟨b,0,none⟩),.func (.func 31) #[] #[]]++C) 126 (0,0))/\valP w.heap.size p w' (.agg C)) w):=by
 have HC:=Hxq (program_any b ra rc f v w.drew (h.past ((Mod.refl [] w).drew) (by simp)) hv)
 have hlt:=lt_of_block hp
 have HH:=Lib.hid h;have HP:=Lib.hid hp
 have D1:w.drew.cell? ⟨px,0,none⟩=some (.pointer (some ⟨b,0,none⟩))/\w.drew.cell? ⟨px,1,none⟩=some (.func (.func 31) #[] #[]):=⟨cell_at hp 0,cell_at hp 1⟩
 go_enter Tryz.func57,Tryz.ntmps57
 generalize Sy.prog v 0=q at *
 cases q with
 | err g =>
  go_wp2_with fail
  refine wp_region_held_drew (S:=(fun w':World=>w'.cell? ⟨px,0,none⟩=some (.pointer (some ⟨b,0,none⟩))/\w'.cell? ⟨px,1,none⟩=some (.func (.func 31) #[] #[]))) (by kernel_rfl) (by (try dsimp only);exact D1) (fun hHeld=>?_)
  refine Tkq 0 (v:=?_) (by assumption) ?_ ?_ ?_
  rotate_left 1
  ·refine .inl ⟨by rfl,?_⟩;intro w hSw;(try dsimp only at hSw);obtain ⟨hS1,hS2⟩:=hSw;go_simp
   all_goals with_reducible rfl
  ·exact fun _ _ _ h=>h
  try simp only [Act.put,Lq1,Lq2,Lq3]
  refine Tkq 1 (v:=?_) (by assumption) ?_ ?_ ?_
  rotate_left 1
  ·refine .inl ⟨by rfl,?_⟩;intro w hSw;(try dsimp only at hSw);obtain ⟨hS1,hS2⟩:=hSw;go_simp
   all_goals with_reducible rfl
  ·exact fun _ _ _ h=>h
  try simp only [Act.put,Lq1,Lq2,Lq3]
  refine Tkq 2 (v:=?_) (by assumption) ?_ ?_ ?_
  rotate_left 1
  ·refine .inl ⟨by rfl,?_⟩;intro w hSw;(try dsimp only at hSw);obtain ⟨hS1,hS2⟩:=hSw;go_simp
   all_goals with_reducible rfl
  ·exact fun _ _ _ h=>h
  try simp only [Act.put,Lq1,Lq2,Lq3]
  refine Tkq 3 (v:=?_) (by assumption) ?_ ?_ ?_
  rotate_left 1
  ·refine .inl ⟨by rfl,?_⟩;intro w hSw;(try dsimp only at hSw);obtain ⟨hS1,hS2⟩:=hSw;go_simp
   all_goals with_reducible rfl
  ·exact fun _ _ _ h=>h
  try simp only [Act.put,Lq1,Lq2,Lq3]
  refine Tkq 4 (v:=?_) (by assumption) ?_ ?_ ?_
  rotate_left 1
  ·refine .inl ⟨by rfl,?_⟩;intro w hSw;(try dsimp only at hSw);obtain ⟨hS1,hS2⟩:=hSw;go_simp
   all_goals with_reducible rfl
  ·exact fun _ _ _ h=>h
  try simp only [Act.put,Lq1,Lq2,Lq3]
  refine Tkq 5 (v:=?_) (by assumption) ?_ ?_ ?_
  rotate_left 1
  ·refine .inl ⟨by rfl,?_⟩;intro w hSw;(try dsimp only at hSw);obtain ⟨hS1,hS2⟩:=hSw;go_simp
   all_goals with_reducible rfl
  ·exact fun _ _ _ h=>h
  try simp only [Act.put,Lq1,Lq2,Lq3]
  refine Tkq 6 (v:=?_) (by assumption) ?_ ?_ ?_
  rotate_left 1
  ·refine .inl ⟨by rfl,?_⟩;intro w hSw;(try dsimp only at hSw);obtain ⟨hS1,hS2⟩:=hSw;go_simp
   all_goals with_reducible rfl
  ·exact fun _ _ _ h=>h
  try simp only [Act.put,Lq1,Lq2,Lq3]
  refine Tkq 7 (v:=?_) (by assumption) ?_ ?_ ?_
  rotate_left 1
  ·refine .inl ⟨by rfl,?_⟩;intro w hSw;(try dsimp only at hSw);obtain ⟨hS1,hS2⟩:=hSw;go_simp
   all_goals with_reducible rfl
  ·exact fun _ _ _ h=>h
  try simp only [Act.put,Lq1,Lq2,Lq3]
  refine Tkq 8 (v:=?_) (by assumption) ?_ ?_ ?_
  rotate_left 1
  ·refine .inl ⟨by rfl,?_⟩;intro w hSw;(try dsimp only at hSw);obtain ⟨hS1,hS2⟩:=hSw;go_simp
   all_goals with_reducible rfl
  ·exact fun _ _ _ h=>h
  try simp only [Act.put,Lq1,Lq2,Lq3]
  refine wpAnyH_ready (rs:=[9]) (by kernel_rfl) (by simp) ?_
  refine AllReadyH.cons (o:=?_) ?_ ?_ AllReadyH.nil
  rotate_left 1
  ·(simp only [Gq1,Gq2,Gq3])<;>rfl
  intro K hK
  go_simp
  refine HC.out.mono ?_
  rintro e7 w7 ⟨rfl,m7⟩
  have M7:=Hxq (((Mod.refl [b] w).drew).trans m7 (by simp))
  clear m7
  unfold stopE
  dsimp only
  clear hK K
  go_wp2_with fail
  exact ⟨rfl,rfl,M7.out.mono (T:=[b,px]) (fun t ht=>.inl (by simp at ht;simp [ht]))⟩
 | ok p j =>
  have q1:=D1.1
  have q2:=D1.2
  go_wp2_with fail
  go_region_law (first
   | (go_simp;refine HC.out.mono ?_;rintro e3 w3 ⟨y3,rfl,hy3,h3,m3⟩;obtain ⟨rels,rus,u1,u2,rfl,hpp,hb1,hb2,hs1,hs2⟩:=hy3;obtain ⟨a1,c1,rfl⟩:=hb1.lit;obtain ⟨a2,c2,rfl⟩:=hb2.lit;have m03:=(((Mod.refl [b] w).drew).trans m3 (by simp));have P3:=Hxq (m03.at HP.out (by simp;omega));have r2:=cell_at P3.out 2;have r3:=cell_at P3.out 3;simp only [List.getElem?_toArray,List.getElem?_cons_zero,List.getElem?_cons_succ] at r2 r3;have f3:∀ j,w3.frozen? ⟨px,j,none⟩=false:=(fun j=>free_at P3.out j);have H3:=Lib.hid h3;have M3:=Lib.hid m03;clear h3 m3 m03))
  all_goals (
   go_wp2_with fail
   go_end0
   have mS:Mod [px] w3 (setCs w3 px 2 [.slice a1 rels.length c1,.slice a2 rus.length c2]):=setCs_mod px _ 2 w3
   have hS:∀ s∈[px],¬ w.heap.size<=s:=fun s hs=>by rw [Msq] at hs;omega
   exact ⟨rfl,⟨#[.slice a1 rels.length c1,.slice a2 rus.length c2],setCs_heap [.slice a1 rels.length c1,.slice a2 rus.length c2] 2 [.pointer (some ⟨b,0,none⟩),.func (.func 31) #[] #[],x1,x2] w3 P3.out,⟨rels,rus,_,_,rfl,hpp,hb1.keep mS hS,hb2.keep mS hS,fun p hp=>(hs1 p hp).keep mS hS,fun p hp=>(hs2 p hp).keep mS hS⟩⟩,H3.out.keep mS (by simp;omega) (fun k hk hs=>by rw [Msq] at hs;exact hpx (hs ▸ hk)),(M3.out.mono (T:=[b,px]) (fun t ht=>.inl (by simp at ht;simp [ht]))).trans mS (by simp)⟩)
end Go.Proofs.YtppigckioalhhaaGreatDoorR
