/- THE TEXTS MERGED: PrTold PrFns PrExpr. -/
import Derived.Test.YtbfaclljbbfknaaGreatDoorKP18
import Derived.Lib.UnsafeStr
namespace Go.Proofs.YtbfaclljbbfknaaGreatDoor
open Go.RowKit
set_option linter.unusedVariables false
set_option linter.unusedSimpArgs false
set_option maxRecDepth 100000
theorem mod_freeze {S:List Nat} {w w':World} (h:Mod S w w') {g:Nat} (hg:g∈S) (n:Nat):Mod S w (w'.freeze ⟨g,0,none⟩ n):=by
 unfold World.freeze
 split
 ·exact h
 ·refine h.trans (T:=[g]) ⟨rfl,rfl,rfl,by simp,fun k hk hn=>?_⟩ (by simp;exact .inl hg)
  simp only [Array.getElem?_modify]
  rw [if_neg (by simp at hn;exact fun e=>hn e.symm)]
set_option maxHeartbeats 2000000 in
theorem String_any (p:Nat) (q v:Value) (l:List Nat) (bad:Bool) (br:Int) (w:World) (h:WrIs w p q v l bad br) (hlen:l.length<=140737488355328) :
  Calls Tryz.prog 28 #[.pointer (some ⟨p,0,none⟩)] w fun e w'=>e=.returned (.string (Lx.ofS l))/\Mod (fp v) w w':=by
 by_cases h0:l=[]
 ·have hv:=h.nil_ h0
  subst hv
  obtain ⟨c0,c1,c2,c3,fz⟩:=h.cells
  have D1:Hid (w.drew.cell? ⟨p,1,none⟩=some (.slice none 0 0)):=Lib.hid c1
  have hSD:∀ W:World,(Builtin.unsafeSliceData_ #[64] 117 #[.slice none 0 0]).run Tryz.prog W=.ok (.pointer none) W:=fun W=>rfl
  have hUS:=fun W=>Lib.run_unsafeString_none (P:=Tryz.prog) W 117 3 9 none
  subst h0
  clear h
  go_enter Tryz.func28,Tryz.ntmps28
  go_wp2_with fail
  refine wp_region_held_drew (S:=(fun w':World=>w'.cell? ⟨p,1,none⟩=some (.slice none 0 0))) (by kernel_rfl) (by (try dsimp only);exact D1.out) (fun hHeld=>?_)
  refine Tkq 0 (v:=?_) (by assumption) ?_ ?_ ?_
  rotate_left 1
  ·refine .inl ⟨by rfl,?_⟩;intro w hSw;(try dsimp only at hSw);go_simp
   all_goals with_reducible rfl
  ·exact fun _ _ _ h=>h
  try simp only [Act.put,Lq1,Lq2,Lq3]
  refine Tkq 1 (v:=?_) (by assumption) ?_ ?_ ?_
  rotate_left 1
  ·refine .inl ⟨by rfl,?_⟩;intro w hSw;(try dsimp only at hSw);go_simp
   all_goals with_reducible rfl
  ·exact fun _ _ _ h=>h
  try simp only [Act.put,Lq1,Lq2,Lq3]
  refine Tkq 2 (v:=?_) (by assumption) ?_ ?_ ?_
  rotate_left 1
  ·refine .inl ⟨by rfl,?_⟩;intro w hSw;(try dsimp only at hSw);go_simp
   all_goals with_reducible rfl
  ·exact fun _ _ _ h=>h
  try simp only [Act.put,Lq1,Lq2,Lq3]
  refine Tkq 3 (v:=?_) (by assumption) ?_ ?_ ?_
  rotate_left 1
  ·refine .inl ⟨by rfl,?_⟩;intro w hSw;(try dsimp only at hSw);go_simp
   all_goals with_reducible rfl
  ·exact fun _ _ _ h=>h
  try simp only [Act.put,Lq1,Lq2,Lq3]
  refine Tkq 4 (v:=?_) (by assumption) ?_ ?_ ?_
  rotate_left 1
  ·refine .inl ⟨by rfl,?_⟩;intro w hSw;(try dsimp only at hSw);go_simp
   all_goals with_reducible rfl
  ·exact fun _ _ _ h=>h
  try simp only [Act.put,Lq1,Lq2,Lq3]
  refine Tkq 5 (v:=?_) (by assumption) ?_ ?_ ?_
  rotate_left 1
  ·refine .inl ⟨by rfl,?_⟩;intro w hSw;(try dsimp only at hSw);go_simp
   all_goals with_reducible rfl
  ·exact fun _ _ _ h=>h
  try simp only [Act.put,Lq1,Lq2,Lq3]
  refine Tkq 6 (v:=?_) (by assumption) ?_ ?_ ?_
  rotate_left 1
  ·refine .inl ⟨by rfl,?_⟩;intro w hSw;(try dsimp only at hSw);go_simp
   all_goals with_reducible rfl
  ·exact fun _ _ _ h=>h
  try simp only [Act.put,Lq1,Lq2,Lq3]
  refine Tkq 7 (v:=?_) (by assumption) ?_ ?_ ?_
  rotate_left 1
  ·refine .inl ⟨by rfl,?_⟩;intro w hSw;(try dsimp only at hSw);go_simp
   all_goals with_reducible rfl
  ·exact fun _ _ _ h=>h
  try simp only [Act.put,Lq1,Lq2,Lq3]
  refine Tkq 8 (v:=?_) (by assumption) ?_ ?_ ?_
  rotate_left 1
  ·refine .inl ⟨by rfl,?_⟩;intro w hSw;(try dsimp only at hSw);go_simp
   all_goals with_reducible rfl
  ·exact fun _ _ _ h=>h
  try simp only [Act.put,Lq1,Lq2,Lq3]
  refine Tkq 9 (v:=?_) (by assumption) ?_ ?_ ?_
  rotate_left 1
  ·refine .inl ⟨by rfl,?_⟩;intro w hSw;(try dsimp only at hSw);go_simp
   all_goals with_reducible rfl
  ·exact fun _ _ _ h=>h
  try simp only [Act.put,Lq1,Lq2,Lq3]
  refine Tkq 10 (v:=?_) (by assumption) ?_ ?_ ?_
  rotate_left 1
  ·refine .inl ⟨by rfl,?_⟩;intro w hSw;(try dsimp only at hSw);go_simp
   all_goals with_reducible rfl
  ·exact fun _ _ _ h=>h
  try simp only [Act.put,Lq1,Lq2,Lq3]
  refine Tkq 11 (v:=?_) (by assumption) ?_ ?_ ?_
  rotate_left 1
  ·refine .inl ⟨by rfl,?_⟩;intro w hSw;(try dsimp only at hSw);go_simp
   all_goals with_reducible rfl
  ·exact fun _ _ _ h=>h
  try simp only [Act.put,Lq1,Lq2,Lq3]
  refine wpAnyH_done (by kernel_rfl) ?_ _
  go_wp2_with fail
  go_ret
  exact ⟨rfl,(Mod.refl _ _).drew⟩
 ·obtain ⟨c0,c1,c2,c3,fz⟩:=h.cells
  have hl0:l.length≠0:=fun e=>h0 (List.eq_nil_of_length_eq_zero e)
  have hown:=h.row
  obtain ⟨g,cap,cur,rfl,hbg,hg,hnc,hcm,hcs,htake⟩:∃ g cap cur,v=.slice (some ⟨g,0,none⟩) l.length cap/\0<=g/\w.heap[g]?=some (.cells cur 5 (0,0))/\l.length<=cap/\cap<=maxLen/\cur.size=cap * 1/\_:=by
   rcases hown.2 with ⟨_,hz⟩ | ⟨g,cap,cur,hv,r⟩
   ·exact absurd hz hl0
   ·exact ⟨g,cap,cur,hv,r⟩
  have hc0:cap≠0:=by omega
  have D1:Hid (w.drew.cell? ⟨p,1,none⟩=some (.slice (some ⟨g,0,none⟩) l.length cap)):=Lib.hid c1
  have hSD:∀ W:World,(Builtin.unsafeSliceData_ #[64] 117 #[.slice (some ⟨g,0,none⟩) l.length cap]).run Tryz.prog W=.ok (.pointer (some ⟨g,0,none⟩)) W:=fun W=>Lib.run_unsafeSliceData_row _ _ _ _ _ _ hc0
  have hbl:(l.map UInt8.ofNat).length=l.length:=by simp
  have hUS:=Lib.run_unsafeString_row w.drew 117 3 9 5 Tryz.underlying117 (by kernel_rfl) g cur.size (by have hg':w.drew.heap[g]?=some (.cells cur 5 (0,0)):=hg;simp [World.shape?,hg']) (l.map UInt8.ofNat) (by simpa using h0) (by rw [hbl];omega) (by rw [hbl];omega) (fun j x hx=>by
   have hj:j<l.length:=by
    obtain ⟨hh,-⟩:=List.getElem?_eq_some_iff.1 hx
    simpa using hh
   have hcell:=hown.cells (g:=g) rfl j _ (toCells_get l j hj)
   rw [List.getElem?_map,List.getElem?_eq_getElem hj] at hx
   simp only [Option.map_some,Option.some.injEq] at hx
   subst hx
   have hb:=h.byte _ (List.getElem_mem hj)
   have e:(UInt8.ofNat l[j]).toNat=l.getD j 0:=by
    rw [List.getD_eq_getElem?_getD,List.getElem?_eq_getElem hj]
    simp;omega
   rw [e]
   exact hcell)
  rw [hbl] at hUS
  have HUS:=Lib.hid hUS
  have MF:Hid (Mod [g] w (w.drew.freeze ⟨g,0,none⟩ l.length)):=Hxq (mod_freeze (Mod.refl [g] w).drew (by simp) _)
  have hpg:p≠g:=fun e=>h.out (by simp [fp,e])
  have DF:Hid ((w.drew.freeze ⟨g,0,none⟩ l.length).cell? ⟨p,1,none⟩=some (.slice (some ⟨g,0,none⟩) l.length cap)):=Hxq (MF.out.cell c1 (by simpa using hpg))
  clear hUS hbl hown h0 htake h hnc hcs hcm hg
  go_enter Tryz.func28,Tryz.ntmps28
  go_wp2_with fail
  refine wp_region_held_drew (S:=(fun w':World=>w'.cell? ⟨p,1,none⟩=some (.slice (some ⟨g,0,none⟩) l.length cap))) (by kernel_rfl) (by (try dsimp only);exact D1.out) (fun hHeld=>?_)
  refine Tkq 0 (v:=?_) (by assumption) ?_ ?_ ?_
  rotate_left 1
  ·refine .inl ⟨by rfl,?_⟩;intro w hSw;(try dsimp only at hSw);go_simp
   all_goals with_reducible rfl
  ·exact fun _ _ _ h=>h
  try simp only [Act.put,Lq1,Lq2,Lq3]
  refine Tkq 1 (v:=?_) (by assumption) ?_ ?_ ?_
  rotate_left 1
  ·refine .inl ⟨by rfl,?_⟩;intro w hSw;(try dsimp only at hSw);go_simp
   all_goals with_reducible rfl
  ·exact fun _ _ _ h=>h
  try simp only [Act.put,Lq1,Lq2,Lq3]
  refine Tkq 2 (v:=?_) (by assumption) ?_ ?_ ?_
  rotate_left 1
  ·refine .inl ⟨by rfl,?_⟩;intro w hSw;(try dsimp only at hSw);go_simp
   all_goals with_reducible rfl
  ·exact fun _ _ _ h=>h
  try simp only [Act.put,Lq1,Lq2,Lq3]
  refine Tkq 3 (v:=?_) (by assumption) ?_ ?_ ?_
  rotate_left 1
  ·refine .inl ⟨by rfl,?_⟩;intro w hSw;(try dsimp only at hSw);go_simp
   all_goals with_reducible rfl
  ·exact fun _ _ _ h=>h
  try simp only [Act.put,Lq1,Lq2,Lq3]
  refine Tkq 4 (v:=?_) (by assumption) ?_ ?_ ?_
  rotate_left 1
  ·refine .inl ⟨by rfl,?_⟩;intro w hSw;(try dsimp only at hSw);go_simp
   all_goals with_reducible rfl
  ·exact fun _ _ _ h=>h
  try simp only [Act.put,Lq1,Lq2,Lq3]
  refine Tkq 5 (v:=?_) (by assumption) ?_ ?_ ?_
  rotate_left 1
  ·refine .inl ⟨by rfl,?_⟩;intro w hSw;(try dsimp only at hSw);go_simp
   all_goals with_reducible rfl
  ·exact fun _ _ _ h=>h
  try simp only [Act.put,Lq1,Lq2,Lq3]
  refine Tkq 6 (v:=?_) (by assumption) ?_ ?_ ?_
  rotate_left 1
  ·refine .inl ⟨by rfl,?_⟩;intro w hSw;(try dsimp only at hSw);go_simp
   all_goals with_reducible rfl
  ·exact fun _ _ _ h=>h
  try simp only [Act.put,Lq1,Lq2,Lq3]
  refine Tkq 7 (v:=?_) (by assumption) ?_ ?_ ?_
  rotate_left 1
  ·refine .inl ⟨by rfl,?_⟩;intro w hSw;(try dsimp only at hSw);go_simp
   all_goals with_reducible rfl
  ·exact fun _ _ _ h=>h
  try simp only [Act.put,Lq1,Lq2,Lq3]
  refine Tkq 8 (v:=?_) (by assumption) ?_ ?_ ?_
  rotate_left 1
  ·refine .inl ⟨by rfl,?_⟩;intro w hSw;(try dsimp only at hSw);go_simp
   all_goals with_reducible rfl
  ·exact fun _ _ _ h=>h
  try simp only [Act.put,Lq1,Lq2,Lq3]
  refine Tkq 9 (v:=?_) (by assumption) ?_ ?_ ?_
  rotate_left 1
  ·refine .inl ⟨by rfl,?_⟩;intro w hSw;(try dsimp only at hSw);go_simp
   all_goals with_reducible rfl
  ·exact fun _ _ _ h=>h
  try simp only [Act.put,Lq1,Lq2,Lq3]
  refine wpAnyH_ready (rs:=[10]) (by kernel_rfl) (by simp) ?_
  refine AllReadyH.cons (o:=?_) ?_ ?_ AllReadyH.nil
  rotate_left 1
  ·(simp only [Gq1,Gq2,Gq3])<;>rfl
  intro K hK
  have hUS:=HUS.out
  go_simp
  clear hUS
  refine hK.out _ _ (by (try dsimp only);exact DF.out) (fun hHeld=>?_)
  clear hK K
  try simp only [Act.put,Lq1,Lq2,Lq3]
  refine Tkq 11 (v:=?_) (by assumption) ?_ ?_ ?_
  rotate_left 1
  ·refine .inl ⟨by rfl,?_⟩;intro w hSw;(try dsimp only at hSw);go_simp
   all_goals with_reducible rfl
  ·exact fun _ _ _ h=>h
  try simp only [Act.put,Lq1,Lq2,Lq3]
  refine wpAnyH_done (by kernel_rfl) ?_ _
  go_wp2_with fail
  go_ret
  exact ⟨rfl,MF.out⟩
theorem text_lt {v:Va.Val} (hb:∀ c∈v.s,c<256):∀ c∈Va.text v,c<256:=by
 unfold Va.text
 split
 ·exact Va.itoa_lt _
 ·split
  ·exact hb
  ·intro c hc
   unfold Va.quoted at hc
   simp only [List.mem_append,List.mem_cons,List.mem_flatMap,List.not_mem_nil,or_false] at hc
   rcases hc with rfl | ⟨y,hy,hx⟩ | rfl
   ·decide
   ·exact qb_lt (hb y hy) c hx
   ·decide
theorem told_any (p:Nat) (q v:Value) (l:List Nat) (bad:Bool) (br:Int) (w:World) (h:WrIs w p q v l bad br) (hlen:l.length<=140737488355328) :
  Calls Tryz.prog 15 #[.pointer (some ⟨p,0,none⟩)] w fun e w'=>e=.returned (if bad then .tuple #[.string ⟨#[]⟩,.int .i64 50] else .tuple #[.string (Lx.ofS l),.int .i64 0])/\Mod (fp v) w w':=by
 obtain ⟨c0,c1,c2,c3,fz⟩:=h.cells
 have HS:=Hxq (String_any p q v l bad br w h hlen)
 clear h
 cases bad
 ·go_enter Tryz.func15,Tryz.ntmps15
  go_wp2_with fail
  refine HS.out.mono ?_
  rintro e w1 ⟨rfl,m1⟩
  go_wp2_with fail
  go_ret2
  exact ⟨rfl,m1⟩
 ·go_enter Tryz.func15,Tryz.ntmps15
  go_wp2_with fail
  go_ret2
  exact ⟨rfl,Mod.refl _ _⟩
theorem strength_any (op:Int) (w:World):Calls Tryz.prog 26 #[.int .i64 op] w fun e w'=>e=.returned (.int .i64 (Pr.strength op:Nat))/\w'=w:=by
 by_cases h:op=1\/op=2\/op=3\/op=4\/op=5\/op=6
 ·rcases h with rfl | rfl | rfl | rfl | rfl | rfl
  all_goals (
   go_enter Tryz.func26,Tryz.ntmps26
   go_wp2_with fail
   go_ret
   exact ⟨rfl,rfl⟩)
 ·have n1:(op == 1)=false:=by rw [beq_eq_false_iff_ne];omega
  have n2:(op == 2)=false:=by rw [beq_eq_false_iff_ne];omega
  have n3:(op == 3)=false:=by rw [beq_eq_false_iff_ne];omega
  have n4:(op == 4)=false:=by rw [beq_eq_false_iff_ne];omega
  have n5:(op == 5)=false:=by rw [beq_eq_false_iff_ne];omega
  have n6:(op == 6)=false:=by rw [beq_eq_false_iff_ne];omega
  have HE:Hid (Pr.strength op=0):=Hxq (by unfold Pr.strength;rw [if_neg (by omega),if_neg (by omega),if_neg (by omega)])
  clear h
  go_enter Tryz.func26,Tryz.ntmps26
  go_wp2_with fail
  go_ret
  exact ⟨by rw [HE.out];rfl,rfl⟩
theorem binds_any (e:Pr.Ex) (u:Value) (w:World):Calls Tryz.prog 48 #[.agg (exV e u)] w fun e' w'=>e'=.returned (.int .i64 (Pr.binds e:Nat))/\Mod [] w w':=by
 have HS:=Hxq (fun w=>strength_any e.op w)
 have HM:=Hxq ((Mod.refl [] w).alloc (Obj.cells (exV e u) 26))
 unfold exV at *
 by_cases h:e.k=4
 ·have hB:(e.k != 4)=false:=by rw [h];rfl
  have HE:Hid (Pr.binds e=Pr.strength e.op):=Hxq (if_pos h)
  clear h
  go_enter Tryz.func48,Tryz.ntmps48
  go_wp2_with fail
  refine (HS.out _).mono ?_
  rintro e' w1 ⟨rfl,rfl⟩
  go_wp2_with fail
  go_ret
  exact ⟨by rw [HE.out];rfl,HM.out⟩
 ·have hB:(e.k != 4)=true:=by rw [bne_iff_ne];exact h
  have HE:Hid (Pr.binds e=4):=Hxq (if_neg h)
  clear h
  go_enter Tryz.func48,Tryz.ntmps48
  go_wp2_with fail
  go_ret
  exact ⟨by rw [HE.out];rfl,HM.out⟩
theorem ofS_nil (s:List Nat):(Lx.ofS s).toList.isEmpty=decide (s=[]):=by
 rw [toList_isEmpty,ofS_size]
 cases s <;> simp
/-- is a value zero? -/
theorem veq_run (x:Va.Val) (W:World):(binOp .eql 23 (.agg #[.int .i64 x.k,.int .i64 x.n,.string (Lx.ofS x.s)]) (.agg #[.int .i64 0,.int .i64 0,.string ⟨#[]⟩])).run Tryz.prog W=.ok (.bool (decide (x=Va.zero))) W:=by
 obtain ⟨k,n,s⟩:=x
 have hs:=ofS_nil s
 by_cases h1:k=0
 ·subst h1
  by_cases h2:n=0
  ·subst h2
   by_cases h3:s=[]
   ·subst h3
    rw [show decide ((⟨0,0,[]⟩:Va.Val)=Va.zero)=true from by decide]
    go_simp
   ·rw [decide_eq_false h3] at hs
    rw [decide_eq_false (fun e=>h3 (by injection e))]
    go_simp
  ·rw [decide_eq_false (fun e=>h2 (by injection e))]
   have h2B:(n == 0)=false:=by rw [beq_eq_false_iff_ne];exact h2
   go_simp
 ·rw [decide_eq_false (fun e=>h1 (by injection e))]
  have h1B:(k == 0)=false:=by rw [beq_eq_false_iff_ne];exact h1
  go_simp
theorem noExpr_any (e:Pr.Ex) (a:Option Addr) (c:Nat) (w:World):Calls Tryz.prog 99 #[.agg (exV e (.slice a e.args.length c))] w fun e' w'=>e'=.returned (.bool (Pr.noExpr e))/\Mod [] w w':=by
 have hve:=fun W=>veq_run e.x W
 have hE:Pr.noExpr e=(decide (e.k=0) && (decide (e.v.size=0) && (decide (e.x=Va.zero) && (decide (e.op=0) && decide (e.args.length=0))))):=rfl
 have hem:=toList_isEmpty e.v
 have hl:((e.args.length:Int) == 0)=decide (e.args.length=0):=by rw [Bool.eq_iff_iff,beq_iff_eq,decide_eq_true_eq];omega
 rw [hE]
 clear hE
 generalize decide (e.x=Va.zero)=bx at *
 generalize decide (e.args.length=0)=bl at *
 unfold exV at *
 go_enter Tryz.func99,Tryz.ntmps99
 go_wp2_with fail
 all_goals go_ret
 all_goals exact ⟨ret_bool (by simp_all),(Mod.refl [] w).alloc _⟩
def signS:ByteArray:={ data:=#[43,45,42,47] }
set_option maxHeartbeats 1000000 in
theorem sign_anyP (op:Int) (w:World):Calls Tryz.prog 49 #[.int .i64 op] w fun e w'=>e=.returned (.string (Lx.ofS (Pr.sign op)))/\Mod [] w w':=by
 go_enter Tryz.func49,Tryz.ntmps49
 go_wp2_with fail
 go_loopw [] (fun w'=>∃ pos:Nat,pos<=4/\(∀ i:Nat,i<pos->op≠(i:Int)+1)/\w'=w.iter signS pos) (fun w'=>4 - w'.iterPos w.heap.size)
 case atStart=>exact ⟨0,Nat.zero_le _,fun i hi=>by omega,rfl⟩
 case round =>
  obtain ⟨pos,hr,hne,rfl⟩:=hrel
  have h5:pos=0\/pos=1\/pos=2\/pos=3\/pos=4:=by omega
  rcases h5 with rfl | rfl | rfl | rfl | rfl
  ·have hnx:∀ ty,(Instr.next (.pointer (some ⟨w.heap.size,0,none⟩)) true ty).run Tryz.prog (w.iter signS 0)=_:=fun ty=>run_next_any w signS 0 ty (by decide)
   have hdc:Utf8.decode signS 0=(43,1):=by kernel_rfl
   rw [hdc] at hnx
   by_cases ho:op=1
   ·subst ho
    clear hne
    go_wp2_with fail
    go_ret
    exact ⟨rfl,mod_iter _ _ _⟩
   ·have hoB:(1 == op)=false:=by rw [beq_eq_false_iff_ne];omega
    have HN:=Lib.hid hne
    have HO:=Lib.hid ho
    clear hne ho
    go_wp2_with fail
    go_roundw
    case rel=>exact ⟨1,by omega,fun i hi=>by
     by_cases e:i=0
     ·subst e;exact HO.out
     ·exact HN.out i (by omega),rfl⟩
    case measure=>simp [signS,ByteArray.size]
  ·have hnx:∀ ty,(Instr.next (.pointer (some ⟨w.heap.size,0,none⟩)) true ty).run Tryz.prog (w.iter signS 1)=_:=fun ty=>run_next_any w signS 1 ty (by decide)
   have hdc:Utf8.decode signS 1=(45,1):=by kernel_rfl
   rw [hdc] at hnx
   by_cases ho:op=2
   ·subst ho
    clear hne
    go_wp2_with fail
    go_ret
    exact ⟨rfl,mod_iter _ _ _⟩
   ·have hoB:(2 == op)=false:=by rw [beq_eq_false_iff_ne];omega
    have HN:=Lib.hid hne
    have HO:=Lib.hid ho
    clear hne ho
    go_wp2_with fail
    go_roundw
    case rel=>exact ⟨2,by omega,fun i hi=>by
     by_cases e:i=1
     ·subst e;exact HO.out
     ·exact HN.out i (by omega),rfl⟩
    case measure=>simp [signS,ByteArray.size]
  ·have hnx:∀ ty,(Instr.next (.pointer (some ⟨w.heap.size,0,none⟩)) true ty).run Tryz.prog (w.iter signS 2)=_:=fun ty=>run_next_any w signS 2 ty (by decide)
   have hdc:Utf8.decode signS 2=(42,1):=by kernel_rfl
   rw [hdc] at hnx
   by_cases ho:op=3
   ·subst ho
    clear hne
    go_wp2_with fail
    go_ret
    exact ⟨rfl,mod_iter _ _ _⟩
   ·have hoB:(3 == op)=false:=by rw [beq_eq_false_iff_ne];omega
    have HN:=Lib.hid hne
    have HO:=Lib.hid ho
    clear hne ho
    go_wp2_with fail
    go_roundw
    case rel=>exact ⟨3,by omega,fun i hi=>by
     by_cases e:i=2
     ·subst e;exact HO.out
     ·exact HN.out i (by omega),rfl⟩
    case measure=>simp [signS,ByteArray.size]
  ·have hnx:∀ ty,(Instr.next (.pointer (some ⟨w.heap.size,0,none⟩)) true ty).run Tryz.prog (w.iter signS 3)=_:=fun ty=>run_next_any w signS 3 ty (by decide)
   have hdc:Utf8.decode signS 3=(47,1):=by kernel_rfl
   rw [hdc] at hnx
   by_cases ho:op=4
   ·subst ho
    clear hne
    go_wp2_with fail
    go_ret
    exact ⟨rfl,mod_iter _ _ _⟩
   ·have hoB:(4 == op)=false:=by rw [beq_eq_false_iff_ne];omega
    have HN:=Lib.hid hne
    have HO:=Lib.hid ho
    clear hne ho
    go_wp2_with fail
    go_roundw
    case rel=>exact ⟨4,by omega,fun i hi=>by
     by_cases e:i=3
     ·subst e;exact HO.out
     ·exact HN.out i (by omega),rfl⟩
    case measure=>simp [signS,ByteArray.size]
  ·have hnx:∀ ty,(Instr.next (.pointer (some ⟨w.heap.size,0,none⟩)) true ty).run Tryz.prog (w.iter signS 4)=_:=fun ty=>run_next_end w signS 4 ty (by decide)
   have HE:Hid (Pr.sign op=[109,111,100]):=Hxq (by
    have h0:=hne 0 (by omega)
    have h1:=hne 1 (by omega)
    have h2:=hne 2 (by omega)
    have h3:=hne 3 (by omega)
    unfold Pr.sign
    rw [if_neg (by omega),if_neg (by omega),if_neg (by omega),if_neg (by omega)])
   clear hne
   go_wp2_with fail
   go_ret
   exact ⟨by rw [HE.out];rfl,mod_iter _ _ _⟩
theorem wvalue_any (p:Nat) (q v:Value) (l:List Nat) (bad:Bool) (br:Int) (x:Va.Val) (hx:x.Ok) (w:World) (h:WrIs w p q v l bad br) (hG:GlobV w) (hlen:l.length<=140737488354000) :
  Calls Tryz.prog 25 #[.pointer (some ⟨p,0,none⟩),.agg (valV x)] w (WLaid p v (l++(if Va.may x then Va.text x else [])) (bad || !Va.may x) br w):=by
 have HT:=Hxq (fun w hG=>Text_any x hx w hG)
 have htl:(if Va.may x then Va.text x else []).length<=258:=by
  by_cases hm:Va.may x=true
  ·rw [if_pos hm];exact (Va.rguess_text hx.byte hm).2.1
  ·rw [if_neg hm];simp
 have htb:∀ c∈(if Va.may x then Va.text x else []),c<256:=by
  by_cases hm:Va.may x=true
  ·rw [if_pos hm];exact text_lt hx.byte
  ·rw [if_neg hm];simp
 have hck:chk x=if Va.may x then 0 else 20:=rfl
 unfold txtV at HT
 rw [hck] at HT
 generalize (if Va.may x then Va.text x else [])=tx at *
 generalize Va.may x=b at *
 have hst:Cod.str (Lx.ofS tx)=tx:=Lx.str_ofS htb
 have hsz:(Lx.ofS tx).size=tx.length:=ofS_size tx
 have MA:=Hxq ((Mod.refl [] w).alloc (Obj.cells (valV x) 23))
 have H:=Lib.hid h
 unfold valV at *
 clear h hck htb
 have hG0:=Lib.hid hG
 clear hG
 cases b
 all_goals (
  go_enter Tryz.func25,Tryz.ntmps25
  go_wp2_with fail
  refine (HT.out _ (hG0.out.past MA.out (by simp))).mono ?_
  rintro e w1 ⟨rfl,m1⟩
  have M1:=Hxq (MA.out.trans m1 (by simp))
  have H1:=Hxq (H.out.past M1.out (by simp))
  clear m1
  go_wp2_with fail
  refine (must_anyP p q v l bad br _ _ H1.out).mono ?_
  rintro e w2 ⟨rfl,q2,v2,h2,m2⟩
  have H2:=Lib.hid h2
  have M2:=Hxq ((WMod.of M1.out).trans m2)
  clear h2 m2
  have hal:=(Mod.refl [] w2).alloc (Obj.cells #[.string (Lx.ofS tx)] 9)
  have hcell:=heap_alloc_new w2 (Obj.cells #[.string (Lx.ofS tx)] 9)
  have HP:=Hxq (put_any p q2 v2 l _ br w2.heap.size 1 [Lx.ofS tx] _ (H2.out.past hal (by simp)) (by simp) (by have:=H2.out.lt;omega) (fun hk=>by have:=fp_lt H2.out.row _ hk;omega) (fun i hi=>by
   obtain rfl:i=0:=by simpa using hi
   simp only [World.cell?,hcell];rfl) (by simp) (by simp [Cod.str_len];omega))
  have HA:=Lib.hid hal
  clear hal hcell
  go_wp2_with fail
  refine HP.out.mono ?_
  rintro e w3 ⟨rfl,q3,v3,h3,m3⟩
  have H3:=Lib.hid h3
  have M3:=Hxq ((M2.out.trans (WMod.of HA.out)).trans m3)
  clear h3 m3
  go_wp2_with fail
  go_end0
  refine ⟨rfl,q3,v3,?_,M3.out⟩
  have:=H3.out
  simp only [List.flatMap_cons,List.flatMap_nil,List.append_nil,hst] at this
  simpa using this)
/-- an expression's cells -/
structure ExAt (w:World) (b o:Nat) (e:Pr.Ex) (u:Value):Prop where
 c0:w.cell? ⟨b,o,none⟩=some (.int .i64 e.k)
 c1:w.cell? ⟨b,o+1,none⟩=some (.string e.v)
 c2:w.cell? ⟨b,o+2,none⟩=some (.int .i64 e.x.k)
 c3:w.cell? ⟨b,o+3,none⟩=some (.int .i64 e.x.n)
 c4:w.cell? ⟨b,o+4,none⟩=some (.string (Lx.ofS e.x.s))
 c5:w.cell? ⟨b,o+5,none⟩=some (.int .i64 e.op)
 c6:w.cell? ⟨b,o+6,none⟩=some u
theorem ExAt.keep {S:List Nat} {w w':World} {b o:Nat} {e:Pr.Ex} {u:Value} (h:ExAt w b o e u) (hm:Mod S w w') (hb:b∉S):ExAt w' b o e u :=
 ⟨hm.cell h.c0 hb,hm.cell h.c1 hb,hm.cell h.c2 hb,hm.cell h.c3 hb,hm.cell h.c4 hb,hm.cell h.c5 hb,hm.cell h.c6 hb⟩
theorem ExAt.of {w:World} {b:Nat} {e:Pr.Ex} {u:Value} {T:TypeId} (h:w.heap[b]?=some (.cells (exV e u) T (0,0))):ExAt w b 0 e u:=by
 unfold exV at h
 constructor <;> simp only [World.cell?,h] <;> rfl
/-- the slice u holds the arguments of e -/
inductive EOk (w:World):Pr.Ex->Value->Prop
 | nil {k:Int} {v:ByteArray} {x:Va.Val} {op:Int} {a:Option Addr} {c:Nat} (hx:x.Ok):EOk w (.mk k v x op []) (.slice a 0 c)
 | row {k:Int} {v:ByteArray} {x:Va.Val} {op:Int} {args:List Pr.Ex} {b off c:Nat} {us:Nat->Value} (hx:x.Ok)
   (h1:∀ i (h:i<args.length),ExAt w b (off+i * 7) args[i] (us i)) (h2:∀ i (h:i<args.length),EOk w args[i] (us i)) :
   EOk w (.mk k v x op args) (.slice (some ⟨b,off,none⟩) args.length c)
theorem EOk.past {w w':World} {e:Pr.Ex} {u:Value} (h:EOk w e u) (hm:Mod [] w w'):EOk w' e u:=by
 induction h with
 | nil hx=>exact .nil hx
 | row hx h1 h2 ih=>exact .row hx (fun i h=>(h1 i h).keep hm (by simp)) ih
theorem EOk.ok {w:World} {e:Pr.Ex} {u:Value} (h:EOk w e u):e.x.Ok:=by cases h <;> assumption
theorem EOk.lit {w:World} {e:Pr.Ex} {u:Value} (h:EOk w e u):∃ a c,u=.slice a e.args.length c:=by
 cases h with
 | nil hx=>exact ⟨_,_,rfl⟩
 | row hx h1 h2=>exact ⟨_,_,rfl⟩
theorem EOk.at {w:World} {e:Pr.Ex} {a:Option Addr} {c:Nat} (h:EOk w e (.slice a e.args.length c)) (i:Nat) (hi:i<e.args.length) :
  ∃ b off u,a=some ⟨b,off,none⟩/\ExAt w b (off+i * 7) e.args[i] u/\EOk w e.args[i] u:=by
 generalize hu:Value.slice a e.args.length c=u at h
 cases h with
 | nil hx=>simp [Pr.Ex.args] at hi
 | row hx h1 h2 =>
  simp only [Value.slice.injEq] at hu
  exact ⟨_,_,_,hu.1,h1 i hi,h2 i hi⟩
theorem exWt_eq (e:Pr.Ex):exWt e=e.v.size+300+exWts e.args:=by cases e;simp [exWt,Pr.Ex.v,Pr.Ex.args]
/-- what a call that writes o (or nothing) leaves -/
def Res (bad:Bool) (l:List Nat) (o:Option (List Nat)) (n:Nat) (l':List Nat) (bad':Bool):Prop :=
 l'.length<=l.length+n/\(bad=true->bad'=true)/\(bad=false->bad'=o.isNone/\∀ x,o=some x->l'=l++x)
def WRes (p:Nat) (v:Value) (l:List Nat) (bad:Bool) (br:Int) (o:Option (List Nat)) (n:Nat) (w:World) (e:Ending) (w':World):Prop :=
 e=.returned (.tuple #[])/\∃ q' v' l' bad',WrIs w' p q' v' l' bad' br/\WMod p v v' w w'/\Res bad l o n l' bad'
/-- where the walk stands: the writer, newer than w0 -/
structure WAt (w0 w:World) (p:Nat) (q v:Value) (l:List Nat) (bad:Bool) (br:Int):Prop where
 wr:WrIs w p q v l bad br
 base:Mod [] w0 w
 hp:w0.heap.size<=p
 hv:∀ k∈fp v,w0.heap.size<=k
theorem WAt.step {w0 w w':World} {p:Nat} {q v q' v':Value} {l l':List Nat} {bad bad':Bool} {br br':Int} (h:WAt w0 w p q v l bad br) (hw:WrIs w' p q' v' l' bad' br') (hm:WMod p v v' w w'):WAt w0 w' p q' v' l' bad' br' :=
 ⟨hw,h.base.trans hm.1 (fun t ht=>by
  rcases List.mem_cons.1 ht with rfl | ht
  ·exact .inr h.hp
  ·exact .inr (h.hv t ht)),h.hp,fun k hk=>by
  rcases hm.2 k hk with r | r
  ·exact h.hv k r
  ·have:=h.base.size;omega⟩
theorem WAt.new {w0 w w':World} {p:Nat} {q v:Value} {l:List Nat} {bad:Bool} {br:Int} (h:WAt w0 w p q v l bad br) (hm:Mod [] w w'):WAt w0 w' p q v l bad br :=
 ⟨h.wr.past hm (by simp),h.base.trans hm (by simp),h.hp,h.hv⟩
/-- one text put -/
theorem put1 {w0 w:World} {p:Nat} {q v:Value} {l:List Nat} {bad:Bool} {br:Int} (h:WAt w0 w p q v l bad br) {g:Nat} {s:ByteArray} (hg:w.heap.size=g) (hlen:l.length+s.size<=140737488355328) :
  Calls Tryz.prog 20 #[.pointer (some ⟨p,0,none⟩),.slice (some ⟨g,0,none⟩) 1 1] (w.alloc (Obj.cells #[.string s] 9)) (WLaid p v (l++Cod.str s) bad br w):=by
 subst hg
 have hal:=(Mod.refl [] w).alloc (Obj.cells #[.string s] 9)
 have hcell:=heap_alloc_new w (Obj.cells #[.string s] 9)
 have hP:=put_any p q v l bad br w.heap.size 1 [s] _ (h.wr.past hal (by simp)) (by simp) (by have:=h.wr.lt;omega) (fun hk=>by have:=fp_lt h.wr.row _ hk;omega) (fun i hi=>by
  obtain rfl:i=0:=by simpa using hi
  simp only [World.cell?,hcell];rfl) (by simp) (by simp [Cod.str_len];omega)
 refine hP.mono ?_
 rintro e w' ⟨rfl,q',v',h',m'⟩
 exact ⟨rfl,q',v',by simpa using h',(WMod.of hal).trans m'⟩
def ExprC (w0:World) (k:Nat):Prop:=∀ (e:Pr.Ex) (u:Value) (p:Nat) (q v:Value) (l:List Nat) (bad:Bool) (br:Int) (w:World),WAt w0 w p q v l bad br->EOk w0 e u->GlobV w0->l.length+exWt e<=140737488000000 ->
 Calls Tryz.prog 14 #[.pointer (some ⟨p,0,none⟩),.agg (exV e u),.int .i64 ((k:Int) - 1)] w (WRes p v l bad br (Pr.pE k e) (exWt e) w)
def ArgC (w0:World) (j:Nat):Prop:=∀ (e:Pr.Ex) (u:Value) (m:Bool) (p:Nat) (q v:Value) (l:List Nat) (bad:Bool) (br:Int) (w:World),WAt w0 w p q v l bad br->EOk w0 e u->GlobV w0->l.length+exWt e+10<=140737488000000 ->
 Calls Tryz.prog 47 #[.pointer (some ⟨p,0,none⟩),.agg (exV e u),.bool m,.int .i64 (j:Int)] w (WRes p v l bad br (if m then (Pr.pE j e).map (fun t=>40 :: (t++[41])) else Pr.pE (j+1) e) (exWt e+10) w)
theorem ExAt.wstep {w w':World} {p:Nat} {v v':Value} {b o:Nat} {e:Pr.Ex} {u:Value} (h:ExAt w b o e u) (hm:WMod p v v' w w') (h1:b≠p) (h2:b∉fp v):ExAt w' b o e u :=
 h.keep hm.1 (by simp;exact ⟨h1,h2⟩)
/-- a block beside the writer stays beside it -/
theorem WMod.beside {p:Nat} {v v':Value} {w w':World} (hm:WMod p v v' w w') {b:Nat} (hb:b<w.heap.size) (h2:b∉fp v):b∉fp v':=fun hk=>by
 rcases hm.2 b hk with r | r
 ·exact h2 r
 ·omega
set_option maxHeartbeats 2000000 in
theorem arg_of {w0:World} {j:Nat} (hj17:j<=1000) (h1:ExprC w0 j) (h2:ExprC w0 (j+1)):ArgC w0 j:=by
 intro e u m p q v l bad br w h hE hG hlen
 have hj:(((j+1:Nat):Int) - 1)=(j:Int):=by omega
 have H1:=Hxq (fun q v l bad br w h hl=>h1 e u p q v l bad br w h hE hG hl)
 have H2:=fun q v l bad br w h hl=>h2 e u p q v l bad br w h hE hG hl
 rw [hj] at H2
 have MA:=Hxq ((Mod.refl [] w).alloc (Obj.cells (exV e u) 26))
 have XA:=Hxq (ExAt.of (heap_alloc_new w (Obj.cells (exV e u) 26)))
 have HA:=Hxq (h.new MA.out)
 have hpw:p<w.heap.size:=h.wr.lt
 have hbp:w.heap.size≠p:=by omega
 have HBV:Hid (w.heap.size∉fp v):=Hxq (fun hk=>by have:=fp_lt h.wr.row _ hk;omega)
 have hsz:w.heap.size<(w.alloc (Obj.cells (exV e u) 26)).heap.size:=by simp
 have HH2:=Lib.hid H2
 clear h h1 h2 H2 hE hG hj
 cases m
 ·unfold exV at *
  go_enter Tryz.func47,Tryz.ntmps47
  go_wp2_with fail
  refine (HH2.out q v l bad br _ HA.out (by omega)).mono ?_
  rintro e1 w1 ⟨rfl,q1,v1,l1,bad1,h1,m1,r1⟩
  have R1:=Lib.hid r1;have W1:=Lib.hid h1;have M1:=Hxq ((WMod.of MA.out).trans m1)
  clear r1 h1 m1
  go_wp2_with fail
  go_end0
  exact ⟨rfl,q1,v1,l1,bad1,W1.out,M1.out,⟨by have:=R1.out.1;omega,R1.out.2.1,R1.out.2.2⟩⟩
 ·unfold exV at *
  go_enter Tryz.func47,Tryz.ntmps47
  go_wp2_with fail
  refine (put1 HA.out (s:={ data:=#[40] }) (by simp) (by simp [ByteArray.size];omega)).mono ?_
  rintro e1 w1 ⟨rfl,q1,v1,h1,m1⟩
  have W1:=Hxq (HA.out.step h1 m1);have M1:=Hxq ((WMod.of MA.out).trans m1)
  have hx1:=XA.out.wstep m1 hbp HBV.out
  have hsz1:=m1.size
  clear h1 m1
  obtain ⟨c0,c1,c2,c3,c4,c5,c6⟩:=hx1
  go_wp2_with fail
  refine (H1.out q1 v1 _ bad br _ W1.out (by rw [List.length_append,Cod.str_len];simp [ByteArray.size];omega)).mono ?_
  rintro e2 w2 ⟨rfl,q2,v2,l2,bad2,h2,m2,r2⟩
  have W2:=Hxq (W1.out.step h2 m2);have M2:=Hxq (M1.out.trans m2);have R2:=Lib.hid r2
  clear h2 m2 r2 c0 c1 c2 c3 c4 c5 c6
  have hl2:=R2.out.1
  rw [List.length_append,Cod.str_len] at hl2
  have hs40:({ data:=#[40] }:ByteArray).size=1:=rfl
  rw [hs40] at hl2
  go_wp2_with fail
  refine (put1 W2.out (s:={ data:=#[41] }) rfl (by simp [ByteArray.size];omega)).mono ?_
  rintro e3 w3 ⟨rfl,q3,v3,h3,m3⟩
  have M3:=Hxq (M2.out.trans m3);have W3:=Lib.hid h3
  clear h3 m3
  go_wp2_with fail
  go_end0
  refine ⟨rfl,q3,v3,_,bad2,W3.out,M3.out,?_,R2.out.2.1,fun hb=>?_⟩
  ·rw [List.length_append,Cod.str_len]
   have:({ data:=#[41] }:ByteArray).size=1:=rfl
   omega
  ·obtain ⟨r1,r2⟩:=R2.out.2.2 hb
   refine ⟨by rw [r1];cases Pr.pE j e <;> rfl,fun x hx=>?_⟩
   obtain ⟨t,ht,rfl⟩:=Option.map_eq_some_iff.1 hx
   rw [r2 t ht]
   have e40:Cod.str { data:=#[40] }=[40]:=rfl
   have e41:Cod.str { data:=#[41] }=[41]:=rfl
   rw [e40,e41]
   simp
end Go.Proofs.YtbfaclljbbfknaaGreatDoor
