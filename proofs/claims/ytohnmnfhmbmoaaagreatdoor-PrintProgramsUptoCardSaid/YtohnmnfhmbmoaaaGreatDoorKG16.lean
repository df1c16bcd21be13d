/- THE TEXTS MERGED: PrBuf PrTold PrFns. -/
import Derived.Test.YtohnmnfhmbmoaaaGreatDoorKG14
import Derived.Test.YtohnmnfhmbmoaaaGreatDoorKG15
import Derived.Lib.Builder
import Derived.Laws.Externs
import Derived.Lib.UnsafeStr
namespace Go.Proofs.YtohnmnfhmbmoaaaGreatDoor
open Go.RowKit
set_option linter.unusedVariables false
set_option linter.unusedSimpArgs false
set_option maxRecDepth 100000
/-- block p holds a writer: its bytes l (the slice v), whether there is none, how many braces are open -/
structure WrIs (w:World) (p:Nat) (q v:Value) (l:List Nat) (bad:Bool) (br:Int):Prop where
 at_:w.heap[p]?=some (.cells #[q,v,.bool bad,.int .i64 br] 80 (0,0))
 adr:q=.pointer none\/q=.pointer (some ⟨p,0,none⟩)
 row:w.ownsRow 0 5 1 v l.length (toCells l)
 out:p∉fp v
 byte:∀ c∈l,c<256
 nil_:l=[]->v=.slice none 0 0
theorem WrIs.lt {w:World} {p:Nat} {q v:Value} {l:List Nat} {bad:Bool} {br:Int} (h:WrIs w p q v l bad br):p<w.heap.size:=lt_of_block h.at_
theorem WrIs.cells {w:World} {p:Nat} {q v:Value} {l:List Nat} {bad:Bool} {br:Int} (h:WrIs w p q v l bad br) :
  w.cell? ⟨p,0,none⟩=some q/\w.cell? ⟨p,1,none⟩=some v/\w.cell? ⟨p,2,none⟩=some (.bool bad)/\w.cell? ⟨p,3,none⟩=some (.int .i64 br)/\∀ j,w.frozen? ⟨p,j,none⟩=false:=by
 have hh:=h.at_
 refine ⟨?_,?_,?_,?_,fun j=>?_⟩ <;> simp [World.cell?,World.frozen?,hh]
theorem WrIs.keep {S:List Nat} {w w':World} {p:Nat} {q v:Value} {l:List Nat} {bad:Bool} {br:Int} (h:WrIs w p q v l bad br) (hm:Mod S w w') (hp:p∉S) (hv:∀ k∈fp v,k∉S):WrIs w' p q v l bad br :=
 ⟨hm.at h.at_ hp,h.adr,hm.owns h.row hv,h.out,h.byte,h.nil_⟩
theorem WrIs.past {S:List Nat} {w w':World} {p:Nat} {q v:Value} {l:List Nat} {bad:Bool} {br:Int} (h:WrIs w p q v l bad br) (hm:Mod S w w') (hS:∀ t∈S,w.heap.size<=t):WrIs w' p q v l bad br :=
 h.keep hm (fun hb=>by have:=hS p hb;have:=h.lt;omega) (fun k hk hs=>by have:=hS k hs;have:=fp_lt h.row k hk;omega)
/-- what a call on a writer may turn: it, its bytes, what is new -/
def WMod (p:Nat) (v v':Value) (w w':World):Prop:=Mod (p :: fp v) w w'/\∀ k∈fp v',k∈fp v\/w.heap.size<=k
theorem WMod.refl (p:Nat) (v:Value) (w:World):WMod p v v w w:=⟨Mod.refl _ _,fun k hk=>.inl hk⟩
theorem WMod.trans {p:Nat} {v v' v'':Value} {a b c:World} (h:WMod p v v' a b) (k:WMod p v' v'' b c):WMod p v v'' a c :=
 ⟨h.1.trans k.1 (fun t ht=>by
  rcases List.mem_cons.1 ht with rfl | ht
  ·exact .inl List.mem_cons_self
  ·rcases h.2 t ht with q | q
   ·exact .inl (List.mem_cons_of_mem _ q)
   ·exact .inr q),fun t ht=>by
  rcases k.2 t ht with q | q
  ·exact h.2 t q
  ·have:=h.1.size
   exact .inr (by omega)⟩
theorem WMod.of {p:Nat} {v:Value} {a b:World} (h:Mod [] a b):WMod p v v a b:=⟨h.mono (by simp),fun k hk=>.inl hk⟩
theorem WMod.size {p:Nat} {v v':Value} {a b:World} (h:WMod p v v' a b):a.heap.size<=b.heap.size:=h.1.size
/-- a cell beside the writer stays -/
theorem WMod.cell {p:Nat} {v v':Value} {a b:World} (h:WMod p v v' a b) {x:Addr} {u:Value} (hc:a.cell? x=some u) (h1:x.block≠p) (h2:x.block∉fp v):b.cell? x=some u :=
 h.1.cell hc (by simp;exact ⟨h1,h2⟩)
theorem Tryz.noEsc : ∃ fn, Tryz.prog.funcs[115]? = some fn ∧ (fn.name == "runtime.NumGoroutine") = false ∧ fn.body.isNone = true ∧ Extern.findNext fn = none ∧ Extern.find fn = some Extern.AbiNoEscape.same :=
 ⟨_,rfl,by kernel_rfl,by kernel_rfl,by kernel_rfl,by kernel_rfl⟩
theorem Tryz.infoBuilder:(Tryz.prog.info? 78).map (·.size)=some 2:=by kernel_rfl
set_option maxHeartbeats 1000000 in
theorem copyCheck_any (p:Nat) (q v:Value) (l:List Nat) (bad:Bool) (br:Int) (w:World) (h:WrIs w p q v l bad br) :
  Calls Tryz.prog 86 #[.pointer (some ⟨p,0,none⟩)] w fun e w'=>e=.returned (.tuple #[])/\WrIs w' p (.pointer (some ⟨p,0,none⟩)) v l bad br/\Mod [p] w w':=by
 obtain ⟨j,hj,hjs⟩:=Option.map_eq_some_iff.1 Tryz.infoBuilder
 have hh:=h.at_
 have hsh:w.shape? p=some (80,4):=by simp [World.shape?,hh]
 obtain ⟨c0,c1,c2,c3,fz⟩:=h.cells
 have H:=Lib.hid h
 rcases h.adr with rfl | rfl
 ·obtain ⟨fn,hf,hn1,hn2,hn3,hn4⟩:=Tryz.noEsc
  have hlies:liesAt Tryz.prog Tryz.prog.depth 80 (4 / Tryz.prog.cellsOf 80) 0 78 1=true:=by kernel_rfl
  go_enter Tryz.func86,Tryz.ntmps86
  go_wp2_with fail
  rw [Lib.run_to_unsafe w ⟨p,0,none⟩ Tryz.underlying75 Tryz.underlying179 hj (by rw [hjs];decide) hsh (show 0<4 by decide)]
  simp only [Result.andThen]
  rw [Oper.upon_value]
  go_wp2_with fail
  rw [run_callFunc_extern hf hn1 hn2 hn3 hn4]
  rw [Lib.run_noEscape]
  simp only [Result.andThen]
  rw [Oper.upon_value]
  go_wp2_with fail
  rw [Lib.run_from_unsafe w ⟨p,0,none⟩ Tryz.underlying179 Tryz.underlying75 hj hsh hlies]
  simp only [Result.andThen]
  rw [Oper.upon_value]
  go_wp2_with fail
  go_end0
  refine ⟨rfl,⟨?_,.inr rfl,ownsRow_setCell_other H.out.row (fun e=>H.out.out (ownBlock_fp _ _ e)) _,H.out.out,H.out.byte,H.out.nil_⟩,Mod.setCell (p:=⟨p,0,none⟩) (Mod.refl _ _) (.inl List.mem_cons_self) _⟩
  have:=setCell_at H.out.at_ 0 (.pointer (some ⟨p,0,none⟩))
  simpa using this
 ·go_enter Tryz.func86,Tryz.ntmps86
  go_wp2_with fail
  rw [Lib.run_neq_ptr_same w _ Tryz.underlying75 hj]
  go_wp2_with fail
  go_end0
  exact ⟨rfl,H.out,Mod.refl _ _⟩
/-- what a call that writes leaves -/
def WLaid (p:Nat) (v:Value) (l:List Nat) (bad:Bool) (br:Int) (w:World) (e:Ending) (w':World):Prop :=
 e=.returned (.tuple #[])/\∃ q' v',WrIs w' p q' v' l bad br/\WMod p v v' w w'
set_option maxHeartbeats 1000000 in
theorem WriteString_any (p:Nat) (q v:Value) (l:List Nat) (bad:Bool) (br:Int) (s:ByteArray) (w:World) (h:WrIs w p q v l bad br) (hlen:l.length+s.size<=140737488355328) :
  Calls Tryz.prog 54 #[.pointer (some ⟨p,0,none⟩),.string s] w fun e w'=>e=.returned (.tuple #[.int .i64 s.size,.nilIface])/\∃ q' v',WrIs w' p q' v' (l++Cod.str s) bad br/\WMod p v v' w w':=by
 obtain ⟨i0,hi,hz0,hz1,hz2⟩:=info_parts Tryz.infoU8
 go_enter Tryz.func54,Tryz.ntmps54
 go_wp2_with fail
 refine (copyCheck_any p q v l bad br w h).mono ?_
 rintro e w1 ⟨rfl,h1,m1⟩
 obtain ⟨c0,c1,c2,c3,fz⟩:=h1.cells
 have hsrc:=Src.ofString (P:=Tryz.prog) w1 Tryz.underlying9 s
 have H1:=Lib.hid h1;have M1:=Lib.hid m1
 clear h1 m1 h
 go_wp2_with (at_builtin;refine wpList_append_src _ rfl _ _ 76 9 rfl 5 i0 (.int .u8 0) 1 1 Tryz.underlying76 hi hz0 hz1 hz2 rfl v _ _ rfl H1.out.row _ _ _ rfl hsrc (by unfold maxLen;omega) (by omega) ?_)
 intro v' w2 hown hmod hfresh hnil
 have hat:=hmod.at H1.out.at_ H1.out.out
 have d1:w2.cell? ⟨p,1,none⟩=some v:=by simp [World.cell?,hat]
 have fz2:∀ j,w2.frozen? ⟨p,j,none⟩=false:=fun j=>by simp [World.frozen?,hat]
 have hpo:p∉fp v':=fun hb=>by
  rcases hfresh p hb with r | r
  ·exact H1.out.out r
  ·have:=H1.out.lt;omega
 have HH:WrIs (w2.setCell ⟨p,1,none⟩ v') p (.pointer (some ⟨p,0,none⟩)) v' (l++Cod.str s) bad br/\WMod p v v' w (w2.setCell ⟨p,1,none⟩ v'):=by
  refine ⟨⟨?_,.inr rfl,?_,hpo,fun c hc=>(List.mem_append.1 hc).elim (H1.out.byte c) (Cod.str_lt s c),fun e=>?_⟩,?_,fun k hk=>?_⟩
  ·have:=setCell_at hat 1 v'
   have hq:w1.heap[p]?=_:=H1.out.at_
   rcases H1.out.adr with e | e
   ·cases e
   ·simpa using this
  ·rw [List.length_append,Cod.str_len,toCells_append,<-byteCells_str]
   exact ownsRow_setCell_other hown (fun e=>hpo (ownBlock_fp _ _ e)) _
  ·obtain ⟨e1,e2⟩:=List.append_eq_nil_iff.1 e
   refine hnil.2 ⟨H1.out.nil_ e1,?_⟩
   first
    | (rw [<-Lx.ofS_str s,e2];rfl)
    | (rw [<-Cod.str_len,e2];rfl)
  ·exact Mod.setCell (p:=⟨p,1,none⟩) ((M1.out.mono (by simp)).trans hmod (fun t ht=>.inl (List.mem_cons_of_mem _ ht))) (.inl List.mem_cons_self) _
  ·rcases hfresh k hk with r | r
   ·exact .inl r
   ·have:=M1.out.size;exact .inr (by omega)
 obtain ⟨a',c',rfl⟩:=owns_slice hown
 have HHH:=Lib.hid HH
 clear hnil hfresh hown hmod HH hpo hat
 go_wp2_with fail
 go_ret2
 exact ⟨rfl,_,_,HHH.out.1,HHH.out.2⟩
theorem must_anyP (p:Nat) (q v:Value) (l:List Nat) (bad:Bool) (br:Int) (b:Bool) (w:World) (h:WrIs w p q v l bad br) :
  Calls Tryz.prog 52 #[.pointer (some ⟨p,0,none⟩),.bool b] w (WLaid p v l (bad || !b) br w):=by
 obtain ⟨c0,c1,c2,c3,fz⟩:=h.cells
 have H:=Lib.hid h
 cases b
 ·go_enter Tryz.func52,Tryz.ntmps52
  go_wp2_with fail
  go_end0
  refine ⟨rfl,q,v,⟨?_,H.out.adr,ownsRow_setCell_other H.out.row (fun e=>H.out.out (ownBlock_fp _ _ e)) _,H.out.out,H.out.byte,H.out.nil_⟩,Mod.setCell (p:=⟨p,2,none⟩) (Mod.refl _ _) (.inl List.mem_cons_self) _,fun k hk=>.inl hk⟩
  have:=setCell_at H.out.at_ 2 (.bool true)
  simpa using this
 ·go_enter Tryz.func52,Tryz.ntmps52
  go_wp2_with fail
  go_end0
  refine ⟨rfl,q,v,?_,WMod.refl _ _ _⟩
  simpa using H.out
set_option maxHeartbeats 2000000 in
theorem put_any (p:Nat) (q v:Value) (l:List Nat) (bad:Bool) (br:Int) (g c:Nat) (ss:List ByteArray) (w:World) (h:WrIs w p q v l bad br)
  (hg:g<w.heap.size) (hgp:g≠p) (hgv:g∉fp v) (hc:∀ i (hi:i<ss.length),w.cell? ⟨g,i,none⟩=some (.string ss[i])) (hn:ss.length<=1000) (hlen:l.length+(ss.flatMap Cod.str).length<=140737488355328) :
  Calls Tryz.prog 29 #[.pointer (some ⟨p,0,none⟩),.slice (some ⟨g,0,none⟩) ss.length c] w (WLaid p v (l++ss.flatMap Cod.str) bad br w):=by
 have H:=Lib.hid h;have HC:=Lib.hid hc
 clear h hc
 go_enter Tryz.func29,Tryz.ntmps29
 go_wp2_with fail
 go_loopw [8] (fun iv wr=>∃ (k:Nat) (q' v':Value),k<=ss.length/\iv=.int .i64 (k:Nat)/\WrIs wr p q' v' (l++(ss.take k).flatMap Cod.str) bad br/\WMod p v v' w wr) (fun iv _=>ss.length - (intOf iv).toNat)
 case atStart=>exact ⟨0,q,v,Nat.zero_le _,rfl,by simpa using H.out,WMod.refl _ _ _⟩
 case round =>
  obtain ⟨k,q',v',hk,rfl,hw,hm⟩:=hrel
  by_cases hlt:k<ss.length
  ·have hkI:(k:Int)<(ss.length:Int):=by omega
   have hk0:(0:Int)<=(k:Int):=by omega
   have hcell:=hm.cell (HC.out k hlt) hgp hgv
   have hsn:(ss.take (k+1)).flatMap Cod.str=(ss.take k).flatMap Cod.str++Cod.str ss[k]:=by
    rw [List.take_succ_eq_append_getElem hlt,List.flatMap_append];simp
   have hle:(l++(ss.take k).flatMap Cod.str).length+ss[k].size<=140737488355328:=by
    have h1:ss.flatMap Cod.str=(ss.take (k+1)).flatMap Cod.str++(ss.drop (k+1)).flatMap Cod.str:=by
     rw [<-List.flatMap_append,List.take_append_drop]
    have h2:=congrArg List.length h1
    rw [hsn,List.length_append,List.length_append,Cod.str_len] at h2
    rw [List.length_append]
    omega
   have HSN:=Lib.hid hsn
   generalize ss[k]=s at *
   have HW:=Hxq (WriteString_any p q' v' _ bad br s wr hw hle)
   have HM:=Lib.hid hm
   clear hw hm hsn hle
   go_wp2_with fail
   refine HW.out.mono ?_
   rintro e w1 ⟨rfl,q2,v2,h2,m2⟩
   have R1:Hid (WrIs w1 p q2 v2 (l++(ss.take (k+1)).flatMap Cod.str) bad br):=Hxq (by rw [HSN.out,<-List.append_assoc];exact h2)
   have R2:=Hxq (HM.out.trans m2)
   clear h2 m2
   go_wp2_with fail
   go_roundw
   case rel=>exact ⟨k+1,q2,v2,by omega,by go_num,R1.out,R2.out⟩
   case measure=>simp [intOf];omega
  ·obtain rfl:k=ss.length:=by omega
   have hkI:¬ (ss.length:Int)<(ss.length:Int):=by omega
   rw [List.take_length] at hw
   have HW:=Lib.hid hw;have HM:=Lib.hid hm
   clear hw hm
   go_wp2_with fail
   go_end0
   exact ⟨rfl,q',v',HW.out,HM.out⟩
theorem mod_freeze {S:List Nat} {w w':World} (h:Mod S w w') {g:Nat} (hg:g∈S) (n:Nat):Mod S w (w'.freeze ⟨g,0,none⟩ n):=by
 unfold World.freeze
 split
 ·exact h
 ·refine h.trans (T:=[g]) ⟨rfl,rfl,rfl,by simp,fun k hk hn=>?_⟩ (by simp;exact .inl hg)
  simp only [Array.getElem?_modify]
  rw [if_neg (by simp at hn;exact fun e=>hn e.symm)]
set_option maxHeartbeats 2000000 in
theorem String_any (p:Nat) (q v:Value) (l:List Nat) (bad:Bool) (br:Int) (w:World) (h:WrIs w p q v l bad br) (hlen:l.length<=140737488355328) :
  Calls Tryz.prog 56 #[.pointer (some ⟨p,0,none⟩)] w fun e w'=>e=.returned (.string (Lx.ofS l))/\Mod (fp v) w w':=by
 by_cases h0:l=[]
 ·have hv:=h.nil_ h0
  subst hv
  obtain ⟨c0,c1,c2,c3,fz⟩:=h.cells
  have D1:Hid (w.drew.cell? ⟨p,1,none⟩=some (.slice none 0 0)):=Lib.hid c1
  have hSD:∀ W:World,(Builtin.unsafeSliceData_ #[76] 153 #[.slice none 0 0]).run Tryz.prog W=.ok (.pointer none) W:=fun W=>rfl
  have hUS:=fun W=>Lib.run_unsafeString_none (P:=Tryz.prog) W 153 3 9 none
  subst h0
  clear h
  go_enter Tryz.func56,Tryz.ntmps56
  go_wp2_with fail
  refine wp_region_held_drew (S:=(fun w':World=>w'.cell? ⟨p,1,none⟩=some (.slice none 0 0))) (by kernel_rfl) (by (try dsimp only);exact D1.out) (fun hHeld=>?_)
  refine Tkq 0 (v:=?_) (by assumption) ?_ ?_ ?_
  rotate_left 1
  ·refine .inl ⟨by rfl,?_⟩;intro w hSw;(try dsimp only at hSw);go_simp
   all_goals with_reducible rfl
  ·exact fun _ _ _ h=>h
  try simp only [Act.put,Lq1,Lq2,Lq3]
  refine Tkq 1 (v:=?_) (by assumption) ?_ ?_ ?_
  rotate_left 1
  ·refine .inl ⟨by rfl,?_⟩;intro w hSw;(try dsimp only at hSw);go_simp
   all_goals with_reducible rfl
  ·exact fun _ _ _ h=>h
  try simp only [Act.put,Lq1,Lq2,Lq3]
  refine Tkq 2 (v:=?_) (by assumption) ?_ ?_ ?_
  rotate_left 1
  ·refine .inl ⟨by rfl,?_⟩;intro w hSw;(try dsimp only at hSw);go_simp
   all_goals with_reducible rfl
  ·exact fun _ _ _ h=>h
  try simp only [Act.put,Lq1,Lq2,Lq3]
  refine Tkq 3 (v:=?_) (by assumption) ?_ ?_ ?_
  rotate_left 1
  ·refine .inl ⟨by rfl,?_⟩;intro w hSw;(try dsimp only at hSw);go_simp
   all_goals with_reducible rfl
  ·exact fun _ _ _ h=>h
  try simp only [Act.put,Lq1,Lq2,Lq3]
  refine Tkq 4 (v:=?_) (by assumption) ?_ ?_ ?_
  rotate_left 1
  ·refine .inl ⟨by rfl,?_⟩;intro w hSw;(try dsimp only at hSw);go_simp
   all_goals with_reducible rfl
  ·exact fun _ _ _ h=>h
  try simp only [Act.put,Lq1,Lq2,Lq3]
  refine Tkq 5 (v:=?_) (by assumption) ?_ ?_ ?_
  rotate_left 1
  ·refine .inl ⟨by rfl,?_⟩;intro w hSw;(try dsimp only at hSw);go_simp
   all_goals with_reducible rfl
  ·exact fun _ _ _ h=>h
  try simp only [Act.put,Lq1,Lq2,Lq3]
  refine Tkq 6 (v:=?_) (by assumption) ?_ ?_ ?_
  rotate_left 1
  ·refine .inl ⟨by rfl,?_⟩;intro w hSw;(try dsimp only at hSw);go_simp
   all_goals with_reducible rfl
  ·exact fun _ _ _ h=>h
  try simp only [Act.put,Lq1,Lq2,Lq3]
  refine Tkq 7 (v:=?_) (by assumption) ?_ ?_ ?_
  rotate_left 1
  ·refine .inl ⟨by rfl,?_⟩;intro w hSw;(try dsimp only at hSw);go_simp
   all_goals with_reducible rfl
  ·exact fun _ _ _ h=>h
  try simp only [Act.put,Lq1,Lq2,Lq3]
  refine Tkq 8 (v:=?_) (by assumption) ?_ ?_ ?_
  rotate_left 1
  ·refine .inl ⟨by rfl,?_⟩;intro w hSw;(try dsimp only at hSw);go_simp
   all_goals with_reducible rfl
  ·exact fun _ _ _ h=>h
  try simp only [Act.put,Lq1,Lq2,Lq3]
  refine Tkq 9 (v:=?_) (by assumption) ?_ ?_ ?_
  rotate_left 1
  ·refine .inl ⟨by rfl,?_⟩;intro w hSw;(try dsimp only at hSw);go_simp
   all_goals with_reducible rfl
  ·exact fun _ _ _ h=>h
  try simp only [Act.put,Lq1,Lq2,Lq3]
  refine Tkq 10 (v:=?_) (by assumption) ?_ ?_ ?_
  rotate_left 1
  ·refine .inl ⟨by rfl,?_⟩;intro w hSw;(try dsimp only at hSw);go_simp
   all_goals with_reducible rfl
  ·exact fun _ _ _ h=>h
  try simp only [Act.put,Lq1,Lq2,Lq3]
  refine Tkq 11 (v:=?_) (by assumption) ?_ ?_ ?_
  rotate_left 1
  ·refine .inl ⟨by rfl,?_⟩;intro w hSw;(try dsimp only at hSw);go_simp
   all_goals with_reducible rfl
  ·exact fun _ _ _ h=>h
  try simp only [Act.put,Lq1,Lq2,Lq3]
  refine wpAnyH_done (by kernel_rfl) ?_ _
  go_wp2_with fail
  go_ret
  exact ⟨rfl,(Mod.refl _ _).drew⟩
 ·obtain ⟨c0,c1,c2,c3,fz⟩:=h.cells
  have hl0:l.length≠0:=fun e=>h0 (List.eq_nil_of_length_eq_zero e)
  have hown:=h.row
  obtain ⟨g,cap,cur,rfl,hbg,hg,hnc,hcm,hcs,htake⟩:∃ g cap cur,v=.slice (some ⟨g,0,none⟩) l.length cap/\0<=g/\w.heap[g]?=some (.cells cur 5 (0,0))/\l.length<=cap/\cap<=maxLen/\cur.size=cap * 1/\_:=by
   rcases hown.2 with ⟨_,hz⟩ | ⟨g,cap,cur,hv,r⟩
   ·exact absurd hz hl0
   ·exact ⟨g,cap,cur,hv,r⟩
  have hc0:cap≠0:=by omega
  have D1:Hid (w.drew.cell? ⟨p,1,none⟩=some (.slice (some ⟨g,0,none⟩) l.length cap)):=Lib.hid c1
  have hSD:∀ W:World,(Builtin.unsafeSliceData_ #[76] 153 #[.slice (some ⟨g,0,none⟩) l.length cap]).run Tryz.prog W=.ok (.pointer (some ⟨g,0,none⟩)) W:=fun W=>Lib.run_unsafeSliceData_row _ _ _ _ _ _ hc0
  have hbl:(l.map UInt8.ofNat).length=l.length:=by simp
  have hUS:=Lib.run_unsafeString_row w.drew 153 3 9 5 Tryz.underlying153 (by kernel_rfl) g cur.size (by have hg':w.drew.heap[g]?=some (.cells cur 5 (0,0)):=hg;simp [World.shape?,hg']) (l.map UInt8.ofNat) (by simpa using h0) (by rw [hbl];omega) (by rw [hbl];omega) (fun j x hx=>by
   have hj:j<l.length:=by
    obtain ⟨hh,-⟩:=List.getElem?_eq_some_iff.1 hx
    simpa using hh
   have hcell:=hown.cells (g:=g) rfl j _ (toCells_get l j hj)
   rw [List.getElem?_map,List.getElem?_eq_getElem hj] at hx
   simp only [Option.map_some,Option.some.injEq] at hx
   subst hx
   have hb:=h.byte _ (List.getElem_mem hj)
   have e:(UInt8.ofNat l[j]).toNat=l.getD j 0:=by
    rw [List.getD_eq_getElem?_getD,List.getElem?_eq_getElem hj]
    simp;omega
   rw [e]
   exact hcell)
  rw [hbl] at hUS
  have HUS:=Lib.hid hUS
  have MF:Hid (Mod [g] w (w.drew.freeze ⟨g,0,none⟩ l.length)):=Hxq (mod_freeze (Mod.refl [g] w).drew (by simp) _)
  have hpg:p≠g:=fun e=>h.out (by simp [fp,e])
  have DF:Hid ((w.drew.freeze ⟨g,0,none⟩ l.length).cell? ⟨p,1,none⟩=some (.slice (some ⟨g,0,none⟩) l.length cap)):=Hxq (MF.out.cell c1 (by simpa using hpg))
  clear hUS hbl hown h0 htake h hnc hcs hcm hg
  go_enter Tryz.func56,Tryz.ntmps56
  go_wp2_with fail
  refine wp_region_held_drew (S:=(fun w':World=>w'.cell? ⟨p,1,none⟩=some (.slice (some ⟨g,0,none⟩) l.length cap))) (by kernel_rfl) (by (try dsimp only);exact D1.out) (fun hHeld=>?_)
  refine Tkq 0 (v:=?_) (by assumption) ?_ ?_ ?_
  rotate_left 1
  ·refine .inl ⟨by rfl,?_⟩;intro w hSw;(try dsimp only at hSw);go_simp
   all_goals with_reducible rfl
  ·exact fun _ _ _ h=>h
  try simp only [Act.put,Lq1,Lq2,Lq3]
  refine Tkq 1 (v:=?_) (by assumption) ?_ ?_ ?_
  rotate_left 1
  ·refine .inl ⟨by rfl,?_⟩;intro w hSw;(try dsimp only at hSw);go_simp
   all_goals with_reducible rfl
  ·exact fun _ _ _ h=>h
  try simp only [Act.put,Lq1,Lq2,Lq3]
  refine Tkq 2 (v:=?_) (by assumption) ?_ ?_ ?_
  rotate_left 1
  ·refine .inl ⟨by rfl,?_⟩;intro w hSw;(try dsimp only at hSw);go_simp
   all_goals with_reducible rfl
  ·exact fun _ _ _ h=>h
  try simp only [Act.put,Lq1,Lq2,Lq3]
  refine Tkq 3 (v:=?_) (by assumption) ?_ ?_ ?_
  rotate_left 1
  ·refine .inl ⟨by rfl,?_⟩;intro w hSw;(try dsimp only at hSw);go_simp
   all_goals with_reducible rfl
  ·exact fun _ _ _ h=>h
  try simp only [Act.put,Lq1,Lq2,Lq3]
  refine Tkq 4 (v:=?_) (by assumption) ?_ ?_ ?_
  rotate_left 1
  ·refine .inl ⟨by rfl,?_⟩;intro w hSw;(try dsimp only at hSw);go_simp
   all_goals with_reducible rfl
  ·exact fun _ _ _ h=>h
  try simp only [Act.put,Lq1,Lq2,Lq3]
  refine Tkq 5 (v:=?_) (by assumption) ?_ ?_ ?_
  rotate_left 1
  ·refine .inl ⟨by rfl,?_⟩;intro w hSw;(try dsimp only at hSw);go_simp
   all_goals with_reducible rfl
  ·exact fun _ _ _ h=>h
  try simp only [Act.put,Lq1,Lq2,Lq3]
  refine Tkq 6 (v:=?_) (by assumption) ?_ ?_ ?_
  rotate_left 1
  ·refine .inl ⟨by rfl,?_⟩;intro w hSw;(try dsimp only at hSw);go_simp
   all_goals with_reducible rfl
  ·exact fun _ _ _ h=>h
  try simp only [Act.put,Lq1,Lq2,Lq3]
  refine Tkq 7 (v:=?_) (by assumption) ?_ ?_ ?_
  rotate_left 1
  ·refine .inl ⟨by rfl,?_⟩;intro w hSw;(try dsimp only at hSw);go_simp
   all_goals with_reducible rfl
  ·exact fun _ _ _ h=>h
  try simp only [Act.put,Lq1,Lq2,Lq3]
  refine Tkq 8 (v:=?_) (by assumption) ?_ ?_ ?_
  rotate_left 1
  ·refine .inl ⟨by rfl,?_⟩;intro w hSw;(try dsimp only at hSw);go_simp
   all_goals with_reducible rfl
  ·exact fun _ _ _ h=>h
  try simp only [Act.put,Lq1,Lq2,Lq3]
  refine Tkq 9 (v:=?_) (by assumption) ?_ ?_ ?_
  rotate_left 1
  ·refine .inl ⟨by rfl,?_⟩;intro w hSw;(try dsimp only at hSw);go_simp
   all_goals with_reducible rfl
  ·exact fun _ _ _ h=>h
  try simp only [Act.put,Lq1,Lq2,Lq3]
  refine wpAnyH_ready (rs:=[10]) (by kernel_rfl) (by simp) ?_
  refine AllReadyH.cons (o:=?_) ?_ ?_ AllReadyH.nil
  rotate_left 1
  ·(simp only [Gq1,Gq2,Gq3])<;>rfl
  intro K hK
  have hUS:=HUS.out
  go_simp
  clear hUS
  refine hK.out _ _ (by (try dsimp only);exact DF.out) (fun hHeld=>?_)
  clear hK K
  try simp only [Act.put,Lq1,Lq2,Lq3]
  refine Tkq 11 (v:=?_) (by assumption) ?_ ?_ ?_
  rotate_left 1
  ·refine .inl ⟨by rfl,?_⟩;intro w hSw;(try dsimp only at hSw);go_simp
   all_goals with_reducible rfl
  ·exact fun _ _ _ h=>h
  try simp only [Act.put,Lq1,Lq2,Lq3]
  refine wpAnyH_done (by kernel_rfl) ?_ _
  go_wp2_with fail
  go_ret
  exact ⟨rfl,MF.out⟩
theorem text_lt {v:Va.Val} (hb:∀ c∈v.s,c<256):∀ c∈Va.text v,c<256:=by
 unfold Va.text
 split
 ·exact Va.itoa_lt _
 ·split
  ·exact hb
  ·intro c hc
   unfold Va.quoted at hc
   simp only [List.mem_append,List.mem_cons,List.mem_flatMap,List.not_mem_nil,or_false] at hc
   rcases hc with rfl | ⟨y,hy,hx⟩ | rfl
   ·decide
   ·exact qb_lt (hb y hy) c hx
   ·decide
theorem told_any (p:Nat) (q v:Value) (l:List Nat) (bad:Bool) (br:Int) (w:World) (h:WrIs w p q v l bad br) (hlen:l.length<=140737488355328) :
  Calls Tryz.prog 31 #[.pointer (some ⟨p,0,none⟩)] w fun e w'=>e=.returned (if bad then .tuple #[.string ⟨#[]⟩,.int .i64 50] else .tuple #[.string (Lx.ofS l),.int .i64 0])/\Mod (fp v) w w':=by
 obtain ⟨c0,c1,c2,c3,fz⟩:=h.cells
 have HS:=Hxq (String_any p q v l bad br w h hlen)
 clear h
 cases bad
 ·go_enter Tryz.func31,Tryz.ntmps31
  go_wp2_with fail
  refine HS.out.mono ?_
  rintro e w1 ⟨rfl,m1⟩
  go_wp2_with fail
  go_ret2
  exact ⟨rfl,m1⟩
 ·go_enter Tryz.func31,Tryz.ntmps31
  go_wp2_with fail
  go_ret2
  exact ⟨rfl,Mod.refl _ _⟩
theorem strength_any (op:Int) (w:World):Calls Tryz.prog 65 #[.int .i64 op] w fun e w'=>e=.returned (.int .i64 (Pr.strength op:Nat))/\w'=w:=by
 by_cases h:op=1\/op=2\/op=3\/op=4\/op=5\/op=6
 ·rcases h with rfl | rfl | rfl | rfl | rfl | rfl
  all_goals (
   go_enter Tryz.func65,Tryz.ntmps65
   go_wp2_with fail
   go_ret
   exact ⟨rfl,rfl⟩)
 ·have n1:(op == 1)=false:=by rw [beq_eq_false_iff_ne];omega
  have n2:(op == 2)=false:=by rw [beq_eq_false_iff_ne];omega
  have n3:(op == 3)=false:=by rw [beq_eq_false_iff_ne];omega
  have n4:(op == 4)=false:=by rw [beq_eq_false_iff_ne];omega
  have n5:(op == 5)=false:=by rw [beq_eq_false_iff_ne];omega
  have n6:(op == 6)=false:=by rw [beq_eq_false_iff_ne];omega
  have HE:Hid (Pr.strength op=0):=Hxq (by unfold Pr.strength;rw [if_neg (by omega),if_neg (by omega),if_neg (by omega)])
  clear h
  go_enter Tryz.func65,Tryz.ntmps65
  go_wp2_with fail
  go_ret
  exact ⟨by rw [HE.out];rfl,rfl⟩
theorem binds_any (e:Pr.Ex) (u:Value) (w:World):Calls Tryz.prog 96 #[.agg (exV e u)] w fun e' w'=>e'=.returned (.int .i64 (Pr.binds e:Nat))/\Mod [] w w':=by
 have HS:=Hxq (fun w=>strength_any e.op w)
 have HM:=Hxq ((Mod.refl [] w).alloc (Obj.cells (exV e u) 38))
 unfold exV at *
 by_cases h:e.k=4
 ·have hB:(e.k != 4)=false:=by rw [h];rfl
  have HE:Hid (Pr.binds e=Pr.strength e.op):=Hxq (if_pos h)
  clear h
  go_enter Tryz.func96,Tryz.ntmps96
  go_wp2_with fail
  refine (HS.out _).mono ?_
  rintro e' w1 ⟨rfl,rfl⟩
  go_wp2_with fail
  go_ret
  exact ⟨by rw [HE.out];rfl,HM.out⟩
 ·have hB:(e.k != 4)=true:=by rw [bne_iff_ne];exact h
  have HE:Hid (Pr.binds e=4):=Hxq (if_neg h)
  clear h
  go_enter Tryz.func96,Tryz.ntmps96
  go_wp2_with fail
  go_ret
  exact ⟨by rw [HE.out];rfl,HM.out⟩
theorem ofS_nil (s:List Nat):(Lx.ofS s).toList.isEmpty=decide (s=[]):=by
 rw [toList_isEmpty,ofS_size]
 cases s <;> simp
/-- is a value zero? -/
theorem veq_run (x:Va.Val) (W:World):(binOp .eql 35 (.agg #[.int .i64 x.k,.int .i64 x.n,.string (Lx.ofS x.s)]) (.agg #[.int .i64 0,.int .i64 0,.string ⟨#[]⟩])).run Tryz.prog W=.ok (.bool (decide (x=Va.zero))) W:=by
 obtain ⟨k,n,s⟩:=x
 have hs:=ofS_nil s
 by_cases h1:k=0
 ·subst h1
  by_cases h2:n=0
  ·subst h2
   by_cases h3:s=[]
   ·subst h3
    rw [show decide ((⟨0,0,[]⟩:Va.Val)=Va.zero)=true from by decide]
    go_simp
   ·rw [decide_eq_false h3] at hs
    rw [decide_eq_false (fun e=>h3 (by injection e))]
    go_simp
  ·rw [decide_eq_false (fun e=>h2 (by injection e))]
   have h2B:(n == 0)=false:=by rw [beq_eq_false_iff_ne];exact h2
   go_simp
 ·rw [decide_eq_false (fun e=>h1 (by injection e))]
  have h1B:(k == 0)=false:=by rw [beq_eq_false_iff_ne];exact h1
  go_simp
theorem noExpr_any (e:Pr.Ex) (a:Option Addr) (c:Nat) (w:World):Calls Tryz.prog 141 #[.agg (exV e (.slice a e.args.length c))] w fun e' w'=>e'=.returned (.bool (Pr.noExpr e))/\Mod [] w w':=by
 have hve:=fun W=>veq_run e.x W
 have hE:Pr.noExpr e=(decide (e.k=0) && (decide (e.v.size=0) && (decide (e.x=Va.zero) && (decide (e.op=0) && decide (e.args.length=0))))):=rfl
 have hem:=toList_isEmpty e.v
 have hl:((e.args.length:Int) == 0)=decide (e.args.length=0):=by rw [Bool.eq_iff_iff,beq_iff_eq,decide_eq_true_eq];omega
 rw [hE]
 clear hE
 generalize decide (e.x=Va.zero)=bx at *
 generalize decide (e.args.length=0)=bl at *
 unfold exV at *
 go_enter Tryz.func141,Tryz.ntmps141
 go_wp2_with fail
 all_goals go_ret
 all_goals exact ⟨ret_bool (by simp_all),(Mod.refl [] w).alloc _⟩
def signS:ByteArray:={ data:=#[43,45,42,47] }
set_option maxHeartbeats 1000000 in
theorem sign_anyP (op:Int) (w:World):Calls Tryz.prog 97 #[.int .i64 op] w fun e w'=>e=.returned (.string (Lx.ofS (Pr.sign op)))/\Mod [] w w':=by
 go_enter Tryz.func97,Tryz.ntmps97
 go_wp2_with fail
 go_loopw [] (fun w'=>∃ pos:Nat,pos<=4/\(∀ i:Nat,i<pos->op≠(i:Int)+1)/\w'=w.iter signS pos) (fun w'=>4 - w'.iterPos w.heap.size)
 case atStart=>exact ⟨0,Nat.zero_le _,fun i hi=>by omega,rfl⟩
 case round =>
  obtain ⟨pos,hr,hne,rfl⟩:=hrel
  have h5:pos=0\/pos=1\/pos=2\/pos=3\/pos=4:=by omega
  rcases h5 with rfl | rfl | rfl | rfl | rfl
  ·have hnx:∀ ty,(Instr.next (.pointer (some ⟨w.heap.size,0,none⟩)) true ty).run Tryz.prog (w.iter signS 0)=_:=fun ty=>run_next_any w signS 0 ty (by decide)
   have hdc:Utf8.decode signS 0=(43,1):=by kernel_rfl
   rw [hdc] at hnx
   by_cases ho:op=1
   ·subst ho
    clear hne
    go_wp2_with fail
    go_ret
    exact ⟨rfl,mod_iter _ _ _⟩
   ·have hoB:(1 == op)=false:=by rw [beq_eq_false_iff_ne];omega
    have HN:=Lib.hid hne
    have HO:=Lib.hid ho
    clear hne ho
    go_wp2_with fail
    go_roundw
    case rel=>exact ⟨1,by omega,fun i hi=>by
     by_cases e:i=0
     ·subst e;exact HO.out
     ·exact HN.out i (by omega),rfl⟩
    case measure=>simp [signS,ByteArray.size]
  ·have hnx:∀ ty,(Instr.next (.pointer (some ⟨w.heap.size,0,none⟩)) true ty).run Tryz.prog (w.iter signS 1)=_:=fun ty=>run_next_any w signS 1 ty (by decide)
   have hdc:Utf8.decode signS 1=(45,1):=by kernel_rfl
   rw [hdc] at hnx
   by_cases ho:op=2
   ·subst ho
    clear hne
    go_wp2_with fail
    go_ret
    exact ⟨rfl,mod_iter _ _ _⟩
   ·have hoB:(2 == op)=false:=by rw [beq_eq_false_iff_ne];omega
    have HN:=Lib.hid hne
    have HO:=Lib.hid ho
    clear hne ho
    go_wp2_with fail
    go_roundw
    case rel=>exact ⟨2,by omega,fun i hi=>by
     by_cases e:i=1
     ·subst e;exact HO.out
     ·exact HN.out i (by omega),rfl⟩
    case measure=>simp [signS,ByteArray.size]
  ·have hnx:∀ ty,(Instr.next (.pointer (some ⟨w.heap.size,0,none⟩)) true ty).run Tryz.prog (w.iter signS 2)=_:=fun ty=>run_next_any w signS 2 ty (by decide)
   have hdc:Utf8.decode signS 2=(42,1):=by kernel_rfl
   rw [hdc] at hnx
   by_cases ho:op=3
   ·subst ho
    clear hne
    go_wp2_with fail
    go_ret
    exact ⟨rfl,mod_iter _ _ _⟩
   ·have hoB:(3 == op)=false:=by rw [beq_eq_false_iff_ne];omega
    have HN:=Lib.hid hne
    have HO:=Lib.hid ho
    clear hne ho
    go_wp2_with fail
    go_roundw
    case rel=>exact ⟨3,by omega,fun i hi=>by
     by_cases e:i=2
     ·subst e;exact HO.out
     ·exact HN.out i (by omega),rfl⟩
    case measure=>simp [signS,ByteArray.size]
  ·have hnx:∀ ty,(Instr.next (.pointer (some ⟨w.heap.size,0,none⟩)) true ty).run Tryz.prog (w.iter signS 3)=_:=fun ty=>run_next_any w signS 3 ty (by decide)
   have hdc:Utf8.decode signS 3=(47,1):=by kernel_rfl
   rw [hdc] at hnx
   by_cases ho:op=4
   ·subst ho
    clear hne
    go_wp2_with fail
    go_ret
    exact ⟨rfl,mod_iter _ _ _⟩
   ·have hoB:(4 == op)=false:=by rw [beq_eq_false_iff_ne];omega
    have HN:=Lib.hid hne
    have HO:=Lib.hid ho
    clear hne ho
    go_wp2_with fail
    go_roundw
    case rel=>exact ⟨4,by omega,fun i hi=>by
     by_cases e:i=3
     ·subst e;exact HO.out
     ·exact HN.out i (by omega),rfl⟩
    case measure=>simp [signS,ByteArray.size]
  ·have hnx:∀ ty,(Instr.next (.pointer (some ⟨w.heap.size,0,none⟩)) true ty).run Tryz.prog (w.iter signS 4)=_:=fun ty=>run_next_end w signS 4 ty (by decide)
   have HE:Hid (Pr.sign op=[109,111,100]):=Hxq (by
    have h0:=hne 0 (by omega)
    have h1:=hne 1 (by omega)
    have h2:=hne 2 (by omega)
    have h3:=hne 3 (by omega)
    unfold Pr.sign
    rw [if_neg (by omega),if_neg (by omega),if_neg (by omega),if_neg (by omega)])
   clear hne
   go_wp2_with fail
   go_ret
   exact ⟨by rw [HE.out];rfl,mod_iter _ _ _⟩
theorem wvalue_any (p:Nat) (q v:Value) (l:List Nat) (bad:Bool) (br:Int) (x:Va.Val) (hx:x.Ok) (w:World) (h:WrIs w p q v l bad br) (hG:GlobV w) (hlen:l.length<=140737488354000) :
  Calls Tryz.prog 64 #[.pointer (some ⟨p,0,none⟩),.agg (valV x)] w (WLaid p v (l++(if Va.may x then Va.text x else [])) (bad || !Va.may x) br w):=by
 have HT:=Hxq (fun w hG=>Text_any x hx w hG)
 have htl:(if Va.may x then Va.text x else []).length<=258:=by
  by_cases hm:Va.may x=true
  ·rw [if_pos hm];exact (Va.rguess_text hx.byte hm).2.1
  ·rw [if_neg hm];simp
 have htb:∀ c∈(if Va.may x then Va.text x else []),c<256:=by
  by_cases hm:Va.may x=true
  ·rw [if_pos hm];exact text_lt hx.byte
  ·rw [if_neg hm];simp
 have hck:chk x=if Va.may x then 0 else 20:=rfl
 unfold txtV at HT
 rw [hck] at HT
 generalize (if Va.may x then Va.text x else [])=tx at *
 generalize Va.may x=b at *
 have hst:Cod.str (Lx.ofS tx)=tx:=Lx.str_ofS htb
 have hsz:(Lx.ofS tx).size=tx.length:=ofS_size tx
 have MA:=Hxq ((Mod.refl [] w).alloc (Obj.cells (valV x) 35))
 have H:=Lib.hid h
 unfold valV at *
 clear h hck htb
 have hG0:=Lib.hid hG
 clear hG
 cases b
 all_goals (
  go_enter Tryz.func64,Tryz.ntmps64
  go_wp2_with fail
  refine (HT.out _ (hG0.out.past MA.out (by simp))).mono ?_
  rintro e w1 ⟨rfl,m1⟩
  have M1:=Hxq (MA.out.trans m1 (by simp))
  have H1:=Hxq (H.out.past M1.out (by simp))
  clear m1
  go_wp2_with fail
  refine (must_anyP p q v l bad br _ _ H1.out).mono ?_
  rintro e w2 ⟨rfl,q2,v2,h2,m2⟩
  have H2:=Lib.hid h2
  have M2:=Hxq ((WMod.of M1.out).trans m2)
  clear h2 m2
  have hal:=(Mod.refl [] w2).alloc (Obj.cells #[.string (Lx.ofS tx)] 9)
  have hcell:=heap_alloc_new w2 (Obj.cells #[.string (Lx.ofS tx)] 9)
  have HP:=Hxq (put_any p q2 v2 l _ br w2.heap.size 1 [Lx.ofS tx] _ (H2.out.past hal (by simp)) (by simp) (by have:=H2.out.lt;omega) (fun hk=>by have:=fp_lt H2.out.row _ hk;omega) (fun i hi=>by
   obtain rfl:i=0:=by simpa using hi
   simp only [World.cell?,hcell];rfl) (by simp) (by simp [Cod.str_len];omega))
  have HA:=Lib.hid hal
  clear hal hcell
  go_wp2_with fail
  refine HP.out.mono ?_
  rintro e w3 ⟨rfl,q3,v3,h3,m3⟩
  have H3:=Lib.hid h3
  have M3:=Hxq ((M2.out.trans (WMod.of HA.out)).trans m3)
  clear h3 m3
  go_wp2_with fail
  go_end0
  refine ⟨rfl,q3,v3,?_,M3.out⟩
  have:=H3.out
  simp only [List.flatMap_cons,List.flatMap_nil,List.append_nil,hst] at this
  simpa using this)
end Go.Proofs.YtohnmnfhmbmoaaaGreatDoor
