/- THE TEXTS MERGED: SyGrow SyCopy2 SyCopy3 SyCopy4 PwClone PwOwn PwExpr. -/
import Derived.Test.YtohnmnfhmbmoaaaGreatDoorKF1
import Derived.Test.YtohnmnfhmbmoaaaGreatDoorKF18
import Derived.Deep.RegionLaw
import Derived.Great.BuildSlice
import Derived.Lib.SliceRun
import Derived.Laws.OwnMore
namespace Go.Proofs.YtohnmnfhmbmoaaaGreatDoor
open Go.RowKit
set_option linter.unusedVariables false
set_option linter.unusedSimpArgs false
set_option maxRecDepth 100000
/-- what is kept, of things of n cells -/
structure Bears {α:Type} (n:Nat) (cs:α->Array Value) (B:(Nat->Prop)->World->α->Prop):Prop where
 size:∀ x,(cs x).size=n
 keep:∀ {F:Nat->Prop} {S:List Nat} {w w':World} {p:α},B F w p->Mod S w w'->(∀ s∈S,¬ F s)->B F w' p
 mono:∀ {F F':Nat->Prop} {w:World} {p:α},B F w p->(∀ k,F k->k<w.heap.size->F' k)->B F' w p
section
variable {α:Type} {T:TypeId} {n:Nat} {cs:α->Array Value} {B:(Nat->Prop)->World->α->Prop} {S:List Nat} {w0 W W':World} {acc:List α} {va:Option Addr} {vc:Nat}
end
/-- expressions with their arguments' slices -/
abbrev ExU:=Pr.Ex × Value
def csX (p:ExU):Array Value:=exV p.1 p.2
def BX (F:Nat->Prop) (w:World) (p:ExU):Prop:=EB F w p.1 p.2
theorem bearsX:Bears 7 csX BX:=⟨fun _=>rfl,fun h hm hs=>EB.keep h hm hs,fun h hF=>EB.mono h hF⟩
theorem csX_one {F:Nat->Prop} {w:World} {p:ExU} (h:BX F w p):∀ u∈(csX p).toList,u.oneCell'=true:=by
 obtain ⟨e,u⟩:=p
 obtain ⟨a,c,hu⟩:=EB.lit h
 simp only at hu
 subst hu
 intro x hx
 simp [csX,exV] at hx
 rcases hx with rfl | rfl | rfl | rfl | rfl | rfl | rfl <;> rfl
theorem EB.of_row {F:Nat->Prop} {w:World} {k:Int} {v:ByteArray} {x:Va.Val} {op:Int} {u:Value} (l:List ExU) (h:RowB F w 7 csX l u) (hs:∀ p∈l,BX F w p):EB F w (.mk k v x op (l.map (·.1))) u:=by
 cases h with
 | nil=>exact .nil
 | row hF hb h1 hcap =>
  rename_i g off c
  have:=@EB.row F w k v x op (l.map (·.1)) g off c (fun i=>if h:i<l.length then l[i].2 else .slice none 0 0) hF hb (fun i hi=>by
   rw [List.length_map] at hi
   simp only [dif_pos hi,List.getElem_map]
   exact h1 i hi) (fun i hi=>by
   rw [List.length_map] at hi
   simp only [dif_pos hi,List.getElem_map]
   exact hs _ (List.getElem_mem hi))
  simpa using this
open Go.RowKit
set_option linter.unusedVariables false
set_option linter.unusedSimpArgs false
set_option maxRecDepth 100000
theorem Tryz.infoEx:(Tryz.prog.info? 38).map (fun i=>(i.zero,i.size,i.bytes))=some (some (.agg #[Value.int IntKind.i64 0,Value.string ⟨#[]⟩,Value.int IntKind.i64 0,Value.int IntKind.i64 0,Value.string ⟨#[]⟩,Value.int IntKind.i64 0,Value.slice none 0 0]),7,88):=by kernel_rfl
/-- a copy: in new blocks alone -/
def CpX (e:Pr.Ex) (w:World) (o:Ending) (w':World):Prop:=∃ u,o=.returned (.agg (exV e u))/\EB (fun k=>w.heap.size<=k) w' e u/\Mod [] w w'
def csL (p:Pr.Li × LU):Array Value:=liV p.1 p.2
def BL (F:Nat->Prop) (w:World) (p:Pr.Li × LU):Prop:=LB F w p.1 p.2
theorem bearsLi:Bears 30 csL BL:=⟨liV_size,fun h hm hs=>LB.keep h hm hs,fun h hF=>LB.mono h hF⟩
/-- where a copy's things lie: not in its two rows -/
def QF (w0:World) (sr su:Value) (k:Nat):Prop:=w0.heap.size<=k/\k∉fp sr/\k∉fp su
/-- a program whose rows are the call's own -/
structure PO (w0 W:World) (rels:List RelU) (rus:List RulU) (va:Option Addr) (vc:Nat) (ua:Option Addr) (uc:Nat):Prop where
 rowR:W.ownsRow 0 70 4 (.slice va rels.length vc) rels.length (rowCells csR rels)
 rowU:W.ownsRow 0 63 5 (.slice ua rus.length uc) rus.length (rowCells csU rus)
 newR:∀ k∈fp (.slice va rels.length vc),w0.heap.size<=k
 newU:∀ k∈fp (.slice ua rus.length uc),w0.heap.size<=k
 dis:∀ k∈fp (.slice va rels.length vc),k∉fp (.slice ua rus.length uc)
 subR:∀ p∈rels,RelB (QF w0 (.slice va rels.length vc) (.slice ua rus.length uc)) W p
 subU:∀ p∈rus,RulB (QF w0 (.slice va rels.length vc) (.slice ua rus.length uc)) W p
 mod:Mod [] w0 W
def CpP (p:Pr.Prog) (w:World) (e:Ending) (w':World):Prop:=∃ (rels:List RelU) (rus:List RulU) (va:Option Addr) (vc:Nat) (ua:Option Addr) (uc:Nat),
 e=.returned (.agg #[.slice va rels.length vc,.slice ua rus.length uc])/\(⟨rels.map (·.1),rus.map (·.1)⟩:Pr.Prog)=p/\PO w w' rels rus va vc ua uc
/-- a list's things behind a slice's address -/
def LAt {α:Type} (w:World) (n:Nat) (cs:α->Array Value) (l:List α) (a:Option Addr):Prop:=∀ i (hi:i<l.length),∃ b off,a=some ⟨b,off,none⟩/\CellsAt w b (off+i * n) (cs l[i])/\b<w.heap.size
section
variable {α:Type} {w w':World} {n:Nat} {cs:α->Array Value} {l:List α} {a:Option Addr} {F:Nat->Prop}
theorem LAt.keep (h:LAt w n cs l a) (hm:Mod [] w w'):LAt w' n cs l a:=fun i hi=>by
 obtain ⟨b,off,rfl,hc,hb⟩:=h i hi
 exact ⟨b,off,rfl,hc.keep hm (by simp),Nat.lt_of_lt_of_le hb hm.size⟩
theorem LAt.nil (h:LAt w n cs l none):l=[]:=by
 cases l with
 | nil=>rfl
 | cons x r=>obtain ⟨b,off,hh,-⟩:=h 0 (by simp);cases hh
theorem LAt.src {TS e:TypeId} (hu:Tryz.prog.underlying TS=some (.slice e)) (hn:∀ x,(cs x).size=n) (h0:0<n) (h1:∀ x∈l,∀ v∈(cs x).toList,v.oneCell'=true) (ad:Addr) (c:Nat) (h:LAt w n cs l (some ad)) :
  Src Tryz.prog n TS (.slice (some ad) l.length c) l.length (rowCells cs l) w:=by
 have hone:∀ v∈rowCells cs l,v.oneCell'=true:=by
  intro v hv
  obtain ⟨x,hm,hx⟩:=List.mem_flatMap.1 hv
  exact h1 x hm v hx
 refine Src.ofSlice w hu ad _ c _ (rowCells_len hn l) (fun j v hv=>?_) hone
 have hj:=(List.getElem?_eq_some_iff.1 hv).1
 rw [rowCells_len hn] at hj
 have hi:j / n<l.length:=Nat.div_lt_of_lt_mul (by rw [Nat.mul_comm];exact hj)
 obtain ⟨b,off,hh,hc,-⟩:=h (j / n) hi
 cases hh
 rw [addr_add]
 have hmd:j % n<n:=Nat.mod_lt _ h0
 have hsz:j % n<(cs l[j / n]).size:=by rw [hn];exact hmd
 have key:=rowCells_get hn l (j / n) hi (j % n) _ (Array.getElem?_eq_getElem hsz)
 have hjj:j / n * n+j % n=j:=by rw [Nat.mul_comm];exact Nat.div_add_mod j n
 rw [hjj,hv] at key
 have:=hc (j % n) _ (Array.getElem?_eq_getElem hsz)
 rw [Nat.add_assoc,hjj] at this
 rw [this,key]
theorem RowB.lat {a:Option Addr} {c:Nat} (h:RowB F w n cs l (.slice a l.length c)):LAt w n cs l a:=fun i hi=>by
 generalize hu:Value.slice a l.length c=u at h
 cases h with
 | nil=>simp at hi
 | row hF hb h1 hc =>
  simp only [Value.slice.injEq] at hu
  exact ⟨_,_,hu.1,h1 i hi,hb⟩
end
/-- an expression's arguments with their slices -/
theorem EB.lat {F:Nat->Prop} {w:World} {e:Pr.Ex} {u:Value} (h:EB F w e u):∃ (l:List ExU) (a:Option Addr) (c:Nat),u=.slice a l.length c/\l.map (·.1)=e.args/\LAt w 7 csX l a/\∀ p∈l,BX F w p:=by
 cases h with
 | nil=>exact ⟨[],_,_,rfl,rfl,fun i hi=>absurd hi (by simp),by simp⟩
 | @row k v x op args b off c us hF hb h1 h2 =>
  refine ⟨args.mapIdx (fun i e=>(e,us i)),some ⟨b,off,none⟩,c,by simp,?_,fun i hi=>?_,fun p hp=>?_⟩
  ·apply List.ext_getElem?
   intro i
   simp only [Pr.Ex.args,List.getElem?_map,List.getElem?_mapIdx,Option.map_map]
   cases args[i]? <;> rfl
  ·rw [List.length_mapIdx] at hi
   refine ⟨b,off,rfl,?_,hb⟩
   rw [List.getElem_mapIdx]
   exact h1 i hi
  ·obtain ⟨i,hi,rfl⟩:=List.mem_iff_getElem.1 hp
   rw [List.length_mapIdx] at hi
   rw [List.getElem_mapIdx]
   exact h2 i hi
/-- a body's literals with their slices -/
theorem BB.lat {F:Nat->Prop} {w:World} {body:List Pr.Li} {u:Value} (h:BB F w body u):∃ (l:List (Pr.Li × LU)) (a:Option Addr) (c:Nat),u=.slice a l.length c/\l.map (·.1)=body/\LAt w 30 csL l a/\∀ p∈l,BL F w p:=by
 obtain ⟨ub,cb,us,rfl,h1,h2,-⟩:=h
 refine ⟨body.mapIdx (fun i e=>(e,us i)),ub,cb,by simp,?_,fun i hi=>?_,fun p hp=>?_⟩
 ·apply List.ext_getElem?
  intro i
  simp only [List.getElem?_map,List.getElem?_mapIdx,Option.map_map]
  cases body[i]? <;> rfl
 ·rw [List.length_mapIdx] at hi
  obtain ⟨g,off,hu,hF,hg,hc⟩:=h1 i hi
  refine ⟨g,off,hu,?_,hg⟩
  rw [List.getElem_mapIdx]
  exact hc
 ·obtain ⟨i,hi,rfl⟩:=List.mem_iff_getElem.1 hp
  rw [List.length_mapIdx] at hi
  rw [List.getElem_mapIdx]
  exact h2 i hi
theorem csL_one {F:Nat->Prop} {w:World} {p:Pr.Li × LU} (h:BL F w p):∀ u∈(csL p).toList,u.oneCell'=true:=liV_one p h
/-- a clone: a row of the call's own -/
def ClR {α:Type} (T:TypeId) (n:Nat) (cs:α->Array Value) (l:List α) (w:World) (e:Ending) (w':World):Prop :=
 ∃ (a:Option Addr) (c:Nat),e=.returned (.slice a l.length c)/\w'.ownsRow 0 T n (.slice a l.length c) l.length (rowCells cs l)/\(∀ k∈fp (.slice a l.length c),w.heap.size<=k)/\Mod [] w w'
set_option maxHeartbeats 4000000 in
theorem cloneI_any (l:List Int) (hl:l.length<=134217728) (a:Option Addr) (c:Nat) (w:World) (h:LAt w 1 intC l a) :
  Calls Tryz.prog 32 #[.slice a l.length c] w (ClR 3 1 intC l w):=by
 obtain ⟨i0,hinf,hz0,hz1,hz2⟩:=info_parts Tryz.infoInt
 have q1:∀ (w:World) (a:Option Addr) (n c n' c':Nat),(binOp .eql 68 (.slice a n c) (.slice none n' c')).run Tryz.prog w=.ok (.bool a.isNone) w:=fun w a n c n' c'=>Lib.run_eql_slice_nil w _ _ a n c n' c' Tryz.underlying68
 cases a with
 | none =>
  obtain rfl:=h.nil
  clear h
  go_enter Tryz.func32,Tryz.ntmps32
  go_wp2
  go_ret
  exact ⟨none,0,rfl,World.ownsRow_nil _ _ _ _,by simp [fp],Mod.refl _ _⟩
 | some ad =>
  have m1:=(Mod.refl [] w).alloc (Obj.cells #[] 3)
  have S1:=Hxq (LAt.src (c:=c) Tryz.underlying68 intC_size (by omega) (fun x _=>intC_one x) ad (h.keep m1))
  have O1:Hid ((w.alloc (Obj.cells #[] 3)).ownsRow 0 3 1 (.slice (some ⟨w.heap.size,0,none⟩) 0 0) 0 []):=Hxq (World.ownsRow_made w #[] 0 (Nat.zero_le _) (Nat.zero_le _) rfl)
  have M1:=Lib.hid m1
  clear h m1
  go_enter Tryz.func32,Tryz.ntmps32
  go_wp2_with (at_builtin;refine wpList_append_src _ rfl _ _ 68 68 rfl 3 i0 (.int .i64 0) 1 8 Tryz.underlying68 hinf hz0 hz1 hz2 rfl (.slice (some ⟨w.heap.size,0,none⟩) 0 0) 0 [] rfl O1.out _ l.length (rowCells intC l) rfl S1.out (by unfold maxLen;omega) (by omega) ?_)
  intro v2 w2 hown2 hm2 hf2 hn2
  (try rw [Nat.zero_add] at hown2);(try rw [List.nil_append] at hown2)
  obtain ⟨a2,c2,rfl⟩:=owns_slice hown2
  have H2:=Lib.hid hown2;have M2:=Lib.hid hm2;have F2:=Lib.hid hf2
  clear hown2 hm2 hf2 hn2 S1 O1
  go_wp2
  go_ret
  refine ⟨a2,c2,rfl,H2.out,fun k hk=>?_,M1.out.trans M2.out (fun t ht=>by simp [fp] at ht;subst ht;exact .inr (Nat.le_refl _))⟩
  rcases F2.out k hk with hh | hh
  ·simp [fp] at hh;omega
  ·have:=M1.out.size;omega
set_option maxHeartbeats 4000000 in
theorem cloneT_any (l:List Pr.Term) (hl:l.length<=134217728) (a:Option Addr) (c:Nat) (w:World) (h:LAt w 5 tmV l a) :
  Calls Tryz.prog 33 #[.slice a l.length c] w (ClR 88 5 tmV l w):=by
 obtain ⟨i0,hinf,hz0,hz1,hz2⟩:=info_parts Tryz.infoTerm
 have q1:∀ (w:World) (a:Option Addr) (n c n' c':Nat),(binOp .eql 40 (.slice a n c) (.slice none n' c')).run Tryz.prog w=.ok (.bool a.isNone) w:=fun w a n c n' c'=>Lib.run_eql_slice_nil w _ _ a n c n' c' Tryz.underlying40
 cases a with
 | none =>
  obtain rfl:=h.nil
  clear h
  go_enter Tryz.func33,Tryz.ntmps33
  go_wp2
  go_ret
  exact ⟨none,0,rfl,World.ownsRow_nil _ _ _ _,by simp [fp],Mod.refl _ _⟩
 | some ad =>
  have m1:=(Mod.refl [] w).alloc (Obj.cells #[] 88)
  have S1:=Hxq (LAt.src (c:=c) Tryz.underlying40 tmV_size (by omega) (fun x _=>tmV_one x) ad (h.keep m1))
  have O1:Hid ((w.alloc (Obj.cells #[] 88)).ownsRow 0 88 5 (.slice (some ⟨w.heap.size,0,none⟩) 0 0) 0 []):=Hxq (World.ownsRow_made w #[] 0 (Nat.zero_le _) (Nat.zero_le _) rfl)
  have M1:=Lib.hid m1
  clear h m1
  go_enter Tryz.func33,Tryz.ntmps33
  go_wp2_with (at_builtin;refine wpList_append_src _ rfl _ _ 40 40 rfl 88 i0 (.agg #[Value.int IntKind.i64 0,Value.string ⟨#[]⟩,Value.int IntKind.i64 0,Value.int IntKind.i64 0,Value.string ⟨#[]⟩]) 5 56 Tryz.underlying40 hinf hz0 hz1 hz2 rfl (.slice (some ⟨w.heap.size,0,none⟩) 0 0) 0 [] rfl O1.out _ l.length (rowCells tmV l) rfl S1.out (by unfold maxLen;omega) (by omega) ?_)
  intro v2 w2 hown2 hm2 hf2 hn2
  (try rw [Nat.zero_add] at hown2);(try rw [List.nil_append] at hown2)
  obtain ⟨a2,c2,rfl⟩:=owns_slice hown2
  have H2:=Lib.hid hown2;have M2:=Lib.hid hm2;have F2:=Lib.hid hf2
  clear hown2 hm2 hf2 hn2 S1 O1
  go_wp2
  go_ret
  refine ⟨a2,c2,rfl,H2.out,fun k hk=>?_,M1.out.trans M2.out (fun t ht=>by simp [fp] at ht;subst ht;exact .inr (Nat.le_refl _))⟩
  rcases F2.out k hk with hh | hh
  ·simp [fp] at hh;omega
  ·have:=M1.out.size;omega
set_option maxHeartbeats 4000000 in
theorem cloneX_any (l:List ExU) (hl:l.length<=134217728) (a:Option Addr) (c:Nat) (w:World) (h:LAt w 7 csX l a) (h1:∀ x∈l,∀ v∈(csX x).toList,v.oneCell'=true) :
  Calls Tryz.prog 88 #[.slice a l.length c] w (ClR 38 7 csX l w):=by
 obtain ⟨i0,hinf,hz0,hz1,hz2⟩:=info_parts Tryz.infoEx
 have q1:∀ (w:World) (a:Option Addr) (n c n' c':Nat),(binOp .eql 36 (.slice a n c) (.slice none n' c')).run Tryz.prog w=.ok (.bool a.isNone) w:=fun w a n c n' c'=>Lib.run_eql_slice_nil w _ _ a n c n' c' Tryz.underlying36
 cases a with
 | none =>
  obtain rfl:=h.nil
  clear h
  go_enter Tryz.func88,Tryz.ntmps88
  go_wp2
  go_ret
  exact ⟨none,0,rfl,World.ownsRow_nil _ _ _ _,by simp [fp],Mod.refl _ _⟩
 | some ad =>
  have m1:=(Mod.refl [] w).alloc (Obj.cells #[] 38)
  have S1:=Hxq (LAt.src (c:=c) Tryz.underlying36 bearsX.size (by omega) h1 ad (h.keep m1))
  have O1:Hid ((w.alloc (Obj.cells #[] 38)).ownsRow 0 38 7 (.slice (some ⟨w.heap.size,0,none⟩) 0 0) 0 []):=Hxq (World.ownsRow_made w #[] 0 (Nat.zero_le _) (Nat.zero_le _) rfl)
  have M1:=Lib.hid m1
  clear h m1
  go_enter Tryz.func88,Tryz.ntmps88
  go_wp2_with (at_builtin;refine wpList_append_src _ rfl _ _ 36 36 rfl 38 i0 (.agg #[Value.int IntKind.i64 0,Value.string ⟨#[]⟩,Value.int IntKind.i64 0,Value.int IntKind.i64 0,Value.string ⟨#[]⟩,Value.int IntKind.i64 0,Value.slice none 0 0]) 7 88 Tryz.underlying36 hinf hz0 hz1 hz2 rfl (.slice (some ⟨w.heap.size,0,none⟩) 0 0) 0 [] rfl O1.out _ l.length (rowCells csX l) rfl S1.out (by unfold maxLen;omega) (by omega) ?_)
  intro v2 w2 hown2 hm2 hf2 hn2
  (try rw [Nat.zero_add] at hown2);(try rw [List.nil_append] at hown2)
  obtain ⟨a2,c2,rfl⟩:=owns_slice hown2
  have H2:=Lib.hid hown2;have M2:=Lib.hid hm2;have F2:=Lib.hid hf2
  clear hown2 hm2 hf2 hn2 S1 O1
  go_wp2
  go_ret
  refine ⟨a2,c2,rfl,H2.out,fun k hk=>?_,M1.out.trans M2.out (fun t ht=>by simp [fp] at ht;subst ht;exact .inr (Nat.le_refl _))⟩
  rcases F2.out k hk with hh | hh
  ·simp [fp] at hh;omega
  ·have:=M1.out.size;omega
set_option maxHeartbeats 4000000 in
theorem cloneL_any (l:List (Pr.Li × LU)) (hl:l.length<=134217728) (a:Option Addr) (c:Nat) (w:World) (h:LAt w 30 csL l a) (h1:∀ x∈l,∀ v∈(csL x).toList,v.oneCell'=true) :
  Calls Tryz.prog 57 #[.slice a l.length c] w (ClR 49 30 csL l w):=by
 obtain ⟨i0,hinf,hz0,hz1,hz2⟩:=info_parts Tryz.infoLit
 have q1:∀ (w:World) (a:Option Addr) (n c n' c':Nat),(binOp .eql 43 (.slice a n c) (.slice none n' c')).run Tryz.prog w=.ok (.bool a.isNone) w:=fun w a n c n' c'=>Lib.run_eql_slice_nil w _ _ a n c n' c' Tryz.underlying43
 cases a with
 | none =>
  obtain rfl:=h.nil
  clear h
  go_enter Tryz.func57,Tryz.ntmps57
  go_wp2
  go_ret
  exact ⟨none,0,rfl,World.ownsRow_nil _ _ _ _,by simp [fp],Mod.refl _ _⟩
 | some ad =>
  have m1:=(Mod.refl [] w).alloc (Obj.cells #[] 49)
  have S1:=Hxq (LAt.src (c:=c) Tryz.underlying43 liV_size (by omega) h1 ad (h.keep m1))
  have O1:Hid ((w.alloc (Obj.cells #[] 49)).ownsRow 0 49 30 (.slice (some ⟨w.heap.size,0,none⟩) 0 0) 0 []):=Hxq (World.ownsRow_made w #[] 0 (Nat.zero_le _) (Nat.zero_le _) rfl)
  have M1:=Lib.hid m1
  clear h m1
  go_enter Tryz.func57,Tryz.ntmps57
  go_wp2_with (at_builtin;refine wpList_append_src _ rfl _ _ 43 43 rfl 49 i0 (.agg #[.int .i64 0,.string ⟨#[]⟩,.slice none 0 0,.int .i64 0,.int .i64 0,.string ⟨#[]⟩,.int .i64 0,.int .i64 0,.string ⟨#[]⟩,.int .i64 0,.slice none 0 0,.int .i64 0,.string ⟨#[]⟩,.int .i64 0,.int .i64 0,.string ⟨#[]⟩,.int .i64 0,.slice none 0 0,.int .i64 0,.string ⟨#[]⟩,.int .i64 0,.string ⟨#[]⟩,.int .i64 0,.int .i64 0,.string ⟨#[]⟩,.int .i64 0,.slice none 0 0,.slice none 0 0,.int .i64 0,.int .i64 0]) 30 384 Tryz.underlying43 hinf hz0 hz1 hz2 rfl (.slice (some ⟨w.heap.size,0,none⟩) 0 0) 0 [] rfl O1.out _ l.length (rowCells csL l) rfl S1.out (by unfold maxLen;omega) (by omega) ?_)
  intro v2 w2 hown2 hm2 hf2 hn2
  (try rw [Nat.zero_add] at hown2);(try rw [List.nil_append] at hown2)
  obtain ⟨a2,c2,rfl⟩:=owns_slice hown2
  have H2:=Lib.hid hown2;have M2:=Lib.hid hm2;have F2:=Lib.hid hf2
  clear hown2 hm2 hf2 hn2 S1 O1
  go_wp2
  go_ret
  refine ⟨a2,c2,rfl,H2.out,fun k hk=>?_,M1.out.trans M2.out (fun t ht=>by simp [fp] at ht;subst ht;exact .inr (Nat.le_refl _))⟩
  rcases F2.out k hk with hh | hh
  ·simp [fp] at hh;omega
  ·have:=M1.out.size;omega
open Go.RowKit
set_option linter.unusedVariables false
set_option linter.unusedSimpArgs false
set_option maxRecDepth 100000
def setL (xs:List Value) (o:Nat):List Value->List Value
 | []=>xs
 | v :: r=>setL (xs.set o v) (o+1) r
theorem setL_len:∀ (vs xs:List Value) (o:Nat),(setL xs o vs).length=xs.length
 | [],_,_=>rfl
 | v :: r,xs,o=>by rw [setL,setL_len r];simp
theorem setL_app (A:List Value):∀ (vs Z B:List Value) (o:Nat),o+vs.length<=Z.length->setL (A++Z++B) (A.length+o) vs=A++setL Z o vs++B
 | [],_,_,_,_=>rfl
 | v :: r,Z,B,o,h=>by
  simp only [List.length_cons] at h
  rw [setL,setL,List.append_assoc,List.set_append_right _ _ (by omega),List.set_append_left _ _ (by omega),show A.length+o - A.length=o by omega,<-List.append_assoc]
  exact setL_app A r (Z.set o v) B (o+1) (by simp;omega)
theorem owns_setCs {e:TypeId} {base size g n cap:Nat}:∀ (vs xs:List Value) (o:Nat) (w:World),w.ownsRow base e size (.slice (some ⟨g,0,none⟩) n cap) n xs ->
  (setCs w g o vs).ownsRow base e size (.slice (some ⟨g,0,none⟩) n cap) n (setL xs o vs)
 | [],_,_,_,h=>h
 | v :: r,xs,o,w,h=>owns_setCs r _ (o+1) _ (h.stored o v).1
section
variable {α:Type} {T:TypeId} {n:Nat} {cs:α->Array Value} {B:(Nat->Prop)->World->α->Prop} {w0 W W':World} {done src rest:List α} {Z:List Value} {va:Option Addr} {vc g m:Nat} {S:List Nat}
structure RI {α:Type} (T:TypeId) (n:Nat) (cs:α->Array Value) (B:(Nat->Prop)->World->α->Prop) (w0 W:World) (done src:List α) (va:Option Addr) (vc:Nat):Prop where
 row:W.ownsRow 0 T n (.slice va src.length vc) src.length (rowCells cs (done++src.drop done.length))
 new:∀ k∈fp (.slice va src.length vc),w0.heap.size<=k
 le:done.length<=src.length
 sub:∀ p∈done,B (fun k=>w0.heap.size<=k/\k∉fp (.slice va src.length vc)) W p
structure MI {α:Type} (T:TypeId) (n:Nat) (cs:α->Array Value) (B:(Nat->Prop)->World->α->Prop) (w0 W:World) (done:List α) (Z:List Value) (rest:List α) (g vc m:Nat):Prop where
 row:W.ownsRow 0 T n (.slice (some ⟨g,0,none⟩) m vc) m (rowCells cs done++Z++rowCells cs rest)
 z:Z.length=n
 new:w0.heap.size<=g
 sub:∀ p∈done,B (fun k=>w0.heap.size<=k/\k≠g) W p
theorem RI.start (h:W.ownsRow 0 T n (.slice va src.length vc) src.length (rowCells cs src)) (hn:∀ k∈fp (.slice va src.length vc),w0.heap.size<=k):RI T n cs B w0 W [] src va vc :=
 ⟨by simpa using h,hn,by simp,by simp⟩
theorem RI.keep (hB:Bears n cs B) (h:RI T n cs B w0 W done src va vc) (hm:Mod S W W') (hS:∀ s∈S,s<w0.heap.size):RI T n cs B w0 W' done src va vc :=
 ⟨hm.owns h.row (fun k hk hs=>by have:=h.new k hk;have:=hS k hs;omega),h.new,h.le,fun p hp=>hB.keep (h.sub p hp) hm (fun s hs hh=>by have:=hS s hs;omega)⟩
theorem MI.lt (h:MI T n cs B w0 W done Z rest g vc m):g<W.heap.size:=by
 rcases h.row.2 with ⟨h1,-⟩ | ⟨g',cap,cur,h1,hb,hg,-⟩
 ·cases h1
 ·simp only [Value.slice.injEq,Option.some.injEq,Addr.mk.injEq,and_true] at h1
  obtain ⟨rfl,-⟩:=h1
  exact lt_of_block hg
theorem RI.mid (h:RI T n cs B w0 W done src va vc) (hn:∀ x,(cs x).size=n) (hl:done.length<src.length):∃ g,va=some ⟨g,0,none⟩/\MI T n cs B w0 W done (cs src[done.length]).toList (src.drop (done.length+1)) g vc src.length:=by
 obtain ⟨g,rfl⟩:∃ g,va=some ⟨g,0,none⟩:=by
  rcases h.row.2 with ⟨h1,h2⟩ | ⟨g,cap,cur,h1,-⟩
  ·omega
  ·simp only [Value.slice.injEq] at h1;exact ⟨g,h1.1⟩
 refine ⟨g,rfl,?_,by rw [Array.length_toList,hn],h.new g (by simp [fp]),fun p hp=>by simpa [fp] using h.sub p hp⟩
 have:=h.row
 have e:rowCells cs (done++List.drop done.length src)=rowCells cs done++(cs src[done.length]).toList++rowCells cs (List.drop (done.length+1) src):=by
  rw [List.drop_eq_getElem_cons hl]
  simp only [rowCells,List.flatMap_append,List.flatMap_cons,List.append_assoc]
 rwa [e] at this
theorem MI.keep (hB:Bears n cs B) (h:MI T n cs B w0 W done Z rest g vc m) (hm:Mod S W W') (hS:∀ s∈S,s<w0.heap.size):MI T n cs B w0 W' done Z rest g vc m :=
 ⟨hm.owns h.row (fun k hk hs=>by simp [fp] at hk;subst hk;have:=h.new;have:=hS k hs;omega),h.z,h.new,fun p hp=>hB.keep (h.sub p hp) hm (fun s hs hh=>by have:=hS s hs;omega)⟩
theorem MI.cell (h:MI T n cs B w0 W done Z rest g vc m) (hn:∀ x,(cs x).size=n) (o:Nat) (v:Value) (hv:Z[o]?=some v):W.cell? ⟨g,done.length * n+o,none⟩=some v:=by
 have hc:=h.row.cells (g:=g) rfl (done.length * n+o) v (by
  have ho:=(List.getElem?_eq_some_iff.1 hv).1
  rw [List.append_assoc,List.getElem?_append_right (by rw [rowCells_len hn];omega),rowCells_len hn,show done.length * n+o - done.length * n=o by omega,List.getElem?_append_left ho,hv])
 rw [addr_add] at hc
 simpa using hc
theorem MI.frozen (h:MI T n cs B w0 W done Z rest g vc m) (j:Nat):W.frozen? ⟨g,j,none⟩=false:=h.row.frozenAt j
theorem MI.sets (hB:Bears n cs B) (h:MI T n cs B w0 W done Z rest g vc m) (o:Nat) (vs:List Value) (ho:o+vs.length<=n):MI T n cs B w0 (setCs W g (done.length * n+o) vs) done (setL Z o vs) rest g vc m:=by
 refine ⟨?_,by rw [setL_len,h.z],h.new,fun p hp=>hB.keep (h.sub p hp) (setCs_mod g vs _ W) (fun s hs hh=>by rw [Msq] at hs;exact hh.2 hs)⟩
 have:=owns_setCs vs _ (done.length * n+o) W h.row
 have e:done.length * n=(rowCells cs done).length:=(rowCells_len hB.size done).symm
 rw [e] at this ⊢
 rwa [setL_app _ _ _ _ _ (by rw [h.z];exact ho)] at this
theorem MI.fin (hB:Bears n cs B) (p':α) (h:MI T n cs B w0 W done (cs p').toList (src.drop (done.length+1)) g vc src.length) (hl:done.length<src.length) (hp:B (fun k=>w0.heap.size<=k/\k≠g) W p'):RI T n cs B w0 W (done++[p']) src (some ⟨g,0,none⟩) vc:=by
 refine ⟨?_,fun k hk=>by simp [fp] at hk;subst hk;exact h.new,by simp;omega,fun p hq=>?_⟩
 ·have:=h.row
  simpa [rowCells] using this
 ·have e:(fun k=>w0.heap.size<=k/\k∉fp (.slice (some ⟨g,0,none⟩) src.length vc))=(fun k=>w0.heap.size<=k/\k≠g):=by simp [fp]
  rw [e]
  rcases List.mem_append.1 hq with hq | hq
  ·exact h.sub p hq
  ·rw [Msq] at hq;subst hq;exact hp
/-- all done -/
theorem RI.all (h:RI T n cs B w0 W done src va vc) (he:done.length=src.length):W.ownsRow 0 T n (.slice va done.length vc) done.length (rowCells cs done):=by
 have:=h.row
 rw [he,List.drop_length,List.append_nil] at this
 rwa [he]
end
open Go.RowKit
set_option linter.unusedVariables false
set_option linter.unusedSimpArgs false
set_option maxRecDepth 100000
def PXC (d:Nat):Prop:=∀ (e:Pr.Ex),exD e<=d->exM e<=134217728->∀ (F:Nat->Prop) (u:Value) (w:World),EB F w e u ->
 Calls Tryz.prog 58 #[.agg (exV e u)] w (CpX e w)
set_option maxHeartbeats 8000000 in
theorem pxc_of (d:Nat) (hS:PXC d):PXC (d+1):=by
 intro e he hM F u w h
 obtain ⟨src,a1,c1,rfl,hsm,hla,hsb⟩:=h.lat
 obtain ⟨k,v,⟨xk,xn,xs⟩,op,args⟩:=e
 have hln:src.length=args.length:=by rw [<-List.length_map (f:=(·.1)),hsm];rfl
 simp only [Pr.Ex.args] at hsm
 have hd:exDs args<=d:=by simp only [exD] at he;omega
 have hM1:src.length<=134217728:=by simp only [exM] at hM;omega
 have hM2:exMs args<=134217728:=by simp only [exM] at hM;omega
 have HS:=Lib.hid hS;have HSM:=Lib.hid hsm;have HSB:=Lib.hid hsb;have HLA:=Lib.hid hla;have HLN:=Lib.hid hln
 have H1:=Lib.hid h
 clear h hS he hM hsm hsb hla hln
 simp only [exV,Pr.Ex.k,Pr.Ex.v,Pr.Ex.x,Pr.Ex.op] at *
 generalize hxB:Lx.ofS xs=xB at *
 have mA:=((Mod.refl [] w).alloc (Obj.cells #[.int .i64 k,.string v,.int .i64 xk,.int .i64 xn,.string xB,.int .i64 op,.slice a1 src.length c1] 38)).alloc (Obj.cells #[Value.int IntKind.i64 0,Value.string ⟨#[]⟩,Value.int IntKind.i64 0,Value.int IntKind.i64 0,Value.string ⟨#[]⟩,Value.int IntKind.i64 0,Value.slice none 0 0] 38)
 have eA:=two_a w #[.int .i64 k,.string v,.int .i64 xk,.int .i64 xn,.string xB,.int .i64 op,.slice a1 src.length c1] #[Value.int IntKind.i64 0,Value.string ⟨#[]⟩,Value.int IntKind.i64 0,Value.int IntKind.i64 0,Value.string ⟨#[]⟩,Value.int IntKind.i64 0,Value.slice none 0 0] 38 38
 have eB:=two_b w #[.int .i64 k,.string v,.int .i64 xk,.int .i64 xn,.string xB,.int .i64 op,.slice a1 src.length c1] #[Value.int IntKind.i64 0,Value.string ⟨#[]⟩,Value.int IntKind.i64 0,Value.int IntKind.i64 0,Value.string ⟨#[]⟩,Value.int IntKind.i64 0,Value.slice none 0 0] 38 38
 have zA:((w.alloc (Obj.cells #[.int .i64 k,.string v,.int .i64 xk,.int .i64 xn,.string xB,.int .i64 op,.slice a1 src.length c1] 38)).alloc (Obj.cells #[Value.int IntKind.i64 0,Value.string ⟨#[]⟩,Value.int IntKind.i64 0,Value.int IntKind.i64 0,Value.string ⟨#[]⟩,Value.int IntKind.i64 0,Value.slice none 0 0] 38)).heap.size=w.heap.size+2:=by simp
 go_enter Tryz.func58,Tryz.ntmps58
 go_upto_region 1 with fail
 generalize (w.alloc (Obj.cells _ 38)).alloc (Obj.cells _ 38)=w0 at *
 have M0:=Lib.hid mA;have E0:=Lib.hid eA;have E1:=Lib.hid eB
 have ZA:=Lib.hid zA
 clear mA eA eB zA
 generalize hpa:w.heap.size=pa at *
 have x6:=cell_at E0.out 6
 simp only [List.getElem?_toArray,List.getElem?_cons_zero,List.getElem?_cons_succ] at x6
 go_wp2_with fail
 refine (cloneX_any src hM1 a1 c1 w0 (HLA.out.keep M0.out) (fun x hx=>csX_one (HSB.out x hx))).mono ?_
 rintro e1 w1 ⟨a2,c2,rfl,hown,hnew,hm1⟩
 have O1:=Lib.hid hown;have N1:=Lib.hid hnew;have M1:=Lib.hid hm1
 have E2:=Hxq (M1.out.at E0.out (by simp));have E3:=Hxq (M1.out.at E1.out (by simp))
 clear hown hnew hm1 x6
 have x6:=cell_at E2.out 6
 simp only [List.getElem?_toArray,List.getElem?_cons_zero,List.getElem?_cons_succ] at x6
 have f6:=free_at E2.out 6
 go_upto_region 2 with fail
 have X3:Hid ((w1.setCell ⟨pa,6,none⟩ (.slice a2 src.length c2)).heap[pa]?=some (.cells #[.int .i64 k,.string v,.int .i64 xk,.int .i64 xn,.string xB,.int .i64 op,.slice a2 src.length c2] 38 (0,0))):=Hxq (setCs_heap [.slice a2 src.length c2] 6 [.int .i64 k,.string v,.int .i64 xk,.int .i64 xn,.string xB,.int .i64 op,.slice a1 src.length c1] w1 E2.out)
 have Q3:Hid (Mod [pa] w1 (w1.setCell ⟨pa,6,none⟩ (.slice a2 src.length c2))):=Hxq (setCs_mod pa [.slice a2 src.length c2] 6 w1)
 generalize w1.setCell ⟨pa,6,none⟩ (.slice a2 src.length c2)=wL at *
 have R0:Hid (RI 38 7 csX BX w0 wL [] src a2 c2):=Hxq (RI.start (Q3.out.owns O1.out (fun k hk hs=>by rw [Msq] at hs;have:=N1.out k hk;have:=ZA.out;omega)) N1.out)
 have ER:=Hxq (Q3.out.at E3.out (by simp))
 have ML:Hid (Mod [pa] w0 wL):=Hxq ((M1.out.mono (T:=[pa]) (by simp)).trans Q3.out (by simp))
 clear x6 f6 E2 E3 O1 N1 Q3
 have x6:=cell_at X3.out 6
 simp only [List.getElem?_toArray,List.getElem?_cons_zero,List.getElem?_cons_succ] at x6
 go_wp2_with fail
 go_loopw [11] (fun iv wr=>∃ (done:List ExU),iv=.int .i64 (done.length:Nat)/\done.map (·.1)=args.take done.length/\RI 38 7 csX BX w0 wr done src a2 c2/\wr.heap[pa]?=some (.cells #[.int .i64 k,.string v,.int .i64 xk,.int .i64 xn,.string xB,.int .i64 op,.slice a2 src.length c2] 38 (0,0))/\Mod [pa] w0 wr) (fun iv _=>src.length - (intOf iv).toNat)
 case atStart=>exact ⟨[],rfl,by simp,R0.out,X3.out,ML.out⟩
 case round =>
  obtain ⟨done,rfl,hmap,hR,hbox,hmw⟩:=hrel
  have EX:=Lib.hid hbox;have ERW:=Hxq (hmw.at E1.out (by simp))
  have MW:Hid (Mod [pa] w wr):=Hxq ((M0.out.mono (T:=[pa]) (by simp)).trans hmw (by simp))
  clear hbox
  have HMW:=Lib.hid hmw;have HM:=Lib.hid hmap;have RR:=Lib.hid hR
  clear hR hmw hmap x6
  have z6:=cell_at EX.out 6
  simp only [List.getElem?_toArray,List.getElem?_cons_zero,List.getElem?_cons_succ] at z6
  by_cases hlt:done.length<src.length
  ·have hjI:(done.length:Int)<(src.length:Int):=by omega
   have hj0:(0:Int)<=(done.length:Int):=by omega
   obtain ⟨g,hg,hMI⟩:=RR.out.mid bearsX.size hlt
   subst hg
   have hla:done.length<args.length:=by have:=HLN.out;omega
   have hsx:src[done.length].1=args[done.length]:=by
    have e:=congrArg (fun l=>l[done.length]?) HSM.out
    simp only [List.getElem?_map,List.getElem?_eq_getElem hlt,List.getElem?_eq_getElem hla,Option.map_some,Option.some.injEq] at e
    exact e
   have hbx:=HSB.out _ (List.getElem_mem hlt)
   have hdj:=exDs_mem args done.length hla
   have hmj:=exMs_mem args done.length hla
   have HY:Hid (args[done.length]?=some args[done.length]):=Hxq (List.getElem?_eq_getElem hla)
   rw [<-hsx] at hdj hmj HY
   generalize src[done.length]=z at *
   obtain ⟨y,u1⟩:=z
   dsimp only at hdj hmj HY hsx
   have hE1:EB (fun k=>k<pa) wr y u1:=(EB.mono (F':=fun k=>k<pa) hbx (fun k _ hk=>by omega)).keep MW.out (by simp)
   obtain ⟨a3,c3,rfl⟩:=hE1.lit
   have r0:=hMI.cell bearsX.size 0 (.int .i64 y.k) rfl
   have r1:=hMI.cell bearsX.size 1 (.string y.v) rfl
   have r2:=hMI.cell bearsX.size 2 (.int .i64 y.x.k) rfl
   have r3:=hMI.cell bearsX.size 3 (.int .i64 y.x.n) rfl
   have r4:=hMI.cell bearsX.size 4 (.string (Lx.ofS y.x.s)) rfl
   have r5:=hMI.cell bearsX.size 5 (.int .i64 y.op) rfl
   have r6:=hMI.cell bearsX.size 6 (.slice a3 y.args.length c3) rfl
   rw [Nat.add_zero] at r0
   have HE1:=Lib.hid hE1;have HMI:=Lib.hid hMI
   clear hE1 hMI hbx hsx
   have HC:Hid (∀ w',Mod [] wr w'->Calls Tryz.prog 58 #[.agg (exV y (.slice a3 y.args.length c3))] w' (CpX y w')):=Hxq (fun w' hm=>HS.out y (by omega) (by omega) _ _ _ (HE1.out.keep hm (by simp)))
   have hgl:=HMI.out.lt
   have hgn:=HMI.out.new
   clear hdj hmj
   unfold exV at HC
   go_wp2_with fail
   go_region_law (first
    | (go_simp;refine (HC.out wr.drew ((Mod.refl [] wr).drew)).mono ?_;rintro e3 w3 ⟨u4,rfl,hb4,m4⟩;obtain ⟨a4,c4,rfl⟩:=hb4.lit;have m04:=((Mod.refl [] wr).drew).trans m4 (by simp);have X4:=Hxq (m04.at EX.out (by simp));have q4:w3.cell? ⟨pa,6,none⟩=some (.slice (some ⟨g,0,none⟩) src.length c2):=cell_at X4.out 6;have G4:=Hxq (HMI.out.keep bearsX m04 (by simp));have fG:∀ j,w3.frozen? ⟨g,j,none⟩=false:=fun j=>G4.out.frozen j;have s0:=G4.out.cell bearsX.size 0 (.int .i64 y.k) rfl;have s1:=G4.out.cell bearsX.size 1 (.string y.v) rfl;have s2:=G4.out.cell bearsX.size 2 (.int .i64 y.x.k) rfl;have s3:=G4.out.cell bearsX.size 3 (.int .i64 y.x.n) rfl;have s4:=G4.out.cell bearsX.size 4 (.string (Lx.ofS y.x.s)) rfl;have s5:=G4.out.cell bearsX.size 5 (.int .i64 y.op) rfl;have s6:=G4.out.cell bearsX.size 6 (.slice a3 y.args.length c3) rfl;rw [Nat.add_zero] at s0;have B4:=Lib.hid hb4;have M4:=Lib.hid m04;unfold exV;clear hb4 m4 m04)
    )
   all_goals (
    have hgn2:pa+2<=g:=by have:=ZA.out;omega
    have hp4:BX (fun k=>w0.heap.size<=k/\k≠g) w3 (y,.slice a4 y.args.length c4):=EB.mono B4.out (fun k (hk:wr.heap.size<=k) _=>⟨by omega,by omega⟩)
    have hms:=setCs_mod g (exV y (.slice a4 y.args.length c4)).toList (done.length * 7) w3
    have G6:=Hxq (MI.fin bearsX (y,.slice a4 y.args.length c4) (G4.out.sets bearsX 0 (exV y (.slice a4 y.args.length c4)).toList (by simp [exV])) hlt (EB.keep hp4 hms (by simp)))
    have X6:=Hxq (hms.at X4.out (by simp;omega))
    have M6:Hid (Mod [pa] w0 (setCs w3 g (done.length * 7) (exV y (.slice a4 y.args.length c4)).toList)):=Hxq ((HMW.out.trans M4.out (by simp)).trans hms (fun s hs=>.inr (by rw [Msq] at hs;omega)))
    clear q4 X4 G4 fG s0 s1 s2 s3 s4 s5 s6 B4 M4 hms hp4 HMI HC z6 r0 r1 r2 r3 r4 r5 r6
    generalize hw8:setCs w3 g (done.length * 7) (exV y (.slice a4 y.args.length c4)).toList=w8 at *
    have hw9:(((((((w3.setCell { block:=g,off:=done.length * 7 } (Value.int IntKind.i64 y.k)).setCell { block:=g,off:=done.length * 7+1 } (Value.string y.v)).setCell { block:=g,off:=done.length * 7+2 } (Value.int IntKind.i64 y.x.k)).setCell { block:=g,off:=done.length * 7+3 } (Value.int IntKind.i64 y.x.n)).setCell { block:=g,off:=done.length * 7+4 } (Value.string (Lx.ofS y.x.s))).setCell { block:=g,off:=done.length * 7+5 } (Value.int IntKind.i64 y.op)).setCell { block:=g,off:=done.length * 7+6 } (Value.slice a4 y.args.length c4))=w8:=hw8
    rw [hw9]
    clear hw9 hw8
    go_wp2_with fail
    go_roundw
    case rel =>
     refine ⟨done++[(y,.slice a4 y.args.length c4)],by rw [List.length_append];go_num,?_,G6.out,X6.out,M6.out⟩
     rw [List.map_append,HM.out,show (done++[(y,Value.slice a4 y.args.length c4)]).length=done.length+1 by simp,List.take_add_one,HY.out];rfl
    case measure=>simp [intOf];omega)
  ·obtain hae:done.length=src.length:=by have:=RR.out.le;omega
   have hjI:¬ (done.length:Int)<(src.length:Int):=by omega
   have hargs:args=done.map (·.1):=by rw [HM.out,hae,HLN.out,List.take_length]
   have OW:=Hxq (RR.out.all hae)
   have b0:=cell_at EX.out 0;have b1:=cell_at EX.out 1;have b2:=cell_at EX.out 2;have b3:=cell_at EX.out 3;have b4:=cell_at EX.out 4;have b5:=cell_at EX.out 5;have y0:=cell_at ERW.out 0;have y1:=cell_at ERW.out 1;have y2:=cell_at ERW.out 2;have y3:=cell_at ERW.out 3;have y4:=cell_at ERW.out 4;have y5:=cell_at ERW.out 5;have y6:=cell_at ERW.out 6
   simp only [List.getElem?_toArray,List.getElem?_cons_zero,List.getElem?_cons_succ] at b0 b1 b2 b3 b4 b5 y0 y1 y2 y3 y4 y5 y6
   have fA:∀ j,wr.frozen? ⟨pa+1,j,none⟩=false:=fun j=>free_at ERW.out j
   have HAR:=Lib.hid hargs
   have HAE:=Lib.hid hae
   clear hae hargs
   go_wp2_with fail
   have mR:=setCs_mod (pa+1) [.int .i64 k,.string v,.int .i64 xk,.int .i64 xn,.string xB,.int .i64 op,.slice a2 src.length c2] 0 wr
   have hsrc:=HAE.out
   have hza:=ZA.out
   have hn:=RR.out.new
   rw [<-hsrc] at hn mR
   refine bodyPost_ret (results_cell_row rfl _ _ _ _ _ _ _ rfl (setCs_row (vs:=[.int .i64 k,.string v,.int .i64 xk,.int .i64 xn,.string xB,.int .i64 op,.slice a2 src.length c2]) ERW.out rfl) Tryz.underlying38 rfl (by kernel_rfl)) rfl ⟨.slice a2 src.length c2,?_,?_,?_⟩
   ·rw [<-hxB];rfl
   ·rw [HAR.out,<-hsrc]
    refine EB.of_row done ((RowB.of_owns (F:=fun k=>w0.heap.size<=k) bearsX.size OW.out hn).keep mR (fun s hs=>by rw [Msq] at hs;omega) |>.mono (fun k hk _=>by omega)) (fun p hp=>?_)
    exact bearsX.mono (bearsX.keep (RR.out.sub p hp) mR (fun s hs hh=>by rw [Msq] at hs;have:=hh.1;omega)) (fun k hk _=>by have:=hk.1;omega)
   ·rw [<-hsrc]
    exact (M0.out.trans (S:=[]) (T:=[pa]) HMW.out (fun t ht=>.inr (by rw [Msq] at ht;omega))).trans mR (fun t ht=>.inr (by rw [Msq] at ht;omega))
theorem pxc_all:∀ d,PXC d
 | 0=>fun e he _=>by cases e;simp [exD] at he
 | d+1=>pxc_of d (pxc_all d)
theorem pexpr_any {F:Nat->Prop} (e:Pr.Ex) (hM:exM e<=134217728) (u:Value) (w:World) (h:EB F w e u) :
  Calls Tryz.prog 58 #[.agg (exV e u)] w (CpX e w):=pxc_all _ e (Nat.le_refl _) hM F u w h
end Go.Proofs.YtohnmnfhmbmoaaaGreatDoor
