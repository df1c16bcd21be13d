/- THE TEXTS MERGED: PrExpr PrExpr2. -/
import Derived.Test.YtohnmnfhmbmoaaaGreatDoorKG16
namespace Go.Proofs.YtohnmnfhmbmoaaaGreatDoor
open Go.RowKit
set_option linter.unusedVariables false
set_option linter.unusedSimpArgs false
set_option maxRecDepth 100000
/-- an expression's cells -/
structure ExAt (w:World) (b o:Nat) (e:Pr.Ex) (u:Value):Prop where
 c0:w.cell? ⟨b,o,none⟩=some (.int .i64 e.k)
 c1:w.cell? ⟨b,o+1,none⟩=some (.string e.v)
 c2:w.cell? ⟨b,o+2,none⟩=some (.int .i64 e.x.k)
 c3:w.cell? ⟨b,o+3,none⟩=some (.int .i64 e.x.n)
 c4:w.cell? ⟨b,o+4,none⟩=some (.string (Lx.ofS e.x.s))
 c5:w.cell? ⟨b,o+5,none⟩=some (.int .i64 e.op)
 c6:w.cell? ⟨b,o+6,none⟩=some u
theorem ExAt.keep {S:List Nat} {w w':World} {b o:Nat} {e:Pr.Ex} {u:Value} (h:ExAt w b o e u) (hm:Mod S w w') (hb:b∉S):ExAt w' b o e u :=
 ⟨hm.cell h.c0 hb,hm.cell h.c1 hb,hm.cell h.c2 hb,hm.cell h.c3 hb,hm.cell h.c4 hb,hm.cell h.c5 hb,hm.cell h.c6 hb⟩
theorem ExAt.of {w:World} {b:Nat} {e:Pr.Ex} {u:Value} {T:TypeId} (h:w.heap[b]?=some (.cells (exV e u) T (0,0))):ExAt w b 0 e u:=by
 unfold exV at h
 constructor <;> simp only [World.cell?,h] <;> rfl
/-- the slice u holds the arguments of e -/
inductive EOk (w:World):Pr.Ex->Value->Prop
 | nil {k:Int} {v:ByteArray} {x:Va.Val} {op:Int} {a:Option Addr} {c:Nat} (hx:x.Ok):EOk w (.mk k v x op []) (.slice a 0 c)
 | row {k:Int} {v:ByteArray} {x:Va.Val} {op:Int} {args:List Pr.Ex} {b off c:Nat} {us:Nat->Value} (hx:x.Ok)
   (h1:∀ i (h:i<args.length),ExAt w b (off+i * 7) args[i] (us i)) (h2:∀ i (h:i<args.length),EOk w args[i] (us i)) :
   EOk w (.mk k v x op args) (.slice (some ⟨b,off,none⟩) args.length c)
theorem EOk.past {w w':World} {e:Pr.Ex} {u:Value} (h:EOk w e u) (hm:Mod [] w w'):EOk w' e u:=by
 induction h with
 | nil hx=>exact .nil hx
 | row hx h1 h2 ih=>exact .row hx (fun i h=>(h1 i h).keep hm (by simp)) ih
theorem EOk.ok {w:World} {e:Pr.Ex} {u:Value} (h:EOk w e u):e.x.Ok:=by cases h <;> assumption
theorem EOk.lit {w:World} {e:Pr.Ex} {u:Value} (h:EOk w e u):∃ a c,u=.slice a e.args.length c:=by
 cases h with
 | nil hx=>exact ⟨_,_,rfl⟩
 | row hx h1 h2=>exact ⟨_,_,rfl⟩
theorem EOk.at {w:World} {e:Pr.Ex} {a:Option Addr} {c:Nat} (h:EOk w e (.slice a e.args.length c)) (i:Nat) (hi:i<e.args.length) :
  ∃ b off u,a=some ⟨b,off,none⟩/\ExAt w b (off+i * 7) e.args[i] u/\EOk w e.args[i] u:=by
 generalize hu:Value.slice a e.args.length c=u at h
 cases h with
 | nil hx=>simp [Pr.Ex.args] at hi
 | row hx h1 h2 =>
  simp only [Value.slice.injEq] at hu
  exact ⟨_,_,_,hu.1,h1 i hi,h2 i hi⟩
theorem exWt_eq (e:Pr.Ex):exWt e=e.v.size+300+exWts e.args:=by cases e;simp [exWt,Pr.Ex.v,Pr.Ex.args]
/-- what a call that writes o (or nothing) leaves -/
def Res (bad:Bool) (l:List Nat) (o:Option (List Nat)) (n:Nat) (l':List Nat) (bad':Bool):Prop :=
 l'.length<=l.length+n/\(bad=true->bad'=true)/\(bad=false->bad'=o.isNone/\∀ x,o=some x->l'=l++x)
def WRes (p:Nat) (v:Value) (l:List Nat) (bad:Bool) (br:Int) (o:Option (List Nat)) (n:Nat) (w:World) (e:Ending) (w':World):Prop :=
 e=.returned (.tuple #[])/\∃ q' v' l' bad',WrIs w' p q' v' l' bad' br/\WMod p v v' w w'/\Res bad l o n l' bad'
/-- where the walk stands: the writer, newer than w0 -/
structure WAt (w0 w:World) (p:Nat) (q v:Value) (l:List Nat) (bad:Bool) (br:Int):Prop where
 wr:WrIs w p q v l bad br
 base:Mod [] w0 w
 hp:w0.heap.size<=p
 hv:∀ k∈fp v,w0.heap.size<=k
theorem WAt.step {w0 w w':World} {p:Nat} {q v q' v':Value} {l l':List Nat} {bad bad':Bool} {br br':Int} (h:WAt w0 w p q v l bad br) (hw:WrIs w' p q' v' l' bad' br') (hm:WMod p v v' w w'):WAt w0 w' p q' v' l' bad' br' :=
 ⟨hw,h.base.trans hm.1 (fun t ht=>by
  rcases List.mem_cons.1 ht with rfl | ht
  ·exact .inr h.hp
  ·exact .inr (h.hv t ht)),h.hp,fun k hk=>by
  rcases hm.2 k hk with r | r
  ·exact h.hv k r
  ·have:=h.base.size;omega⟩
theorem WAt.new {w0 w w':World} {p:Nat} {q v:Value} {l:List Nat} {bad:Bool} {br:Int} (h:WAt w0 w p q v l bad br) (hm:Mod [] w w'):WAt w0 w' p q v l bad br :=
 ⟨h.wr.past hm (by simp),h.base.trans hm (by simp),h.hp,h.hv⟩
/-- one text put -/
theorem put1 {w0 w:World} {p:Nat} {q v:Value} {l:List Nat} {bad:Bool} {br:Int} (h:WAt w0 w p q v l bad br) {g:Nat} {s:ByteArray} (hg:w.heap.size=g) (hlen:l.length+s.size<=140737488355328) :
  Calls Tryz.prog 29 #[.pointer (some ⟨p,0,none⟩),.slice (some ⟨g,0,none⟩) 1 1] (w.alloc (Obj.cells #[.string s] 9)) (WLaid p v (l++Cod.str s) bad br w):=by
 subst hg
 have hal:=(Mod.refl [] w).alloc (Obj.cells #[.string s] 9)
 have hcell:=heap_alloc_new w (Obj.cells #[.string s] 9)
 have hP:=put_any p q v l bad br w.heap.size 1 [s] _ (h.wr.past hal (by simp)) (by simp) (by have:=h.wr.lt;omega) (fun hk=>by have:=fp_lt h.wr.row _ hk;omega) (fun i hi=>by
  obtain rfl:i=0:=by simpa using hi
  simp only [World.cell?,hcell];rfl) (by simp) (by simp [Cod.str_len];omega)
 refine hP.mono ?_
 rintro e w' ⟨rfl,q',v',h',m'⟩
 exact ⟨rfl,q',v',by simpa using h',(WMod.of hal).trans m'⟩
def ExprC (w0:World) (k:Nat):Prop:=∀ (e:Pr.Ex) (u:Value) (p:Nat) (q v:Value) (l:List Nat) (bad:Bool) (br:Int) (w:World),WAt w0 w p q v l bad br->EOk w0 e u->GlobV w0->l.length+exWt e<=140737488000000 ->
 Calls Tryz.prog 42 #[.pointer (some ⟨p,0,none⟩),.agg (exV e u),.int .i64 ((k:Int) - 1)] w (WRes p v l bad br (Pr.pE k e) (exWt e) w)
def ArgC (w0:World) (j:Nat):Prop:=∀ (e:Pr.Ex) (u:Value) (m:Bool) (p:Nat) (q v:Value) (l:List Nat) (bad:Bool) (br:Int) (w:World),WAt w0 w p q v l bad br->EOk w0 e u->GlobV w0->l.length+exWt e+10<=140737488000000 ->
 Calls Tryz.prog 95 #[.pointer (some ⟨p,0,none⟩),.agg (exV e u),.bool m,.int .i64 (j:Int)] w (WRes p v l bad br (if m then (Pr.pE j e).map (fun t=>40 :: (t++[41])) else Pr.pE (j+1) e) (exWt e+10) w)
theorem ExAt.wstep {w w':World} {p:Nat} {v v':Value} {b o:Nat} {e:Pr.Ex} {u:Value} (h:ExAt w b o e u) (hm:WMod p v v' w w') (h1:b≠p) (h2:b∉fp v):ExAt w' b o e u :=
 h.keep hm.1 (by simp;exact ⟨h1,h2⟩)
/-- a block beside the writer stays beside it -/
theorem WMod.beside {p:Nat} {v v':Value} {w w':World} (hm:WMod p v v' w w') {b:Nat} (hb:b<w.heap.size) (h2:b∉fp v):b∉fp v':=fun hk=>by
 rcases hm.2 b hk with r | r
 ·exact h2 r
 ·omega
set_option maxHeartbeats 2000000 in
theorem arg_of {w0:World} {j:Nat} (hj17:j<=1000) (h1:ExprC w0 j) (h2:ExprC w0 (j+1)):ArgC w0 j:=by
 intro e u m p q v l bad br w h hE hG hlen
 have hj:(((j+1:Nat):Int) - 1)=(j:Int):=by omega
 have H1:=Hxq (fun q v l bad br w h hl=>h1 e u p q v l bad br w h hE hG hl)
 have H2:=fun q v l bad br w h hl=>h2 e u p q v l bad br w h hE hG hl
 rw [hj] at H2
 have MA:=Hxq ((Mod.refl [] w).alloc (Obj.cells (exV e u) 38))
 have XA:=Hxq (ExAt.of (heap_alloc_new w (Obj.cells (exV e u) 38)))
 have HA:=Hxq (h.new MA.out)
 have hpw:p<w.heap.size:=h.wr.lt
 have hbp:w.heap.size≠p:=by omega
 have HBV:Hid (w.heap.size∉fp v):=Hxq (fun hk=>by have:=fp_lt h.wr.row _ hk;omega)
 have hsz:w.heap.size<(w.alloc (Obj.cells (exV e u) 38)).heap.size:=by simp
 have HH2:=Lib.hid H2
 clear h h1 h2 H2 hE hG hj
 cases m
 ·unfold exV at *
  go_enter Tryz.func95,Tryz.ntmps95
  go_wp2_with fail
  refine (HH2.out q v l bad br _ HA.out (by omega)).mono ?_
  rintro e1 w1 ⟨rfl,q1,v1,l1,bad1,h1,m1,r1⟩
  have R1:=Lib.hid r1;have W1:=Lib.hid h1;have M1:=Hxq ((WMod.of MA.out).trans m1)
  clear r1 h1 m1
  go_wp2_with fail
  go_end0
  exact ⟨rfl,q1,v1,l1,bad1,W1.out,M1.out,⟨by have:=R1.out.1;omega,R1.out.2.1,R1.out.2.2⟩⟩
 ·unfold exV at *
  go_enter Tryz.func95,Tryz.ntmps95
  go_wp2_with fail
  refine (put1 HA.out (s:={ data:=#[40] }) (by simp) (by simp [ByteArray.size];omega)).mono ?_
  rintro e1 w1 ⟨rfl,q1,v1,h1,m1⟩
  have W1:=Hxq (HA.out.step h1 m1);have M1:=Hxq ((WMod.of MA.out).trans m1)
  have hx1:=XA.out.wstep m1 hbp HBV.out
  have hsz1:=m1.size
  clear h1 m1
  obtain ⟨c0,c1,c2,c3,c4,c5,c6⟩:=hx1
  go_wp2_with fail
  refine (H1.out q1 v1 _ bad br _ W1.out (by rw [List.length_append,Cod.str_len];simp [ByteArray.size];omega)).mono ?_
  rintro e2 w2 ⟨rfl,q2,v2,l2,bad2,h2,m2,r2⟩
  have W2:=Hxq (W1.out.step h2 m2);have M2:=Hxq (M1.out.trans m2);have R2:=Lib.hid r2
  clear h2 m2 r2 c0 c1 c2 c3 c4 c5 c6
  have hl2:=R2.out.1
  rw [List.length_append,Cod.str_len] at hl2
  have hs40:({ data:=#[40] }:ByteArray).size=1:=rfl
  rw [hs40] at hl2
  go_wp2_with fail
  refine (put1 W2.out (s:={ data:=#[41] }) rfl (by simp [ByteArray.size];omega)).mono ?_
  rintro e3 w3 ⟨rfl,q3,v3,h3,m3⟩
  have M3:=Hxq (M2.out.trans m3);have W3:=Lib.hid h3
  clear h3 m3
  go_wp2_with fail
  go_end0
  refine ⟨rfl,q3,v3,_,bad2,W3.out,M3.out,?_,R2.out.2.1,fun hb=>?_⟩
  ·rw [List.length_append,Cod.str_len]
   have:({ data:=#[41] }:ByteArray).size=1:=rfl
   omega
  ·obtain ⟨r1,r2⟩:=R2.out.2.2 hb
   refine ⟨by rw [r1];cases Pr.pE j e <;> rfl,fun x hx=>?_⟩
   obtain ⟨t,ht,rfl⟩:=Option.map_eq_some_iff.1 hx
   rw [r2 t ht]
   have e40:Cod.str { data:=#[40] }=[40]:=rfl
   have e41:Cod.str { data:=#[41] }=[41]:=rfl
   rw [e40,e41]
   simp
theorem WrIs.setBad {w:World} {p:Nat} {q v:Value} {l:List Nat} {bad:Bool} {br:Int} (h:WrIs w p q v l bad br) :
    WrIs (w.setCell ⟨p,2,none⟩ (.bool true)) p q v l true br/\WMod p v v w (w.setCell ⟨p,2,none⟩ (.bool true)):=by
  refine ⟨⟨?_,h.adr,ownsRow_setCell_other h.row (fun e=>h.out (ownBlock_fp _ _ e)) _,h.out,h.byte,h.nil_⟩,Mod.setCell (p:=⟨p,2,none⟩) (Mod.refl _ _) (.inl List.mem_cons_self) _,fun k hk=>.inl hk⟩
  have:=setCell_at h.at_ 2 (.bool true)
  simpa using this
def OperC (w0:World) (k:Nat):Prop:=∀ (e:Pr.Ex) (u:Value) (p:Nat) (q v:Value) (l:List Nat) (bad:Bool) (br:Int) (w:World),WAt w0 w p q v l bad br->EOk w0 e u->GlobV w0->l.length+exWt e<=140737488000000 ->
  Calls Tryz.prog 66 #[.pointer (some ⟨p,0,none⟩),.agg (exV e u),.int .i64 ((k:Int) - 1)] w (WRes p v l bad br (Pr.pO k e) (exWt e - 1) w)
theorem res_bad {l:List Nat} {bad:Bool} {o:Option (List Nat)} {n:Nat} {l':List Nat} (h:l'.length<=l.length+n) (ho:bad=false->o=none):Res bad l o n l' true :=
  ⟨h,fun _=>rfl,fun hb=>⟨by rw [ho hb];rfl,fun x hx=>by rw [ho hb] at hx;cases hx⟩⟩
theorem res_if {l x:List Nat} {b:Bool} {c:Prop} [Decidable c] {n:Nat} (h:x.length<=n) (hc:c ↔ b=true):Res false l (if c then some x else none) n (l++x) (false || !b):=by
  refine ⟨by rw [List.length_append];omega,fun h=>(by cases h),fun _=>?_⟩
  by_cases hh:c
  · rw [if_pos hh,hc.1 hh]
    exact ⟨rfl,fun y hy=>by cases hy;rfl⟩
  · rw [if_neg hh,show b=false from by cases b;rfl;exact absurd (hc.2 rfl) hh]
    exact ⟨rfl,fun y hy=>by cases hy⟩
theorem res_gen {l x y:List Nat} {bad':Bool} {c:Prop} [Decidable c] {n:Nat} (h:y.length<=n) (hc:c ↔ bad'=false) (hy:c->y=x):Res false l (if c then some x else none) n (l++y) bad':=by
  refine ⟨by rw [List.length_append];omega,fun h=>(by cases h),fun _=>?_⟩
  by_cases hh:c
  · rw [if_pos hh,hc.1 hh,hy hh]
    exact ⟨rfl,fun z hz=>by cases hz;rfl⟩
  · rw [if_neg hh,show bad'=true from by cases bad';exact absurd (hc.2 rfl) hh;rfl]
    exact ⟨rfl,fun z hz=>by cases hz⟩
theorem res_sub {l l':List Nat} {b bad':Bool} {c:Prop} [Decidable c] {o:Option (List Nat)} {n m:Nat} (hr:Res (false || !b) l o m l' bad') (hm:m<=n) (hc:c ↔ b=true):Res false l (if c then o else none) n l' bad':=by
  obtain ⟨r1,r2,r3⟩:=hr
  refine ⟨by omega,fun h=>(by cases h),fun _=>?_⟩
  cases b
  · rw [if_neg (fun h=>by simpa using hc.1 h),r2 rfl]
    exact ⟨rfl,fun z hz=>by cases hz⟩
  · rw [if_pos (hc.2 rfl)]
    exact r3 rfl
theorem expr_zero (w0:World):ExprC w0 0:=by
  intro e u p q v l bad br w h hE hG hlen
  have MA:=Hxq ((Mod.refl [] w).alloc (Obj.cells (exV e u) 38))
  have HA:=Hxq (h.new MA.out)
  obtain ⟨c0,c1,c2,c3,fz⟩:=HA.out.wr.cells
  have HS:=Lib.hid HA.out.wr.setBad
  have hd:(((0:Nat):Int) - 1)=-1:=by omega
  rw [hd]
  unfold exV at *
  clear h hE hG hd
  cases bad
  all_goals (
    go_enter Tryz.func42,Tryz.ntmps42
    go_wp2_with fail
    go_end0
    exact ⟨rfl,q,v,l,true,HS.out.1,(WMod.of MA.out).trans HS.out.2,res_bad (by omega) (fun _=>rfl)⟩)
set_option maxHeartbeats 8000000 in
theorem expr_of {w0:World} {k:Nat} (hk:k<=1000) (hO:OperC w0 k):ExprC w0 (k+1):=by
  intro e u p q v l bad br w h hE hG hlen
  obtain ⟨kd,ev,ex,eop,eargs⟩:=e
  have hd:(((k+1:Nat):Int) - 1)=(k:Int):=by omega
  have hkI:¬ (k:Int)<0:=by omega
  rw [hd]
  clear hd
  have MA:=Hxq ((Mod.refl [] w).alloc (Obj.cells (exV (.mk kd ev ex eop eargs) u) 38))
  have XA:=Hxq (ExAt.of (heap_alloc_new w (Obj.cells (exV (.mk kd ev ex eop eargs) u) 38)))
  have HA:=Hxq (h.new MA.out)
  have hpw:p<w.heap.size:=h.wr.lt
  have hbp:w.heap.size≠p:=by omega
  have HBV:Hid (w.heap.size∉fp v):=Hxq (fun hk=>by have:=fp_lt h.wr.row _ hk;omega)
  obtain ⟨c0,c1,c2,c3,fz⟩:=HA.out.wr.cells
  have HS:=Lib.hid HA.out.wr.setBad
  have hsz:w.heap.size<(w.alloc (Obj.cells (exV (.mk kd ev ex eop eargs) u) 38)).heap.size:=by simp
  cases bad
  · by_cases k1:kd=1
    · subst k1
      have hpe:=Pr.pE_var k (.mk 1 ev ex eop eargs) rfl
      simp only [Pr.Ex.v,Pr.Ex.x,Pr.Ex.op,Pr.Ex.args] at hpe
      have HPE:=Lib.hid hpe
      clear hpe
      obtain ⟨a,c,rfl⟩:=hE.lit
      have hv:=(fun w=>Variable_any ev (by have:=exWt_eq (.mk 1 ev ex eop eargs);simp only [Pr.Ex.v] at this;omega) w)
      have hve:=fun W=>veq_run ex W
      have hl:((eargs.length:Int) == 0)=decide (eargs.length=0):=by rw [Bool.eq_iff_iff,beq_iff_eq,decide_eq_true_eq];omega
      have MU:=Hxq (fun b w h=>must_anyP p q v l false br b w h)
      obtain ⟨bv,hbv⟩:∃ bv:Bool,bv=Va.variable_ (Cod.str ev):=⟨_,rfl⟩
      rw [<-hbv] at hv
      have HV:=Lib.hid hv
      generalize hbx:decide (ex=Va.zero)=bx at *
      generalize hbl:decide (eargs.length=0)=bl at *
      have HCN:Hid ((Va.variable_ (Cod.str ev)=true/\ex=Va.zero/\eop=0/\eargs.length=0) ↔ (bv && (bx && ((eop == 0) && bl)))=true):=Hxq (by rw [<-hbv,<-hbx,<-hbl];simp)
      have hw:=exWt_eq (.mk 1 ev ex eop eargs)
      clear hbx hbl hbv hv h hE hG
      simp only [exV,Pr.Ex.k,Pr.Ex.v,Pr.Ex.x,Pr.Ex.op,Pr.Ex.args] at *
      go_enter Tryz.func42,Tryz.ntmps42
      go_wp2_with fail
      refine (HV.out _).mono ?_
      rintro e1 w1 ⟨rfl,m1⟩
      have W1:=Hxq (HA.out.new m1)
      have M1:=Hxq (MA.out.trans m1 (by simp))
      have X1:=Hxq (XA.out.keep m1 (by simp))
      obtain ⟨x0,x1,x2,x3,x4,x5,x6⟩:=X1.out
      simp only [Nat.zero_add,Pr.Ex.k,Pr.Ex.v,Pr.Ex.x,Pr.Ex.op,Pr.Ex.args] at x0 x1 x2 x3 x4 x5 x6
      clear m1 c0 c1 c2 c3 fz
      go_wp2_with fail
      all_goals (
        refine (must_anyP p q v l false br _ _ W1.out.wr).mono ?_
        rintro e2 w2 ⟨rfl,q2,v2,h2,m2⟩
        have W2:=Hxq (W1.out.step h2 m2);have M2:=Hxq ((WMod.of M1.out).trans m2)
        have X2:=X1.out.wstep m2 hbp HBV.out
        obtain ⟨-,y1,-,-,-,-,-⟩:=X2
        simp only [Nat.zero_add,Pr.Ex.v] at y1
        clear h2 m2 x0 x1 x2 x3 x4 x5 x6
        go_wp2_with fail
        refine (put1 W2.out rfl (by omega)).mono ?_
        rintro e3 w3 ⟨rfl,q3,v3,h3,m3⟩
        have M3:=Hxq (M2.out.trans m3);have W3:=Lib.hid h3
        clear h3 m3
        go_wp2_with fail
        go_end0
        refine ⟨rfl,q3,v3,_,_,W3.out,M3.out,?_⟩
        rw [HPE.out]
        exact res_if (by rw [Cod.str_len];omega) (HCN.out.trans (by simp_all)))
    · have kB1:(kd == 1)=false:=by rw [beq_eq_false_iff_ne];exact k1
      by_cases k2:kd=2
      · subst k2
        have hpe:=Pr.pE_val k (.mk 2 ev ex eop eargs) rfl
        simp only [Pr.Ex.v,Pr.Ex.x,Pr.Ex.op,Pr.Ex.args] at hpe
        have HPE:=Lib.hid hpe
        obtain ⟨a,c,rfl⟩:=hE.lit
        have hl:((eargs.length:Int) == 0)=decide (eargs.length=0):=by rw [Bool.eq_iff_iff,beq_iff_eq,decide_eq_true_eq];omega
        have hem:ev.toList.isEmpty=decide (ev.size=0):=toList_isEmpty ev
        generalize hbe:decide (ev.size=0)=be at *
        generalize hbl:decide (eargs.length=0)=bl at *
        have HCN:Hid ((ev.size=0/\eop=0/\eargs.length=0/\Va.may ex=true) ↔ ((be && ((eop == 0) && bl))=true/\Va.may ex=true)):=Hxq (by rw [<-hbe,<-hbl];simp [and_assoc])
        have HX:=Lib.hid hE.ok
        have HG0:=Lib.hid hG
        have hw:=exWt_eq (.mk 2 ev ex eop eargs)
        have HTL:Hid ((if Va.may ex then Va.text ex else []).length<=258):=Hxq (by
          by_cases hm:Va.may ex=true
          · rw [if_pos hm];exact (Va.rguess_text hE.ok.byte hm).2.1
          · rw [if_neg hm];simp)
        clear hbe hbl h hE hG hpe kB1
        simp only [exV,Pr.Ex.k,Pr.Ex.v,Pr.Ex.x,Pr.Ex.op,Pr.Ex.args] at *
        go_enter Tryz.func42,Tryz.ntmps42
        go_upto_region 1 with fail
        generalize w.alloc (Obj.cells #[Value.int IntKind.i64 2,Value.string ev,Value.int IntKind.i64 ex.k,Value.int IntKind.i64 ex.n,Value.string (Lx.ofS ex.s),Value.int IntKind.i64 eop,Value.slice a eargs.length c] 38)=wA at *
        obtain ⟨x0,x1,x2,x3,x4,x5,x6⟩:=XA.out
        simp only [Nat.zero_add,Pr.Ex.k,Pr.Ex.v,Pr.Ex.x,Pr.Ex.op,Pr.Ex.args] at x0 x1 x2 x3 x4 x5 x6
        go_wp2_with fail
        all_goals (
          refine (must_anyP p q v l false br _ _ HA.out.wr).mono ?_
          rintro e2 w2 ⟨rfl,q2,v2,h2,m2⟩
          have W2:=Hxq (HA.out.step h2 m2);have M2:=Hxq ((WMod.of MA.out).trans m2)
          have X2:=XA.out.wstep m2 hbp HBV.out
          obtain ⟨-,-,y2,y3,y4,-,-⟩:=X2
          simp only [Nat.zero_add,Pr.Ex.x] at y2 y3 y4
          clear h2 m2 c0 c1 c2 c3 fz x0 x1 x2 x3 x4 x5 x6
          go_wp2_with fail
          refine (wvalue_any p q2 v2 l _ br ex HX.out _ W2.out.wr (HG0.out.past W2.out.base (by simp)) (by omega)).mono ?_
          rintro e3 w3 ⟨rfl,q3,v3,h3,m3⟩
          have M3:=Hxq (M2.out.trans m3);have W3:=Lib.hid h3
          clear h3 m3
          go_wp2_with fail
          go_end0
          refine ⟨rfl,q3,v3,_,_,W3.out,M3.out,?_⟩
          rw [HPE.out]
          have htl:=HTL.out
          exact res_gen (by omega) (HCN.out.trans (by cases Va.may ex <;> simp_all)) (fun hc=>by rw [if_pos hc.2.2.2]))
      · have kB2:(kd == 2)=false:=by rw [beq_eq_false_iff_ne];exact k2
        by_cases k4:kd=4
        · subst k4
          have hpe:=Pr.pE_op k (.mk 4 ev ex eop eargs) rfl
          simp only [Pr.Ex.v,Pr.Ex.x,Pr.Ex.op,Pr.Ex.args] at hpe
          have HPE:=Lib.hid hpe
          have HO:=Hxq (fun q v l bad br w h hl=>hO (.mk 4 ev ex eop eargs) u p q v l bad br w h hE hG hl)
          have hve:=fun W=>veq_run ex W
          have hem:ev.toList.isEmpty=decide (ev.size=0):=toList_isEmpty ev
          have HST:=Hxq (fun w=>strength_any eop w)
          generalize hbe:decide (ev.size=0)=be at *
          generalize hbx:decide (ex=Va.zero)=bx at *
          have HCN:Hid ((ev.size=0/\ex=Va.zero/\0<Pr.strength eop) ↔ (be && (bx && decide ((Pr.strength eop:Int) > 0)))=true):=Hxq (by rw [<-hbe,<-hbx];simp)
          have hw:=exWt_eq (.mk 4 ev ex eop eargs)
          clear hbe hbx h hE hG hpe kB1 kB2
          simp only [exV,Pr.Ex.k,Pr.Ex.v,Pr.Ex.x,Pr.Ex.op,Pr.Ex.args] at *
          go_enter Tryz.func42,Tryz.ntmps42
          go_upto_region 1 with fail
          generalize w.alloc (Obj.cells #[Value.int IntKind.i64 4,Value.string ev,Value.int IntKind.i64 ex.k,Value.int IntKind.i64 ex.n,Value.string (Lx.ofS ex.s),Value.int IntKind.i64 eop,u] 38)=wA at *
          obtain ⟨x0,x1,x2,x3,x4,x5,x6⟩:=XA.out
          simp only [Nat.zero_add,Pr.Ex.k,Pr.Ex.v,Pr.Ex.x,Pr.Ex.op,Pr.Ex.args] at x0 x1 x2 x3 x4 x5 x6
          go_wp2_with fail
          all_goals (
            first
              | (refine (HST.out _).mono ?_
                 rintro e1 w1 ⟨rfl,rfl⟩
                 go_wp2_with fail
                 refine (must_anyP p q v l false br _ _ HA.out.wr).mono ?_)
              | (refine (must_anyP p q v l false br _ _ HA.out.wr).mono ?_)
            rintro e2 w2 ⟨rfl,q2,v2,h2,m2⟩
            have W2:=Hxq (HA.out.step h2 m2);have M2:=Hxq ((WMod.of MA.out).trans m2)
            have X2:=XA.out.wstep m2 hbp HBV.out
            clear h2 m2 c0 c1 c2 c3 fz x0 x1 x2 x3 x4 x5 x6
            obtain ⟨y0,y1,y2,y3,y4,y5,y6⟩:=X2
            simp only [Nat.zero_add,Pr.Ex.k,Pr.Ex.v,Pr.Ex.x,Pr.Ex.op,Pr.Ex.args] at y0 y1 y2 y3 y4 y5 y6
            go_wp2_with fail
            refine (HO.out q2 v2 l _ br _ W2.out hlen).mono ?_
            rintro e3 w3 ⟨rfl,q3,v3,l3,bad3,h3,m3,r3⟩
            have M3:=Hxq (M2.out.trans m3);have W3:=Lib.hid h3;have R3:=Lib.hid r3
            clear h3 m3 r3
            go_wp2_with fail
            go_end0
            refine ⟨rfl,q3,v3,l3,bad3,W3.out,M3.out,?_⟩
            rw [HPE.out]
            exact res_sub R3.out (by omega) (HCN.out.trans (by simp_all)))
        · have kB4:(kd == 4)=false:=by rw [beq_eq_false_iff_ne];exact k4
          have HPE:=Hxq (Pr.pE_other k (.mk kd ev ex eop eargs) k1 k2 k4)
          clear h hE hG hbp hpw hsz
          simp only [exV,Pr.Ex.k,Pr.Ex.v,Pr.Ex.x,Pr.Ex.op,Pr.Ex.args] at *
          clear k1 k2 k4
          go_enter Tryz.func42,Tryz.ntmps42
          go_wp2_with fail
          go_end0
          exact ⟨rfl,q,v,l,true,HS.out.1,(WMod.of MA.out).trans HS.out.2,res_bad (by omega) (fun _=>HPE.out)⟩
  · simp only [exV,Pr.Ex.k,Pr.Ex.v,Pr.Ex.x,Pr.Ex.op,Pr.Ex.args] at *
    clear hbp hpw hsz
    go_enter Tryz.func42,Tryz.ntmps42
    go_wp2_with fail
    go_end0
    exact ⟨rfl,q,v,l,true,HS.out.1,(WMod.of MA.out).trans HS.out.2,res_bad (by omega) (fun h=>by cases h)⟩
end Go.Proofs.YtohnmnfhmbmoaaaGreatDoor
