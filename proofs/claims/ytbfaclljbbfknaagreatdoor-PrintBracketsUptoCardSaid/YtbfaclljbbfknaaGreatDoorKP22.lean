/- THE TEXTS MERGED: PrRun PrAtom PrLitP. -/
import Derived.Test.YtbfaclljbbfknaaGreatDoorKP21
namespace Go.Proofs.YtbfaclljbbfknaaGreatDoor
open Go.RowKit
set_option linter.unusedVariables false
set_option linter.unusedSimpArgs false
set_option maxRecDepth 100000
theorem expr_all (w0:World):∀ k,k<=100->ExprC w0 k/\OperC w0 k
 | 0,_=>⟨expr_zero w0,oper_zero w0⟩
 | k+1,h=>by
  have ⟨i1,i2⟩:=expr_all w0 k (by omega)
  have h1:ExprC w0 (k+1):=expr_of (by omega) i2
  exact ⟨h1,oper_of (by omega) i1 h1⟩
def cat (a b:Option (List Nat)):Option (List Nat):=a.bind fun x=>b.map fun y=>x++y
@[simp] theorem cat_none (b:Option (List Nat)):cat none b=none:=rfl
@[simp] theorem cat_none' (a:Option (List Nat)):cat a none=none:=by cases a <;> rfl
@[simp] theorem cat_some (a b:List Nat):cat (some a) (some b)=some (a++b):=rfl
theorem cat_assoc (a b c:Option (List Nat)):cat (cat a b) c=cat a (cat b c):=by
 cases a <;> cases b <;> cases c <;> simp
theorem cat_nil (a:Option (List Nat)):cat (some []) a=a:=by cases a <;> simp
theorem cat_nil' (a:Option (List Nat)):cat a (some [])=a:=by cases a <;> simp
def mustO (b:Bool):Option (List Nat):=if b then some [] else none
def Kept (B:List Nat) (w1 w2:World):Prop:=w1.heap.size<=w2.heap.size/\∀ b∈B,∀ (o:Nat) (x:Value),w1.cell? ⟨b,o,none⟩=some x->w2.cell? ⟨b,o,none⟩=some x
structure Run (w0 w:World) (p:Nat) (v0:Value) (l0:List Nat) (b0:Bool) (br br':Int) (B:List Nat) (o:Option (List Nat)) (n:Nat) (w':World):Prop where
 ex:∃ q v l bad,WAt w0 w' p q v l bad br'/\WMod p v0 v w w'/\Res b0 l0 o n l bad/\(∀ b∈B,b≠p/\b∉fp v/\b<w'.heap.size)/\w.heap.size<=w'.heap.size
section
variable {w0 w w':World} {p:Nat} {q v v0:Value} {l l0:List Nat} {bad b0:Bool} {br br':Int} {B:List Nat} {o o2:Option (List Nat)} {n n2:Nat}
theorem Run.start (h:WAt w0 w p q v l bad br):Run w0 w p v l bad br br [] (some []) 0 w :=
 ⟨q,v,l,bad,h,WMod.refl _ _ _,⟨by omega,fun h=>h,fun h=>⟨h,fun x hx=>by cases hx;simp⟩⟩,by simp,Nat.le_refl _⟩
theorem Run.base (H:Run w0 w p v0 l0 b0 br br' B o n w'):Mod [] w0 w':=by
 obtain ⟨q,v,l,bad,h,-⟩:=H.ex
 exact h.base
theorem Run.new {w2:World} (H:Run w0 w p v0 l0 b0 br br' B o n w') (m:Mod [] w' w2):Run w0 w p v0 l0 b0 br br' B o n w2:=by
 obtain ⟨q,v,l,bad,h,hm,hr,hB,hs⟩:=H.ex
 have:=m.size
 exact ⟨q,v,l,bad,h.new m,hm.trans (WMod.of m),hr,fun b hb=>⟨(hB b hb).1,(hB b hb).2.1,by have:=(hB b hb).2.2;omega⟩,by omega⟩
theorem Run.fresh {w2:World} (H:Run w0 w p v0 l0 b0 br br' B o n w') (m:Mod [] w' w2) (hs:w'.heap.size<w2.heap.size):Run w0 w p v0 l0 b0 br br' (w'.heap.size :: B) o n w2:=by
 obtain ⟨q,v,l,bad,h,hm,hr,hB,hz⟩:=(H.new m).ex
 obtain ⟨q',v',l',bad',h',hm',hr',hB',hz'⟩:=H.ex
 refine ⟨q',v',l',bad',h'.new m,hm'.trans (WMod.of m),hr',fun b hb=>?_,by omega⟩
 rcases List.mem_cons.1 hb with rfl | hb
 ·exact ⟨by have:=h'.wr.lt;omega,fun hk=>by have:=fp_lt h'.wr.row _ hk;omega,hs⟩
 ·exact ⟨(hB' b hb).1,(hB' b hb).2.1,by have:=(hB' b hb).2.2;omega⟩
theorem Run.less {B':List Nat} (H:Run w0 w p v0 l0 b0 br br' B o n w') (h:∀ b∈B',b∈B):Run w0 w p v0 l0 b0 br br' B' o n w':=by
 obtain ⟨q,v,l,bad,h1,hm,hr,hB,hz⟩:=H.ex
 exact ⟨q,v,l,bad,h1,hm,hr,fun b hb=>hB b (h b hb),hz⟩
theorem Run.of {o':Option (List Nat)} {n':Nat} (H:Run w0 w p v0 l0 b0 br br' B o n w') (ho:o=o') (hn:n<=n'):Run w0 w p v0 l0 b0 br br' B o' n' w':=by
 obtain ⟨q,v,l,bad,h1,hm,hr,hB⟩:=H.ex
 exact ⟨q,v,l,bad,h1,hm,hr.of ho hn,hB⟩
theorem Run.done (H:Run w0 w p v0 l0 b0 br br B o n w'):WRes p v0 l0 b0 br o n w (.returned (.tuple #[])) w':=by
 obtain ⟨q,v,l,bad,h1,hm,hr,-⟩:=H.ex
 exact ⟨rfl,q,v,l,bad,h1.wr,hm,hr⟩
theorem Kept.cell {w1 w2:World} (h:Kept B w1 w2) {b k:Nat} {x:Value} (hc:w1.cell? ⟨b,k,none⟩=some x) (hb:b∈B):w2.cell? ⟨b,k,none⟩=some x:=h.2 b hb k x hc
theorem Kept.trans {w1 w2 w3:World} (h:Kept B w1 w2) (g:Kept B w2 w3):Kept B w1 w3:=⟨Nat.le_trans h.1 g.1,fun b hb k x hx=>g.2 b hb k x (h.2 b hb k x hx)⟩
theorem Kept.of {w1 w2:World} (h:Mod [] w1 w2):Kept B w1 w2:=⟨h.size,fun b hb k x hx=>h.cell hx (by simp)⟩
theorem Kept.refl (w:World):Kept B w w:=⟨Nat.le_refl _,fun b hb k x hx=>hx⟩
/-- what a sub-call leaves -/
def RunTo (w0 w:World) (p:Nat) (v0:Value) (l0:List Nat) (b0:Bool) (br br':Int) (B:List Nat) (o:Option (List Nat)) (n:Nat) (w':World) (e:Ending) (w2:World):Prop :=
 e=.returned (.tuple #[])/\Run w0 w p v0 l0 b0 br br' B o n w2/\Kept B w' w2
theorem Run.call {f:FuncId} {args:Array Value} {wa:World} (H:Run w0 w p v0 l0 b0 br br' B o n w') (hsz:w'.heap.size<=wa.heap.size)
  (C:∀ q v l bad,WAt w0 w' p q v l bad br'->l.length<=l0.length+n->Calls Tryz.prog f args wa (WRes p v l bad br' o2 n2 w')) :
  Calls Tryz.prog f args wa (RunTo w0 w p v0 l0 b0 br br' B (cat o o2) (n+n2) w'):=by
 obtain ⟨q,v,l,bad,h,hm,hr,hB,hz⟩:=H.ex
 refine (C q v l bad h hr.1).mono ?_
 rintro e w2 ⟨rfl,q2,v2,l2,bad2,h2,m2,r2⟩
 have hs:=m2.size
 exact ⟨rfl,⟨q2,v2,l2,bad2,h.step h2 m2,hm.trans m2,hr.seq r2,fun b hb=>⟨(hB b hb).1,m2.beside (hB b hb).2.2 (hB b hb).2.1,by have:=(hB b hb).2.2;omega⟩,by omega⟩,
  hs,fun b hb k x hx=>m2.cell hx (hB b hb).1 (hB b hb).2.1⟩
theorem Run.must (H:Run w0 w p v0 l0 b0 br br' B o n w') (b:Bool) :
  Calls Tryz.prog 23 #[.pointer (some ⟨p,0,none⟩),.bool b] w' (RunTo w0 w p v0 l0 b0 br br' B (cat o (mustO b)) n w') :=
 H.call (n2:=0) (Nat.le_refl _) (fun q v l bad h hl=>(must_anyP p q v l bad br' b w' h.wr).mono (by
  rintro e w2 ⟨rfl,q2,v2,h2,m2⟩
  refine ⟨rfl,q2,v2,l,_,h2,m2,by omega,fun hb=>by rw [hb];rfl,fun hb=>?_⟩
  subst hb
  cases b
  ·exact ⟨rfl,fun x hx=>by cases hx⟩
  ·exact ⟨rfl,fun x hx=>by cases hx;simp⟩))
theorem Run.put (H:Run w0 w p v0 l0 b0 br br' B o n w') (ss:List ByteArray) {g m:Nat} {T:TypeId} (hg:w'.heap.size=g) (hm:ss.length=m) (h1000:ss.length<=1000) (hlen:l0.length+n+(ss.flatMap Cod.str).length<=140737488355328) :
  Calls Tryz.prog 20 #[.pointer (some ⟨p,0,none⟩),.slice (some ⟨g,0,none⟩) m m] (w'.alloc (Obj.cells (ss.map Value.string).toArray T)) (RunTo w0 w p v0 l0 b0 br br' B (cat o (some (ss.flatMap Cod.str))) (n+(ss.flatMap Cod.str).length) w') :=
 H.call (by simp) (fun q v l bad h hl=>(putS h ss hg hm h1000 (by omega)).mono (by
  rintro e w2 ⟨rfl,q2,v2,h2,m2⟩
  exact ⟨rfl,q2,v2,_,_,h2,m2,Res.put l bad _⟩))
theorem Run.value (H:Run w0 w p v0 l0 b0 br br' B o n w') (x:Va.Val) (hx:x.Ok) (hG:GlobV w0) (hlen:l0.length+n<=140737488354000) :
  Calls Tryz.prog 25 #[.pointer (some ⟨p,0,none⟩),.agg (valV x)] w' (RunTo w0 w p v0 l0 b0 br br' B (cat o (if Va.may x=true then some (Va.text x) else none)) (n+258) w') :=
 H.call (Nat.le_refl _) (fun q v l bad h hl=>(wvalue_any p q v l bad br' x hx w' h.wr (hG.past h.base (by simp)) (by omega)).mono (by
  rintro e w2 ⟨rfl,q2,v2,h2,m2⟩
  refine ⟨rfl,q2,v2,_,_,h2,m2,?_⟩
  by_cases hm:Va.may x=true
  ·rw [if_pos hm,if_pos hm,hm]
   have:(bad || !true)=bad:=by simp
   rw [this]
   exact (Res.put l bad _).of rfl ((Va.rguess_text hx.byte hm).2.1)
  ·rw [if_neg hm,if_neg hm]
   have:Va.may x=false:=by simpa using hm
   rw [this,List.append_nil]
   refine ⟨by omega,fun _=>by simp,fun _=>⟨by simp,fun y hy=>by cases hy⟩⟩))
theorem Run.expr (H:Run w0 w p v0 l0 b0 br br' B o n w') (e:Pr.Ex) (u:Value) (hE:EOk w0 e u) (hG:GlobV w0) (hlen:l0.length+n+exWt e<=140737488000000) :
  Calls Tryz.prog 14 #[.pointer (some ⟨p,0,none⟩),.agg (exV e u),.int .i64 16] w' (RunTo w0 w p v0 l0 b0 br br' B (cat o (Pr.pE 17 e)) (n+exWt e) w') :=
 H.call (Nat.le_refl _) (fun q v l bad h hl=>(expr_all w0 17 (by omega)).1 e u p q v l bad br' w' h hE hG (by omega))
/-- bad is said -/
theorem Run.setBad (H:Run w0 w p v0 l0 b0 br br' B o n w') (o':Option (List Nat)) (ho:o'=none\/b0=true) :
  Run w0 w p v0 l0 b0 br br' B o' n (w'.setCell ⟨p,2,none⟩ (.bool true))/\Kept B w' (w'.setCell ⟨p,2,none⟩ (.bool true)):=by
 obtain ⟨q,v,l,bad,h,hm,hr,hB,hz⟩:=H.ex
 obtain ⟨h2,m2⟩:=h.wr.setBad
 have hs:=m2.size
 exact ⟨⟨q,v,l,true,h.step h2 m2,hm.trans m2,res_bad hr.1 (fun hb=>by rcases ho with h | h;exact h;rw [h] at hb;cases hb),fun b hb=>⟨(hB b hb).1,m2.beside (hB b hb).2.2 (hB b hb).2.1,by have:=(hB b hb).2.2;omega⟩,by omega⟩,
  hs,fun b hb k x hx=>m2.cell hx (hB b hb).1 (hB b hb).2.1⟩
theorem Run.cells (H:Run w0 w p v0 l0 b0 br br' B o n w'):∃ q v bad,w'.cell? ⟨p,0,none⟩=some q/\w'.cell? ⟨p,1,none⟩=some v/\w'.cell? ⟨p,2,none⟩=some (.bool bad)/\w'.cell? ⟨p,3,none⟩=some (.int .i64 br')/\(∀ j,w'.frozen? ⟨p,j,none⟩=false)/\(b0=false->bad=o.isNone)/\(b0=true->bad=true):=by
 obtain ⟨q,v,l,bad,h,hm,hr,hB,hz⟩:=H.ex
 obtain ⟨c0,c1,c2,c3,fz⟩:=h.wr.cells
 exact ⟨q,v,bad,c0,c1,c2,c3,fz,fun hb=>(hr.2.2 hb).1,hr.2.1⟩
end
theorem seqO_none_take {α:Type} (f:α->Option (List Nat)) (l:List α) (i:Nat) (h:Pr.seqO ((l.take i).map f)=none):Pr.seqO (l.map f)=none:=by
 rw [<-List.take_append_drop i l,List.map_append,Pr.seqO_app,h]
def comO {α:Type} (f:α->Option (List Nat)) (l:List α):Option (List Nat):=(Pr.seqO (l.map f)).map Pr.commas
theorem inter_snoc (s:List Nat):∀ (ls:List (List Nat)) (t:List Nat),ls≠[]->s.intercalate (ls++[t])=s.intercalate ls++(s++t)
 | [],_,h=>absurd rfl h
 | [a],t,_=>by simp [List.intercalate,List.intersperse]
 | a :: b :: r,t,_=>by
  have:=inter_snoc s (b :: r) t (by simp)
  simp only [List.intercalate,List.cons_append,List.intersperse_cons_cons,List.flatten_cons] at this ⊢
  rw [this]
  simp
theorem seqO_len {α:Type}:∀ (l:List (Option α)) (r:List α),Pr.seqO l=some r->r.length=l.length
 | [],r,h=>by cases h;rfl
 | o :: l,r,h=>by
  simp only [Pr.seqO] at h
  cases o with
  | none=>cases h
  | some a =>
   cases hs:Pr.seqO l with
   | none=>rw [hs] at h;cases h
   | some x =>
    rw [hs] at h
    cases h
    simp [seqO_len l x hs]
theorem comO_snoc {α:Type} (f:α->Option (List Nat)) (l:List α) (t:α):comO f (l++[t])=cat (cat (comO f l) (some (if l.length=0 then [] else [44,32]))) (f t):=by
 unfold comO
 rw [List.map_append,List.map_cons,List.map_nil,Pr.seqO_snoc]
 cases hs:Pr.seqO (l.map f) with
 | none=>simp
 | some x =>
  have hl:=seqO_len _ _ hs
  rw [List.length_map] at hl
  cases f t with
  | none=>simp
  | some y =>
   simp only [Option.map_some,cat_some,Option.some.injEq]
   by_cases h0:l.length=0
   ·have:x=[]:=List.length_eq_zero_iff.1 (by omega)
    subst this
    rw [if_pos h0]
    simp [Pr.commas,List.intercalate,List.intersperse]
   ·rw [if_neg h0]
    have hx:x≠[]:=fun e=>by rw [e] at hl;simp at hl;omega
    unfold Pr.commas
    rw [inter_snoc _ _ _ hx]
    simp
open Go.RowKit
set_option linter.unusedVariables false
set_option linter.unusedSimpArgs false
set_option maxRecDepth 100000
structure TmAt (w:World) (b o:Nat) (t:Pr.Term):Prop where
 c0:w.cell? ⟨b,o,none⟩=some (.int .i64 t.k)
 c1:w.cell? ⟨b,o+1,none⟩=some (.string t.v)
 c2:w.cell? ⟨b,o+2,none⟩=some (.int .i64 t.x.k)
 c3:w.cell? ⟨b,o+3,none⟩=some (.int .i64 t.x.n)
 c4:w.cell? ⟨b,o+4,none⟩=some (.string (Lx.ofS t.x.s))
theorem TmAt.past {w w':World} {b o:Nat} {t:Pr.Term} (h:TmAt w b o t) (m:Mod [] w w'):TmAt w' b o t :=
 ⟨m.cell h.c0 (by simp),m.cell h.c1 (by simp),m.cell h.c2 (by simp),m.cell h.c3 (by simp),m.cell h.c4 (by simp)⟩
inductive TOk (w:World):List Pr.Term->Value->Prop
 | nil {a:Option Addr} {c:Nat}:TOk w [] (.slice a 0 c)
 | row {ts:List Pr.Term} {b off c:Nat} (h1:∀ i (h:i<ts.length),TmAt w b (off+i * 5) ts[i]) (h2:∀ i (h:i<ts.length),ts[i].x.Ok):TOk w ts (.slice (some ⟨b,off,none⟩) ts.length c)
theorem TOk.lit {w:World} {ts:List Pr.Term} {u:Value} (h:TOk w ts u):∃ a c,u=.slice a ts.length c:=by
 cases h with
 | nil=>exact ⟨_,_,rfl⟩
 | row h1 h2=>exact ⟨_,_,rfl⟩
theorem TOk.past {w w':World} {ts:List Pr.Term} {u:Value} (h:TOk w ts u) (m:Mod [] w w'):TOk w' ts u:=by
 cases h with
 | nil=>exact .nil
 | row h1 h2=>exact .row (fun i h=>(h1 i h).past m) h2
theorem TOk.at {w:World} {ts:List Pr.Term} {a:Option Addr} {c:Nat} (h:TOk w ts (.slice a ts.length c)) (i:Nat) (hi:i<ts.length):∃ b off,a=some ⟨b,off,none⟩/\TmAt w b (off+i * 5) ts[i]/\ts[i].x.Ok:=by
 generalize hu:Value.slice a ts.length c=u at h
 cases h with
 | nil=>simp at hi
 | row h1 h2 =>
  simp only [Value.slice.injEq] at hu
  exact ⟨_,_,hu.1,h1 i hi,h2 i hi⟩
theorem tsWt_take (ts:List Pr.Term) (i:Nat) (h:i<ts.length):tsWt (ts.take (i+1))=tsWt (ts.take i)+(ts[i].v.size+300):=by
 unfold tsWt
 rw [List.take_succ_eq_append_getElem h,List.map_append,List.sum_append]
 simp
theorem tsWt_le (ts:List Pr.Term) (i:Nat):tsWt (ts.take i)<=tsWt ts:=by
 unfold tsWt
 conv=>rhs;rw [<-List.take_append_drop i ts,List.map_append,List.sum_append]
 omega
theorem tsWt_len (ts:List Pr.Term):ts.length<=tsWt ts:=by
 unfold tsWt
 induction ts with
 | nil=>simp
 | cons a r ih=>rw [List.map_cons,List.sum_cons,List.length_cons];omega
def headO (r:ByteArray):Option (List Nat):=if Va.name (Cod.str r)=true then some (Cod.str r++[40]) else none
theorem pA_eq (a:Pr.Atom):Pr.pA a=cat (cat (headO a.rel) (comO Pr.pT a.terms)) (some [41]):=by
 unfold Pr.pA headO comO
 by_cases h:Va.name (Cod.str a.rel)=true
 ·rw [if_pos h,if_pos h]
  cases Pr.seqO (a.terms.map Pr.pT) <;> simp
 ·rw [if_neg h,if_neg h];rfl
theorem pT_var {t:Pr.Term} (h:t.k=1):Pr.pT t=cat (mustO (Va.variable_ (Cod.str t.v) && decide (t.x=Va.zero))) (some (Cod.str t.v)):=by
 unfold Pr.pT mustO
 rw [if_pos h]
 by_cases h1:Va.variable_ (Cod.str t.v)=true <;> by_cases h2:t.x=Va.zero <;> simp [h1,h2]
theorem pT_val {t:Pr.Term} (h:t.k=2):Pr.pT t=cat (mustO (decide (t.v.size=0))) (if Va.may t.x=true then some (Va.text t.x) else none):=by
 unfold Pr.pT mustO
 rw [if_neg (by omega),if_pos h]
 by_cases h1:t.v.size=0 <;> by_cases h2:Va.may t.x=true <;> simp [h1,h2]
theorem pT_any {t:Pr.Term} (h:t.k=3):Pr.pT t=cat (mustO (decide (t.v.size=0) && decide (t.x=Va.zero))) (some [95]):=by
 unfold Pr.pT mustO
 rw [if_neg (by omega),if_neg (by omega),if_pos h]
 by_cases h1:t.v.size=0 <;> by_cases h2:t.x=Va.zero <;> simp [h1,h2]
theorem pT_other {t:Pr.Term} (h1:t.k≠1) (h2:t.k≠2) (h3:t.k≠3):Pr.pT t=none:=by
 unfold Pr.pT
 rw [if_neg h1,if_neg h2,if_neg h3]
theorem fl_len (ss:List ByteArray):(ss.flatMap Cod.str).length=(ss.map ByteArray.size).sum:=by
 induction ss with
 | nil=>rfl
 | cons a r ih=>rw [List.flatMap_cons,List.length_append,ih,Cod.str_len,List.map_cons,List.sum_cons]
set_option maxHeartbeats 4000000 in
theorem atom_anyP (w0:World) (a:Pr.Atom) (tu:Value) (p:Nat) (q v:Value) (l:List Nat) (bad:Bool) (br:Int) (w:World) (h:WAt w0 w p q v l bad br) (hT:TOk w0 a.terms tu) (hG:GlobV w0) (hlen:l.length+aWt a<=140737488000000) :
  Calls Tryz.prog 22 #[.pointer (some ⟨p,0,none⟩),.agg #[.string a.rel,tu]] w (WRes p v l bad br (Pr.pA a) (aWt a) w):=by
 rw [pA_eq]
 obtain ⟨rel,ts⟩:=a
 obtain ⟨ad,c,rfl⟩:=hT.lit
 have hTL:=tsWt_len ts
 have hW:aWt ⟨rel,ts⟩=rel.size+300+tsWt ts:=rfl
 have MA:=Hxq ((Mod.refl [] w).alloc (Obj.cells #[.string rel,.slice ad ts.length c] 33))
 have RA:=Hxq ((Run.start h).fresh MA.out (by simp))
 have hcell:=heap_alloc_new w (Obj.cells #[.string rel,.slice ad ts.length c] 33)
 have XA:Hid ((w.alloc (Obj.cells #[.string rel,.slice ad ts.length c] 33)).cell? ⟨w.heap.size,0,none⟩=some (.string rel)/\(w.alloc (Obj.cells #[.string rel,.slice ad ts.length c] 33)).cell? ⟨w.heap.size,1,none⟩=some (.slice ad ts.length c)):=Lib.hid ⟨by simp only [World.cell?,hcell];rfl,by simp only [World.cell?,hcell];rfl⟩
 have HN:=Hxq (fun w=>Name_any rel (by omega) w)
 have HT:=Lib.hid hT
 have HG:=Lib.hid hG
 clear hcell h hT hG
 go_enter Tryz.func22,Tryz.ntmps22
 go_upto_region 1 with fail
 generalize w.alloc (Obj.cells #[Value.string rel,Value.slice ad ts.length c] 33)=wA at *
 obtain ⟨x0,x1⟩:=XA.out
 go_wp2_with fail
 refine (HN.out _).mono ?_
 rintro e1 w1 ⟨rfl,m1⟩
 have R1:=Hxq (RA.out.new m1)
 have y0:=m1.cell x0 (by simp);have y1:=m1.cell x1 (by simp)
 clear x0 x1 m1
 go_wp2_with fail
 refine (R1.out.must (Va.name (Cod.str rel))).mono ?_
 rintro e2 w2 ⟨rfl,r2,k2⟩
 have R2:=Lib.hid r2
 have x0:=k2.cell y0 (by simp);have x1:=k2.cell y1 (by simp)
 clear y0 y1 k2 r2
 go_wp2_with fail
 refine (R2.out.put [rel,{ data:=#[40] }] rfl rfl (by simp) (by rw [fl_len];show _+(rel.size+(1+0))<=_;omega)).mono ?_
 rintro e3 w3 ⟨rfl,r3,k3⟩
 have R3:=Hxq (r3.of (o':=headO rel) (n':=rel.size+1) (by
  unfold headO mustO
  rw [cat_nil]
  by_cases hn:Va.name (Cod.str rel)=true
  ·rw [if_pos hn,if_pos hn]
   simp only [List.flatMap_cons,List.flatMap_nil,List.append_nil,cat_some]
   rfl
  ·rw [if_neg hn,if_neg hn];rfl) (by rw [fl_len];show _+(rel.size+(1+0))<=_;omega))
 have y0:=k3.cell x0 (by simp);have y1:=k3.cell x1 (by simp)
 clear x0 x1 k3 r3
 go_wp2_with fail
 have R3:=Hxq (R3.out.less (B':=[]) (by simp))
 clear y0 y1
 go_loopw [19] (fun iv wr=>∃ k:Nat,k<=ts.length/\iv=.int .i64 (k:Nat)/\Run w0 w p v l bad br br [] (cat (headO rel) (comO Pr.pT (ts.take k))) (rel.size+1+tsWt (ts.take k)) wr) (fun iv _=>ts.length - (intOf iv).toNat)
 case atStart=>exact ⟨0,Nat.zero_le _,rfl,R3.out.of (by simp [comO,Pr.seqO,Pr.commas,List.intercalate,List.intersperse,cat_nil']) (by simp)⟩
 case round =>
  obtain ⟨k,hk,rfl,hr⟩:=hrel
  by_cases hlt:k<ts.length
  ·have hkI:(k:Int)<(ts.length:Int):=by omega
   have hk0:(0:Int)<=(k:Int):=by omega
   obtain ⟨b,off,rfl,ha,hok⟩:=HT.out.at k hlt
   have HSN:=Hxq (comO_snoc Pr.pT (ts.take k) ts[k])
   have hsn:=tsWt_take ts k hlt
   have hle:=tsWt_le ts (k+1)
   rw [<-List.take_succ_eq_append_getElem hlt,List.length_take,Nat.min_eq_left hk] at HSN
   generalize ts[k]=t at *
   obtain ⟨tk,tv,tx⟩:=t
   obtain ⟨a0,a1,a2,a3,a4⟩:=ha.past hr.base
   dsimp only at a0 a1 a2 a3 a4 hsn
   have MT:=Hxq ((Mod.refl [] wr).alloc (Obj.cells #[.int .i64 tk,.string tv,.int .i64 tx.k,.int .i64 tx.n,.string (Lx.ofS tx.s)] 111))
   have RT:=Hxq (hr.fresh MT.out (by simp))
   have hcell:=heap_alloc_new wr (Obj.cells #[.int .i64 tk,.string tv,.int .i64 tx.k,.int .i64 tx.n,.string (Lx.ofS tx.s)] 111)
   have XT:Hid (TmAt (wr.alloc (Obj.cells #[.int .i64 tk,.string tv,.int .i64 tx.k,.int .i64 tx.n,.string (Lx.ofS tx.s)] 111)) wr.heap.size 0 ⟨tk,tv,tx⟩):=Hxq (by constructor <;> simp only [World.cell?,hcell] <;> rfl)
   have HOK:=Lib.hid hok
   clear hcell hr ha hok
   go_upto_region 6 with fail
   generalize wr.alloc (Obj.cells #[Value.int IntKind.i64 tk,Value.string tv,Value.int IntKind.i64 tx.k,Value.int IntKind.i64 tx.n,Value.string (Lx.ofS tx.s)] 111)=wT at *
   clear a0 a1 a2 a3 a4
   go_upto_if 25 with fail
   go_cut [] (fun wx=>Run w0 w p v l bad br br [wr.heap.size] (cat (cat (headO rel) (comO Pr.pT (ts.take k))) (some (if k=0 then [] else [44,32]))) (rel.size+1+tsWt (ts.take k)+2) wx/\Kept [wr.heap.size] wT wx)
   case first =>
    by_cases k0:k=0
    ·subst k0
     go_wp2_with fail
     go_meet
     exact ⟨RT.out.of (by simp [cat_nil']) (by omega),Kept.refl _⟩
    ·have kB:decide (0<k)=true:=by rw [decide_eq_true_eq];omega
     have K0:=Lib.hid k0
     clear k0 kB
     go_wp2_with fail
     all_goals first
      | (exfalso;have:=K0.out;omega)
      | skip
     refine (RT.out.put [{ data:=#[44,32] }] rfl rfl (by simp) (by rw [fl_len];show _+(2+0)<=_;omega)).mono ?_
     rintro e4 w4 ⟨rfl,r4,k4⟩
     have R4:=Lib.hid r4
     have K4:=Lib.hid k4
     clear r4 k4
     go_wp2_with fail
     go_meet
     exact ⟨R4.out.of (by rw [if_neg K0.out];rfl) (by rw [fl_len];exact Nat.le_of_eq rfl),K4.out⟩
   case rest =>
    obtain ⟨r4,k4⟩:=hcut
    have RT:=Lib.hid r4
    obtain ⟨y0,y1,y2,y3,y4⟩:=XT.out
    dsimp only at y0 y1 y2 y3 y4
    have x0:=k4.cell y0 (by simp);have x1:=k4.cell y1 (by simp);have x2:=k4.cell y2 (by simp);have x3:=k4.cell y3 (by simp);have x4:=k4.cell y4 (by simp)
    simp only [Nat.zero_add] at x0 x1 x2 x3 x4
    clear r4 k4 y0 y1 y2 y3 y4 XT MT
    have hem:tv.toList.isEmpty=decide (tv.size=0):=toList_isEmpty tv
    have hve:=fun W=>veq_run tx W
    by_cases t1:tk=1
    ·have hpt:=pT_var (t:=⟨tk,tv,tx⟩) t1
     subst t1
     dsimp only at hpt
     have hv:=fun w=>Variable_any tv (by omega) w
     generalize Va.variable_ (Cod.str tv)=bv at *
     generalize decide (tx=Va.zero)=bx at *
     have HPT:=Lib.hid hpt
     have HV:=Lib.hid hv
     clear hpt hv hem
     cases bv
     all_goals (
      go_wp2_with fail
      refine (HV.out _).mono ?_
      rintro e5 w5 ⟨rfl,m5⟩
      have R5:=Hxq (RT.out.new m5)
      have y1:=m5.cell x1 (by simp);have y2:=m5.cell x2 (by simp);have y3:=m5.cell x3 (by simp);have y4:=m5.cell x4 (by simp)
      clear m5 x0 x1 x2 x3 x4
      go_wp2_with fail
      refine (R5.out.must _).mono ?_
      rintro e6 w6 ⟨rfl,r6,k6⟩
      have R6:=Lib.hid r6
      have x1:=k6.cell y1 (by simp)
      clear k6 r6 y1 y2 y3 y4
      go_wp2_with fail
      refine (R6.out.put [tv] rfl rfl (by simp) (by rw [fl_len];show _+(tv.size+0)<=_;omega)).mono ?_
      rintro e7 w7 ⟨rfl,r7,k7⟩
      have R7:=Lib.hid r7
      clear k7 r7
      go_wp2_with fail
      go_roundw
      case rel=>exact ⟨k+1,by omega,by go_num,(R7.out.less (by simp)).of (by rw [HSN.out,HPT.out];simp only [cat_assoc,List.flatMap_cons,List.flatMap_nil,List.append_nil,Bool.true_and,Bool.false_and]) (by rw [fl_len];show _+(tv.size+0)<=_;omega)⟩
      case measure=>simp [intOf];omega)
    ·by_cases t2:tk=2
     ·have hpt:=pT_val (t:=⟨tk,tv,tx⟩) t2
      subst t2
      dsimp only at hpt
      generalize decide (tv.size=0)=be at *
      have HPT:=Lib.hid hpt
      clear hpt hve t1
      skip
      all_goals (
       go_wp2_with fail
       refine (RT.out.must _).mono ?_
       rintro e6 w6 ⟨rfl,r6,k6⟩
       have R6:=Lib.hid r6
       have y2:=k6.cell x2 (by simp);have y3:=k6.cell x3 (by simp);have y4:=k6.cell x4 (by simp)
       clear k6 r6 x0 x1 x2 x3 x4
       go_wp2_with fail
       refine (R6.out.value tx HOK.out HG.out (by omega)).mono ?_
       rintro e7 w7 ⟨rfl,r7,k7⟩
       have R7:=Lib.hid r7
       clear k7 r7
       go_wp2_with fail
       go_roundw
       case rel=>exact ⟨k+1,by omega,by go_num,(R7.out.less (by simp)).of (by rw [HSN.out,HPT.out];simp only [cat_assoc,List.flatMap_cons,List.flatMap_nil,List.append_nil,Bool.true_and,Bool.false_and]) (by omega)⟩
       case measure=>simp [intOf];omega)
     ·by_cases t3:tk=3
      ·have hpt:=pT_any (t:=⟨tk,tv,tx⟩) t3
       subst t3
       dsimp only at hpt
       generalize decide (tv.size=0)=be at *
       generalize decide (tx=Va.zero)=bx at *
       have HPT:=Lib.hid hpt
       clear hpt t1 t2
       cases be
       all_goals (
        go_wp2_with fail
        refine (RT.out.must _).mono ?_
        rintro e6 w6 ⟨rfl,r6,k6⟩
        have R6:=Lib.hid r6
        clear k6 r6 x0 x1 x2 x3 x4
        go_wp2_with fail
        refine (R6.out.put [{ data:=#[95] }] rfl rfl (by simp) (by rw [fl_len];show _+(1+0)<=_;omega)).mono ?_
        rintro e7 w7 ⟨rfl,r7,k7⟩
        have R7:=Lib.hid r7
        clear k7 r7
        go_wp2_with fail
        go_roundw
        case rel=>exact ⟨k+1,by omega,by go_num,(R7.out.less (by simp)).of (by rw [HSN.out,HPT.out];simp only [cat_assoc,List.flatMap_cons,List.flatMap_nil,List.append_nil,Bool.true_and,Bool.false_and];rfl) (by rw [fl_len];show _+(1+0)<=_;omega)⟩
        case measure=>simp [intOf];omega)
      ·have HPT:=Hxq (pT_other (t:=⟨tk,tv,tx⟩) t1 t2 t3)
       have t1B:(tk == 1)=false:=by rw [beq_eq_false_iff_ne];exact t1
       have t2B:(tk == 2)=false:=by rw [beq_eq_false_iff_ne];exact t2
       have t3B:(tk == 3)=false:=by rw [beq_eq_false_iff_ne];exact t3
       obtain ⟨q',v',bad',c0,c1,c2,c3,fz,-,-⟩:=RT.out.cells
       have HS:=Hxq (RT.out.setBad (cat (headO rel) (comO Pr.pT (ts.take (k+1)))) (.inl (by rw [HSN.out,HPT.out];simp)))
       clear t1 t2 t3 hve hem
       go_wp2_with fail
       go_roundw
       case rel=>exact ⟨k+1,by omega,by go_num,(HS.out.1.less (by simp)).of rfl (by omega)⟩
       case measure=>simp [intOf];omega
  ·obtain rfl:k=ts.length:=by omega
   have hkI:¬ (ts.length:Int)<(ts.length:Int):=by omega
   rw [List.take_length] at hr
   have HR:=Lib.hid hr
   clear hr
   go_wp2_with fail
   refine (HR.out.put [{ data:=#[41] }] rfl rfl (by simp) (by rw [fl_len];show _+(1+0)<=_;omega)).mono ?_
   rintro e7 w7 ⟨rfl,r7,k7⟩
   have R7:=Lib.hid r7
   clear k7 r7
   go_wp2_with fail
   go_end0
   exact (R7.out.of rfl (by rw [fl_len];show _+(1+0)<=_;omega)).done
def cmpO (op:Int):Option (List Nat):=if 1<=op/\op<=6 then some (Pr.cmp op) else none
def ofO (fn:Int) (of:Pr.Ex):Option (List Nat):=if fn=1 then mustO (Pr.noExpr of) else cat (Pr.pE 17 of) (some [32,58,32])
def pG (b:Nat) (fn:Int) (av:ByteArray) (of:Pr.Ex) (body:List Pr.Li):Option (List Nat) :=
 match b with
 | 0=>none
 | c+1 =>
  if 1<=fn/\fn<=4/\body.length≠0 then
   cat (cat (cat (cat (mustO (Va.variable_ (Cod.str av))) (some (Cod.str av++([32,61,32]++(Pr.word fn++[32,123,32]))))) (ofO fn of)) (comO (Pr.pL c) body)) (some [32,125])
  else none
def tailO (b:Nat) (k:Int) (a:Pr.Atom) (op:Int) (l r:Pr.Ex) (fn:Int) (av:ByteArray) (of:Pr.Ex) (body:List Pr.Li):Option (List Nat) :=
 if k=1 then Pr.pA a
 else if k=2 then cat (some [110,111,116,32]) (Pr.pA a)
 else if k=3 then cat (cat (Pr.pE 17 l) (cmpO op)) (Pr.pE 17 r)
 else if k=4 then pG b fn av of body
 else none
theorem pL_eq (b:Nat) (k:Int) (a:Pr.Atom) (op:Int) (l r:Pr.Ex) (fn:Int) (av:ByteArray) (of:Pr.Ex) (body:List Pr.Li) (ln cl:Int) :
  Pr.pL b (.mk k a op l r fn av of body ln cl)=cat (mustO (Pr.lacks k a op l r fn av of body.length)) (tailO b k a op l r fn av of body):=by
 rw [Pr.pL.eq_def]
 simp only
 unfold mustO tailO
 by_cases hl:Pr.lacks k a op l r fn av of body.length=true
 ·rw [if_pos hl,if_pos hl,cat_nil]
  by_cases k1:k=1
  ·rw [if_pos k1,if_pos k1]
  rw [if_neg k1,if_neg k1]
  by_cases k2:k=2
  ·rw [if_pos k2,if_pos k2];cases Pr.pA a <;> rfl
  rw [if_neg k2,if_neg k2]
  by_cases k3:k=3
  ·rw [if_pos k3,if_pos k3]
   unfold cmpO
   by_cases ho:1<=op/\op<=6
   ·rw [if_pos ho,if_pos ho]
    cases Pr.pE 17 l <;> cases Pr.pE 17 r <;> simp
   ·rw [if_neg ho,if_neg ho];simp
  rw [if_neg k3,if_neg k3]
  by_cases k4:k=4
  ·rw [if_pos k4,if_pos k4]
   unfold pG
   cases b with
   | zero=>rfl
   | succ c =>
    simp only
    by_cases hg:1<=fn/\fn<=4/\body.length≠0
    ·rw [if_pos hg]
     by_cases hv:Va.variable_ (Cod.str av)=true
     ·rw [if_pos ⟨hg.1,hg.2.1,hg.2.2,hv⟩]
      unfold ofO comO mustO
      rw [if_pos hv,cat_nil]
      by_cases hf:fn=1
      ·rw [if_pos hf,if_pos hf]
       by_cases hn:Pr.noExpr of=true
       ·rw [if_pos hn]
        cases Pr.seqO (body.map (Pr.pL c)) <;> simp
       ·rw [if_neg hn];simp
      ·rw [if_neg hf,if_neg hf]
       cases Pr.pE 17 of <;> cases Pr.seqO (body.map (Pr.pL c)) <;> simp
     ·rw [if_neg (fun h=>hv h.2.2.2)]
      unfold mustO
      rw [if_neg hv];simp
    ·rw [if_neg hg,if_neg (fun h=>hg ⟨h.1,h.2.1,h.2.2.1⟩)]
  rw [if_neg k4,if_neg k4]
 ·rw [if_neg hl,if_neg hl];rfl
section
variable {w0 w w':World} {p:Nat} {q v v0:Value} {l l0:List Nat} {bad b0:Bool} {br br':Int} {B:List Nat} {o o2:Option (List Nat)} {n n2:Nat}
/-- bad was said before: any text is as good -/
theorem Run.early {o':Option (List Nat)} {n':Nat} (H:Run w0 w p v0 l0 b0 br br' B o n w') (ho:b0=true\/o=o') (hn:n<=n'):Run w0 w p v0 l0 b0 br br' B o' n' w':=by
 obtain ⟨q,v,l,bad,h1,hm,hr,hB⟩:=H.ex
 refine ⟨q,v,l,bad,h1,hm,?_,hB⟩
 rcases ho with hb | rfl
 ·exact ⟨by have:=hr.1;omega,hr.2.1,fun h=>by rw [hb] at h;cases h⟩
 ·exact hr.of rfl hn
theorem WrIs.setBr {w:World} {p:Nat} {q v:Value} {l:List Nat} {bad:Bool} {br:Int} (h:WrIs w p q v l bad br) (br2:Int) :
  WrIs (w.setCell ⟨p,3,none⟩ (.int .i64 br2)) p q v l bad br2/\WMod p v v w (w.setCell ⟨p,3,none⟩ (.int .i64 br2)):=by
 refine ⟨⟨?_,h.adr,ownsRow_setCell_other h.row (fun e=>h.out (ownBlock_fp _ _ e)) _,h.out,h.byte,h.nil_⟩,Mod.setCell (p:=⟨p,3,none⟩) (Mod.refl _ _) (.inl List.mem_cons_self) _,fun k hk=>.inl hk⟩
 have:=setCell_at h.at_ 3 (.int .i64 br2)
 simpa using this
/-- braces turn -/
theorem Run.setBr (H:Run w0 w p v0 l0 b0 br br' B o n w') (br2:Int) :
  Run w0 w p v0 l0 b0 br br2 B o n (w'.setCell ⟨p,3,none⟩ (.int .i64 br2))/\Kept B w' (w'.setCell ⟨p,3,none⟩ (.int .i64 br2)):=by
 obtain ⟨q,v,l,bad,h,hm,hr,hB,hz⟩:=H.ex
 obtain ⟨h2,m2⟩:=h.wr.setBr br2
 have hs:=m2.size
 exact ⟨⟨q,v,l,bad,h.step h2 m2,hm.trans m2,hr,fun b hb=>⟨(hB b hb).1,m2.beside (hB b hb).2.2 (hB b hb).2.1,by have:=(hB b hb).2.2;omega⟩,by omega⟩,
  hs,fun b hb k x hx=>m2.cell hx (hB b hb).1 (hB b hb).2.1⟩
theorem Run.atom (H:Run w0 w p v0 l0 b0 br br' B o n w') (a:Pr.Atom) (tu:Value) (hT:TOk w0 a.terms tu) (hG:GlobV w0) (hlen:l0.length+n+aWt a<=140737488000000) :
  Calls Tryz.prog 22 #[.pointer (some ⟨p,0,none⟩),.agg #[.string a.rel,tu]] w' (RunTo w0 w p v0 l0 b0 br br' B (cat o (Pr.pA a)) (n+aWt a) w') :=
 H.call (Nat.le_refl _) (fun q v l bad h hl=>atom_anyP w0 a tu p q v l bad br' w' h hT hG (by omega))
end
end Go.Proofs.YtbfaclljbbfknaaGreatDoor
