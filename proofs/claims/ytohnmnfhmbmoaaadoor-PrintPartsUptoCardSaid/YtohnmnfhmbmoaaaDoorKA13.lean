/- THE TEXTS MERGED: PrProg2 PrAwP PrAwake VaRef. -/
import Derived.Test.YtohnmnfhmbmoaaaDoorKA12
namespace Go.Proofs.YtohnmnfhmbmoaaaDoor
open Go.RowKit
set_option linter.unusedVariables false
set_option linter.unusedSimpArgs false
set_option maxRecDepth 100000
theorem sum_take {α:Type} (f:α->Nat) (l:List α) (i:Nat) (h:i<l.length):((l.take (i+1)).map f).sum=((l.take i).map f).sum+f l[i]:=by
 rw [List.take_succ_eq_append_getElem h,List.map_append,List.sum_append]
 simp
theorem sum_take_le {α:Type} (f:α->Nat) (l:List α) (i:Nat):((l.take i).map f).sum<=(l.map f).sum:=by
 conv=>rhs;rw [<-List.take_append_drop i l,List.map_append,List.sum_append]
 omega
theorem sum_len {α:Type} (f:α->Nat) (hf:∀ x,1<=f x) (l:List α):l.length<=(l.map f).sum:=by
 induction l with
 | nil=>simp
 | cons a r ih=>rw [List.map_cons,List.sum_cons,List.length_cons];have:=hf a;omega
def linO {α:Type} (f:α->Option (List Nat)) (l:List α):Option (List Nat):=(Pr.seqO (l.map f)).map Pr.lines
theorem linO_snoc {α:Type} (f:α->Option (List Nat)) (l:List α) (t:α):linO f (l++[t])=cat (cat (linO f l) (f t)) (some [46,10]):=by
 unfold linO
 rw [List.map_append,List.map_cons,List.map_nil,Pr.seqO_snoc]
 cases Pr.seqO (l.map f) <;> cases f t <;> simp [Pr.lines]
theorem pP_eq (p:Pr.Prog):Pr.pP p=cat (linO Pr.pD p.rels) (linO Pr.pR p.rules):=by
 unfold Pr.pP linO
 cases Pr.seqO (p.rels.map Pr.pD) <;> cases Pr.seqO (p.rules.map Pr.pR) <;> simp
inductive DsOk (w:World):List Pr.Rel->Value->Prop
 | nil {a:Option Addr} {c:Nat}:DsOk w [] (.slice a 0 c)
 | row {ds:List Pr.Rel} {b off c:Nat} {us:Nat->Value} (h1:∀ i (h:i<ds.length),CellsAt w b (off+i * 4) (deV ds[i] (us i))) (h2:∀ i (h:i<ds.length),YOk w ds[i].types (us i)):DsOk w ds (.slice (some ⟨b,off,none⟩) ds.length c)
theorem DsOk.lit {w:World} {ds:List Pr.Rel} {u:Value} (h:DsOk w ds u):∃ a c,u=.slice a ds.length c:=by
 cases h with
 | nil=>exact ⟨_,_,rfl⟩
 | row h1 h2=>exact ⟨_,_,rfl⟩
theorem DsOk.past {w w':World} {ds:List Pr.Rel} {u:Value} (h:DsOk w ds u) (m:Mod [] w w'):DsOk w' ds u:=by
 cases h with
 | nil=>exact .nil
 | row h1 h2=>exact .row (fun i h=>(h1 i h).past m) (fun i h=>(h2 i h).past m)
theorem DsOk.at {w:World} {ds:List Pr.Rel} {a:Option Addr} {c:Nat} (h:DsOk w ds (.slice a ds.length c)) (i:Nat) (hi:i<ds.length):∃ b off u,a=some ⟨b,off,none⟩/\CellsAt w b (off+i * 4) (deV ds[i] u)/\YOk w ds[i].types u:=by
 generalize hu:Value.slice a ds.length c=u at h
 cases h with
 | nil=>simp at hi
 | row h1 h2 =>
  simp only [Value.slice.injEq] at hu
  exact ⟨_,_,_,hu.1,h1 i hi,h2 i hi⟩
inductive RsOk (w:World):List Pr.Rul->Value->Prop
 | nil {a:Option Addr} {c:Nat}:RsOk w [] (.slice a 0 c)
 | row {rs:List Pr.Rul} {b off c:Nat} {ts us:Nat->Value} (h1:∀ i (h:i<rs.length),CellsAt w b (off+i * 5) (ruV rs[i] (ts i) (us i))) (h2:∀ i (h:i<rs.length),TOk w rs[i].head.terms (ts i)) (h3:∀ i (h:i<rs.length),BOk w rs[i].body (us i)):RsOk w rs (.slice (some ⟨b,off,none⟩) rs.length c)
theorem RsOk.lit {w:World} {rs:List Pr.Rul} {u:Value} (h:RsOk w rs u):∃ a c,u=.slice a rs.length c:=by
 cases h with
 | nil=>exact ⟨_,_,rfl⟩
 | row h1 h2 h3=>exact ⟨_,_,rfl⟩
theorem RsOk.past {w w':World} {rs:List Pr.Rul} {u:Value} (h:RsOk w rs u) (m:Mod [] w w'):RsOk w' rs u:=by
 cases h with
 | nil=>exact .nil
 | row h1 h2 h3=>exact .row (fun i h=>(h1 i h).past m) (fun i h=>(h2 i h).past m) (fun i h=>(h3 i h).past m)
theorem RsOk.at {w:World} {rs:List Pr.Rul} {a:Option Addr} {c:Nat} (h:RsOk w rs (.slice a rs.length c)) (i:Nat) (hi:i<rs.length):∃ b off t u,a=some ⟨b,off,none⟩/\CellsAt w b (off+i * 5) (ruV rs[i] t u)/\TOk w rs[i].head.terms t/\BOk w rs[i].body u:=by
 generalize hu:Value.slice a rs.length c=u at h
 cases h with
 | nil=>simp at hi
 | row h1 h2 h3 =>
  simp only [Value.slice.injEq] at hu
  exact ⟨_,_,_,_,hu.1,h1 i hi,h2 i hi,h3 i hi⟩
set_option maxHeartbeats 8000000 in
theorem Program_any (P:Pr.Prog) (du ru:Value) (w:World) (hD:DsOk w P.rels du) (hR:RsOk w P.rules ru) (hG:GlobV w) (hlen:dsWt P.rels+rsWt P.rules<=140737488000000) :
  Calls Tryd.prog 21 #[.agg #[du,ru]] w (Told (Pr.pP P) (dsWt P.rels+rsWt P.rules) w):=by
 rw [pP_eq]
 obtain ⟨ds,rs⟩:=P
 dsimp only at *
 obtain ⟨da,dc,rfl⟩:=hD.lit
 obtain ⟨ra,rc,rfl⟩:=hR.lit
 have hdl:ds.length<=dsWt ds:=sum_len _ (fun x=>by omega) ds
 have hrl:rs.length<=rsWt rs:=sum_len _ (fun x=>by omega) rs
 have HD:=Lib.hid hD
 have HR:=Lib.hid hR
 have HG:=Lib.hid hG
 clear hD hR hG
 have MA:=Hxq ((Mod.refl [] w).alloc (Obj.cells #[.slice da ds.length dc,.slice ra rs.length rc] 62))
 have XA:Hid (CellsAt _ w.heap.size 0 #[.slice da ds.length dc,.slice ra rs.length rc]):=Hxq (CellsAt.of (heap_alloc_new w (Obj.cells #[.slice da ds.length dc,.slice ra rs.length rc] 62)))
 have hsz:Hid (w.heap.size<(w.alloc (Obj.cells #[.slice da ds.length dc,.slice ra rs.length rc] 62)).heap.size):=Hxq (by simp)
 go_enter Tryd.func21,Tryd.ntmps21
 go_upto_region 1 with fail
 generalize w.alloc (Obj.cells #[Value.slice da ds.length dc,Value.slice ra rs.length rc] 62)=wA at *
 have R0:=Hxq (Run.startB (B:=[w.heap.size]) (fresh_at MA.out) (by simp;have:=hsz.out;omega))
 have X0:=Hxq (XA.out.past ((Mod.refl [] wA).alloc (Obj.cells #[.pointer none,.slice none 0 0,.bool false,.int .i64 0] 69)))
 go_upto_region 2 with fail
 generalize wA.alloc (Obj.cells #[Value.pointer none,Value.slice none 0 0,Value.bool false,Value.int IntKind.i64 0] 69)=wS at *
 have x0:wS.cell? ⟨w.heap.size,0,none⟩=some (.slice da ds.length dc):=X0.out.zero 0 _ rfl
 clear XA MA hsz
 go_wp2_with fail
 clear x0
 go_loopw [14] (fun iv wr=>∃ k:Nat,k<=ds.length/\iv=.int .i64 (k:Nat)/\Run w wS wA.heap.size (.slice none 0 0) [] false 0 0 [w.heap.size] (linO Pr.pD (ds.take k)) (dsWt (ds.take k)) wr/\CellsAt wr w.heap.size 0 #[.slice da ds.length dc,.slice ra rs.length rc]) (fun iv _=>ds.length - (intOf iv).toNat)
 case atStart=>exact ⟨0,Nat.zero_le _,rfl,R0.out.of (by simp [linO,Pr.seqO,Pr.lines]) (by simp),X0.out⟩
 case round =>
  obtain ⟨k,hk,rfl,hr,hx⟩:=hrel
  clear R0 X0
  by_cases hlt:k<ds.length
  ·have hkI:(k:Int)<(ds.length:Int):=by omega
   have hk0:(0:Int)<=(k:Int):=by omega
   obtain ⟨b,off,yu,rfl,ha,hy⟩:=HD.out.at k hlt
   have HSN:=Hxq (linO_snoc Pr.pD (ds.take k) ds[k])
   have hsn:=sum_take (fun x=>dWt x+2) ds k hlt
   have hle:=sum_take_le (fun x=>dWt x+2) ds (k+1)
   have e1:dsWt (ds.take (k+1))=((ds.take (k+1)).map fun x=>dWt x+2).sum:=rfl
   have e2:dsWt (ds.take k)=((ds.take k).map fun x=>dWt x+2).sum:=rfl
   have e3:dsWt ds=(ds.map fun x=>dWt x+2).sum:=rfl
   rw [<-e1,<-e2] at hsn
   rw [<-e1,<-e3] at hle
   clear e1 e2 e3
   rw [<-List.take_succ_eq_append_getElem hlt] at HSN
   generalize ds[k]=t at *
   have HC:=Hxq (fun p q v l bad w' (h:WAt w w' p q v l bad 0) hl=>relation_anyP w t yu p q v l bad w' h hy hl)
   obtain ⟨nm,ty,ln,cl⟩:=t
   obtain ⟨ya,yc,rfl⟩:=hy.lit
   clear hy
   unfold deV at *
   dsimp only at *
   have hc:=ha.past hr.base
   have a0:wr.cell? ⟨b,off+k * 4,none⟩=some (.string nm):=hc 0 _ rfl
   have a1:wr.cell? ⟨b,off+k * 4+1,none⟩=some (.slice ya ty.length yc):=hc 1 _ rfl
   have a2:wr.cell? ⟨b,off+k * 4+2,none⟩=some (.int .i64 ln):=hc 2 _ rfl
   have a3:wr.cell? ⟨b,off+k * 4+3,none⟩=some (.int .i64 cl):=hc 3 _ rfl
   have MT:=Hxq ((Mod.refl [] wr).alloc (Obj.cells #[.string nm,.slice ya ty.length yc,.int .i64 ln,.int .i64 cl] 58))
   have RT:=Hxq (hr.fresh MT.out (by simp))
   have XT:Hid (CellsAt _ wr.heap.size 0 #[.string nm,.slice ya ty.length yc,.int .i64 ln,.int .i64 cl]):=Hxq (CellsAt.of (heap_alloc_new wr (Obj.cells #[.string nm,.slice ya ty.length yc,.int .i64 ln,.int .i64 cl] 58)))
   have XP:=Hxq (hx.past MT.out)
   clear hr ha hc hx
   go_upto_region 5 with fail
   generalize wr.alloc (Obj.cells #[Value.string nm,Value.slice ya ty.length yc,Value.int IntKind.i64 ln,Value.int IntKind.i64 cl] 58)=wT at *
   clear a0 a1 a2 a3 MT
   have b0:wT.cell? ⟨wr.heap.size,0,none⟩=some (.string nm):=XT.out.zero 0 _ rfl
   have b1:wT.cell? ⟨wr.heap.size,1,none⟩=some (.slice ya ty.length yc):=XT.out.zero 1 _ rfl
   have b2:wT.cell? ⟨wr.heap.size,2,none⟩=some (.int .i64 ln):=XT.out.zero 2 _ rfl
   have b3:wT.cell? ⟨wr.heap.size,3,none⟩=some (.int .i64 cl):=XT.out.zero 3 _ rfl
   go_wp2_with fail
   refine (RT.out.call (Nat.le_refl _) (fun q v l' bad h hl=>HC.out _ q v l' bad _ h (by rw [List.length_nil] at hl;omega))).mono ?_
   rintro e4 w4 ⟨rfl,r4,k4⟩
   have R4:=Lib.hid r4
   have XP4:=Hxq (XP.out.kept k4 (by simp))
   clear r4 k4 b0 b1 b2 b3 XT XP
   go_wp2_with fail
   refine (R4.out.put [{ data:=#[46,10] }] rfl rfl (by simp) (by rw [fl_len,List.length_nil];show _+(2+0)<=_;omega)).mono ?_
   rintro e5 w5 ⟨rfl,r5,k5⟩
   have R5:=Lib.hid r5
   have XP5:=Hxq (XP4.out.kept k5 (by simp))
   clear r5 k5
   go_wp2_with fail
   go_roundw
   case rel=>exact ⟨k+1,by omega,by go_num,(R5.out.less (by simp)).of (by rw [HSN.out];rfl) (by rw [fl_len];show _+(2+0)<=_;omega),XP5.out⟩
   case measure=>simp [intOf];omega
  ·obtain rfl:k=ds.length:=by omega
   have hkI:¬ (ds.length:Int)<(ds.length:Int):=by omega
   rw [List.take_length] at hr
   have R0:=Lib.hid hr
   have X0:=Lib.hid hx
   have x1:wr.cell? ⟨w.heap.size,1,none⟩=some (.slice ra rs.length rc):=hx.zero 1 _ rfl
   clear hr hx hk
   go_wp2_with fail
   clear x1
   go_loopw [28] (fun iv wr=>∃ k:Nat,k<=rs.length/\iv=.int .i64 (k:Nat)/\Run w wS wA.heap.size (.slice none 0 0) [] false 0 0 [] (cat (linO Pr.pD ds) (linO Pr.pR (rs.take k))) (dsWt ds+rsWt (rs.take k)) wr) (fun iv _=>rs.length - (intOf iv).toNat)
   case atStart=>exact ⟨0,Nat.zero_le _,rfl,(R0.out.less (by simp)).of (by simp [linO,Pr.seqO,Pr.lines,cat_nil']) (by simp)⟩
   case round =>
    obtain ⟨k,hk,rfl,hr⟩:=hrel
    clear R0 X0
    by_cases hlt:k<rs.length
    ·have hkI2:(k:Int)<(rs.length:Int):=by omega
     have hk0:(0:Int)<=(k:Int):=by omega
     obtain ⟨b,off,tu,bu,rfl,ha,ht,hb⟩:=HR.out.at k hlt
     have HSN:=Hxq (linO_snoc Pr.pR (rs.take k) rs[k])
     have hsn:=sum_take (fun x=>rWt x+2) rs k hlt
     have hle:=sum_take_le (fun x=>rWt x+2) rs (k+1)
     have e1:rsWt (rs.take (k+1))=((rs.take (k+1)).map fun x=>rWt x+2).sum:=rfl
     have e2:rsWt (rs.take k)=((rs.take k).map fun x=>rWt x+2).sum:=rfl
     have e3:rsWt rs=(rs.map fun x=>rWt x+2).sum:=rfl
     rw [<-e1,<-e2] at hsn
     rw [<-e1,<-e3] at hle
     clear e1 e2 e3
     rw [<-List.take_succ_eq_append_getElem hlt] at HSN
     generalize rs[k]=t at *
     have HC:=Hxq (fun p q v l bad w' (h:WAt w w' p q v l bad 0) hl=>rule_anyP w t tu bu p q v l bad w' h ht hb HG.out hl)
     obtain ⟨⟨nm,ty⟩,bd,ln,cl⟩:=t
     obtain ⟨ya,yc,rfl⟩:=ht.lit
     obtain ⟨za,zc,rfl⟩:=hb.lit
     clear ht hb
     unfold ruV at *
     dsimp only at *
     have hc:=ha.past hr.base
     have a0:wr.cell? ⟨b,off+k * 5,none⟩=some (.string nm):=hc 0 _ rfl
     have a1:wr.cell? ⟨b,off+k * 5+1,none⟩=some (.slice ya ty.length yc):=hc 1 _ rfl
     have a2:wr.cell? ⟨b,off+k * 5+2,none⟩=some (.slice za bd.length zc):=hc 2 _ rfl
     have a3:wr.cell? ⟨b,off+k * 5+3,none⟩=some (.int .i64 ln):=hc 3 _ rfl
     have a4:wr.cell? ⟨b,off+k * 5+4,none⟩=some (.int .i64 cl):=hc 4 _ rfl
     have MT:=Hxq ((Mod.refl [] wr).alloc (Obj.cells #[.string nm,.slice ya ty.length yc,.slice za bd.length zc,.int .i64 ln,.int .i64 cl] 29))
     have RT:=Hxq (hr.fresh MT.out (by simp))
     have XT:Hid (CellsAt _ wr.heap.size 0 #[.string nm,.slice ya ty.length yc,.slice za bd.length zc,.int .i64 ln,.int .i64 cl]):=Hxq (CellsAt.of (heap_alloc_new wr (Obj.cells #[.string nm,.slice ya ty.length yc,.slice za bd.length zc,.int .i64 ln,.int .i64 cl] 29)))
     clear hr ha hc
     go_upto_region 11 with fail
     generalize wr.alloc (Obj.cells #[Value.string nm,Value.slice ya ty.length yc,Value.slice za bd.length zc,Value.int IntKind.i64 ln,Value.int IntKind.i64 cl] 29)=wT at *
     clear a0 a1 a2 a3 a4 MT
     have b0:wT.cell? ⟨wr.heap.size,0,none⟩=some (.string nm):=XT.out.zero 0 _ rfl
     have b1:wT.cell? ⟨wr.heap.size,1,none⟩=some (.slice ya ty.length yc):=XT.out.zero 1 _ rfl
     have b2:wT.cell? ⟨wr.heap.size,2,none⟩=some (.slice za bd.length zc):=XT.out.zero 2 _ rfl
     have b3:wT.cell? ⟨wr.heap.size,3,none⟩=some (.int .i64 ln):=XT.out.zero 3 _ rfl
     have b4:wT.cell? ⟨wr.heap.size,4,none⟩=some (.int .i64 cl):=XT.out.zero 4 _ rfl
     go_wp2_with fail
     refine (RT.out.call (Nat.le_refl _) (fun q v l' bad h hl=>HC.out _ q v l' bad _ h (by rw [List.length_nil] at hl;omega))).mono ?_
     rintro e4 w4 ⟨rfl,r4,k4⟩
     have R4:=Lib.hid r4
     clear r4 k4 b0 b1 b2 b3 b4 XT
     go_wp2_with fail
     refine (R4.out.put [{ data:=#[46,10] }] rfl rfl (by simp) (by rw [fl_len,List.length_nil];show _+(2+0)<=_;omega)).mono ?_
     rintro e5 w5 ⟨rfl,r5,k5⟩
     have R5:=Lib.hid r5
     clear r5 k5
     go_wp2_with fail
     go_roundw
     case rel=>exact ⟨k+1,by omega,by go_num,(R5.out.less (by simp)).of (by rw [HSN.out];simp only [cat_assoc];rfl) (by rw [fl_len];show _+(2+0)<=_;omega)⟩
     case measure=>simp [intOf];omega
    ·obtain rfl:k=rs.length:=by omega
     have hkI2:¬ (rs.length:Int)<(rs.length:Int):=by omega
     rw [List.take_length] at hr
     have R1:=Lib.hid hr
     clear hr
     go_wp2_with fail
     refine (R1.out.told hlen).mono ?_
     rintro e2 w2 ⟨rfl,m2,hl2⟩
     have M2:=Lib.hid m2
     have HL2:=Lib.hid hl2
     clear m2 hl2
     generalize cat (linO Pr.pD ds) (linO Pr.pR rs)=o at *
     cases o
     all_goals (
      unfold tv
      go_wp2_with fail
      go_ret2
      exact ⟨rfl,M2.out,HL2.out⟩)
def xOne:Pr.Ex:=.mk 2 ⟨#[]⟩ ⟨1,1,[]⟩ 0 []
def xName (s:ByteArray):Pr.Ex:=.mk 1 s Va.zero 0 []
def xNeg:Pr.Ex:=.mk 4 ⟨#[]⟩ Va.zero 6 [xOne]
def xAdd:Pr.Ex:=.mk 4 ⟨#[]⟩ Va.zero 1 [xName { data:=#[89] },xOne]
def xMul:Pr.Ex:=.mk 4 ⟨#[]⟩ Va.zero 3 [xName { data:=#[88] },xAdd]
def xProg:Pr.Prog:=⟨[⟨{ data:=#[112] },[1,2],0,0⟩],[⟨⟨{ data:=#[113] },[]⟩,[],0,0⟩]⟩
def xSum:Pr.Atom:=⟨{ data:=#[115,117,109] },[]⟩
theorem text_one:Va.text ⟨1,1,[]⟩=[49]:=by
 unfold Va.text Va.itoa Lib.itoa
 rw [if_pos rfl,if_neg (by decide)]
 simp [Lib.decDigits]
theorem pE_one (k:Nat):Pr.pE (k+1) xOne=some [49]:=by
 rw [Pr.pE_val _ _ rfl]
 show (if _ then some (Va.text ⟨1,1,[]⟩) else none)=_
 rw [text_one]
 decide
theorem pE_X (k:Nat) (s:ByteArray) (h:Va.variable_ (Cod.str s)=true):Pr.pE (k+1) (xName s)=some (Cod.str s):=by
 rw [Pr.pE_var _ _ rfl]
 exact if_pos ⟨h,rfl,rfl,rfl⟩
theorem pE_neg:Pr.pE 17 xNeg=some [45,40,49,41]:=by
 rw [Pr.pE_op _ _ rfl]
 show (if _ then Pr.pO 16 xNeg else none)=_
 rw [if_pos (by decide)]
 have:Pr.pO 16 xNeg=(if Pr.binds xOne<3\/(xOne.k=2/\xOne.x.k=1/\0<xOne.x.n) then (Pr.pE 15 xOne).map (fun t=>40 :: (t++[41])) else Pr.pE 16 xOne).map
     (fun t=>45 :: ((if xOne.k=2/\xOne.x.k=1/\xOne.x.n=0 then [45] else [])++t)):=by rfl
 rw [this,if_pos (show Pr.binds xOne<3\/(xOne.k=2/\xOne.x.k=1/\0<xOne.x.n) by decide),if_neg (show ¬ (xOne.k=2/\xOne.x.k=1/\xOne.x.n=0) by decide),pE_one]
 rfl
theorem pE_add (k:Nat):Pr.pE (k+2) xAdd=some [89,32,43,32,49]:=by
 rw [Pr.pE_op _ _ rfl,if_pos (by decide)]
 show Pr.pO (k+1) (.mk 4 _ _ 1 [xName { data:=#[89] },xOne])=_
 rw [pO_two _ _ _ _ _ _ _ (by decide),if_neg (by decide),if_neg (by decide),pE_X _ _ (by decide),pE_one]
 rfl
theorem pE_mul:Pr.pE 17 xMul=some [88,32,42,32,40,89,32,43,32,49,41]:=by
 rw [Pr.pE_op _ _ rfl,if_pos (by decide)]
 show Pr.pO (15+1) (.mk 4 _ _ 3 [xName { data:=#[88] },xAdd])=_
 rw [pO_two _ _ _ _ _ _ _ (by decide),if_neg (by decide),if_pos (by decide),pE_X _ _ (by decide),pE_add]
 rfl
theorem pP_prog:Pr.pP xProg=some [114,101,108,97,116,105,111,110,32,112,40,110,117,109,44,32,115,121,109,41,46,10,113,40,41,46,10]:=by
 have h1:Pr.pD ⟨{ data:=#[112] },[1,2],0,0⟩=some [114,101,108,97,116,105,111,110,32,112,40,110,117,109,44,32,115,121,109,41]:=by decide
 have h2:Pr.pA ⟨{ data:=#[113] },[]⟩=some [113,40,41]:=by decide
 have h3:Pr.pR ⟨⟨{ data:=#[113] },[]⟩,[],0,0⟩=some [113,40,41]:=by rw [pR_eq];rw [h2];rfl
 unfold Pr.pP xProg
 simp only [List.map_cons,List.map_nil,h1,h3]
 rfl
theorem pA_sum:Pr.pA xSum=none:=by decide
theorem one_any (w:World):Calls Tryd.prog 19 #[] w fun e w'=>e=.returned (.agg (exV xOne (.slice none 0 0)))/\Mod [] w w':=by
 go_enter Tryd.func19,Tryd.ntmps19
 go_wp2_with fail
 refine bodyPost_ret (results_cell_row rfl _ _ _ _ _ _ _ rfl (heap_alloc_new w _) Tryd.underlying34 rfl (by kernel_rfl)) rfl ⟨rfl,(Mod.refl [] w).alloc _⟩
theorem xname_any (s:ByteArray) (w:World):Calls Tryd.prog 20 #[.string s] w fun e w'=>e=.returned (.agg (exV (xName s) (.slice none 0 0)))/\Mod [] w w':=by
 go_enter Tryd.func20,Tryd.ntmps20
 go_wp2_with fail
 refine bodyPost_ret (results_cell_row rfl _ _ _ _ _ _ _ rfl (heap_alloc_new w _) Tryd.underlying34 rfl (by kernel_rfl)) rfl ⟨rfl,(Mod.refl [] w).alloc _⟩
theorem zOk:Va.zero.Ok:=by constructor <;> decide
theorem oneOk:(⟨1,1,[]⟩:Va.Val).Ok:=by constructor <;> decide
theorem eok_one (w:World):EOk w xOne (.slice none 0 0):=.nil oneOk
theorem eok_name (w:World) (s:ByteArray):EOk w (xName s) (.slice none 0 0):=.nil zOk
/-- two expressions in a row -/
theorem eok_two (w:World) (k:Int) (v:ByteArray) (x:Va.Val) (op:Int) (a b:Pr.Ex) (u u':Value) (hx:x.Ok) (ha:EOk w a u) (hb:EOk w b u') :
  EOk (w.alloc (Obj.cells (exV a u++exV b u') 34)) (.mk k v x op [a,b]) (.slice (some ⟨w.heap.size,0,none⟩) 2 2):=by
 have hcell:=heap_alloc_new w (Obj.cells (exV a u++exV b u') 34)
 have m:=(Mod.refl [] w).alloc (Obj.cells (exV a u++exV b u') 34)
 refine .row (us:=fun i=>if i=0 then u else u') hx (fun i hi=>?_) (fun i hi=>?_)
 ·have:i=0\/i=1:=by simp at hi;omega
  rcases this with rfl | rfl <;> constructor <;> simp only [World.cell?,hcell] <;> rfl
 ·have:i=0\/i=1:=by simp at hi;omega
  rcases this with rfl | rfl
  ·exact ha.past m
  ·exact hb.past m
theorem eok_onerow (w:World) (k:Int) (v:ByteArray) (x:Va.Val) (op:Int) (a:Pr.Ex) (u:Value) (hx:x.Ok) (ha:EOk w a u) :
  EOk (w.alloc (Obj.cells (exV a u) 34)) (.mk k v x op [a]) (.slice (some ⟨w.heap.size,0,none⟩) 1 1):=by
 have hcell:=heap_alloc_new w (Obj.cells (exV a u) 34)
 have m:=(Mod.refl [] w).alloc (Obj.cells (exV a u) 34)
 refine .row (us:=fun i=>u) hx (fun i hi=>?_) (fun i hi=>?_)
 ·have:i=0:=by simp at hi;omega
  subst this
  constructor <;> simp only [World.cell?,hcell] <;> rfl
 ·have:i=0:=by simp at hi;omega
  subst this
  exact ha.past m
theorem ofS1:Lx.ofS [45,40,49,41]={ data:=#[45,40,49,41] }:=by rfl
theorem ofS2:Lx.ofS [88,32,42,32,40,89,32,43,32,49,41]={ data:=#[88,32,42,32,40,89,32,43,32,49,41] }:=by rfl
theorem ofS3:Lx.ofS [114,101,108,97,116,105,111,110,32,112,40,110,117,109,44,32,115,121,109,41,46,10,113,40,41,46,10]={ data:=#[114,101,108,97,116,105,111,110,32,112,40,110,117,109,44,32,115,121,109,41,46,10,113,40,41,46,10] }:=by rfl
theorem wt1:exWt xNeg<=140737488000000:=by
 have:exWt xNeg=600:=by rfl
 omega
theorem wt2:exWt xMul<=140737488000000:=by
 have:exWt xMul=1502:=by rfl
 omega
theorem wt3:dsWt xProg.rels+rsWt xProg.rules<=140737488000000:=by
 have:dsWt xProg.rels+rsWt xProg.rules=366:=by rfl
 omega
theorem wt4:aWt xSum<=140737488000000:=by
 have:aWt xSum=303:=by rfl
 omega
theorem one_is (w:World):Calls Tryd.prog 19 #[] w fun e w'=>e=.returned (.agg #[.int .i64 2,.string ⟨#[]⟩,.int .i64 1,.int .i64 1,.string ⟨#[]⟩,.int .i64 0,.slice none 0 0])/\Mod [] w w':=one_any w
theorem name_is (s:ByteArray) (w:World):Calls Tryd.prog 20 #[.string s] w fun e w'=>e=.returned (.agg #[.int .i64 1,.string s,.int .i64 0,.int .i64 0,.string ⟨#[]⟩,.int .i64 0,.slice none 0 0])/\Mod [] w w':=xname_any s w
theorem dat2 {w:World}:YOk (w.alloc (Obj.cells #[.int .i64 1,.int .i64 2] 3)) [1,2] (.slice (some ⟨w.heap.size,0,none⟩) 2 2):=by
 have hcell:=heap_alloc_new w (Obj.cells #[.int .i64 1,.int .i64 2] 3)
 refine .row (ts:=[1,2]) (fun i hi=>?_)
 have:i=0\/i=1:=by simp at hi;omega
 rcases this with rfl | rfl <;> simp only [World.cell?,hcell] <;> rfl
theorem dat3 {w:World} {u:Value} (h:YOk w [1,2] u):DsOk (w.alloc (Obj.cells #[.string { data:=#[112] },u,.int .i64 0,.int .i64 0] 58)) xProg.rels (.slice (some ⟨w.heap.size,0,none⟩) 1 1):=by
 have hcell:=heap_alloc_new w (Obj.cells #[.string { data:=#[112] },u,.int .i64 0,.int .i64 0] 58)
 refine .row (ds:=xProg.rels) (us:=fun _=>u) (fun i hi=>?_) (fun i hi=>?_)
 ·have:i=0:=by simp [xProg] at hi;omega
  subst this
  exact CellsAt.of hcell
 ·have:i=0:=by simp [xProg] at hi;omega
  subst this
  exact h.past ((Mod.refl [] w).alloc _)
theorem dat4 {w:World}:RsOk (w.alloc (Obj.cells #[.string { data:=#[113] },.slice none 0 0,.slice none 0 0,.int .i64 0,.int .i64 0] 29)) xProg.rules (.slice (some ⟨w.heap.size,0,none⟩) 1 1):=by
 have hcell:=heap_alloc_new w (Obj.cells #[.string { data:=#[113] },.slice none 0 0,.slice none 0 0,.int .i64 0,.int .i64 0] 29)
 refine .row (rs:=xProg.rules) (ts:=fun _=>.slice none 0 0) (us:=fun _=>.slice none 0 0) (fun i hi=>?_) (fun i hi=>?_) (fun i hi=>?_)
 ·have:i=0:=by simp [xProg] at hi;omega
  subst this
  exact CellsAt.of hcell
 ·have:i=0:=by simp [xProg] at hi;omega
  subst this
  exact .nil
 ·have:i=0:=by simp [xProg] at hi;omega
  subst this
  exact .inl ⟨rfl,none,0,rfl⟩
set_option maxHeartbeats 4000000 in
theorem awake_any (w:World) (hG:GlobV w):Calls Tryd.prog 4 #[] w fun e w'=>e=.returned (.bool true)/\Mod [] w w':=by
 have HG:=Lib.hid hG
 clear hG
 have H1:Hid (∀ (u:Value) (w:World),EOk w xNeg u->GlobV w->Calls Tryd.prog 11 #[.agg #[.int .i64 4,.string ⟨#[]⟩,.int .i64 0,.int .i64 0,.string ⟨#[]⟩,.int .i64 6,u]] w (fun e w'=>e=.returned (.tuple #[.string { data:=#[45,40,49,41] },.int .i64 0])/\Mod [] w w')):=Hxq (fun u w hE hG=>by
  have h:=Expr_any xNeg u w hE hG wt1
  rw [pE_neg] at h
  exact h.mono (by rintro e w' ⟨rfl,m,-⟩;exact ⟨by unfold tv;simp only [ofS1],m⟩))
 have H2:Hid (∀ (u:Value) (w:World),EOk w xMul u->GlobV w->Calls Tryd.prog 11 #[.agg #[.int .i64 4,.string ⟨#[]⟩,.int .i64 0,.int .i64 0,.string ⟨#[]⟩,.int .i64 3,u]] w (fun e w'=>e=.returned (.tuple #[.string { data:=#[88,32,42,32,40,89,32,43,32,49,41] },.int .i64 0])/\Mod [] w w')):=Hxq (fun u w hE hG=>by
  have h:=Expr_any xMul u w hE hG wt2
  rw [pE_mul] at h
  exact h.mono (by rintro e w' ⟨rfl,m,-⟩;exact ⟨by unfold tv;simp only [ofS2],m⟩))
 have H3:Hid (∀ (du ru:Value) (w:World),DsOk w xProg.rels du->RsOk w xProg.rules ru->GlobV w->Calls Tryd.prog 21 #[.agg #[du,ru]] w (fun e w'=>e=.returned (.tuple #[.string { data:=#[114,101,108,97,116,105,111,110,32,112,40,110,117,109,44,32,115,121,109,41,46,10,113,40,41,46,10] },.int .i64 0])/\Mod [] w w')):=Hxq (fun du ru w hD hR hG=>by
  have h:=Program_any xProg du ru w hD hR hG wt3
  rw [pP_prog] at h
  exact h.mono (by rintro e w' ⟨rfl,m,-⟩;exact ⟨by unfold tv;simp only [ofS3],m⟩))
 have H4:Hid (∀ (w:World),GlobV w->Calls Tryd.prog 10 #[.agg #[.string { data:=#[115,117,109] },.slice none 0 0]] w (fun e w'=>e=.returned (.tuple #[.string ⟨#[]⟩,.int .i64 50])/\Mod [] w w')):=Hxq (fun w hG=>by
  have h:=Atom_any xSum (.slice none 0 0) w .nil hG wt4
  rw [pA_sum] at h
  exact h.mono (by rintro e w' ⟨rfl,m,-⟩;exact ⟨rfl,m⟩))
 go_enter Tryd.func4,Tryd.ntmps4
 go_wp2_with fail
 refine (one_is _).mono ?_
 rintro e1 w1 ⟨rfl,m1⟩
 have M1:=Hxq (Mod.alloc m1 (Obj.cells #[Value.int IntKind.i64 2,Value.string ⟨#[]⟩,Value.int IntKind.i64 1,Value.int IntKind.i64 1,Value.string ⟨#[]⟩,Value.int IntKind.i64 0,Value.slice none 0 0] 34))
 have E1:Hid (EOk (w1.alloc (Obj.cells #[Value.int IntKind.i64 2,Value.string ⟨#[]⟩,Value.int IntKind.i64 1,Value.int IntKind.i64 1,Value.string ⟨#[]⟩,Value.int IntKind.i64 0,Value.slice none 0 0] 34)) xNeg (.slice (some ⟨w1.heap.size,0,none⟩) 1 1)):=Hxq (eok_onerow w1 4 ⟨#[]⟩ Va.zero 6 xOne (.slice none 0 0) zOk (eok_one _))
 clear m1
 go_wp2_with fail
 refine (H1.out _ _ E1.out (HG.out.past M1.out (by simp))).mono ?_
 rintro e2 w2 ⟨rfl,m2⟩
 have M2:=Hxq (M1.out.trans m2 (by simp))
 clear m2 M1 E1
 go_wp2_with fail
 refine (name_is _ _).mono ?_
 rintro e3 w3 ⟨rfl,m3⟩
 have M3:=Hxq (M2.out.trans m3 (by simp))
 clear m3 M2
 go_wp2_with fail
 refine (name_is _ _).mono ?_
 rintro e4 w4 ⟨rfl,m4⟩
 have M4:=Hxq (M3.out.trans m4 (by simp))
 clear m4 M3
 go_wp2_with fail
 refine (one_is _).mono ?_
 rintro e5 w5 ⟨rfl,m5⟩
 have M5:=Hxq (Mod.alloc (M4.out.trans m5 (by simp)) (Obj.cells #[Value.int IntKind.i64 1,Value.string { data:=#[89] },Value.int IntKind.i64 0,Value.int IntKind.i64 0,Value.string ⟨#[]⟩,Value.int IntKind.i64 0,Value.slice none 0 0,Value.int IntKind.i64 2,Value.string ⟨#[]⟩,Value.int IntKind.i64 1,Value.int IntKind.i64 1,Value.string ⟨#[]⟩,Value.int IntKind.i64 0,Value.slice none 0 0] 34))
 have E5:Hid (EOk (w5.alloc (Obj.cells #[Value.int IntKind.i64 1,Value.string { data:=#[89] },Value.int IntKind.i64 0,Value.int IntKind.i64 0,Value.string ⟨#[]⟩,Value.int IntKind.i64 0,Value.slice none 0 0,Value.int IntKind.i64 2,Value.string ⟨#[]⟩,Value.int IntKind.i64 1,Value.int IntKind.i64 1,Value.string ⟨#[]⟩,Value.int IntKind.i64 0,Value.slice none 0 0] 34)) xAdd (.slice (some ⟨w5.heap.size,0,none⟩) 2 2)):=Hxq (eok_two w5 4 ⟨#[]⟩ Va.zero 1 (xName { data:=#[89] }) xOne (.slice none 0 0) (.slice none 0 0) zOk (eok_name _ _) (eok_one _))
 generalize hw6:w5.alloc (Obj.cells #[Value.int IntKind.i64 1,Value.string { data:=#[89] },Value.int IntKind.i64 0,Value.int IntKind.i64 0,Value.string ⟨#[]⟩,Value.int IntKind.i64 0,Value.slice none 0 0,Value.int IntKind.i64 2,Value.string ⟨#[]⟩,Value.int IntKind.i64 1,Value.int IntKind.i64 1,Value.string ⟨#[]⟩,Value.int IntKind.i64 0,Value.slice none 0 0] 34)=w6 at *
 have M6:=Hxq (Mod.alloc M5.out (Obj.cells #[Value.int IntKind.i64 1,Value.string { data:=#[88] },Value.int IntKind.i64 0,Value.int IntKind.i64 0,Value.string ⟨#[]⟩,Value.int IntKind.i64 0,Value.slice none 0 0,Value.int IntKind.i64 4,Value.string ⟨#[]⟩,Value.int IntKind.i64 0,Value.int IntKind.i64 0,Value.string ⟨#[]⟩,Value.int IntKind.i64 1,Value.slice (some ⟨w5.heap.size,0,none⟩) 2 2] 34))
 have E6:Hid (EOk (w6.alloc (Obj.cells #[Value.int IntKind.i64 1,Value.string { data:=#[88] },Value.int IntKind.i64 0,Value.int IntKind.i64 0,Value.string ⟨#[]⟩,Value.int IntKind.i64 0,Value.slice none 0 0,Value.int IntKind.i64 4,Value.string ⟨#[]⟩,Value.int IntKind.i64 0,Value.int IntKind.i64 0,Value.string ⟨#[]⟩,Value.int IntKind.i64 1,Value.slice (some ⟨w5.heap.size,0,none⟩) 2 2] 34)) xMul (.slice (some ⟨w6.heap.size,0,none⟩) 2 2)):=Hxq (eok_two w6 4 ⟨#[]⟩ Va.zero 3 (xName { data:=#[88] }) xAdd (.slice none 0 0) _ zOk (eok_name _ _) E5.out)
 have hz6:w6.heap.size=w5.heap.size+1:=by rw [<-hw6];simp
 rw [hz6] at E6
 subst hw6
 clear hz6
 clear m5 M4 M5 E5
 go_wp2_with fail
 refine (H2.out _ _ E6.out (HG.out.past M6.out (by simp))).mono ?_
 rintro e7 w7 ⟨rfl,m7⟩
 have M7:=Hxq (M6.out.trans m7 (by simp))
 clear m7 M6 E6
 have Y7:=Hxq (dat2 (w:=w7))
 have M8:=Hxq (Mod.alloc M7.out (Obj.cells #[Value.int IntKind.i64 1,Value.int IntKind.i64 2] 3))
 generalize hw8:w7.alloc (Obj.cells #[Value.int IntKind.i64 1,Value.int IntKind.i64 2] 3)=w8 at *
 have D8:=Hxq (dat3 Y7.out)
 have M9:=Hxq (Mod.alloc M8.out (Obj.cells #[Value.string { data:=#[112] },Value.slice (some ⟨w7.heap.size,0,none⟩) 2 2,Value.int IntKind.i64 0,Value.int IntKind.i64 0] 58))
 generalize hw9:w8.alloc (Obj.cells #[Value.string { data:=#[112] },Value.slice (some ⟨w7.heap.size,0,none⟩) 2 2,Value.int IntKind.i64 0,Value.int IntKind.i64 0] 58)=w9 at *
 have R9:=Hxq (dat4 (w:=w9))
 have D9:=Hxq (D8.out.past ((Mod.refl [] w9).alloc (Obj.cells #[Value.string { data:=#[113] },Value.slice none 0 0,Value.slice none 0 0,Value.int IntKind.i64 0,Value.int IntKind.i64 0] 29)))
 have M10:=Hxq (Mod.alloc M9.out (Obj.cells #[Value.string { data:=#[113] },Value.slice none 0 0,Value.slice none 0 0,Value.int IntKind.i64 0,Value.int IntKind.i64 0] 29))
 have hz8:w8.heap.size=w7.heap.size+1:=by rw [<-hw8];simp
 have hz9:w9.heap.size=w7.heap.size+1+1:=by rw [<-hw9,<-hz8];simp
 rw [hz8] at D9
 rw [hz9] at R9
 clear hz8 hz9
 subst hw9
 subst hw8
 clear Y7 M8 D8 M9 M7
 go_wp2_with fail
 refine (H3.out _ _ _ D9.out R9.out (HG.out.past M10.out (by simp))).mono ?_
 rintro e11 w11 ⟨rfl,m11⟩
 have M11:=Hxq (M10.out.trans m11 (by simp))
 clear m11 M10 D9 R9
 go_wp2_with fail
 refine (H4.out _ (HG.out.past M11.out (by simp))).mono ?_
 rintro e12 w12 ⟨rfl,m12⟩
 have M12:=Hxq (M11.out.trans m12 (by simp))
 clear m12 M11
 go_wp2_with fail
 go_ret
 exact ⟨rfl,M12.out⟩
theorem str_cons {r:ByteArray} (h:0<r.size):∃ c t,Cod.str r=c :: t/\r[0].toNat=c/\c<256:=by
 have hl:=Cod.str_len r
 cases hr:Cod.str r with
 | nil=>rw [hr] at hl;simp at hl;omega
 | cons c t =>
  refine ⟨c,t,rfl,?_,Cod.str_lt r c (by rw [hr];simp)⟩
  have:=Lx.get_str r 0 h
  rw [hr] at this
  exact this.symm
theorem vsmall_any (c:Nat) (b:Bool) (hb:Lx.small c=b) (w:World) :
  Calls Tryd.prog 65 #[.int .u8 (c:Nat)] w fun e w'=>e=.returned (.bool b)/\w=w':=by
 subst hb
 unfold Lx.small
 by_cases h1:(97:Int)<=(c:Int)
 ·go_enter Tryd.func65,Tryd.ntmps65
  go_wp2
  all_goals go_ret
  all_goals exact ⟨ret_bool (by rw [Bool.eq_iff_iff];simp <;> omega),rfl⟩
 ·go_enter Tryd.func65,Tryd.ntmps65
  go_wp2
  all_goals go_ret
  all_goals exact ⟨ret_bool (by rw [Bool.eq_iff_iff];simp <;> omega),rfl⟩
theorem vcapital_any (c:Nat) (b:Bool) (hb:Lx.capital c=b) (w:World) :
  Calls Tryd.prog 73 #[.int .u8 (c:Nat)] w fun e w'=>e=.returned (.bool b)/\w=w':=by
 subst hb
 unfold Lx.capital
 by_cases h1:(65:Int)<=(c:Int)
 ·go_enter Tryd.func73,Tryd.ntmps73
  go_wp2
  all_goals go_ret
  all_goals exact ⟨ret_bool (by rw [Bool.eq_iff_iff];simp <;> omega),rfl⟩
 ·go_enter Tryd.func73,Tryd.ntmps73
  go_wp2
  all_goals go_ret
  all_goals exact ⟨ret_bool (by rw [Bool.eq_iff_iff];simp <;> omega),rfl⟩
theorem vdigit_any (c:Nat) (b:Bool) (hb:Lx.digit c=b) (w:World) :
  Calls Tryd.prog 74 #[.int .u8 (c:Nat)] w fun e w'=>e=.returned (.bool b)/\w=w':=by
 subst hb
 unfold Lx.digit
 by_cases h1:(48:Int)<=(c:Int)
 ·go_enter Tryd.func74,Tryd.ntmps74
  go_wp2
  all_goals go_ret
  all_goals exact ⟨ret_bool (by rw [Bool.eq_iff_iff];simp <;> omega),rfl⟩
 ·go_enter Tryd.func74,Tryd.ntmps74
  go_wp2
  all_goals go_ret
  all_goals exact ⟨ret_bool (by rw [Bool.eq_iff_iff];simp <;> omega),rfl⟩
theorem vReserved_any (s:ByteArray) (w:World) :
  Calls Tryd.prog 66 #[.string s] w fun e w'=>e=.returned (.bool (resW8.contains s.toList))/\w'=w:=by
 go_enter Tryd.func66,Tryd.ntmps66
 go_wp2
 all_goals (first | (exfalso;simp_all;done) | (go_ret;exact ⟨by congr 1;simp_all [resW8],rfl⟩))
/-- is a text 1 to 32 bytes, all behind the first one letters, digits or '_'? -/
def rword (l:List Nat):Bool:=(l.drop 1).all Lx.goes && (decide (1<=l.length) && decide (l.length<=32))
theorem run_allW (p:Nat->Bool):∀ l:List Nat,decide (Lx.run p l=l.length)=l.all p
 | []=>by simp [Lx.run_nil]
 | c :: r=>by
  have ih:=run_allW p r
  rw [Lx.run_cons,List.all_cons]
  by_cases h:p c=true
  ·rw [if_pos h,h,Bool.true_and,<-ih,Bool.eq_iff_iff]
   simp
  ·rw [if_neg h]
   simp [h]
theorem wordB_eq (p:Nat->Bool) (hp:∀ c,p c=true->Lx.goes c=true) (l:List Nat):Va.wordB p l=(rword l && p (l.headD 0)):=by
 unfold Va.wordB rword
 rw [run_allW]
 cases l with
 | nil=>simp
 | cons c r =>
  simp only [List.drop_succ_cons,List.drop_zero,List.headD_cons,List.all_cons]
  by_cases h:p c=true
  ·have:=hp c h
   simp only [h,this,Bool.true_and,Bool.and_true]
   rw [Bool.and_comm (r.all Lx.goes)]
   simp
  ·simp [h]
set_option maxHeartbeats 2000000 in
theorem vword_any (s:ByteArray) (hs:s.size<=9223372036854775806) (w:World) :
  Calls Tryd.prog 64 #[.string s] w fun e w'=>e=.returned (.bool (rword (Cod.str s)))/\w'=w:=by
 have hlen:=Cod.str_len s
 go_enter Tryd.func64,Tryd.ntmps64
 go_wp2_with fail
 go_loopw [3] (fun iv wr=>∃ k:Nat,1<=k/\(k<=s.size\/k=1)/\iv=.int .i64 (k:Nat)/\wr=w/\(((Cod.str s).take k).drop 1).all Lx.goes=true) (fun iv _=>s.size - (intOf iv).toNat)
 case atStart =>
  refine ⟨1,by omega,.inr rfl,rfl,rfl,?_⟩
  rw [List.drop_eq_nil_of_le (by rw [List.length_take];omega)];rfl
 case round =>
  obtain ⟨k,hk1,hk,rfl,rfl,hal⟩:=hrel
  by_cases hlt:k<s.size
  ·have hkI:(k:Int)<(s.size:Int):=by omega
   have hk0:(0:Int)<=(k:Int):=by omega
   have hltl:k<(Cod.str s).length:=by omega
   have hcd:s[k].toNat=(Cod.str s)[k]:=by
    have:=Lx.get_str s k hlt
    rw [<-this,List.getD_eq_getElem?_getD,List.getElem?_eq_getElem hltl];rfl
   have hsn:(((Cod.str s).take (k+1)).drop 1).all Lx.goes=Lx.goes (Cod.str s)[k]:=by
    rw [List.take_succ_eq_append_getElem hltl,List.drop_append_of_le_length (by rw [List.length_take];omega),List.all_append,hal];simp
   have hno:Lx.goes (Cod.str s)[k]=false->rword (Cod.str s)=false:=fun hg=>by
    unfold rword
    have:((Cod.str s).drop 1).all Lx.goes=false:=by
     rw [<-Bool.not_eq_true,List.all_eq_true]
     intro hh
     have hm:(Cod.str s)[k]∈(Cod.str s).drop 1:=by
      rw [List.mem_iff_getElem]
      refine ⟨k - 1,by rw [List.length_drop];omega,?_⟩
      rw [List.getElem_drop]
      congr 1;omega
     have:=hh _ hm
     rw [hg] at this;cases this
    rw [this];rfl
   have hc256:(Cod.str s)[k]<256:=Cod.str_lt s _ (List.getElem_mem _)
   generalize (Cod.str s)[k]=c at *
   have hgo:Lx.goes c=(Lx.small c || (Lx.capital c || (Lx.digit c || c == 95))):=rfl
   have H1:=Hxq (fun w=>vsmall_any c _ rfl w);have H2:=Hxq (fun w=>vcapital_any c _ rfl w);have H3:=Hxq (fun w=>vdigit_any c _ rfl w)
   have HS:=Lib.hid hsn;have HN:=Lib.hid hno
   clear hsn hno hal hltl
   generalize Lx.small c=b1 at *
   generalize Lx.capital c=b2 at *
   generalize Lx.digit c=b3 at *
   by_cases hg:Lx.goes c=true
   ·have HG:=Hxq (HS.out.trans hg)
    rw [hg] at hgo
    have h95:b1=false->b2=false->b3=false->c=95:=fun h1 h2 h3=>by subst h1;subst h2;subst h3;simpa using hgo.symm
    clear hg hgo HS HN
    cases b1
    ·cases b2
     ·cases b3
      ·have hcc:=h95 rfl rfl rfl
       have e95:((c:Int) != 95)=false:=by rw [hcc];rfl
       clear h95 hcc
       go_wp2_with fail
       refine (H1.out _).mono ?_
       rintro e w' ⟨rfl,rfl⟩
       go_wp2_with fail
       refine (H2.out _).mono ?_
       rintro e w' ⟨rfl,rfl⟩
       go_wp2_with fail
       refine (H3.out _).mono ?_
       rintro e w' ⟨rfl,rfl⟩
       go_wp2_with fail
       go_roundw
       case rel=>exact ⟨k+1,by omega,.inl (by omega),by go_num,by trivial,HG.out⟩
       case measure=>simp [intOf];omega
      ·clear h95
       go_wp2_with fail
       refine (H1.out _).mono ?_
       rintro e w' ⟨rfl,rfl⟩
       go_wp2_with fail
       refine (H2.out _).mono ?_
       rintro e w' ⟨rfl,rfl⟩
       go_wp2_with fail
       refine (H3.out _).mono ?_
       rintro e w' ⟨rfl,rfl⟩
       go_wp2_with fail
       go_roundw
       case rel=>exact ⟨k+1,by omega,.inl (by omega),by go_num,by trivial,HG.out⟩
       case measure=>simp [intOf];omega
     ·clear h95
      go_wp2_with fail
      refine (H1.out _).mono ?_
      rintro e w' ⟨rfl,rfl⟩
      go_wp2_with fail
      refine (H2.out _).mono ?_
      rintro e w' ⟨rfl,rfl⟩
      go_wp2_with fail
      go_roundw
      case rel=>exact ⟨k+1,by omega,.inl (by omega),by go_num,by trivial,HG.out⟩
      case measure=>simp [intOf];omega
    ·clear h95
     go_wp2_with fail
     refine (H1.out _).mono ?_
     rintro e w' ⟨rfl,rfl⟩
     go_wp2_with fail
     go_roundw
     case rel=>exact ⟨k+1,by omega,.inl (by omega),by go_num,by trivial,HG.out⟩
     case measure=>simp [intOf];omega
   ·have hg':Lx.goes c=false:=by simpa using hg
    have E:=Hxq (HN.out hg')
    rw [hg'] at hgo
    simp only [Bool.false_eq,Bool.or_eq_false_iff,beq_eq_false_iff_ne] at hgo
    obtain ⟨rfl,rfl,rfl,h95⟩:=hgo
    have e95:((c:Int) != 95)=true:=by rw [bne_iff_ne];omega
    clear hg hg' HS HN h95
    go_wp2_with fail
    refine (H1.out _).mono ?_
    rintro e w' ⟨rfl,rfl⟩
    go_wp2_with fail
    refine (H2.out _).mono ?_
    rintro e w' ⟨rfl,rfl⟩
    go_wp2_with fail
    refine (H3.out _).mono ?_
    rintro e w' ⟨rfl,rfl⟩
    go_wp2_with fail
    go_ret
    exact ⟨by rw [E.out];rfl,rfl⟩
  ·have hkI:¬ (k:Int)<(s.size:Int):=by omega
   rw [List.take_of_length_le (by omega)] at hal
   have e:Hid (rword (Cod.str s)=(decide (1<=s.size) && decide (s.size<=32))):=Hxq (by unfold rword;rw [hal,hlen];rfl)
   clear hal hlen
   by_cases h1:1<=s.size
   ·have h1I:(1:Int)<=(s.size:Int):=by omega
    go_wp2_with fail
    go_ret
    exact ⟨by rw [e.out,decide_eq_true h1];simp only [Bool.true_and];exact ret_bool (by rw [Bool.eq_iff_iff];simp <;> omega),rfl⟩
   ·have h1I:¬ (1:Int)<=(s.size:Int):=by omega
    go_wp2_with fail
    go_ret
    exact ⟨by rw [e.out,decide_eq_false h1];rfl,rfl⟩
end Go.Proofs.YtohnmnfhmbmoaaaDoor
