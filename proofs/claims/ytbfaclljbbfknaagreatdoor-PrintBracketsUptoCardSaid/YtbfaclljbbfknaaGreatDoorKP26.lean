/- THE TEXTS MERGED: PrRule PrProg PrProg2 PrAwP. -/
import Derived.Test.YtbfaclljbbfknaaGreatDoorKP15
import Derived.Test.YtbfaclljbbfknaaGreatDoorKP25
namespace Go.Proofs.YtbfaclljbbfknaaGreatDoor
open Go.RowKit
set_option linter.unusedVariables false
set_option linter.unusedSimpArgs false
set_option maxRecDepth 100000
theorem pR_eq (r:Pr.Rul):Pr.pR r=cat (Pr.pA r.head) (if r.body.length=0 then some [] else cat (some [32,58,45,32]) (comO (Pr.pL 16) r.body)):=by
 unfold Pr.pR
 cases Pr.pA r.head with
 | none=>rfl
 | some h =>
  simp only
  by_cases hb:r.body.length=0
  ·rw [if_pos hb,if_pos hb];simp
  ·rw [if_neg hb,if_neg hb]
   show (comO (Pr.pL 16) r.body).map _=_
   cases comO (Pr.pL 16) r.body <;> simp
set_option maxHeartbeats 2000000 in
theorem rule_anyP (w0:World) (r:Pr.Rul) (tu ub:Value) (p:Nat) (q v:Value) (l:List Nat) (bad:Bool) (w:World) (h:WAt w0 w p q v l bad 0) (hT:TOk w0 r.head.terms tu) (hB:BOk w0 r.body ub) (hG:GlobV w0) (hlen:l.length+rWt r<=140737488000000) :
  Calls Tryz.prog 21 #[.pointer (some ⟨p,0,none⟩),.agg (ruV r tu ub)] w (WRes p v l bad 0 (Pr.pR r) (rWt r) w):=by
 rw [pR_eq]
 obtain ⟨⟨rel,ts⟩,body,ln,cl⟩:=r
 obtain ⟨ta,tc,rfl⟩:=hT.lit
 obtain ⟨ba,bc,rfl⟩:=hB.lit
 obtain ⟨n,hn⟩:∃ n,body.length=n:=⟨_,rfl⟩
 dsimp only at hB
 simp only [hn] at hB ⊢
 clear hn
 generalize hTR:(if n=0 then some [] else cat (some [32,58,45,32]) (comO (Pr.pL 16) body))=TR
 have HTR:=Lib.hid hTR
 clear hTR
 have hW:rWt ⟨⟨rel,ts⟩,body,ln,cl⟩=aWt ⟨rel,ts⟩+lsWt body+10:=rfl
 have HBC:=Hxq (lits_all w0 16 (Nat.le_refl _)).2
 unfold BodyC at HBC
 have h0:(16 - ((16:Nat):Int))=0:=by omega
 simp only [h0] at HBC
 clear h0
 rw [hW] at hlen ⊢
 clear hW
 have MA:=Hxq ((Mod.refl [] w).alloc (Obj.cells #[.string rel,.slice ta ts.length tc,.slice ba n bc,.int .i64 ln,.int .i64 cl] 57))
 have RA:=Hxq ((Run.start h).fresh MA.out (by simp))
 have XA:Hid (CellsAt _ w.heap.size 0 (ruV ⟨⟨rel,ts⟩,body,ln,cl⟩ (.slice ta ts.length tc) (.slice ba n bc))):=Hxq (CellsAt.of (heap_alloc_new w (Obj.cells #[.string rel,.slice ta ts.length tc,.slice ba n bc,.int .i64 ln,.int .i64 cl] 57)))
 have HT:=Lib.hid hT
 have HB:=Lib.hid hB
 have HG:=Lib.hid hG
 clear h hT hB hG
 unfold ruV at *
 dsimp only at *
 go_enter Tryz.func21,Tryz.ntmps21
 go_upto_region 1 with fail
 generalize w.alloc (Obj.cells #[Value.string rel,Value.slice ta ts.length tc,Value.slice ba n bc,Value.int IntKind.i64 ln,Value.int IntKind.i64 cl] 57)=wA at *
 have c0:wA.cell? ⟨w.heap.size,0,none⟩=some (.string rel):=XA.out.zero 0 _ rfl
 have c1:wA.cell? ⟨w.heap.size,1,none⟩=some (.slice ta ts.length tc):=XA.out.zero 1 _ rfl
 have c2:wA.cell? ⟨w.heap.size,2,none⟩=some (.slice ba n bc):=XA.out.zero 2 _ rfl
 go_wp2_with fail
 refine (RA.out.atom ⟨rel,ts⟩ _ HT.out HG.out (by omega)).mono ?_
 rintro e1 w1 ⟨rfl,r1,k1⟩
 have R1:=Lib.hid r1
 have c2:=k1.cell c2 (by simp)
 clear r1 k1 c0 c1
 cases n with
 | zero =>
  go_wp2_with fail
  go_end0
  exact (R1.out.of (by rw [<-HTR.out,cat_nil];simp [cat_nil']) (by omega)).done
 | succ n =>
  go_wp2_with fail
  refine (R1.out.put [{ data:=#[32,58,45,32] }] rfl rfl (by simp) (by rw [fl_len];show _+(4+0)<=_;omega)).mono ?_
  rintro e2 w2 ⟨rfl,r2,k2⟩
  have R2:=Lib.hid r2
  have c2:=k2.cell c2 (by simp)
  clear r2 k2
  go_wp2_with fail
  refine (R2.out.call (Nat.le_refl _) (fun q v l' bad h hl=>HBC.out body _ p q v l' bad _ h HB.out HG.out (by rw [fl_len] at hl;have hl:l'.length<=l.length+(0+aWt ⟨rel,ts⟩+(4+0)):=hl;omega))).mono ?_
  rintro e3 w3 ⟨rfl,r3,k3⟩
  have R3:=Lib.hid r3
  clear r3 k3
  go_wp2_with fail
  go_end0
  exact (R3.out.of (by rw [<-HTR.out,if_neg (by omega),cat_nil,cat_assoc];rfl) (by rw [fl_len];show _+(4+0)+_<=_;omega)).done
inductive YOk (w:World):List Int->Value->Prop
 | nil {a:Option Addr} {c:Nat}:YOk w [] (.slice a 0 c)
 | row {ts:List Int} {b off c:Nat} (h1:∀ i (h:i<ts.length),w.cell? ⟨b,off+i,none⟩=some (.int .i64 ts[i])):YOk w ts (.slice (some ⟨b,off,none⟩) ts.length c)
theorem YOk.lit {w:World} {ts:List Int} {u:Value} (h:YOk w ts u):∃ a c,u=.slice a ts.length c:=by
 cases h with
 | nil=>exact ⟨_,_,rfl⟩
 | row h1=>exact ⟨_,_,rfl⟩
theorem YOk.past {w w':World} {ts:List Int} {u:Value} (h:YOk w ts u) (m:Mod [] w w'):YOk w' ts u:=by
 cases h with
 | nil=>exact .nil
 | row h1=>exact .row (fun i h=>m.cell (h1 i h) (by simp))
theorem YOk.at {w:World} {ts:List Int} {a:Option Addr} {c:Nat} (h:YOk w ts (.slice a ts.length c)) (i:Nat) (hi:i<ts.length):∃ b off,a=some ⟨b,off,none⟩/\w.cell? ⟨b,off+i,none⟩=some (.int .i64 ts[i]):=by
 generalize hu:Value.slice a ts.length c=u at h
 cases h with
 | nil=>simp at hi
 | row h1 =>
  simp only [Value.slice.injEq] at hu
  exact ⟨_,_,hu.1,h1 i hi⟩
def deV (x:Pr.Rel) (yu:Value):Array Value:=#[.string x.name,yu,.int .i64 x.line,.int .i64 x.col]
def headD (r:ByteArray):Option (List Nat):=if Va.name (Cod.str r)=true then some ([114,101,108,97,116,105,111,110,32]++(Cod.str r++[40])) else none
theorem pD_eq (x:Pr.Rel):Pr.pD x=cat (cat (headD x.name) (comO Pr.pTy x.types)) (some [41]):=by
 unfold Pr.pD headD comO
 by_cases h:Va.name (Cod.str x.name)=true
 ·rw [if_pos h,if_pos h]
  cases Pr.seqO (x.types.map Pr.pTy) <;> simp
 ·rw [if_neg h,if_neg h];rfl
theorem pTy_other {t:Int} (h1:t≠1) (h2:t≠2):Pr.pTy t=none:=by
 unfold Pr.pTy
 rw [if_neg h1,if_neg h2]
set_option maxHeartbeats 4000000 in
theorem relation_anyP (w0:World) (x:Pr.Rel) (yu:Value) (p:Nat) (q v:Value) (l:List Nat) (bad:Bool) (w:World) (h:WAt w0 w p q v l bad 0) (hY:YOk w0 x.types yu) (hlen:l.length+dWt x<=140737488000000) :
  Calls Tryz.prog 19 #[.pointer (some ⟨p,0,none⟩),.agg (deV x yu)] w (WRes p v l bad 0 (Pr.pD x) (dWt x) w):=by
 rw [pD_eq]
 obtain ⟨rel,ts,ln,cl⟩:=x
 obtain ⟨ad,c,rfl⟩:=hY.lit
 have hW:dWt ⟨rel,ts,ln,cl⟩=rel.size+30+10 * ts.length:=rfl
 rw [hW] at hlen ⊢
 clear hW
 have MA:=Hxq ((Mod.refl [] w).alloc (Obj.cells #[.string rel,.slice ad ts.length c,.int .i64 ln,.int .i64 cl] 54))
 have RA:=Hxq ((Run.start h).fresh MA.out (by simp))
 have XA:Hid (CellsAt _ w.heap.size 0 (deV ⟨rel,ts,ln,cl⟩ (.slice ad ts.length c))):=Hxq (CellsAt.of (heap_alloc_new w (Obj.cells #[.string rel,.slice ad ts.length c,.int .i64 ln,.int .i64 cl] 54)))
 have HN:=Hxq (fun w=>Name_any rel (by omega) w)
 have HY:=Lib.hid hY
 clear h hY
 unfold deV at *
 dsimp only at *
 go_enter Tryz.func19,Tryz.ntmps19
 go_upto_region 1 with fail
 generalize w.alloc (Obj.cells #[Value.string rel,Value.slice ad ts.length c,Value.int IntKind.i64 ln,Value.int IntKind.i64 cl] 54)=wA at *
 have x0:wA.cell? ⟨w.heap.size,0,none⟩=some (.string rel):=XA.out.zero 0 _ rfl
 have x1:wA.cell? ⟨w.heap.size,1,none⟩=some (.slice ad ts.length c):=XA.out.zero 1 _ rfl
 go_wp2_with fail
 refine (HN.out _).mono ?_
 rintro e1 w1 ⟨rfl,m1⟩
 have R1:=Hxq (RA.out.new m1)
 have y0:=m1.cell x0 (by simp);have y1:=m1.cell x1 (by simp)
 clear x0 x1 m1
 go_wp2_with fail
 refine (R1.out.must (Va.name (Cod.str rel))).mono ?_
 rintro e2 w2 ⟨rfl,r2,k2⟩
 have R2:=Lib.hid r2
 have x0:=k2.cell y0 (by simp);have x1:=k2.cell y1 (by simp)
 clear y0 y1 k2 r2
 go_wp2_with fail
 refine (R2.out.put [{ data:=#[114,101,108,97,116,105,111,110,32] },rel,{ data:=#[40] }] rfl rfl (by simp) (by rw [fl_len];show _+(9+(rel.size+(1+0)))<=_;omega)).mono ?_
 rintro e3 w3 ⟨rfl,r3,k3⟩
 have R3:=Hxq (r3.of (o':=headD rel) (n':=rel.size+10) (by
  unfold headD mustO
  rw [cat_nil]
  by_cases hn:Va.name (Cod.str rel)=true
  ·rw [if_pos hn,if_pos hn]
   simp only [List.flatMap_cons,List.flatMap_nil,List.append_nil,cat_some]
   rfl
  ·rw [if_neg hn,if_neg hn];rfl) (by rw [fl_len];show _+(9+(rel.size+(1+0)))<=_;omega))
 have y1:=k3.cell x1 (by simp)
 clear x0 x1 k3 r3
 go_wp2_with fail
 have R3:=Hxq (R3.out.less (B':=[]) (by simp))
 clear y1
 go_loopw [19] (fun iv wr=>∃ k:Nat,k<=ts.length/\iv=.int .i64 (k:Nat)/\Run w0 w p v l bad 0 0 [] (cat (headD rel) (comO Pr.pTy (ts.take k))) (rel.size+10+10 * k) wr) (fun iv _=>ts.length - (intOf iv).toNat)
 case atStart=>exact ⟨0,Nat.zero_le _,rfl,R3.out.of (by simp [comO,Pr.seqO,Pr.commas,List.intercalate,List.intersperse,cat_nil']) (by omega)⟩
 case round =>
  obtain ⟨k,hk,rfl,hr⟩:=hrel
  by_cases hlt:k<ts.length
  ·have hkI:(k:Int)<(ts.length:Int):=by omega
   have hk0:(0:Int)<=(k:Int):=by omega
   obtain ⟨b,off,rfl,ha⟩:=HY.out.at k hlt
   have HSN:=Hxq (comO_snoc Pr.pTy (ts.take k) ts[k])
   rw [<-List.take_succ_eq_append_getElem hlt,List.length_take,Nat.min_eq_left hk] at HSN
   generalize ts[k]=t at *
   have a0:=hr.base.cell ha (by simp)
   have RT:=Lib.hid hr
   clear hr ha
   go_upto_region 6 with fail
   clear a0
   go_upto_if 25 with fail
   go_cut [] (fun wx=>Run w0 w p v l bad 0 0 [] (cat (cat (headD rel) (comO Pr.pTy (ts.take k))) (some (if k=0 then [] else [44,32]))) (rel.size+10+10 * k+2) wx)
   case first =>
    by_cases k0:k=0
    ·subst k0
     go_wp2_with fail
     go_meet
     exact RT.out.of (by simp [cat_nil']) (by omega)
    ·have kB:decide (0<k)=true:=by rw [decide_eq_true_eq];omega
     have K0:=Lib.hid k0
     clear k0 kB
     go_wp2_with fail
     all_goals first
      | (exfalso;have:=K0.out;omega)
      | skip
     refine (RT.out.put [{ data:=#[44,32] }] rfl rfl (by simp) (by rw [fl_len];show _+(2+0)<=_;omega)).mono ?_
     rintro e4 w4 ⟨rfl,r4,k4⟩
     have R4:=Lib.hid r4
     clear r4 k4
     go_wp2_with fail
     go_meet
     exact R4.out.of (by rw [if_neg K0.out];rfl) (by rw [fl_len];exact Nat.le_of_eq rfl)
   case rest =>
    have RT:=Lib.hid hcut
    clear hcut
    by_cases t1:t=1
    ·subst t1
     go_wp2_with fail
     refine (RT.out.put [{ data:=#[110,117,109] }] rfl rfl (by simp) (by rw [fl_len];show _+(3+0)<=_;omega)).mono ?_
     rintro e7 w7 ⟨rfl,r7,k7⟩
     have R7:=Lib.hid r7
     clear k7 r7
     go_wp2_with fail
     go_roundw
     case rel=>exact ⟨k+1,by omega,by go_num,R7.out.of (by rw [HSN.out];simp only [cat_assoc,List.flatMap_cons,List.flatMap_nil,List.append_nil];rfl) (by rw [fl_len];show _+(3+0)<=_;omega)⟩
     case measure=>simp [intOf];omega
    ·by_cases t2:t=2
     ·subst t2
      clear t1
      go_wp2_with fail
      refine (RT.out.put [{ data:=#[115,121,109] }] rfl rfl (by simp) (by rw [fl_len];show _+(3+0)<=_;omega)).mono ?_
      rintro e7 w7 ⟨rfl,r7,k7⟩
      have R7:=Lib.hid r7
      clear k7 r7
      go_wp2_with fail
      go_roundw
      case rel=>exact ⟨k+1,by omega,by go_num,R7.out.of (by rw [HSN.out];simp only [cat_assoc,List.flatMap_cons,List.flatMap_nil,List.append_nil];rfl) (by rw [fl_len];show _+(3+0)<=_;omega)⟩
      case measure=>simp [intOf];omega
     ·have HPT:=Hxq (pTy_other t1 t2)
      have t1B:(t == 1)=false:=by rw [beq_eq_false_iff_ne];exact t1
      have t2B:(t == 2)=false:=by rw [beq_eq_false_iff_ne];exact t2
      obtain ⟨q',v',bad',c0,c1,c2,c3,fz,-,-⟩:=RT.out.cells
      have HS:=Hxq (RT.out.setBad (cat (headD rel) (comO Pr.pTy (ts.take (k+1)))) (.inl (by rw [HSN.out,HPT.out];simp)))
      clear t1 t2
      go_wp2_with fail
      go_roundw
      case rel=>exact ⟨k+1,by omega,by go_num,HS.out.1.of rfl (by omega)⟩
      case measure=>simp [intOf];omega
  ·obtain rfl:k=ts.length:=by omega
   have hkI:¬ (ts.length:Int)<(ts.length:Int):=by omega
   rw [List.take_length] at hr
   have HR:=Lib.hid hr
   clear hr
   go_wp2_with fail
   refine (HR.out.put [{ data:=#[41] }] rfl rfl (by simp) (by rw [fl_len];show _+(1+0)<=_;omega)).mono ?_
   rintro e7 w7 ⟨rfl,r7,k7⟩
   have R7:=Lib.hid r7
   clear k7 r7
   go_wp2_with fail
   go_end0
   exact (R7.out.of rfl (by rw [fl_len];show _+(1+0)<=_;omega)).done
theorem fresh_at {w0 w1:World} (m:Mod [] w0 w1):WAt w0 (w1.alloc (Obj.cells #[.pointer none,.slice none 0 0,.bool false,.int .i64 0] 68)) w1.heap.size (.pointer none) (.slice none 0 0) [] false 0 :=
 ⟨⟨heap_alloc_new _ _,.inl rfl,World.ownsRow_nil _ _ _ _,by simp [fp],by simp,fun _=>rfl⟩,m.alloc _,m.size,by simp [fp]⟩
def tv (o:Option (List Nat)):Value:=match o with
 | some t=>.tuple #[.string (Lx.ofS t),.int .i64 0]
 | none=>.tuple #[.string ⟨#[]⟩,.int .i64 50]
/-- what an entry answers -/
def Told (o:Option (List Nat)) (n:Nat) (w:World) (e:Ending) (w':World):Prop:=e=.returned (tv o)/\Mod [] w w'/\∀ t,o=some t->t.length<=n
section
variable {w0 w w':World} {p:Nat} {q v v0:Value} {l l0:List Nat} {bad b0:Bool} {br br':Int} {B:List Nat} {o o2:Option (List Nat)} {n n2:Nat}
theorem Run.startB (h:WAt w0 w p q (.slice none 0 0) l bad br) (hB:∀ b∈B,b≠p/\b<w.heap.size):Run w0 w p (.slice none 0 0) l bad br br B (some []) 0 w :=
 ⟨q,_,l,bad,h,WMod.refl _ _ _,⟨by omega,fun h=>h,fun h=>⟨h,fun x hx=>by cases hx;simp⟩⟩,fun b hb=>⟨(hB b hb).1,by simp [fp],(hB b hb).2⟩,Nat.le_refl _⟩
theorem Run.told (H:Run w0 w p v0 [] false br br' B o n w') (hn:n<=140737488000000) :
  Calls Tryz.prog 15 #[.pointer (some ⟨p,0,none⟩)] w' (Told o n w0):=by
 obtain ⟨q,v,l,bad,h,hm,hr,hB,hz⟩:=H.ex
 obtain ⟨h1,-,h3⟩:=hr
 obtain ⟨h3,h4⟩:=h3 rfl
 rw [List.length_nil,Nat.zero_add] at h1
 refine (told_any p q v l bad br' w' h.wr (by omega)).mono ?_
 rintro e w2 ⟨rfl,m2⟩
 refine ⟨?_,h.base.trans m2 (fun t ht=>.inr (h.hv t ht)),fun t ht=>?_⟩
 ·cases o with
  | none=>rw [h3];rfl
  | some t =>
   have:=h4 t rfl
   rw [List.nil_append] at this
   rw [h3,this];rfl
 ·have:=h4 t ht
  rw [List.nil_append] at this
  rw [<-this]
  exact h1
end
set_option maxHeartbeats 2000000 in
theorem Atom_any (a:Pr.Atom) (tu:Value) (w:World) (hT:TOk w a.terms tu) (hG:GlobV w) (hlen:aWt a<=140737488000000) :
  Calls Tryz.prog 13 #[.agg (#[.string a.rel,tu])] w (Told (Pr.pA a) (aWt a) w):=by
 have HC:=Hxq (fun p q v l bad w' h hl=>atom_anyP w a tu p q v l bad 0 w' h hT hG hl)
 obtain ⟨ta,tc,rfl⟩:=hT.lit
 clear hT
 clear hG
 generalize Pr.pA a=o at *
 generalize aWt a=n at *
 have MA:=Hxq ((Mod.refl [] w).alloc (Obj.cells #[.string a.rel,.slice ta a.terms.length tc] 33))
 have XA:Hid (CellsAt _ w.heap.size 0 #[.string a.rel,.slice ta a.terms.length tc]):=Hxq (CellsAt.of (heap_alloc_new w (Obj.cells #[.string a.rel,.slice ta a.terms.length tc] 33)))
 have hsz:Hid (w.heap.size<(w.alloc (Obj.cells #[.string a.rel,.slice ta a.terms.length tc] 33)).heap.size):=Hxq (by simp)
 go_enter Tryz.func13,Tryz.ntmps13
 go_upto_region 1 with fail
 generalize w.alloc (Obj.cells #[Value.string a.rel,Value.slice ta a.terms.length tc] 33)=wA at *
 have R0:=Hxq (Run.startB (B:=[w.heap.size]) (fresh_at MA.out) (by simp;have:=hsz.out;omega))
 have X0:=Hxq (XA.out.past ((Mod.refl [] wA).alloc (Obj.cells #[.pointer none,.slice none 0 0,.bool false,.int .i64 0] 68)))
 go_upto_region 2 with fail
 generalize wA.alloc (Obj.cells #[Value.pointer none,Value.slice none 0 0,Value.bool false,Value.int IntKind.i64 0] 68)=wS at *
 have c0:wS.cell? ⟨w.heap.size,0,none⟩=some (.string a.rel):=X0.out.zero 0 _ rfl
 have c1:wS.cell? ⟨w.heap.size,1,none⟩=some (.slice ta a.terms.length tc):=X0.out.zero 1 _ rfl
 go_wp2_with fail
 refine (R0.out.call (Nat.le_refl _) (fun q v l' bad h hl=>HC.out _ q v l' bad _ h (by simp at hl;rw [hl];simp;omega))).mono ?_
 rintro e1 w1 ⟨rfl,r1,k1⟩
 have R1:=Hxq (r1.of (cat_nil _) (Nat.le_of_eq (Nat.zero_add _)))
 clear r1 k1 c0 c1
 go_wp2_with fail
 refine (R1.out.told (by omega)).mono ?_
 rintro e2 w2 ⟨rfl,m2,hl2⟩
 have M2:=Lib.hid m2
 have HL2:=Lib.hid hl2
 clear m2 hl2
 cases o
 all_goals (
  unfold tv
  go_wp2_with fail
  go_ret2
  exact ⟨rfl,M2.out,HL2.out⟩)
set_option maxHeartbeats 2000000 in
theorem Expr_any (e:Pr.Ex) (u:Value) (w:World) (hE:EOk w e u) (hG:GlobV w) (hlen:exWt e<=140737488000000) :
  Calls Tryz.prog 5 #[.agg (exV e u)] w (Told (Pr.pE 17 e) (exWt e) w):=by
 have HC:=Hxq (fun p q v l bad w' h hl=>(expr_all w 17 (by omega)).1 e u p q v l bad 0 w' h hE hG hl)
 obtain ⟨ea,ec,rfl⟩:=hE.lit
 clear hE
 clear hG
 have hd:(((17:Nat):Int) - 1)=16:=by omega
 rw [hd] at HC
 clear hd
 unfold exV at *
 generalize Pr.pE 17 e=o at *
 generalize exWt e=n at *
 have MA:=Hxq ((Mod.refl [] w).alloc (Obj.cells #[.int .i64 e.k,.string e.v,.int .i64 e.x.k,.int .i64 e.x.n,.string (Lx.ofS e.x.s),.int .i64 e.op,.slice ea e.args.length ec] 26))
 have XA:Hid (CellsAt _ w.heap.size 0 #[.int .i64 e.k,.string e.v,.int .i64 e.x.k,.int .i64 e.x.n,.string (Lx.ofS e.x.s),.int .i64 e.op,.slice ea e.args.length ec]):=Hxq (CellsAt.of (heap_alloc_new w (Obj.cells #[.int .i64 e.k,.string e.v,.int .i64 e.x.k,.int .i64 e.x.n,.string (Lx.ofS e.x.s),.int .i64 e.op,.slice ea e.args.length ec] 26)))
 have hsz:Hid (w.heap.size<(w.alloc (Obj.cells #[.int .i64 e.k,.string e.v,.int .i64 e.x.k,.int .i64 e.x.n,.string (Lx.ofS e.x.s),.int .i64 e.op,.slice ea e.args.length ec] 26)).heap.size):=Hxq (by simp)
 go_enter Tryz.func5,Tryz.ntmps5
 go_upto_region 1 with fail
 generalize w.alloc (Obj.cells #[Value.int IntKind.i64 e.k,Value.string e.v,Value.int IntKind.i64 e.x.k,Value.int IntKind.i64 e.x.n,Value.string (Lx.ofS e.x.s),Value.int IntKind.i64 e.op,Value.slice ea e.args.length ec] 26)=wA at *
 have R0:=Hxq (Run.startB (B:=[w.heap.size]) (fresh_at MA.out) (by simp;have:=hsz.out;omega))
 have X0:=Hxq (XA.out.past ((Mod.refl [] wA).alloc (Obj.cells #[.pointer none,.slice none 0 0,.bool false,.int .i64 0] 68)))
 go_upto_region 2 with fail
 generalize wA.alloc (Obj.cells #[Value.pointer none,Value.slice none 0 0,Value.bool false,Value.int IntKind.i64 0] 68)=wS at *
 have c0:wS.cell? ⟨w.heap.size,0,none⟩=some (.int .i64 e.k):=X0.out.zero 0 _ rfl
 have c1:wS.cell? ⟨w.heap.size,1,none⟩=some (.string e.v):=X0.out.zero 1 _ rfl
 have c2:wS.cell? ⟨w.heap.size,2,none⟩=some (.int .i64 e.x.k):=X0.out.zero 2 _ rfl
 have c3:wS.cell? ⟨w.heap.size,3,none⟩=some (.int .i64 e.x.n):=X0.out.zero 3 _ rfl
 have c4:wS.cell? ⟨w.heap.size,4,none⟩=some (.string (Lx.ofS e.x.s)):=X0.out.zero 4 _ rfl
 have c5:wS.cell? ⟨w.heap.size,5,none⟩=some (.int .i64 e.op):=X0.out.zero 5 _ rfl
 have c6:wS.cell? ⟨w.heap.size,6,none⟩=some (.slice ea e.args.length ec):=X0.out.zero 6 _ rfl
 go_wp2_with fail
 refine (R0.out.call (Nat.le_refl _) (fun q v l' bad h hl=>HC.out _ q v l' bad _ h (by simp at hl;rw [hl];simp;omega))).mono ?_
 rintro e1 w1 ⟨rfl,r1,k1⟩
 have R1:=Hxq (r1.of (cat_nil _) (Nat.le_of_eq (Nat.zero_add _)))
 clear r1 k1 c0 c1 c2 c3 c4 c5 c6
 go_wp2_with fail
 refine (R1.out.told (by omega)).mono ?_
 rintro e2 w2 ⟨rfl,m2,hl2⟩
 have M2:=Lib.hid m2
 have HL2:=Lib.hid hl2
 clear m2 hl2
 cases o
 all_goals (
  unfold tv
  go_wp2_with fail
  go_ret2
  exact ⟨rfl,M2.out,HL2.out⟩)
open Go.RowKit
set_option linter.unusedVariables false
set_option linter.unusedSimpArgs false
set_option maxRecDepth 100000
theorem sum_take {α:Type} (f:α->Nat) (l:List α) (i:Nat) (h:i<l.length):((l.take (i+1)).map f).sum=((l.take i).map f).sum+f l[i]:=by
 rw [List.take_succ_eq_append_getElem h,List.map_append,List.sum_append]
 simp
theorem sum_take_le {α:Type} (f:α->Nat) (l:List α) (i:Nat):((l.take i).map f).sum<=(l.map f).sum:=by
 conv=>rhs;rw [<-List.take_append_drop i l,List.map_append,List.sum_append]
 omega
theorem sum_len {α:Type} (f:α->Nat) (hf:∀ x,1<=f x) (l:List α):l.length<=(l.map f).sum:=by
 induction l with
 | nil=>simp
 | cons a r ih=>rw [List.map_cons,List.sum_cons,List.length_cons];have:=hf a;omega
def linO {α:Type} (f:α->Option (List Nat)) (l:List α):Option (List Nat):=(Pr.seqO (l.map f)).map Pr.lines
theorem linO_snoc {α:Type} (f:α->Option (List Nat)) (l:List α) (t:α):linO f (l++[t])=cat (cat (linO f l) (f t)) (some [46,10]):=by
 unfold linO
 rw [List.map_append,List.map_cons,List.map_nil,Pr.seqO_snoc]
 cases Pr.seqO (l.map f) <;> cases f t <;> simp [Pr.lines]
theorem pP_eq (p:Pr.Prog):Pr.pP p=cat (linO Pr.pD p.rels) (linO Pr.pR p.rules):=by
 unfold Pr.pP linO
 cases Pr.seqO (p.rels.map Pr.pD) <;> cases Pr.seqO (p.rules.map Pr.pR) <;> simp
inductive DsOk (w:World):List Pr.Rel->Value->Prop
 | nil {a:Option Addr} {c:Nat}:DsOk w [] (.slice a 0 c)
 | row {ds:List Pr.Rel} {b off c:Nat} {us:Nat->Value} (h1:∀ i (h:i<ds.length),CellsAt w b (off+i * 4) (deV ds[i] (us i))) (h2:∀ i (h:i<ds.length),YOk w ds[i].types (us i)):DsOk w ds (.slice (some ⟨b,off,none⟩) ds.length c)
theorem DsOk.lit {w:World} {ds:List Pr.Rel} {u:Value} (h:DsOk w ds u):∃ a c,u=.slice a ds.length c:=by
 cases h with
 | nil=>exact ⟨_,_,rfl⟩
 | row h1 h2=>exact ⟨_,_,rfl⟩
theorem DsOk.past {w w':World} {ds:List Pr.Rel} {u:Value} (h:DsOk w ds u) (m:Mod [] w w'):DsOk w' ds u:=by
 cases h with
 | nil=>exact .nil
 | row h1 h2=>exact .row (fun i h=>(h1 i h).past m) (fun i h=>(h2 i h).past m)
theorem DsOk.at {w:World} {ds:List Pr.Rel} {a:Option Addr} {c:Nat} (h:DsOk w ds (.slice a ds.length c)) (i:Nat) (hi:i<ds.length):∃ b off u,a=some ⟨b,off,none⟩/\CellsAt w b (off+i * 4) (deV ds[i] u)/\YOk w ds[i].types u:=by
 generalize hu:Value.slice a ds.length c=u at h
 cases h with
 | nil=>simp at hi
 | row h1 h2 =>
  simp only [Value.slice.injEq] at hu
  exact ⟨_,_,_,hu.1,h1 i hi,h2 i hi⟩
inductive RsOk (w:World):List Pr.Rul->Value->Prop
 | nil {a:Option Addr} {c:Nat}:RsOk w [] (.slice a 0 c)
 | row {rs:List Pr.Rul} {b off c:Nat} {ts us:Nat->Value} (h1:∀ i (h:i<rs.length),CellsAt w b (off+i * 5) (ruV rs[i] (ts i) (us i))) (h2:∀ i (h:i<rs.length),TOk w rs[i].head.terms (ts i)) (h3:∀ i (h:i<rs.length),BOk w rs[i].body (us i)):RsOk w rs (.slice (some ⟨b,off,none⟩) rs.length c)
theorem RsOk.lit {w:World} {rs:List Pr.Rul} {u:Value} (h:RsOk w rs u):∃ a c,u=.slice a rs.length c:=by
 cases h with
 | nil=>exact ⟨_,_,rfl⟩
 | row h1 h2 h3=>exact ⟨_,_,rfl⟩
theorem RsOk.past {w w':World} {rs:List Pr.Rul} {u:Value} (h:RsOk w rs u) (m:Mod [] w w'):RsOk w' rs u:=by
 cases h with
 | nil=>exact .nil
 | row h1 h2 h3=>exact .row (fun i h=>(h1 i h).past m) (fun i h=>(h2 i h).past m) (fun i h=>(h3 i h).past m)
theorem RsOk.at {w:World} {rs:List Pr.Rul} {a:Option Addr} {c:Nat} (h:RsOk w rs (.slice a rs.length c)) (i:Nat) (hi:i<rs.length):∃ b off t u,a=some ⟨b,off,none⟩/\CellsAt w b (off+i * 5) (ruV rs[i] t u)/\TOk w rs[i].head.terms t/\BOk w rs[i].body u:=by
 generalize hu:Value.slice a rs.length c=u at h
 cases h with
 | nil=>simp at hi
 | row h1 h2 h3 =>
  simp only [Value.slice.injEq] at hu
  exact ⟨_,_,_,_,hu.1,h1 i hi,h2 i hi,h3 i hi⟩
set_option maxHeartbeats 8000000 in
theorem Program_any (P:Pr.Prog) (du ru:Value) (w:World) (hD:DsOk w P.rels du) (hR:RsOk w P.rules ru) (hG:GlobV w) (hlen:dsWt P.rels+rsWt P.rules<=140737488000000) :
  Calls Tryz.prog 12 #[.agg #[du,ru]] w (Told (Pr.pP P) (dsWt P.rels+rsWt P.rules) w):=by
 rw [pP_eq]
 obtain ⟨ds,rs⟩:=P
 dsimp only at *
 obtain ⟨da,dc,rfl⟩:=hD.lit
 obtain ⟨ra,rc,rfl⟩:=hR.lit
 have hdl:ds.length<=dsWt ds:=sum_len _ (fun x=>by omega) ds
 have hrl:rs.length<=rsWt rs:=sum_len _ (fun x=>by omega) rs
 have HD:=Lib.hid hD
 have HR:=Lib.hid hR
 have HG:=Lib.hid hG
 clear hD hR hG
 have MA:=Hxq ((Mod.refl [] w).alloc (Obj.cells #[.slice da ds.length dc,.slice ra rs.length rc] 60))
 have XA:Hid (CellsAt _ w.heap.size 0 #[.slice da ds.length dc,.slice ra rs.length rc]):=Hxq (CellsAt.of (heap_alloc_new w (Obj.cells #[.slice da ds.length dc,.slice ra rs.length rc] 60)))
 have hsz:Hid (w.heap.size<(w.alloc (Obj.cells #[.slice da ds.length dc,.slice ra rs.length rc] 60)).heap.size):=Hxq (by simp)
 go_enter Tryz.func12,Tryz.ntmps12
 go_upto_region 1 with fail
 generalize w.alloc (Obj.cells #[Value.slice da ds.length dc,Value.slice ra rs.length rc] 60)=wA at *
 have R0:=Hxq (Run.startB (B:=[w.heap.size]) (fresh_at MA.out) (by simp;have:=hsz.out;omega))
 have X0:=Hxq (XA.out.past ((Mod.refl [] wA).alloc (Obj.cells #[.pointer none,.slice none 0 0,.bool false,.int .i64 0] 68)))
 go_upto_region 2 with fail
 generalize wA.alloc (Obj.cells #[Value.pointer none,Value.slice none 0 0,Value.bool false,Value.int IntKind.i64 0] 68)=wS at *
 have x0:wS.cell? ⟨w.heap.size,0,none⟩=some (.slice da ds.length dc):=X0.out.zero 0 _ rfl
 clear XA MA hsz
 go_wp2_with fail
 clear x0
 go_loopw [14] (fun iv wr=>∃ k:Nat,k<=ds.length/\iv=.int .i64 (k:Nat)/\Run w wS wA.heap.size (.slice none 0 0) [] false 0 0 [w.heap.size] (linO Pr.pD (ds.take k)) (dsWt (ds.take k)) wr/\CellsAt wr w.heap.size 0 #[.slice da ds.length dc,.slice ra rs.length rc]) (fun iv _=>ds.length - (intOf iv).toNat)
 case atStart=>exact ⟨0,Nat.zero_le _,rfl,R0.out.of (by simp [linO,Pr.seqO,Pr.lines]) (by simp),X0.out⟩
 case round =>
  obtain ⟨k,hk,rfl,hr,hx⟩:=hrel
  clear R0 X0
  by_cases hlt:k<ds.length
  ·have hkI:(k:Int)<(ds.length:Int):=by omega
   have hk0:(0:Int)<=(k:Int):=by omega
   obtain ⟨b,off,yu,rfl,ha,hy⟩:=HD.out.at k hlt
   have HSN:=Hxq (linO_snoc Pr.pD (ds.take k) ds[k])
   have hsn:=sum_take (fun x=>dWt x+2) ds k hlt
   have hle:=sum_take_le (fun x=>dWt x+2) ds (k+1)
   have e1:dsWt (ds.take (k+1))=((ds.take (k+1)).map fun x=>dWt x+2).sum:=rfl
   have e2:dsWt (ds.take k)=((ds.take k).map fun x=>dWt x+2).sum:=rfl
   have e3:dsWt ds=(ds.map fun x=>dWt x+2).sum:=rfl
   rw [<-e1,<-e2] at hsn
   rw [<-e1,<-e3] at hle
   clear e1 e2 e3
   rw [<-List.take_succ_eq_append_getElem hlt] at HSN
   generalize ds[k]=t at *
   have HC:=Hxq (fun p q v l bad w' (h:WAt w w' p q v l bad 0) hl=>relation_anyP w t yu p q v l bad w' h hy hl)
   obtain ⟨nm,ty,ln,cl⟩:=t
   obtain ⟨ya,yc,rfl⟩:=hy.lit
   clear hy
   unfold deV at *
   dsimp only at *
   have hc:=ha.past hr.base
   have a0:wr.cell? ⟨b,off+k * 4,none⟩=some (.string nm):=hc 0 _ rfl
   have a1:wr.cell? ⟨b,off+k * 4+1,none⟩=some (.slice ya ty.length yc):=hc 1 _ rfl
   have a2:wr.cell? ⟨b,off+k * 4+2,none⟩=some (.int .i64 ln):=hc 2 _ rfl
   have a3:wr.cell? ⟨b,off+k * 4+3,none⟩=some (.int .i64 cl):=hc 3 _ rfl
   have MT:=Hxq ((Mod.refl [] wr).alloc (Obj.cells #[.string nm,.slice ya ty.length yc,.int .i64 ln,.int .i64 cl] 54))
   have RT:=Hxq (hr.fresh MT.out (by simp))
   have XT:Hid (CellsAt _ wr.heap.size 0 #[.string nm,.slice ya ty.length yc,.int .i64 ln,.int .i64 cl]):=Hxq (CellsAt.of (heap_alloc_new wr (Obj.cells #[.string nm,.slice ya ty.length yc,.int .i64 ln,.int .i64 cl] 54)))
   have XP:=Hxq (hx.past MT.out)
   clear hr ha hc hx
   go_upto_region 5 with fail
   generalize wr.alloc (Obj.cells #[Value.string nm,Value.slice ya ty.length yc,Value.int IntKind.i64 ln,Value.int IntKind.i64 cl] 54)=wT at *
   clear a0 a1 a2 a3 MT
   have b0:wT.cell? ⟨wr.heap.size,0,none⟩=some (.string nm):=XT.out.zero 0 _ rfl
   have b1:wT.cell? ⟨wr.heap.size,1,none⟩=some (.slice ya ty.length yc):=XT.out.zero 1 _ rfl
   have b2:wT.cell? ⟨wr.heap.size,2,none⟩=some (.int .i64 ln):=XT.out.zero 2 _ rfl
   have b3:wT.cell? ⟨wr.heap.size,3,none⟩=some (.int .i64 cl):=XT.out.zero 3 _ rfl
   go_wp2_with fail
   refine (RT.out.call (Nat.le_refl _) (fun q v l' bad h hl=>HC.out _ q v l' bad _ h (by rw [List.length_nil] at hl;omega))).mono ?_
   rintro e4 w4 ⟨rfl,r4,k4⟩
   have R4:=Lib.hid r4
   have XP4:=Hxq (XP.out.kept k4 (by simp))
   clear r4 k4 b0 b1 b2 b3 XT XP
   go_wp2_with fail
   refine (R4.out.put [{ data:=#[46,10] }] rfl rfl (by simp) (by rw [fl_len,List.length_nil];show _+(2+0)<=_;omega)).mono ?_
   rintro e5 w5 ⟨rfl,r5,k5⟩
   have R5:=Lib.hid r5
   have XP5:=Hxq (XP4.out.kept k5 (by simp))
   clear r5 k5
   go_wp2_with fail
   go_roundw
   case rel=>exact ⟨k+1,by omega,by go_num,(R5.out.less (by simp)).of (by rw [HSN.out];rfl) (by rw [fl_len];show _+(2+0)<=_;omega),XP5.out⟩
   case measure=>simp [intOf];omega
  ·obtain rfl:k=ds.length:=by omega
   have hkI:¬ (ds.length:Int)<(ds.length:Int):=by omega
   rw [List.take_length] at hr
   have R0:=Lib.hid hr
   have X0:=Lib.hid hx
   have x1:wr.cell? ⟨w.heap.size,1,none⟩=some (.slice ra rs.length rc):=hx.zero 1 _ rfl
   clear hr hx hk
   go_wp2_with fail
   clear x1
   go_loopw [28] (fun iv wr=>∃ k:Nat,k<=rs.length/\iv=.int .i64 (k:Nat)/\Run w wS wA.heap.size (.slice none 0 0) [] false 0 0 [] (cat (linO Pr.pD ds) (linO Pr.pR (rs.take k))) (dsWt ds+rsWt (rs.take k)) wr) (fun iv _=>rs.length - (intOf iv).toNat)
   case atStart=>exact ⟨0,Nat.zero_le _,rfl,(R0.out.less (by simp)).of (by simp [linO,Pr.seqO,Pr.lines,cat_nil']) (by simp)⟩
   case round =>
    obtain ⟨k,hk,rfl,hr⟩:=hrel
    clear R0 X0
    by_cases hlt:k<rs.length
    ·have hkI2:(k:Int)<(rs.length:Int):=by omega
     have hk0:(0:Int)<=(k:Int):=by omega
     obtain ⟨b,off,tu,bu,rfl,ha,ht,hb⟩:=HR.out.at k hlt
     have HSN:=Hxq (linO_snoc Pr.pR (rs.take k) rs[k])
     have hsn:=sum_take (fun x=>rWt x+2) rs k hlt
     have hle:=sum_take_le (fun x=>rWt x+2) rs (k+1)
     have e1:rsWt (rs.take (k+1))=((rs.take (k+1)).map fun x=>rWt x+2).sum:=rfl
     have e2:rsWt (rs.take k)=((rs.take k).map fun x=>rWt x+2).sum:=rfl
     have e3:rsWt rs=(rs.map fun x=>rWt x+2).sum:=rfl
     rw [<-e1,<-e2] at hsn
     rw [<-e1,<-e3] at hle
     clear e1 e2 e3
     rw [<-List.take_succ_eq_append_getElem hlt] at HSN
     generalize rs[k]=t at *
     have HC:=Hxq (fun p q v l bad w' (h:WAt w w' p q v l bad 0) hl=>rule_anyP w t tu bu p q v l bad w' h ht hb HG.out hl)
     obtain ⟨⟨nm,ty⟩,bd,ln,cl⟩:=t
     obtain ⟨ya,yc,rfl⟩:=ht.lit
     obtain ⟨za,zc,rfl⟩:=hb.lit
     clear ht hb
     unfold ruV at *
     dsimp only at *
     have hc:=ha.past hr.base
     have a0:wr.cell? ⟨b,off+k * 5,none⟩=some (.string nm):=hc 0 _ rfl
     have a1:wr.cell? ⟨b,off+k * 5+1,none⟩=some (.slice ya ty.length yc):=hc 1 _ rfl
     have a2:wr.cell? ⟨b,off+k * 5+2,none⟩=some (.slice za bd.length zc):=hc 2 _ rfl
     have a3:wr.cell? ⟨b,off+k * 5+3,none⟩=some (.int .i64 ln):=hc 3 _ rfl
     have a4:wr.cell? ⟨b,off+k * 5+4,none⟩=some (.int .i64 cl):=hc 4 _ rfl
     have MT:=Hxq ((Mod.refl [] wr).alloc (Obj.cells #[.string nm,.slice ya ty.length yc,.slice za bd.length zc,.int .i64 ln,.int .i64 cl] 57))
     have RT:=Hxq (hr.fresh MT.out (by simp))
     have XT:Hid (CellsAt _ wr.heap.size 0 #[.string nm,.slice ya ty.length yc,.slice za bd.length zc,.int .i64 ln,.int .i64 cl]):=Hxq (CellsAt.of (heap_alloc_new wr (Obj.cells #[.string nm,.slice ya ty.length yc,.slice za bd.length zc,.int .i64 ln,.int .i64 cl] 57)))
     clear hr ha hc
     go_upto_region 11 with fail
     generalize wr.alloc (Obj.cells #[Value.string nm,Value.slice ya ty.length yc,Value.slice za bd.length zc,Value.int IntKind.i64 ln,Value.int IntKind.i64 cl] 57)=wT at *
     clear a0 a1 a2 a3 a4 MT
     have b0:wT.cell? ⟨wr.heap.size,0,none⟩=some (.string nm):=XT.out.zero 0 _ rfl
     have b1:wT.cell? ⟨wr.heap.size,1,none⟩=some (.slice ya ty.length yc):=XT.out.zero 1 _ rfl
     have b2:wT.cell? ⟨wr.heap.size,2,none⟩=some (.slice za bd.length zc):=XT.out.zero 2 _ rfl
     have b3:wT.cell? ⟨wr.heap.size,3,none⟩=some (.int .i64 ln):=XT.out.zero 3 _ rfl
     have b4:wT.cell? ⟨wr.heap.size,4,none⟩=some (.int .i64 cl):=XT.out.zero 4 _ rfl
     go_wp2_with fail
     refine (RT.out.call (Nat.le_refl _) (fun q v l' bad h hl=>HC.out _ q v l' bad _ h (by rw [List.length_nil] at hl;omega))).mono ?_
     rintro e4 w4 ⟨rfl,r4,k4⟩
     have R4:=Lib.hid r4
     clear r4 k4 b0 b1 b2 b3 b4 XT
     go_wp2_with fail
     refine (R4.out.put [{ data:=#[46,10] }] rfl rfl (by simp) (by rw [fl_len,List.length_nil];show _+(2+0)<=_;omega)).mono ?_
     rintro e5 w5 ⟨rfl,r5,k5⟩
     have R5:=Lib.hid r5
     clear r5 k5
     go_wp2_with fail
     go_roundw
     case rel=>exact ⟨k+1,by omega,by go_num,(R5.out.less (by simp)).of (by rw [HSN.out];simp only [cat_assoc];rfl) (by rw [fl_len];show _+(2+0)<=_;omega)⟩
     case measure=>simp [intOf];omega
    ·obtain rfl:k=rs.length:=by omega
     have hkI2:¬ (rs.length:Int)<(rs.length:Int):=by omega
     rw [List.take_length] at hr
     have R1:=Lib.hid hr
     clear hr
     go_wp2_with fail
     refine (R1.out.told hlen).mono ?_
     rintro e2 w2 ⟨rfl,m2,hl2⟩
     have M2:=Lib.hid m2
     have HL2:=Lib.hid hl2
     clear m2 hl2
     generalize cat (linO Pr.pD ds) (linO Pr.pR rs)=o at *
     cases o
     all_goals (
      unfold tv
      go_wp2_with fail
      go_ret2
      exact ⟨rfl,M2.out,HL2.out⟩)
def xOne:Pr.Ex:=.mk 2 ⟨#[]⟩ ⟨1,1,[]⟩ 0 []
def xName (s:ByteArray):Pr.Ex:=.mk 1 s Va.zero 0 []
def xNeg:Pr.Ex:=.mk 4 ⟨#[]⟩ Va.zero 6 [xOne]
def xAdd:Pr.Ex:=.mk 4 ⟨#[]⟩ Va.zero 1 [xName { data:=#[89] },xOne]
def xMul:Pr.Ex:=.mk 4 ⟨#[]⟩ Va.zero 3 [xName { data:=#[88] },xAdd]
def xProg:Pr.Prog:=⟨[⟨{ data:=#[112] },[1,2],0,0⟩],[⟨⟨{ data:=#[113] },[]⟩,[],0,0⟩]⟩
def xSum:Pr.Atom:=⟨{ data:=#[115,117,109] },[]⟩
theorem text_one:Va.text ⟨1,1,[]⟩=[49]:=by
 unfold Va.text Va.itoa Lib.itoa
 rw [if_pos rfl,if_neg (by decide)]
 simp [Lib.decDigits]
theorem pE_one (k:Nat):Pr.pE (k+1) xOne=some [49]:=by
 rw [Pr.pE_val _ _ rfl]
 show (if _ then some (Va.text ⟨1,1,[]⟩) else none)=_
 rw [text_one]
 decide
theorem pE_X (k:Nat) (s:ByteArray) (h:Va.variable_ (Cod.str s)=true):Pr.pE (k+1) (xName s)=some (Cod.str s):=by
 rw [Pr.pE_var _ _ rfl]
 exact if_pos ⟨h,rfl,rfl,rfl⟩
theorem pE_neg:Pr.pE 17 xNeg=some [45,40,49,41]:=by
 rw [Pr.pE_op _ _ rfl]
 show (if _ then Pr.pO 16 xNeg else none)=_
 rw [if_pos (by decide)]
 have:Pr.pO 16 xNeg=(if Pr.binds xOne<3\/(xOne.k=2/\xOne.x.k=1/\0<xOne.x.n) then (Pr.pE 15 xOne).map (fun t=>40 :: (t++[41])) else Pr.pE 16 xOne).map
     (fun t=>45 :: ((if xOne.k=2/\xOne.x.k=1/\xOne.x.n=0 then [45] else [])++t)):=by rfl
 rw [this,if_pos (show Pr.binds xOne<3\/(xOne.k=2/\xOne.x.k=1/\0<xOne.x.n) by decide),if_neg (show ¬ (xOne.k=2/\xOne.x.k=1/\xOne.x.n=0) by decide),pE_one]
 rfl
theorem pE_add (k:Nat):Pr.pE (k+2) xAdd=some [89,32,43,32,49]:=by
 rw [Pr.pE_op _ _ rfl,if_pos (by decide)]
 show Pr.pO (k+1) (.mk 4 _ _ 1 [xName { data:=#[89] },xOne])=_
 rw [pO_two _ _ _ _ _ _ _ (by decide),if_neg (by decide),if_neg (by decide),pE_X _ _ (by decide),pE_one]
 rfl
theorem pE_mul:Pr.pE 17 xMul=some [88,32,42,32,40,89,32,43,32,49,41]:=by
 rw [Pr.pE_op _ _ rfl,if_pos (by decide)]
 show Pr.pO (15+1) (.mk 4 _ _ 3 [xName { data:=#[88] },xAdd])=_
 rw [pO_two _ _ _ _ _ _ _ (by decide),if_neg (by decide),if_pos (by decide),pE_X _ _ (by decide),pE_add]
 rfl
theorem pP_prog:Pr.pP xProg=some [114,101,108,97,116,105,111,110,32,112,40,110,117,109,44,32,115,121,109,41,46,10,113,40,41,46,10]:=by
 have h1:Pr.pD ⟨{ data:=#[112] },[1,2],0,0⟩=some [114,101,108,97,116,105,111,110,32,112,40,110,117,109,44,32,115,121,109,41]:=by decide
 have h2:Pr.pA ⟨{ data:=#[113] },[]⟩=some [113,40,41]:=by decide
 have h3:Pr.pR ⟨⟨{ data:=#[113] },[]⟩,[],0,0⟩=some [113,40,41]:=by rw [pR_eq];rw [h2];rfl
 unfold Pr.pP xProg
 simp only [List.map_cons,List.map_nil,h1,h3]
 rfl
theorem pA_sum:Pr.pA xSum=none:=by decide
end Go.Proofs.YtbfaclljbbfknaaGreatDoor
