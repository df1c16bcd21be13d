/- THE TEXTS MERGED: PrLit3. -/
import Derived.Test.YtbfaclljbbfknaaGreatDoorKP23
namespace Go.Proofs.YtbfaclljbbfknaaGreatDoor
open Go.RowKit
set_option linter.unusedVariables false
set_option linter.unusedSimpArgs false
set_option maxRecDepth 100000
theorem wpList_store_newP {P:Program} {ops:Array Oper} {rest:List Oper} {op:Oper} {a:Act} {w:World} {Q:Exit->Act->World->Prop} (hgd:op.guard=none) (ty:TypeId) (x y:Operand) (ho:op.op=.store ty x y)
  (c c':Array Value) (hx:a.eval x=.pointer (some ⟨w.heap.size,0,none⟩)) (hy:a.eval y=.agg c')
  (hi:(P.info? ty).map (·.size)=some c'.size) (hc:c.size=c'.size) (h1:c'.all (·.oneCell')=true)
  (h:wpList P ops Q rest (a.put op.dst undef) (w.alloc (.cells c' ty))):wpList P ops Q (op :: rest) a (w.alloc (.cells c ty)):=by
 refine wpList_plain hgd fun _ hK=>?_
 unfold Oper.wp execOp
 simp only [ho,hx,hy,Sem.run_bind,run_storeAt_new w ty c c' hi hc h1,Result.andThen_ok,Sem.run_pure]
 exact hK _ _ h
set_option maxHeartbeats 8000000 in
theorem body_ofP {w0:World} {b:Nat} (hb16:b<=16) (HL:LitC w0 b):BodyC w0 b:=by
 intro ls u p q v l bad w h hB hG hlen
 obtain ⟨ba,bc,rfl⟩:=hB.lit
 have hLL:=lsWt_len ls
 unfold LitC at HL
 obtain ⟨br,hbr⟩:∃ br:Int,16 - (b:Int)=br:=⟨_,rfl⟩
 simp only [hbr] at HL h ⊢
 clear hbr
 have HLC:=Lib.hid HL
 have HB:=Lib.hid hB
 have HG:=Lib.hid hG
 have R0:=Hxq (Run.start h)
 clear HL h hB hG
 go_enter Tryz.func44,Tryz.ntmps44
 go_wp2_with fail
 go_loopw [8] (fun iv wr=>∃ k:Nat,k<=ls.length/\iv=.int .i64 (k:Nat)/\Run w0 w p v l bad br br [] (comO (Pr.pL b) (ls.take k)) (lsWt (ls.take k)) wr) (fun iv _=>ls.length - (intOf iv).toNat)
 case atStart=>exact ⟨0,Nat.zero_le _,rfl,R0.out.of (by simp [comO,Pr.seqO,Pr.commas,List.intercalate,List.intersperse]) (by simp)⟩
 case round =>
  obtain ⟨k,hk,rfl,hr⟩:=hrel
  by_cases hlt:k<ls.length
  ·have hkI:(k:Int)<(ls.length:Int):=by omega
   have hk0:(0:Int)<=(k:Int):=by omega
   obtain ⟨bb,off,U,rfl,hc,hok⟩:=HB.out.at k hlt
   have hsn:=comO_snoc (Pr.pL b) (ls.take k) ls[k]
   have hst:=lsWt_take ls k hlt
   have hle:=lsWt_le ls (k+1)
   have hth:=lWt_pos ls[k]
   have hnone:=seqO_none_take (Pr.pL b) ls k
   rw [<-List.take_succ_eq_append_getElem hlt,List.length_take,Nat.min_eq_left hk] at hsn
   have HSN:=Lib.hid hsn
   have HNO:Hid (comO (Pr.pL b) (ls.take k)=none->comO (Pr.pL b) ls=none):=Hxq (fun h=>by
    unfold comO at h ⊢
    rw [Option.map_eq_none_iff] at h ⊢
    exact hnone h)
   clear hsn hnone
   generalize ls[k]=t at *
   have hc:=hc.past hr.base
   have HOK:=Lib.hid hok
   obtain ⟨hT,hl,hre,ho,hbo⟩:(∃ a c,True)/\True/\True/\True/\True:=⟨⟨0,0,trivial⟩,trivial,trivial,trivial,trivial⟩
   clear hT hl hre ho hbo
   obtain ⟨kk,a,op,le,re,fn,av,of,body,ln,cl⟩:=t
   obtain ⟨hT,hl,hre,ho,hbo⟩:=hok.parts
   obtain ⟨Ut,Ul,Ur,Uo,Ub⟩:=U
   dsimp only at hT hl hre ho hbo
   obtain ⟨ta,tc,rfl⟩:=hT.lit
   obtain ⟨la,lc,rfl⟩:=hl.lit
   obtain ⟨ra,rc,rfl⟩:=hre.lit
   obtain ⟨oa,oc,rfl⟩:=ho.lit
   obtain ⟨ya,yc,rfl⟩:=hbo.lit
   have XR:=CellsAt.range (cs:=[Value.int IntKind.i64 kk,Value.string a.rel,(Value.slice ta a.terms.length tc),Value.int IntKind.i64 op,Value.int IntKind.i64 le.k,Value.string le.v,Value.int IntKind.i64 le.x.k,Value.int IntKind.i64 le.x.n,Value.string (Lx.ofS le.x.s),Value.int IntKind.i64 le.op,(Value.slice la le.args.length lc),Value.int IntKind.i64 re.k,Value.string re.v,Value.int IntKind.i64 re.x.k,Value.int IntKind.i64 re.x.n,Value.string (Lx.ofS re.x.s),Value.int IntKind.i64 re.op,(Value.slice ra re.args.length rc),Value.int IntKind.i64 fn,Value.string av,Value.int IntKind.i64 of.k,Value.string of.v,Value.int IntKind.i64 of.x.k,Value.int IntKind.i64 of.x.n,Value.string (Lx.ofS of.x.s),Value.int IntKind.i64 of.op,(Value.slice oa of.args.length oc),(Value.slice ya body.length yc),Value.int IntKind.i64 ln,Value.int IntKind.i64 cl]) hc
   have MT:=Hxq ((Mod.refl [] wr).alloc (Obj.cells #[Value.int IntKind.i64 kk,Value.string a.rel,(Value.slice ta a.terms.length tc),Value.int IntKind.i64 op,Value.int IntKind.i64 le.k,Value.string le.v,Value.int IntKind.i64 le.x.k,Value.int IntKind.i64 le.x.n,Value.string (Lx.ofS le.x.s),Value.int IntKind.i64 le.op,(Value.slice la le.args.length lc),Value.int IntKind.i64 re.k,Value.string re.v,Value.int IntKind.i64 re.x.k,Value.int IntKind.i64 re.x.n,Value.string (Lx.ofS re.x.s),Value.int IntKind.i64 re.op,(Value.slice ra re.args.length rc),Value.int IntKind.i64 fn,Value.string av,Value.int IntKind.i64 of.k,Value.string of.v,Value.int IntKind.i64 of.x.k,Value.int IntKind.i64 of.x.n,Value.string (Lx.ofS of.x.s),Value.int IntKind.i64 of.op,(Value.slice oa of.args.length oc),(Value.slice ya body.length yc),Value.int IntKind.i64 ln,Value.int IntKind.i64 cl] 40))
   have RT:=Hxq (hr.fresh MT.out (by simp))
   have XT:Hid (CellsAt _ wr.heap.size 0 (liV (.mk kk a op le re fn av of body ln cl) ⟨.slice ta a.terms.length tc,.slice la le.args.length lc,.slice ra re.args.length rc,.slice oa of.args.length oc,.slice ya body.length yc⟩)):=Hxq (CellsAt.of (heap_alloc_new wr (Obj.cells #[Value.int IntKind.i64 kk,Value.string a.rel,(Value.slice ta a.terms.length tc),Value.int IntKind.i64 op,Value.int IntKind.i64 le.k,Value.string le.v,Value.int IntKind.i64 le.x.k,Value.int IntKind.i64 le.x.n,Value.string (Lx.ofS le.x.s),Value.int IntKind.i64 le.op,(Value.slice la le.args.length lc),Value.int IntKind.i64 re.k,Value.string re.v,Value.int IntKind.i64 re.x.k,Value.int IntKind.i64 re.x.n,Value.string (Lx.ofS re.x.s),Value.int IntKind.i64 re.op,(Value.slice ra re.args.length rc),Value.int IntKind.i64 fn,Value.string av,Value.int IntKind.i64 of.k,Value.string of.v,Value.int IntKind.i64 of.x.k,Value.int IntKind.i64 of.x.n,Value.string (Lx.ofS of.x.s),Value.int IntKind.i64 of.op,(Value.slice oa of.args.length oc),(Value.slice ya body.length yc),Value.int IntKind.i64 ln,Value.int IntKind.i64 cl] 40)))
   clear hr hok hT hl hre ho hbo hc
   obtain ⟨wt,hwt⟩:∃ wt,lWt (.mk kk a op le re fn av of body ln cl)=wt:=⟨_,rfl⟩
   rw [hwt] at hst hth
   have HWT:=Lib.hid hwt
   clear hwt
   have hAll:((#[Value.int IntKind.i64 kk,Value.string a.rel,(Value.slice ta a.terms.length tc),Value.int IntKind.i64 op,Value.int IntKind.i64 le.k,Value.string le.v,Value.int IntKind.i64 le.x.k,Value.int IntKind.i64 le.x.n,Value.string (Lx.ofS le.x.s),Value.int IntKind.i64 le.op,(Value.slice la le.args.length lc),Value.int IntKind.i64 re.k,Value.string re.v,Value.int IntKind.i64 re.x.k,Value.int IntKind.i64 re.x.n,Value.string (Lx.ofS re.x.s),Value.int IntKind.i64 re.op,(Value.slice ra re.args.length rc),Value.int IntKind.i64 fn,Value.string av,Value.int IntKind.i64 of.k,Value.string of.v,Value.int IntKind.i64 of.x.k,Value.int IntKind.i64 of.x.n,Value.string (Lx.ofS of.x.s),Value.int IntKind.i64 of.op,(Value.slice oa of.args.length oc),(Value.slice ya body.length yc),Value.int IntKind.i64 ln,Value.int IntKind.i64 cl]:Array Value).all (·.oneCell'))=true:=all_oneCell_toArray (by simp [Value.oneCell'])
   have HALL:=Lib.hid hAll
   clear hAll
   go_upto_region 3 with (first
    | (refine wpList_load_mid rfl 40 _ rfl bb _ rfl _ _ XR Tryz.underlying40 rfl (by kernel_rfl) ?_)
    | (refine wpList_store_newP rfl 40 _ _ rfl _ _ rfl rfl (by kernel_rfl) (by kernel_rfl) HALL.out ?_))
   generalize wr.alloc (Obj.cells #[Value.int IntKind.i64 kk,Value.string a.rel,(Value.slice ta a.terms.length tc),Value.int IntKind.i64 op,Value.int IntKind.i64 le.k,Value.string le.v,Value.int IntKind.i64 le.x.k,Value.int IntKind.i64 le.x.n,Value.string (Lx.ofS le.x.s),Value.int IntKind.i64 le.op,(Value.slice la le.args.length lc),Value.int IntKind.i64 re.k,Value.string re.v,Value.int IntKind.i64 re.x.k,Value.int IntKind.i64 re.x.n,Value.string (Lx.ofS re.x.s),Value.int IntKind.i64 re.op,(Value.slice ra re.args.length rc),Value.int IntKind.i64 fn,Value.string av,Value.int IntKind.i64 of.k,Value.string of.v,Value.int IntKind.i64 of.x.k,Value.int IntKind.i64 of.x.n,Value.string (Lx.ofS of.x.s),Value.int IntKind.i64 of.op,(Value.slice oa of.args.length oc),(Value.slice ya body.length yc),Value.int IntKind.i64 ln,Value.int IntKind.i64 cl] 40)=wT at *
   clear XR HALL
   obtain ⟨q',v',bad',g0,g1,g2,g3,fz,hb1,hb2⟩:=RT.out.cells
   have HBD:Hid (bad'=true->bad=true\/comO (Pr.pL b) (ls.take k)=comO (Pr.pL b) ls):=Hxq (fun hb=>by
    cases bad
    ·have:=hb1 rfl
     rw [hb] at this
     have hn:comO (Pr.pL b) (ls.take k)=none:=by simpa using this.symm
     exact .inr (by rw [hn,HNO.out hn])
    ·exact .inl rfl)
   clear g0 g1 g3 fz hb1 hb2
   cases bad'
   ·clear HBD
    go_upto_if 18 with fail
    go_cut [] (fun wx=>Run w0 w p v l bad br br [wr.heap.size] (cat (comO (Pr.pL b) (ls.take k)) (some (if k=0 then [] else [44,32]))) (lsWt (ls.take k)+2) wx/\Kept [wr.heap.size] wT wx)
    case first =>
     clear g2
     by_cases k0:k=0
     ·subst k0
      go_wp2_with fail
      go_meet
      exact ⟨RT.out.of (by simp [cat_nil']) (by omega),Kept.refl _⟩
     ·have kB:decide (0<k)=true:=by rw [decide_eq_true_eq];omega
      have K0:=Lib.hid k0
      clear k0 kB
      go_wp2_with fail
      all_goals first
       | (exfalso;have:=K0.out;omega)
       | skip
      refine (RT.out.put [{ data:=#[44,32] }] rfl rfl (by simp) (by rw [fl_len];show _+(2+0)<=_;omega)).mono ?_
      rintro e4 w4 ⟨rfl,r4,k4⟩
      have R4:=Lib.hid r4
      have K4:=Lib.hid k4
      clear r4 k4
      go_wp2_with fail
      go_meet
      exact ⟨R4.out.of (by rw [if_neg K0.out];rfl) (by rw [fl_len];exact Nat.le_of_eq rfl),K4.out⟩
    case rest =>
     obtain ⟨r4,k4⟩:=hcut
     have RT:=Lib.hid r4
     have XR:=CellsAt.range (cs:=[Value.int IntKind.i64 kk,Value.string a.rel,(Value.slice ta a.terms.length tc),Value.int IntKind.i64 op,Value.int IntKind.i64 le.k,Value.string le.v,Value.int IntKind.i64 le.x.k,Value.int IntKind.i64 le.x.n,Value.string (Lx.ofS le.x.s),Value.int IntKind.i64 le.op,(Value.slice la le.args.length lc),Value.int IntKind.i64 re.k,Value.string re.v,Value.int IntKind.i64 re.x.k,Value.int IntKind.i64 re.x.n,Value.string (Lx.ofS re.x.s),Value.int IntKind.i64 re.op,(Value.slice ra re.args.length rc),Value.int IntKind.i64 fn,Value.string av,Value.int IntKind.i64 of.k,Value.string of.v,Value.int IntKind.i64 of.x.k,Value.int IntKind.i64 of.x.n,Value.string (Lx.ofS of.x.s),Value.int IntKind.i64 of.op,(Value.slice oa of.args.length oc),(Value.slice ya body.length yc),Value.int IntKind.i64 ln,Value.int IntKind.i64 cl]) (XT.out.kept k4 (by simp))
     clear r4 k4 g2 XT MT
     go_wp2_with (refine wpList_load_mid rfl 40 _ rfl wr.heap.size 0 rfl _ _ XR Tryz.underlying40 rfl (by kernel_rfl) ?_)
     clear XR
     refine (RT.out.call (Nat.le_refl _) (fun q v l' bad h hl=>HLC.out (.mk kk a op le re fn av of body ln cl) ⟨.slice ta a.terms.length tc,.slice la le.args.length lc,.slice ra re.args.length rc,.slice oa of.args.length oc,.slice ya body.length yc⟩ p q v l' bad _ h HOK.out HG.out (by have:=HWT.out;omega))).mono ?_
     rintro e5 w5 ⟨rfl,r5,k5⟩
     have R5:=Lib.hid r5
     clear r5 k5
     go_wp2_with fail
     go_roundw
     case rel=>exact ⟨k+1,by omega,by go_num,(R5.out.less (by simp)).of (by rw [HSN.out]) (by have:=HWT.out;omega)⟩
     case measure=>simp [intOf];omega
   ·go_wp2_with fail
    go_end0
    exact ((RT.out.less (B':=[]) (by simp)).early (HBD.out (by simp)) (by omega)).done
  ·obtain rfl:k=ls.length:=by omega
   have hkI:¬ (ls.length:Int)<(ls.length:Int):=by omega
   rw [List.take_length] at hr
   have HR:=Lib.hid hr
   clear hr
   go_wp2_with fail
   go_end0
   exact HR.out.done
end Go.Proofs.YtbfaclljbbfknaaGreatDoor
