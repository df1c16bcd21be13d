/- THE TEXTS MERGED: ReAsk ReCnt ReLawNil PfRNil. -/
import Derived.Test.YtdpgbnohelepiaaKN4
import Derived.ProofKit
import Derived.OpenShut
import Derived.ShutString
import Derived.ChangeOld
import Derived.SizedLaws
namespace Go.Proofs.Ytdpgbnohelepiaa
open Go.RowKit Go.Shelf
set_option linter.unusedVariables false
set_option linter.unusedSimpArgs false
set_option maxRecDepth 100000
theorem res_asked {fn:Func} {p u v:Tmp} (h:fn.results=#[.tmp u,.cell p 68,.tmp v]) (tmps:Array Value) (w:World) (b:Nat) (cs:Array Value) (T:TypeId) (fr:Nat × Nat) (x y:Value)
  (hp:tmps.getD p undef=.pointer (some ⟨b,0,none⟩)) (hx:tmps.getD u undef=x) (hy:tmps.getD v undef=y) (hg:w.heap[b]?=some (.cells cs T fr)) (hc:(Try.prog.info? 68).map (·.size)=some cs.size) :
  (results fn tmps).run Try.prog w=.ok (.tuple #[x,.agg cs,y]) w:=by
 have hl:=run_loadVar_row (P:=Try.prog) w b T 68 cs fr _ hg Try.underlying68 rfl hc
 have hp':tmps[p]?.getD undef=.pointer (some ⟨b,0,none⟩):=by simpa using hp
 have hx':tmps[u]?.getD undef=x:=by simpa using hx
 have hy':tmps[v]?.getD undef=y:=by simpa using hy
 simp [results,h,hp',hx',hy',asAddr,hl]
set_option maxHeartbeats 4000000 in
theorem asked_nil (a b:Option Addr) (n c m d:Nat) (w:World):Calls Try.prog 32 #[.pointer none,.slice a n c,.slice b m d] w fun e w'=>e=.returned (.tuple #[.int .u16 0,.agg (keyC []),.bool false])/\Mod [] w w':=by
 have hv:=two_vars0 w #[Value.int .i64 0,Value.int .i64 0,Value.string ⟨#[]⟩,Value.int .i64 0,Value.int .i64 0,Value.string ⟨#[]⟩,Value.int .i64 0,Value.int .i64 0,Value.string ⟨#[]⟩,Value.int .i64 0,Value.int .i64 0,Value.string ⟨#[]⟩,Value.int .i64 0,Value.int .i64 0,Value.string ⟨#[]⟩,Value.int .i64 0,Value.int .i64 0,Value.string ⟨#[]⟩,Value.int .i64 0,Value.int .i64 0,Value.string ⟨#[]⟩,Value.int .i64 0,Value.int .i64 0,Value.string ⟨#[]⟩] #[Value.int .i64 0,Value.int .i64 0,Value.string ⟨#[]⟩,Value.int .i64 0,Value.int .i64 0,Value.string ⟨#[]⟩,Value.int .i64 0,Value.int .i64 0,Value.string ⟨#[]⟩,Value.int .i64 0,Value.int .i64 0,Value.string ⟨#[]⟩,Value.int .i64 0,Value.int .i64 0,Value.string ⟨#[]⟩,Value.int .i64 0,Value.int .i64 0,Value.string ⟨#[]⟩,Value.int .i64 0,Value.int .i64 0,Value.string ⟨#[]⟩,Value.int .i64 0,Value.int .i64 0,Value.string ⟨#[]⟩] 68 68
 rw [zero24] at hv
 go_enter Try.func32,Try.ntmps32
 go_upto_region 3 with fail
 rw [zero24]
 obtain ⟨x0,x1,m0,z0⟩:=hv
 generalize (w.alloc (Obj.cells _ 68)).alloc (Obj.cells _ 68)=w0 at *
 have hk:(rowVals (List.replicate 8 Va.zero)).toArray=keyC []:=rfl
 rw [hk] at x0 x1
 have hks:(keyC []).size=24:=keyC_size (by simp)
 have h1:=keyC_one []
 obtain ⟨K,hKK⟩:∃ K,keyC []=K:=⟨_,rfl⟩
 rw [hKK] at x0 x1 hks h1
 have hKs:(Try.prog.info? 68).map (·.size)=some K.size:=by rw [hks];kernel_rfl
 have hKl:(Try.prog.info? 68).map (·.size)=some K.toList.length:=by rw [Array.length_toList,hks];kernel_rfl
 have HKK:=Lib.hid hKK;have HK:=Lib.hid hKs;have H1:=Lib.hid h1;have X0:=Lib.hid x0;have X1:=Lib.hid x1;have M0:=Lib.hid m0;have HKl:=Lib.hid hKl
 clear hKK hKs h1 x0 x1 m0 hks hk hKl
 go_upto_region 4 with fail
 refine tl_region (fun wS=>Mod [] w0 wS) [2,3] (by kernel_rfl) ?_
 have hHeld:Mod [] w0 w0.drew:=(Mod.refl [] w0).drew
 try simp only [Act.put,Lq1,Lq2,Lq3]
 generalize w0.drew=wd at *
 refine TlAny.take 0 (v:=.agg K) hHeld ?_ ?_ ?_
 ·refine yieldsIf_load_mid (by rfl) 68 _ rfl (w.heap.size+1) 0 rfl K.toList _ ?_ Try.underlying68 rfl HKl.out
  intro wS hSw
  replace hSw:Mod [] w0 wS:=hSw
  exact fun j v hv=>by have:=cell_at (hSw.at X1.out (by simp)) j;rw [Nat.zero_add];rw [this];simpa using hv
 ·exact fun _ _ _ h=>h
 try simp only [Act.put,Lq1,Lq2,Lq3]
 refine TlAny.take 1 (v:=?_) hHeld ?_ ?_ ?_
 rotate_left 1
 ·refine Or.inl ⟨by rfl,?_⟩
  intro wS hSw
  replace hSw:Mod [] w0 wS:=hSw
  clear hSw
  go_simp
  all_goals with_reducible rfl
 ·exact fun _ _ _ h=>h
 try simp only [Act.put,Lq1,Lq2,Lq3]
 refine TlAny.one 2 ?_
 intro K' hK'
 refine (if_pos (by rfl)).mpr ?_
 refine wp_store_row 68 _ _ rfl w.heap.size K rfl rfl 68 K (hHeld.at X0.out (by simp)) HK.out rfl (by rw [<-Array.all_toList];exact H1.out) ?_
 refine hK'.out _ _ (fun hN=>absurd hN (by decide)) ?_
 clear hK' K'
 try simp only [Act.put,Lq1,Lq2,Lq3]
 refine TlAny.one 3 ?_
 intro K2 hK2
 go_simp
 refine hK2.out _ _ (fun hN=>absurd hN (by decide)) ?_
 clear hK2 K2
 try simp only [Act.put,Lq1,Lq2,Lq3]
 refine TlAny.fin ?_
 have HS:=Hxq (setRow_heap wd w.heap.size K K 68 _ (hHeld.at X0.out (by simp)))
 have HM:=Hxq ((M0.out.trans hHeld (by simp)).trans (Mod.setRow wd w.heap.size K) (fun t ht=>.inr (by rw [Msq] at ht;omega)))
 generalize wd.setRow w.heap.size K=w3 at *
 go_wp2_with fail
 refine bodyPost_ret (res_asked rfl _ _ _ _ _ _ (.int .u16 0) (.bool false) rfl rfl rfl HS.out HK.out) rfl ⟨by rw [HKK.out],HM.out⟩
set_option maxHeartbeats 4000000 in
theorem match_nil (a b:Option Addr) (n c m d:Nat) (w:World):Calls Try.prog 13 #[.pointer none,.slice a n c,.slice b m d] w fun e w'=>(∃ q,e=.returned (tellF q)/\w'.cell? ⟨q,0,none⟩=some noneF/\w.heap.size<=q)/\Mod [] w w':=by
 have mA:=(Mod.refl [] w).alloc (Obj.cells #[.pointer none] 26)
 have eA:=cell_at (heap_alloc_new w (Obj.cells #[.pointer none] 26)) 0
 simp only [List.getElem?_toArray,List.getElem?_cons_zero] at eA
 have HT:=Hxq (fun w=>tell_none w w.heap.size rfl)
 unfold noneF at HT
 have HA:=Hxq (fun w=>asked_nil a b n c m d w)
 go_enter Try.func13,Try.ntmps13
 go_upto_region 1 with fail
 generalize w.alloc (Obj.cells #[Value.pointer none] 26)=w0 at *
 have MA:=Lib.hid mA
 clear mA
 go_wp2_with fail
 refine (HA.out w0).mono ?_
 rintro e1 w1 ⟨rfl,m1⟩
 have hks:(keyC []).size=24:=keyC_size (by simp)
 have h1:=keyC_one []
 obtain ⟨K,hKK⟩:∃ K,keyC []=K:=⟨_,rfl⟩
 rw [hKK] at hks h1 ⊢
 have hKs:(Try.prog.info? 68).map (·.size)=some K.size:=by rw [hks];kernel_rfl
 have hZs:(#[Value.int .i64 0,Value.int .i64 0,Value.string ⟨#[]⟩,Value.int .i64 0,Value.int .i64 0,Value.string ⟨#[]⟩,Value.int .i64 0,Value.int .i64 0,Value.string ⟨#[]⟩,Value.int .i64 0,Value.int .i64 0,Value.string ⟨#[]⟩,Value.int .i64 0,Value.int .i64 0,Value.string ⟨#[]⟩,Value.int .i64 0,Value.int .i64 0,Value.string ⟨#[]⟩,Value.int .i64 0,Value.int .i64 0,Value.string ⟨#[]⟩,Value.int .i64 0,Value.int .i64 0,Value.string ⟨#[]⟩]:Array Value).size=K.size:=by rw [hks];rfl
 have HK:=Lib.hid hKs;have H1:=Lib.hid h1;have HZ:=Lib.hid hZs;have M1:=Hxq (MA.out.trans m1 (by simp))
 have hv:=two_vars0 w1 #[.int .u16 0] #[Value.int .i64 0,Value.int .i64 0,Value.string ⟨#[]⟩,Value.int .i64 0,Value.int .i64 0,Value.string ⟨#[]⟩,Value.int .i64 0,Value.int .i64 0,Value.string ⟨#[]⟩,Value.int .i64 0,Value.int .i64 0,Value.string ⟨#[]⟩,Value.int .i64 0,Value.int .i64 0,Value.string ⟨#[]⟩,Value.int .i64 0,Value.int .i64 0,Value.string ⟨#[]⟩,Value.int .i64 0,Value.int .i64 0,Value.string ⟨#[]⟩,Value.int .i64 0,Value.int .i64 0,Value.string ⟨#[]⟩] 79 68
 have HV:=Lib.hid hv
 clear hKK hKs h1 hks hZs m1 HA hv eA
 have HM:=Hxq (M1.out.trans (HV.out.2.2.1.trans (Mod.setRow _ (w1.heap.size+1) K) (fun t ht=>.inr (by rw [Msq] at ht;omega))) (by simp))
 go_upto_region 2 with (first | refine wpList_store_at rfl 68 _ _ rfl (w1.heap.size+1) K _ 68 rfl rfl HV.out.2.1 HK.out HZ.out H1.out ?_)
 generalize ((w1.alloc _).alloc _).setRow _ _=w2 at *
 go_wp2_with fail
 refine (HT.out w2).mono ?_
 rintro e3 w3 ⟨rfl,h3,m3⟩
 have hz2:w.heap.size<=w2.heap.size:=HM.out.size
 have HH:=Hxq (And.intro h3 (HM.out.trans m3 (by simp)))
 unfold tellF
 clear h3 m3 HT HM HV
 go_wp2_with fail
 go_ret
 exact ⟨⟨_,rfl,HH.out.1,hz2⟩,HH.out.2⟩
attribute [local go_sem] Oper.semAt_some
structure CI (w:World) (b B:Nat) (W:World):Prop where
 n:W.heap[b]?=some (.cells #[.int .i64 0] 3 (0,0))
 mod:Mod [] w W
 b:b<B
 B:w.heap.size<=B
theorem CI.step {w:World} {b B:Nat} {A C:World} (h:CI w b B A) (hb:Below B A C):CI w b B C :=
 ⟨(hb.block _ h.b).trans h.n,h.mod.trans (mod_of_below hb) (fun t ht=>.inr (by have:=h.B;simp only [List.mem_filter,decide_eq_true_eq] at ht;omega)),h.b,h.B⟩
set_option maxHeartbeats 4000000 in
theorem count_nil (a b:Option Addr) (n c m d:Nat) (w:World):Calls Try.prog 15 #[.pointer none,.slice a n c,.slice b m d] w fun e w'=>e=.returned (.int .i64 0)/\Mod [] w w':=by
 have HS:=Hxq (fun n q w=>none_seq n q w)
 have HMt:=Hxq (fun w=>match_nil a b n c m d w)
 have mA:=(Mod.refl [] w).alloc (Obj.cells #[.int .i64 0] 3)
 have eA:=heap_alloc_new w (Obj.cells #[.int .i64 0] 3)
 have MA:=Lib.hid mA;have EA:=Lib.hid eA
 clear mA eA
 refine (callsIn_wide (n:=5)).1 ?_
 refine callsIn_of_wp_marks Try.func15 rfl trivial ?_
 simp only [Try.ntmps15,List.size_toArray,List.length_cons,List.length_nil,Nat.reduceAdd,Nat.reduceSub,Array.replicate_succ,Array.replicate_zero,List.push_toArray,List.append_toArray,List.nil_append,List.cons_append]
 gi_wp2_with fail
 refine ⟨trivial,callsIn_wide.2 ?_⟩
 generalize w.alloc (Obj.cells #[Value.int IntKind.i64 0] 3)=w0 at *
 refine (HMt.out w0).mono ?_
 rintro e1 wA ⟨⟨q,rfl,hq,hz⟩,m1⟩
 have h0:CI w w.heap.size wA.heap.size wA:=⟨m1.at EA.out (by simp),MA.out.trans m1 (by simp),by have:=lt_of_block (m1.at EA.out (by simp));exact this,by have:=lt_of_block (m1.at EA.out (by simp));omega⟩
 have hq':=hq
 unfold tellF
 gi_wp2_with fail
 refine wp_seq (gf:=45) (lb:=#[.pointer (some ⟨q,0,none⟩)]) rfl (enters_of Try.func45 (by kernel_rfl) rfl) (HS.out _ _ wA hq') (Mod.refl [] wA) (fun _=>rfl)
  [] (by simp) (fun _ _=>trivial)
  (fun _ W=>CI w w.heap.size wA.heap.size W) (fun _ _ _=>False) (fun pre A C hs hb=>hs.step hb) (fun _ _ _ _ hs _=>hs) h0
  (fun _ _ _=>True) (fun _ _ _ _ _ _=>trivial)
  ?assign ?body ?done ?stop
 case assign =>
  intro l pre x W K hi hlt hK
  gi_wp2_with fail
  exact hK _ _ (Mod.refl [] W) hi trivial
 case body =>
  intro l pre x a' W hi hx hpf
  exact hpf.elim
 case done =>
  rintro D xs W hD rfl hi hK
  have HI:=Lib.hid hi;have HK:=Lib.hid hK
  have c0:=cell_at hi.n 0
  simp only [List.getElem?_toArray,List.getElem?_cons_zero] at c0
  have hD2:D<W.heap.size:=lt_of_block hK
  have hb:=hi.b
  have hB:=hi.B
  clear hi hK
  gi_wp2_with fail
  refine ⟨by simp,.inl ⟨_,_,rfl,run_takeDeferred HK.out,?_⟩⟩
  refine ⟨.int .i64 0,by simp [results,Try.results15,go_sem],rfl,?_⟩
  exact HI.out.mod.trans (mod_putObj _ _ _) (by simp;omega)
 case stop =>
  rintro D c pre W _ h _
  exact h.elim
open Go.RowKit
set_option maxHeartbeats 8000000 in
theorem RelationNil_any (a b:Option Addr) (n c m d:Nat) (w:World):Calls Try.prog 4 #[.slice a n c,.slice b m d] w fun e w'=>e=.returned (.bool true)/\Mod [] w w':=by
 have hnil:∀ w:World,(binOp BinOp.eql 26 (.pointer none) (.pointer none)).run Try.prog w=.ok (.bool true) w:=fun _=>rfl
 have HPut:=Hxq (fun w=>put_nil (.slice a n c) 0 0 w);have HGet:=Hxq (fun w=>get_nil a n c w);have HTd:=Hxq (fun w q h=>told_none w q h)
 have HAll:=Hxq (fun w=>all_nil w w.heap.size rfl);have HMt:=Hxq (fun w=>match_nil b a m d n c w);have HFr:=Hxq (fun w=>fresh_nil w (w.heap.size+1) rfl)
 have HTu:=Hxq (fun w=>turn_nil w);have HCl:=Hxq (fun w=>clear_nil w);have HDr:=Hxq (fun w=>drop_nil a n c w);have HCo:=Hxq (fun w=>columns_nil w);have HLe:=Hxq (fun w=>len_nil w)
 have HCt:=Hxq (fun w=>count_nil b a m d n c w);have HCp:=Hxq (fun w=>copy_nil w)
 unfold tellF at HAll HMt HFr HTd
 go_enter Try.func4,Try.ntmps4
 go_wp2_with fail
 refine (awake_any w).mono ?_
 rintro e1 w1 ⟨rfl,m1⟩
 have M1:=Lib.hid m1
 clear m1
 go_wp2_with fail
 refine (HPut.out w1).mono ?_
 rintro e2 w2 ⟨rfl,m2⟩
 have M2:=Hxq (M1.out.trans m2 (by simp))
 clear m2 M1
 go_wp2_with fail
 refine (HGet.out w2).mono ?_
 rintro e3 w3 ⟨rfl,m3⟩
 have mB:=m3.trans ((Mod.refl [] w3).alloc (Obj.cells #[.int .i64 0,.int .i64 0] 34)) (by simp)
 have eB:=heap_alloc_new w3 (Obj.cells #[.int .i64 0,.int .i64 0] 34)
 go_upto_region 5 with fail
 generalize w3.alloc (Obj.cells _ 34)=w4 at *
 generalize w3.heap.size=nb at *
 have M4:=Hxq (M2.out.trans mB (by simp));have E4:=Lib.hid eB
 clear mB eB m3 M2
 go_wp2_with fail
 refine (HAll.out w4).mono ?_
 rintro e5 w5 ⟨rfl,h5,m5⟩
 have M5:=Hxq (M4.out.trans m5 (by simp));have E5:=Hxq (m5.at E4.out (by simp));have HC5:=Hxq (HTd.out w5 _ h5)
 clear m5 h5 M4 E4
 go_wp2_with fail
 refine HC5.out.mono ?_
 rintro e6 w6 ⟨rfl,m6⟩
 have M6:=Hxq (M5.out.trans m6 (by simp));have E6:=Hxq (m6.at E5.out (by simp))
 clear m6 HC5 M5 E5
 go_wp2_with fail
 refine (HMt.out w6).mono ?_
 rintro e7 w7 ⟨⟨q7,rfl,h7,-⟩,m7⟩
 have M7:=Hxq (M6.out.trans m7 (by simp));have E7:=Hxq (m7.at E6.out (by simp));have HC7:=Hxq (HTd.out w7 _ h7)
 clear m7 h7 M6 E6
 go_wp2_with fail
 refine HC7.out.mono ?_
 rintro e8 w8 ⟨rfl,m8⟩
 have M8:=Hxq (M7.out.trans m8 (by simp));have E8:=Hxq (m8.at E7.out (by simp))
 clear m8 HC7 M7 E7
 go_wp2_with fail
 refine (HFr.out w8).mono ?_
 rintro e9 w9 ⟨rfl,h9,m9⟩
 have M9:=Hxq (M8.out.trans m9 (by simp));have E9:=Hxq (m9.at E8.out (by simp));have HC9:=Hxq (HTd.out w9 _ h9)
 clear m9 h9 M8 E8
 go_wp2_with fail
 refine HC9.out.mono ?_
 rintro e10 w10 ⟨rfl,m10⟩
 have M10:=Hxq (M9.out.trans m10 (by simp));have E10:=Hxq (m10.at E9.out (by simp))
 clear m10 HC9 M9 E9
 go_wp2_with fail
 refine (HTu.out w10).mono ?_
 rintro e11 w11 ⟨rfl,m11⟩
 have M11:=Hxq (M10.out.trans m11 (by simp));have E11:=Hxq (m11.at E10.out (by simp))
 clear m11 M10 E10
 go_wp2_with fail
 refine (HCl.out w11).mono ?_
 rintro e12 w12 ⟨rfl,m12⟩
 have M12:=Hxq (M11.out.trans m12 (by simp));have E12:=Hxq (m12.at E11.out (by simp))
 clear m12 M11 E11
 have y0:=cell_at E12.out 0;have y1:=cell_at E12.out 1
 simp only [List.getElem?_toArray,List.getElem?_cons_zero,List.getElem?_cons_succ] at y0 y1
 go_wp2_with fail
 refine (HDr.out w12).mono ?_
 rintro e13 w13 ⟨rfl,m13⟩
 have M13:=Hxq (M12.out.trans m13 (by simp))
 clear m13 M12 y0 y1
 go_wp2_with fail
 refine (HCo.out w13).mono ?_
 rintro e14 w14 ⟨rfl,m14⟩
 have M14:=Hxq (M13.out.trans m14 (by simp))
 clear m14 M13
 go_wp2_with fail
 refine (HLe.out w14).mono ?_
 rintro e15 w15 ⟨rfl,m15⟩
 have M15:=Hxq (M14.out.trans m15 (by simp))
 clear m15 M14
 go_wp2_with fail
 refine (HCt.out w15).mono ?_
 rintro e16 w16 ⟨rfl,m16⟩
 have M16:=Hxq (M15.out.trans m16 (by simp))
 clear m16 M15
 go_wp2_with fail
 refine (HCp.out w16).mono ?_
 rintro e17 w17 ⟨rfl,m17⟩
 have M17:=Hxq (M16.out.trans m17 (by simp))
 clear m17 M16
 go_wp2_with fail
 go_ret
 exact ⟨rfl,M17.out⟩
end Go.Proofs.Ytdpgbnohelepiaa
namespace Go.Proofs.Ytdpgbnohelepiaa.pRelationNil
open Go.ChangeShapes Go.WideShapes Go.ChangeAt Go.RowKit
set_option linter.unusedVariables false
set_option maxRecDepth 100000
theorem own:ownKnob Try.prog.godebug=none:=by kernel_rfl
theorem laidOut:laidOutB Try.prog=true:=by kernel_rfl
theorem contract (H:Type) (enc:TypeId × Value->H) (W:World) (base:Nat) (args:Array Value) (ds gs:List (DataW H)) (before:List MemPlace)
  (hval:∀ (j:Nat) t v,Try.f4.params[j]?=some t->args[j]?=some v->Value.okWide Try.prog W .any base t v)
  (hW:DataW.Whole enc Try.prog Try.f4.params.toList Rows.relationNilSpec.vars false W args.toList ds gs before)
  (hsz0:(DataW.weightsEach Try.prog (Try.f4.params.toList++Rows.relationNilSpec.plain.varTypes Try.prog) (ds++gs)).all (·<=reachBytes)=true) :
  Calls Try.prog 4 args W fun e W'=>∃ v,e=.returned v/\Rows.relationNilSpec.post enc Try.prog Try.f4 false true false false W args v W':=by
 have hW':=hW
 obtain ⟨p,q,hA0,hV,rfl,hfz,hnd⟩:=hW
 have hA:DataW.TrodAll enc Try.prog W 0 (fun _=>true) true Try.f4.params.toList args.toList ds p:=hA0
 rw [Try.params4] at hA hval hsz0
 obtain ⟨v0,vs0,d0,ds0,p0,q0,hargs,rfl,rfl,h0,r0⟩:=trodAll_cons hA
 obtain ⟨v1,vs1,d1,ds1,p1,q1,rfl,rfl,rfl,h1,r1⟩:=trodAll_cons r0
 obtain ⟨rfl,rfl,rfl⟩:=trodAll_nil r1
 obtain rfl:args=#[v0,v1]:=by cases args;simp_all
 obtain ⟨rfl,rfl⟩:=trodVars_none hV
 have k0:=h0
 have lt0:∀ x∈p0,x.block<W.heap.size:=by obtain ⟨m,hm⟩:=k0;exact DataW.trod_lt m _ _ _ hm
 obtain ⟨o0,len0,cap0,rfl⟩:=okWide_slice Try.underlying24 (hval 0 24 v0 rfl rfl)
 have k1:=h1
 have lt1:∀ x∈p1,x.block<W.heap.size:=by obtain ⟨m,hm⟩:=k1;exact DataW.trod_lt m _ _ _ hm
 obtain ⟨o1,len1,cap1,rfl⟩:=okWide_slice Try.underlying23 (hval 1 23 v1 rfl rfl)
 clear hA0
 refine (RelationNil_any o0 o1 len0 cap0 len1 cap1 W).mono fun e W' ⟨he,hm⟩=>?_
 subst he
 have bel:Below W.heap.size W W':=hm.below (Nat.le_refl _) (by simp)
 exact ⟨_,rfl,_,_,_,[],_,[],hW',trodAll_mk1 (shut_bool Try.underlying4 _),(trodAll_cons_mk (Below.trod laidOut (by kernel_rfl) (of_decide_eq_true (by kernel_rfl)) k0 bel lt0) (trodAll_cons_mk (Below.trod laidOut (by kernel_rfl) (of_decide_eq_true (by kernel_rfl)) k1 bel lt1) trodAll_mk0)),rfl,bel.frame _,fun h=>by cases h⟩
theorem lifted (os:Os) (started:os.Started) (H:Type) (enc:TypeId × Value->H) :
  ReturnsInHanded {} Try.checked os 4 .any (Rows.relationNilSpec.pre6 enc Try.prog Try.f4 Rows.relationNilRow.domain false) (Rows.relationNilSpec.post enc Try.prog Try.f4 false true false false):=by
 refine returnsInHanded_of_change_sized (C:=Try.checked) own started (by kernel_rfl) Try.func4
  (ChangeSpec.witness6 (enc:=enc) (C:=Try.checked) false ⟨#[],#[.slice none 0 0,.slice none 0 0],[]⟩ 8 (by kernel_rfl) (by kernel_rfl) (by kernel_rfl) (by kernel_rfl)) ?_
 intro W base args ds gs before hval hW _ hsz _
 exact contract H enc W base args ds gs before hval hW hsz
/-- THE STATEMENT -/
theorem proved:Rows.RelationNilSaid :=
 OpenClaim.holds_of_wide 4 Try.f4 rfl rfl rfl rfl rfl rfl rfl ⟨rfl,rfl,rfl,rfl,rfl⟩ rfl rfl rfl rfl rfl (by kernel_rfl) Try.func4 (by kernel_rfl)
  (of_decide_eq_true (by kernel_rfl)) (by unfold Func.isWrapper;first | (rw [if_pos (by decide +kernel)];kernel_rfl) | (rw [if_neg (by decide +kernel)];exact ⟨rfl,rfl⟩))
  (fun os started H enc _=>lifted os started H enc)
end Go.Proofs.Ytdpgbnohelepiaa.pRelationNil
