/- THE TEXTS MERGED: RePut ReGet. -/
import Derived.Test.YtdpgbnohelepiaaKN2
import Derived.Lib.SliceRun
namespace Go.Proofs.Ytdpgbnohelepiaa
open Go.RowKit Go.Maps
set_option linter.unusedVariables false
set_option linter.unusedSimpArgs false
set_option maxRecDepth 100000
set_option maxHeartbeats 4000000 in
theorem clone_any (ts:List Va.Val) (hl:ts.length<=134217728) (u:Value) (w:World) (h:VRow w u ts) :
  Calls Try.prog 26 #[u] w fun e w'=>∃ v,e=.returned v/\VOwn w' w.heap.size v ts/\Mod [] w w':=by
 obtain ⟨i0,hinf,hz0,hz1,hz2⟩:=info_parts Try.infoVal
 have q1:∀ (w:World) (a:Option Addr) (n c n' c':Nat),(binOp .eql 24 (.slice a n c) (.slice none n' c')).run Try.prog w=.ok (.bool a.isNone) w:=fun w a n c n' c'=>Lib.run_eql_slice_nil w _ _ a n c n' c' Try.underlying24
 obtain ⟨a,c,rfl⟩:=h.lit
 cases a with
 | none =>
  obtain rfl:ts=[]:=by
   rcases h with ⟨a,c,-,h⟩ | ⟨b,off,cap,h,-⟩
   ·exact h
   ·cases h
  clear h
  go_enter Try.func26,Try.ntmps26
  go_wp2
  go_ret
  exact ⟨_,rfl,VOwn.nil _ _,Mod.refl _ _⟩
 | some ad =>
  have m1:=(Mod.refl [] w).alloc (Obj.cells #[] 47)
  have S1:=Hxq (src_vals (h.past m1 (by simp)))
  have O1:Hid ((w.alloc (Obj.cells #[] 47)).ownsRow 0 47 3 (.slice (some ⟨w.heap.size,0,none⟩) 0 0) 0 []):=Hxq (World.ownsRow_made w #[] 0 (Nat.zero_le _) (Nat.zero_le _) rfl)
  have M1:=Lib.hid m1
  clear h m1
  go_enter Try.func26,Try.ntmps26
  go_wp2_with (at_builtin;refine wpList_append_src _ rfl _ _ 24 24 rfl 47 i0 (.agg (valV Va.zero)) 3 32 Try.underlying24 hinf hz0 hz1 hz2 rfl (.slice (some ⟨w.heap.size,0,none⟩) 0 0) 0 [] rfl O1.out _ ts.length (rowVals ts) rfl S1.out (by unfold maxLen;omega) (by omega) ?_)
  intro v' w1 hown hmod hfresh hnil
  have hm:Mod [] w w1:=M1.out.trans hmod (fun t ht=>.inr (by simp [fp] at ht;omega))
  have HO:Hid (VOwn w1 w.heap.size v' ts/\Mod [] w w1):=Lib.hid ⟨⟨by simpa using hown,fun k hk=>by have:=hfresh k hk;simp [fp] at this;omega⟩,hm⟩
  clear hown hmod hfresh hnil hm
  go_wp2_with fail
  go_ret
  exact ⟨_,rfl,HO.out⟩
/-- what Put leaves -/
def RePutR (w:World) (p:Nat) (n:Int) (b1 b2 b5:Nat) (D1 D2:DataW Value) (n1 n2:Nat) (ts:List Va.Val) (rk ru:Int) (kl:Lit) (old:Option Addr) (e:Ending) (w':World):Prop :=
 e=.returned (.tuple #[.bool old.isNone,.int .i64 0]) /\
  (∃ x v,RelB w' p n b1 b2 b5 (D1.put kl (.held (.pointer (some ⟨x,0,none⟩)))) (if old.isNone then D2.put kl (.agg []) else D2) (n1+1) (n2+1)/\w.heap.size<=x/\w'.heap[x]?=some (.cells #[v,.int .i64 rk,.int .i64 ru] 74 (0,0))/\VRow w' v ts)/\Mod [p,b1,b2] w w'
set_option maxHeartbeats 8000000 in
theorem put_ok (p:Nat) (b1 b2 b5:Nat) (D1 D2:DataW Value) (n1 n2:Nat) (ts:List Va.Val) (u:Value) (rk ru:Int) (w:World) (kl:Lit) (old:Option Addr)
  (hR:RelB w p (ts.length:Nat) b1 b2 b5 D1 D2 n1 n2) (hl:ts.length<=8) (hr:VRow w u ts) (hv:∀ v∈ts,Va.may v=true) (hkl:keyOf Try.prog 68 (.agg (keyC ts))=some kl)
  (hold:D1.atKey kl (.held (.pointer none))=.held (.pointer old)) (hn1:n1<maxLen) (hn2:n2<maxLen) :
  Calls Try.prog 7 #[.pointer (some ⟨p,0,none⟩),u,.agg #[.int .i64 rk,.int .i64 ru]] w (RePutR w p (ts.length:Nat) b1 b2 b5 D1 D2 n1 n2 ts rk ru kl old):=by
 have hpn:∀ b,b=b1\/b=b2\/b=b5->p≠b:=by
  have h0:=hR.at_
  rintro b (rfl | rfl | rfl) rfl
  ·obtain ⟨es,cl,h,-⟩:=hR.rows;rw [h] at h0;cases h0
  ·obtain ⟨es,cl,h,-⟩:=hR.fresh;rw [h] at h0;cases h0
  ·have h:=hR.index;rw [h] at h0;cases h0
 obtain ⟨ua,uc,rfl⟩:=hr.lit
 have mA:=(Mod.refl [] w).alloc (Obj.cells #[.int .i64 rk,.int .i64 ru] 34)
 have eA:=heap_alloc_new w (Obj.cells #[.int .i64 rk,.int .i64 ru] 34)
 have HK0:=Hxq (fun w h1 h2=>keyOf_any p ts.length ts (.slice ua ts.length uc) w h1 rfl hl h2)
 have HPN:=Lib.hid hpn;have HR:=Lib.hid hR;have HV:=Lib.hid hr;have HKL:=Lib.hid hkl;have HOLD:=Lib.hid hold;have HMAY:=Lib.hid hv
 have HN1:=Lib.hid hn1;have HN2:=Lib.hid hn2
 clear hpn hR hr hkl hold hv hn1 hn2
 go_enter Try.func7,Try.ntmps7
 go_upto_region 1 with fail
 generalize w.alloc (Obj.cells _ 34)=w0 at *
 generalize hq:w.heap.size=q at *
 have M0:=Lib.hid mA;have N0:=Lib.hid eA;have P0:=Hxq (mA.at HR.out.at_ (by simp));have V0:=Hxq (HV.out.past mA (by simp))
 clear mA eA
 have c0:=cell_at P0.out 0
 simp only [List.getElem?_toArray,List.getElem?_cons_zero] at c0
 go_wp2_with fail
 refine (HK0.out w0 c0 V0.out).mono ?_
 rintro e1 w1 ⟨rfl,m1⟩
 have hks:(keyC ts).size=24:=keyC_size hl
 have h1:=keyC_one ts
 obtain ⟨K,hKK⟩:∃ K,keyC ts=K:=⟨_,rfl⟩
 rw [hKK] at hks h1 HKL ⊢
 have hKs:(Try.prog.info? 68).map (·.size)=some K.size:=by rw [hks];kernel_rfl
 have hKl:(Try.prog.info? 68).map (·.size)=some K.toList.length:=by rw [Array.length_toList,hks];kernel_rfl
 have hZs:(#[Value.int .i64 0,Value.int .i64 0,Value.string ⟨#[]⟩,Value.int .i64 0,Value.int .i64 0,Value.string ⟨#[]⟩,Value.int .i64 0,Value.int .i64 0,Value.string ⟨#[]⟩,Value.int .i64 0,Value.int .i64 0,Value.string ⟨#[]⟩,Value.int .i64 0,Value.int .i64 0,Value.string ⟨#[]⟩,Value.int .i64 0,Value.int .i64 0,Value.string ⟨#[]⟩,Value.int .i64 0,Value.int .i64 0,Value.string ⟨#[]⟩,Value.int .i64 0,Value.int .i64 0,Value.string ⟨#[]⟩]:Array Value).size=K.size:=by rw [hks];rfl
 have HK:=Lib.hid hKs;have H1:=Lib.hid h1;have HZ:=Lib.hid hZs;have HKl:=Lib.hid hKl
 have mB:=m1.trans ((Mod.refl [] w1).alloc (Obj.cells K 68)) (by simp)
 have xB:=heap_alloc_new w1 (Obj.cells K 68)
 clear hKK hKs h1 hks hZs hKl HK0 c0
 go_upto_region 4 with (first | refine wpList_store_new rfl 68 _ _ rfl w1 w1.heap.size K _ 68 rfl rfl rfl rfl HK.out HZ.out H1.out ?_)
 generalize w1.alloc (Obj.cells K 68)=w2 at *
 generalize w1.heap.size=kb at *
 have M2:=Hxq (M0.out.trans mB (by simp));have N2:=Hxq (mB.at N0.out (by simp));have P2:=Hxq (mB.at P0.out (by simp));have V2:=Hxq (V0.out.past mB (by simp));have X2:=Lib.hid xB
 clear mB xB m1 N0 P0 V0 M0
 go_wp2_with fail
 go_loopw [26] (fun iv wr=>∃ k:Nat,k<=ts.length/\iv=.int .i64 (k:Nat)/\Mod [] w2 wr) (fun iv _=>ts.length - (intOf iv).toNat)
 case atStart=>exact ⟨0,Nat.zero_le _,rfl,Mod.refl _ _⟩
 case round =>
  obtain ⟨k,hk,rfl,hm⟩:=hrel
  have HM:=Lib.hid hm
  by_cases hlt:k<ts.length
  ·have hkI:(k:Int)<(ts.length:Int):=by omega
   have hk0:(0:Int)<=(k:Int):=by omega
   obtain ⟨b,off,rfl,hc⟩:=(V2.out.past hm (by simp)).at k hlt
   have hmay:=HMAY.out ts[k] (List.getElem_mem hlt)
   generalize ts[k]=v at *
   have x0:=hc.c0;have x1:=hc.c1;have x2:=hc.c2
   clear hm hc
   have mD:=(Mod.refl [] wr).alloc (Obj.cells (valV v) 47)
   have eD:=heap_alloc_new wr (Obj.cells (valV v) 47)
   have hchk:=check_any v
   have hz:chk v=0:=by unfold chk;rw [if_pos hmay]
   rw [hz] at hchk
   have HCK:=Lib.hid hchk
   unfold valV at mD eD HCK
   have MD:=Hxq (HM.out.trans mD (by simp))
   clear hmay hz mD hchk
   go_upto_region 9 with fail
   generalize wr.alloc (Obj.cells _ 47)=w3 at *
   clear x0 x1 x2
   have y0:=cell_at eD 0;have y1:=cell_at eD 1;have y2:=cell_at eD 2
   simp only [List.getElem?_toArray,List.getElem?_cons_zero,List.getElem?_cons_succ] at y0 y1 y2
   clear eD
   go_wp2_with fail
   refine (HCK.out w3).mono ?_
   rintro e4 w4 ⟨rfl,m4⟩
   have M4:=Hxq (MD.out.trans m4 (by simp))
   clear m4 HCK MD HM y0 y1 y2
   go_wp2_with fail
   go_roundw
   case rel=>exact ⟨k+1,by omega,by go_num,M4.out⟩
   case measure=>simp [intOf];omega
  ·obtain rfl:k=ts.length:=by omega
   have hkI:¬ (ts.length:Int)<(ts.length:Int):=by omega
   have M3:=Hxq (M2.out.trans hm (by simp));have N3:=Hxq (hm.at N2.out (by simp));have P3:=Hxq (hm.at P2.out (by simp));have V3:=Hxq (V2.out.past hm (by simp));have X3:=Hxq (hm.at X2.out (by simp))
   clear HM hm M2 N2 P2 V2 X2
   go_upto_region 12 with fail
   have hbn1:b1∉([]:List Nat):=by simp
   have r0:=cell_at N3.out 0;have r1:=cell_at N3.out 1;have c1:=cell_at P3.out 1
   simp only [List.getElem?_toArray,List.getElem?_cons_zero,List.getElem?_cons_succ] at r0 r1 c1
   refine tl_region (fun wS=>Mod [] wr wS) [] (by kernel_rfl) ?_
   have hHeld:Mod [] wr wr.drew:=(Mod.refl [] wr).drew
   try simp only [Act.put,Lq1,Lq2,Lq3]
   generalize wr.drew=wd at *
   refine TlAny.take 0 (v:=?_) hHeld ?_ ?_ ?_
   rotate_left 1
   ·refine Or.inl ⟨by rfl,?_⟩
    intro wS hSw
    replace hSw:Mod [] wr wS:=hSw
    clear hSw
    go_simp
    all_goals with_reducible rfl
   ·exact fun _ _ _ h=>h
   try simp only [Act.put,Lq1,Lq2,Lq3]
   refine TlAny.take 1 (v:=?_) hHeld ?_ ?_ ?_
   rotate_left 1
   ·refine Or.inl ⟨by rfl,?_⟩
    intro wS hSw
    replace hSw:Mod [] wr wS:=hSw
    clear hSw
    go_simp
    all_goals with_reducible rfl
   ·exact fun _ _ _ h=>h
   try simp only [Act.put,Lq1,Lq2,Lq3]
   refine TlAny.take 2 (v:=?_) hHeld ?_ ?_ ?_
   rotate_left 1
   ·refine Or.inl ⟨by rfl,?_⟩
    intro wS hSw
    replace hSw:Mod [] wr wS:=hSw
    clear hSw
    go_simp
    all_goals with_reducible rfl
   ·exact fun _ _ _ h=>h
   try simp only [Act.put,Lq1,Lq2,Lq3]
   refine TlAny.take 3 (v:=?_) hHeld ?_ ?_ ?_
   rotate_left 1
   ·refine Or.inl ⟨by rfl,?_⟩
    intro wS hSw
    replace hSw:Mod [] wr wS:=hSw
    have p:=hSw.cell c1 (by simp)
    clear hSw
    go_simp
    all_goals with_reducible rfl
   ·exact fun _ _ _ h=>h
   try simp only [Act.put,Lq1,Lq2,Lq3]
   refine TlAny.take 4 (v:=.agg K) hHeld ?_ ?_ ?_
   ·refine yieldsIf_load_mid (by rfl) 68 _ rfl kb 0 rfl K.toList _ ?_ Try.underlying68 rfl HKl.out
    intro wS hSw
    replace hSw:Mod [] wr wS:=hSw
    exact fun j v hv=>by have:=cell_at (hSw.at X3.out (by simp)) j;rw [Nat.zero_add];rw [this];simpa using hv
   ·exact fun _ _ _ h=>h
   try simp only [Act.put,Lq1,Lq2,Lq3]
   refine TlAny.take 5 (v:=.pointer old) hHeld ?_ ?_ ?_
   ·refine Or.inl ⟨by rfl,?_⟩
    intro wS hSw
    replace hSw:Mod [] wr wS:=hSw
    obtain ⟨v,ps,hrun,hv⟩:=(ownsMap_mod HR.out.rows (M3.out.trans hSw (by simp)) hbn1).lookup lawKey Try.underlying54 (z:=.pointer none) (by kernel_rfl) (zd:=.held (.pointer none)) (zp:=[]) rfl HKL.out
    rw [HOLD.out] at hv
    obtain ⟨rfl,-⟩:v=.pointer old/\ps=[]:=by simpa [idR] using hv
    clear hSw
    go_simp
   ·exact fun _ _ _ h=>h
   try simp only [Act.put,Lq1,Lq2,Lq3]
   refine TlAny.take 6 (v:=?_) hHeld ?_ ?_ ?_
   rotate_left 1
   ·refine Or.inl ⟨by rfl,?_⟩
    intro wS hSw
    replace hSw:Mod [] wr wS:=hSw
    clear hSw
    go_simp
    all_goals with_reducible rfl
   ·exact fun _ _ _ h=>h
   try simp only [Act.put,Lq1,Lq2,Lq3]
   refine TlAny.fin ?_
   have M4:=Hxq (M3.out.trans hHeld (by simp));have N4:=Hxq (hHeld.at N3.out (by simp));have P4:=Hxq (hHeld.at P3.out (by simp));have V4:=Hxq (V3.out.past hHeld (by simp));have X4:=Hxq (hHeld.at X3.out (by simp))
   clear hHeld M3 N3 P3 V3 X3 r0 r1 c1
   go_upto_region 13 with fail
   have r0:=cell_at N4.out 0;have r1:=cell_at N4.out 1
   simp only [List.getElem?_toArray,List.getElem?_cons_zero,List.getElem?_cons_succ] at r0 r1
   refine tl_region (fun wS=>Mod [] wd wS) [] (by kernel_rfl) ?_
   have hHeld:Mod [] wd wd.drew:=(Mod.refl [] wd).drew
   try simp only [Act.put,Lq1,Lq2,Lq3]
   generalize wd.drew=we at *
   refine TlAny.take 0 (v:=?_) hHeld ?_ ?_ ?_
   rotate_left 1
   ·refine Or.inl ⟨by rfl,?_⟩
    intro wS hSw
    replace hSw:Mod [] wd wS:=hSw
    clear hSw
    go_simp
    all_goals with_reducible rfl
   ·exact fun _ _ _ h=>h
   try simp only [Act.put,Lq1,Lq2,Lq3]
   refine TlAny.take 2 (v:=?_) hHeld ?_ ?_ ?_
   rotate_left 1
   ·refine Or.inl ⟨by rfl,?_⟩
    intro wS hSw
    replace hSw:Mod [] wd wS:=hSw
    have p0:=hSw.cell r0 (by simp)
    have p1:=hSw.cell r1 (by simp)
    clear hSw
    go_simp
    all_goals with_reducible rfl
   ·exact fun _ _ _ h=>h
   try simp only [Act.put,Lq1,Lq2,Lq3]
   refine TlAny.one 1 ?_
   intro K hK
   go_simp
   refine (clone_any ts (by omega) _ _ (V4.out.past hHeld (by simp))).mono ?_
   rintro e2 v2 ⟨vv,rfl,hvo,m2⟩
   have hz2:=hHeld.size
   replace hHeld:Mod [] wd v2:=hHeld.trans m2 (by simp)
   obtain ⟨va,vc,rfl⟩:=hvo.lit
   refine hK.out _ _ (fun _=>hHeld) ?_
   clear hK K
   try simp only [Act.put,Lq1,Lq2,Lq3]
   refine TlAny.take 3 (v:=?_) hHeld ?_ ?_ ?_
   rotate_left 1
   ·refine Or.inl ⟨by rfl,?_⟩
    intro wS hSw
    replace hSw:Mod [] wd wS:=hSw
    clear hSw
    go_simp
    all_goals with_reducible rfl
   ·exact fun _ _ _ h=>h
   try simp only [Act.put,Lq1,Lq2,Lq3]
   refine TlAny.one 4 ?_
   intro K hK
   go_simp
   refine hK.out _ _ (fun _=>hHeld.alloc _) ?_
   clear hK K
   try simp only [Act.put,Lq1,Lq2,Lq3]
   have xb:=heap_alloc_new v2 (Obj.cells #[.slice va ts.length vc,.int .i64 rk,.int .i64 ru] 74)
   have mb:=(Mod.refl [] v2).alloc (Obj.cells #[.slice va ts.length vc,.int .i64 rk,.int .i64 ru] 74)
   have hz3:=hHeld.size
   have hvv:=(hvo.past mb (by simp)).base (b':=w.heap.size) (by have q1:=M4.out.size;omega)
   generalize v2.alloc (Obj.cells _ 74)=v13 at *
   generalize hxx:v2.heap.size=xx at *
   replace hHeld:Mod [] wd v13:=hHeld.trans mb (by simp)
   clear mb m2 hvo
   refine TlAny.take 5 (v:=?_) hHeld ?_ ?_ ?_
   rotate_left 1
   ·refine Or.inl ⟨by rfl,?_⟩
    intro wS hSw
    replace hSw:Mod [] wd wS:=hSw
    clear hSw
    go_simp
    all_goals with_reducible rfl
   ·exact fun _ _ _ h=>h
   try simp only [Act.put,Lq1,Lq2,Lq3]
   refine TlAny.fin ?_
   have M5:=Hxq (M4.out.trans hHeld (by simp));have P5:=Hxq (hHeld.at P4.out (by simp));have X5:=Hxq (hHeld.at X4.out (by simp))
   have YB:=Lib.hid xb;have VV:=Lib.hid hvv
   have hxq:w.heap.size<=xx:=by have q1:=M4.out.size;omega
   clear hHeld M4 N4 P4 V4 X4 r0 r1 xb hvv
   go_upto_region 14 with fail
   generalize hv13:v13=w13 at *
   clear hv13
   have c1:=cell_at P5.out 1
   simp only [List.getElem?_toArray,List.getElem?_cons_zero,List.getElem?_cons_succ] at c1
   refine tl_region (fun wS=>Mod [] w13 wS) [6] (by kernel_rfl) ?_
   have hHeld:Mod [] w13 w13.drew:=(Mod.refl [] w13).drew
   try simp only [Act.put,Lq1,Lq2,Lq3]
   generalize w13.drew=wh at *
   refine TlAny.take 0 (v:=?_) hHeld ?_ ?_ ?_
   rotate_left 1
   ·refine Or.inl ⟨by rfl,?_⟩
    intro wS hSw
    replace hSw:Mod [] w13 wS:=hSw
    clear hSw
    go_simp
    all_goals with_reducible rfl
   ·exact fun _ _ _ h=>h
   try simp only [Act.put,Lq1,Lq2,Lq3]
   refine TlAny.take 1 (v:=?_) hHeld ?_ ?_ ?_
   rotate_left 1
   ·refine Or.inl ⟨by rfl,?_⟩
    intro wS hSw
    replace hSw:Mod [] w13 wS:=hSw
    clear hSw
    go_simp
    all_goals with_reducible rfl
   ·exact fun _ _ _ h=>h
   try simp only [Act.put,Lq1,Lq2,Lq3]
   refine TlAny.take 2 (v:=?_) hHeld ?_ ?_ ?_
   rotate_left 1
   ·refine Or.inl ⟨by rfl,?_⟩
    intro wS hSw
    replace hSw:Mod [] w13 wS:=hSw
    clear hSw
    go_simp
    all_goals with_reducible rfl
   ·exact fun _ _ _ h=>h
   try simp only [Act.put,Lq1,Lq2,Lq3]
   refine TlAny.take 3 (v:=?_) hHeld ?_ ?_ ?_
   rotate_left 1
   ·refine Or.inl ⟨by rfl,?_⟩
    intro wS hSw
    replace hSw:Mod [] w13 wS:=hSw
    have p:=hSw.cell c1 (by simp)
    clear hSw
    go_simp
    all_goals with_reducible rfl
   ·exact fun _ _ _ h=>h
   try simp only [Act.put,Lq1,Lq2,Lq3]
   refine TlAny.take 4 (v:=.agg K) hHeld ?_ ?_ ?_
   ·refine yieldsIf_load_mid (by rfl) 68 _ rfl kb 0 rfl K.toList _ ?_ Try.underlying68 rfl HKl.out
    intro wS hSw
    replace hSw:Mod [] w13 wS:=hSw
    exact fun j v hv=>by have:=cell_at (hSw.at X5.out (by simp)) j;rw [Nat.zero_add];rw [this];simpa using hv
   ·exact fun _ _ _ h=>h
   try simp only [Act.put,Lq1,Lq2,Lq3]
   refine TlAny.take 5 (v:=?_) hHeld ?_ ?_ ?_
   rotate_left 1
   ·refine Or.inl ⟨by rfl,?_⟩
    intro wS hSw
    replace hSw:Mod [] w13 wS:=hSw
    clear hSw
    go_simp
    all_goals with_reducible rfl
   ·exact fun _ _ _ h=>h
   try simp only [Act.put,Lq1,Lq2,Lq3]
   obtain ⟨wi,hrun,hown,hgrow⟩:=(ownsMap_mod HR.out.rows (M5.out.trans hHeld (by simp)) hbn1).update (val:=.pointer (some ⟨xx,0,none⟩)) (d:=.held (.pointer (some ⟨xx,0,none⟩))) (ps:=[]) lawKey Try.underlying54 HN1.out HKL.out rfl
   refine TlAny.one 6 ?_
   intro K hK
   go_simp
   refine hK.out _ _ (fun hN=>absurd hN (by decide)) ?_
   clear hK K
   try simp only [Act.put,Lq1,Lq2,Lq3]
   have hg:=mod_grown hgrow
   clear hrun hgrow
   refine TlAny.fin ?_
   have M6:=Hxq ((M5.out.trans hHeld (by simp)).mono (T:=[p,b1,b2]) (by simp))
   have M7:=Hxq (M6.out.trans hg (fun t ht=>.inl (by simp at ht;simp [ht])))
   have hp1:p∉[b1]:=by rw [Msq];exact HPN.out b1 (.inl rfl)
   have P7:=Hxq (hg.at (hHeld.at P5.out (by simp)) hp1)
   have hz5:=M5.out.size
   have hkb:kb∉[b1]:=by
    rw [Msq]
    rintro rfl
    obtain ⟨es,cl,h,-⟩:=(ownsMap_mod HR.out.rows (M5.out.trans hHeld (by simp)) (by simp):wh.ownsMap _ _ _ _ _ _)
    have h2:=hHeld.at X5.out (by simp)
    rw [h] at h2;cases h2
   have hxx1:xx∉[b1]:=by
    rw [Msq]
    rintro rfl
    have:=HR.out.rows.lt
    omega
   have X7:=Hxq (hg.at (hHeld.at X5.out (by simp)) hkb)
   have YB7:=Hxq (hg.at (hHeld.at YB.out (by simp)) hxx1)
   have hfr:wi.ownsMap (H:=Value) Try.prog 68 unitElem b2 n2 D2:=ownsMap_mod (ownsMap_mod HR.out.fresh (M5.out.trans hHeld (by simp)) (by simp)) hg (by rw [Msq];exact fun h=>HR.out.ne12 h.symm)
   have hix:wi.heap[b5]?=some (.map #[] 0):=hg.at ((M5.out.trans hHeld (by simp)).at HR.out.index (by simp)) (by rw [Msq];exact fun h=>HR.out.ne15 h.symm)
   have HRB:Hid (RelB wi p (ts.length:Nat) b1 b2 b5 (D1.put kl (.held (.pointer (some ⟨xx,0,none⟩)))) D2 (n1+1) n2):=Lib.hid ⟨P7.out,hown,hfr,hix,HR.out.ne12,HR.out.ne15,HR.out.ne25⟩
   have VV7:=Hxq ((VV.out.keep hHeld (by simp)).keep hg (fun k hk=>by have h1:=(VV.out).new k hk;have h2:=HR.out.rows.lt;rw [Msq];omega))
   clear hHeld hg hown hfr hix c1 M5 P5 X5 YB M6
   go_upto_region 15 with fail
   have HLAY:=Hxq (lay_none p (ts.length:Nat) b1 b2 b5 _ D2 (n1+1) n2 K old (some ⟨xx,0,none⟩) wi HRB.out HK.out)
   go_wp2_with (first | refine wpList_load_row rfl 68 _ rfl kb K 68 (0,0) rfl X7.out _ Try.underlying68 rfl HK.out ?_)
   refine HLAY.out.mono ?_
   rintro e8 w8 ⟨rfl,hrb,m8⟩
   have M8:=Hxq (M7.out.trans m8 (fun t ht=>.inl (by simp at ht;simp [ht])))
   have hpx:∀ b,b<w.heap.size->w.heap.size<=xx->xx≠b:=fun b h1 h2=>by omega
   have hpl:p<w.heap.size:=lt_of_block HR.out.at_
   have hb2l:b2<w.heap.size:=HR.out.fresh.lt
   have Y8:=Hxq (m8.at YB7.out (by rw [Msq];omega));have V8:=Hxq (VV7.out.keep m8 (fun k hk=>by have h1:=(VV7.out).new k hk;rw [Msq];omega));have B8:=Lib.hid hrb
   have hkp:kb∉[p]:=by
    rw [Msq]
    rintro rfl
    have h2:=X7.out
    rw [HRB.out.at_] at h2;cases h2
   have X8:=Hxq (m8.at X7.out hkp)
   clear m8 hrb HLAY M7 YB7 VV7 HRB X7 P7
   cases old with
   | some oa =>
    go_wp2_with fail
    go_ret2
    refine ⟨rfl,⟨xx,_,⟨B8.out.at_,B8.out.rows,(B8.out.fresh).mono (by omega),B8.out.index,B8.out.ne12,B8.out.ne15,B8.out.ne25⟩,hxq,Y8.out,V8.out.vrow⟩,M8.out⟩
   | none =>
    go_upto_region 17 with fail
    have P8:=Lib.hid B8.out.at_
    have c2:=cell_at P8.out 2
    simp only [List.getElem?_toArray,List.getElem?_cons_zero,List.getElem?_cons_succ] at c2
    refine tl_region (fun wS=>Mod [] w8 wS) [6] (by kernel_rfl) ?_
    have hHeld:Mod [] w8 w8.drew:=(Mod.refl [] w8).drew
    try simp only [Act.put,Lq1,Lq2,Lq3]
    generalize w8.drew=wk at *
    refine TlAny.take 0 (v:=?_) hHeld ?_ ?_ ?_
    rotate_left 1
    ·refine Or.inl ⟨by rfl,?_⟩
     intro wS hSw
     replace hSw:Mod [] w8 wS:=hSw
     clear hSw
     go_simp
     all_goals with_reducible rfl
    ·exact fun _ _ _ h=>h
    try simp only [Act.put,Lq1,Lq2,Lq3]
    refine TlAny.take 1 (v:=?_) hHeld ?_ ?_ ?_
    rotate_left 1
    ·refine Or.inl ⟨by rfl,?_⟩
     intro wS hSw
     replace hSw:Mod [] w8 wS:=hSw
     clear hSw
     go_simp
     all_goals with_reducible rfl
    ·exact fun _ _ _ h=>h
    try simp only [Act.put,Lq1,Lq2,Lq3]
    refine TlAny.take 2 (v:=?_) hHeld ?_ ?_ ?_
    rotate_left 1
    ·refine Or.inl ⟨by rfl,?_⟩
     intro wS hSw
     replace hSw:Mod [] w8 wS:=hSw
     clear hSw
     go_simp
     all_goals with_reducible rfl
    ·exact fun _ _ _ h=>h
    try simp only [Act.put,Lq1,Lq2,Lq3]
    refine TlAny.take 3 (v:=?_) hHeld ?_ ?_ ?_
    rotate_left 1
    ·refine Or.inl ⟨by rfl,?_⟩
     intro wS hSw
     replace hSw:Mod [] w8 wS:=hSw
     have p:=hSw.cell c2 (by simp)
     clear hSw
     go_simp
     all_goals with_reducible rfl
    ·exact fun _ _ _ h=>h
    try simp only [Act.put,Lq1,Lq2,Lq3]
    refine TlAny.take 4 (v:=.agg K) hHeld ?_ ?_ ?_
    ·refine yieldsIf_load_mid (by rfl) 68 _ rfl kb 0 rfl K.toList _ ?_ Try.underlying68 rfl HKl.out
     intro wS hSw
     replace hSw:Mod [] w8 wS:=hSw
     exact fun j v hv=>by have:=cell_at (hSw.at X8.out (by simp)) j;rw [Nat.zero_add];rw [this];simpa using hv
    ·exact fun _ _ _ h=>h
    try simp only [Act.put,Lq1,Lq2,Lq3]
    refine TlAny.take 5 (v:=?_) hHeld ?_ ?_ ?_
    rotate_left 1
    ·refine Or.inl ⟨by rfl,?_⟩
     intro wS hSw
     replace hSw:Mod [] w8 wS:=hSw
     clear hSw
     go_simp
     all_goals with_reducible rfl
    ·exact fun _ _ _ h=>h
    try simp only [Act.put,Lq1,Lq2,Lq3]
    obtain ⟨wj,hrun,hown,hgrow⟩:=(ownsMap_mod B8.out.fresh hHeld (by simp)).update (val:=.agg #[]) (d:=.agg []) (ps:=[]) lawKey Try.underlying55 HN2.out HKL.out unitElem_mk
    refine TlAny.one 6 ?_
    intro K hK
    go_simp
    refine hK.out _ _ (fun hN=>absurd hN (by decide)) ?_
    clear hK K
    try simp only [Act.put,Lq1,Lq2,Lq3]
    have hg:=mod_grown hgrow
    clear hrun hgrow
    refine TlAny.fin ?_
    have hp2:p∉[b2]:=by rw [Msq];exact HPN.out b2 (.inr (.inl rfl))
    have M9:=Hxq ((M8.out.trans hHeld (by simp)).trans hg (fun t ht=>.inl (by simp at ht;simp [ht])))
    have B9:Hid (RelB wj p (ts.length:Nat) b1 b2 b5 (D1.put kl (.held (.pointer (some ⟨xx,0,none⟩)))) (D2.put kl (.agg [])) (n1+1) (n2+1)):=Lib.hid ⟨hg.at (hHeld.at P8.out (by simp)) hp2,ownsMap_mod (ownsMap_mod B8.out.rows hHeld (by simp)) hg (by rw [Msq];exact HR.out.ne12),hown,hg.at (hHeld.at B8.out.index (by simp)) (by rw [Msq];exact fun h=>HR.out.ne25 h.symm),HR.out.ne12,HR.out.ne15,HR.out.ne25⟩
    have Y9:=Hxq (hg.at (hHeld.at Y8.out (by simp)) (by rw [Msq];omega))
    have V9:=Hxq ((V8.out.keep hHeld (by simp)).keep hg (fun k hk=>by have h1:=(V8.out).new k hk;rw [Msq];omega))
    clear hHeld hg hown M8 B8 Y8 V8 X8 c2 P8
    go_wp2_with fail
    go_ret2
    exact ⟨rfl,⟨xx,_,B9.out,hxq,Y9.out,V9.out.vrow⟩,M9.out⟩
set_option maxHeartbeats 4000000 in
theorem get_ok (p:Nat) (b1 b2 b5:Nat) (D1 D2:DataW Value) (n1 n2:Nat) (ts:List Va.Val) (u:Value) (rk ru:Int) (w:World) (kl:Lit) (x:Nat) (v:Value)
  (hR:RelB w p (ts.length:Nat) b1 b2 b5 D1 D2 n1 n2) (hl:ts.length<=8) (hr:VRow w u ts) (hkl:keyOf Try.prog 68 (.agg (keyC ts))=some kl)
  (hold:D1.atKey kl (.held (.pointer none))=.held (.pointer (some ⟨x,0,none⟩))) (hx:w.heap[x]?=some (.cells #[v,.int .i64 rk,.int .i64 ru] 74 (0,0))) :
  Calls Try.prog 16 #[.pointer (some ⟨p,0,none⟩),u] w fun e w'=>e=.returned (.tuple #[.agg #[.int .i64 rk,.int .i64 ru],.bool true])/\Mod [] w w':=by
 obtain ⟨ua,uc,rfl⟩:=hr.lit
 have mA:=(Mod.refl [] w).alloc (Obj.cells #[.int .i64 0,.int .i64 0] 34)
 have eA:=heap_alloc_new w (Obj.cells #[.int .i64 0,.int .i64 0] 34)
 have HK0:=Hxq (fun w h1 h2=>keyOf_any p ts.length ts (.slice ua ts.length uc) w h1 rfl hl h2)
 have HR:=Lib.hid hR;have HV:=Lib.hid hr;have HKL:=Lib.hid hkl;have HOLD:=Lib.hid hold;have HX:=Lib.hid hx
 clear hR hr hkl hold hx
 go_enter Try.func16,Try.ntmps16
 go_upto_region 1 with fail
 generalize w.alloc (Obj.cells _ 34)=w0 at *
 generalize hq:w.heap.size=q at *
 have M0:=Lib.hid mA;have N0:=Lib.hid eA;have P0:=Hxq (mA.at HR.out.at_ (by simp));have V0:=Hxq (HV.out.past mA (by simp))
 clear mA eA
 have c0:=cell_at P0.out 0
 simp only [List.getElem?_toArray,List.getElem?_cons_zero] at c0
 go_wp2_with fail
 refine (HK0.out w0 c0 V0.out).mono ?_
 rintro e1 w1 ⟨rfl,m1⟩
 have hks:(keyC ts).size=24:=keyC_size hl
 have h1:=keyC_one ts
 obtain ⟨K,hKK⟩:∃ K,keyC ts=K:=⟨_,rfl⟩
 rw [hKK] at hks h1 HKL ⊢
 have hKs:(Try.prog.info? 68).map (·.size)=some K.size:=by rw [hks];kernel_rfl
 have hKl:(Try.prog.info? 68).map (·.size)=some K.toList.length:=by rw [Array.length_toList,hks];kernel_rfl
 have hZs:(#[Value.int .i64 0,Value.int .i64 0,Value.string ⟨#[]⟩,Value.int .i64 0,Value.int .i64 0,Value.string ⟨#[]⟩,Value.int .i64 0,Value.int .i64 0,Value.string ⟨#[]⟩,Value.int .i64 0,Value.int .i64 0,Value.string ⟨#[]⟩,Value.int .i64 0,Value.int .i64 0,Value.string ⟨#[]⟩,Value.int .i64 0,Value.int .i64 0,Value.string ⟨#[]⟩,Value.int .i64 0,Value.int .i64 0,Value.string ⟨#[]⟩,Value.int .i64 0,Value.int .i64 0,Value.string ⟨#[]⟩]:Array Value).size=K.size:=by rw [hks];rfl
 have HK:=Lib.hid hKs;have H1:=Lib.hid h1;have HZ:=Lib.hid hZs;have HKl:=Lib.hid hKl
 have mB:=m1.trans ((Mod.refl [] w1).alloc (Obj.cells K 68)) (by simp)
 have xB:=heap_alloc_new w1 (Obj.cells K 68)
 clear hKK hKs h1 hks hZs hKl HK0 c0
 go_upto_region 2 with (first | refine wpList_store_new rfl 68 _ _ rfl w1 w1.heap.size K _ 68 rfl rfl rfl rfl HK.out HZ.out H1.out ?_)
 generalize w1.alloc (Obj.cells K 68)=w2 at *
 generalize w1.heap.size=kb at *
 have M2:=Hxq (M0.out.trans mB (by simp));have N2:=Hxq (mB.at N0.out (by simp));have P2:=Hxq (mB.at P0.out (by simp));have X2:=Lib.hid xB
 clear mB xB m1 N0 P0 V0 M0
 have hbn1:b1∉([]:List Nat):=by simp
 have c1:=cell_at P2.out 1
 simp only [List.getElem?_toArray,List.getElem?_cons_zero,List.getElem?_cons_succ] at c1
 refine tl_region (fun wS=>Mod [] w2 wS) [] (by kernel_rfl) ?_
 have hHeld:Mod [] w2 w2.drew:=(Mod.refl [] w2).drew
 try simp only [Act.put,Lq1,Lq2,Lq3]
 generalize w2.drew=wd at *
 refine TlAny.take 0 (v:=?_) hHeld ?_ ?_ ?_
 rotate_left 1
 ·refine Or.inl ⟨by rfl,?_⟩
  intro wS hSw
  replace hSw:Mod [] w2 wS:=hSw
  clear hSw
  go_simp
  all_goals with_reducible rfl
 ·exact fun _ _ _ h=>h
 try simp only [Act.put,Lq1,Lq2,Lq3]
 refine TlAny.take 1 (v:=?_) hHeld ?_ ?_ ?_
 rotate_left 1
 ·refine Or.inl ⟨by rfl,?_⟩
  intro wS hSw
  replace hSw:Mod [] w2 wS:=hSw
  clear hSw
  go_simp
  all_goals with_reducible rfl
 ·exact fun _ _ _ h=>h
 try simp only [Act.put,Lq1,Lq2,Lq3]
 refine TlAny.take 2 (v:=?_) hHeld ?_ ?_ ?_
 rotate_left 1
 ·refine Or.inl ⟨by rfl,?_⟩
  intro wS hSw
  replace hSw:Mod [] w2 wS:=hSw
  clear hSw
  go_simp
  all_goals with_reducible rfl
 ·exact fun _ _ _ h=>h
 try simp only [Act.put,Lq1,Lq2,Lq3]
 refine TlAny.take 3 (v:=?_) hHeld ?_ ?_ ?_
 rotate_left 1
 ·refine Or.inl ⟨by rfl,?_⟩
  intro wS hSw
  replace hSw:Mod [] w2 wS:=hSw
  clear hSw
  go_simp
  all_goals with_reducible rfl
 ·exact fun _ _ _ h=>h
 try simp only [Act.put,Lq1,Lq2,Lq3]
 refine TlAny.take 4 (v:=?_) hHeld ?_ ?_ ?_
 rotate_left 1
 ·refine Or.inl ⟨by rfl,?_⟩
  intro wS hSw
  replace hSw:Mod [] w2 wS:=hSw
  clear hSw
  go_simp
  all_goals with_reducible rfl
 ·exact fun _ _ _ h=>h
 try simp only [Act.put,Lq1,Lq2,Lq3]
 refine TlAny.take 5 (v:=?_) hHeld ?_ ?_ ?_
 rotate_left 1
 ·refine Or.inl ⟨by rfl,?_⟩
  intro wS hSw
  replace hSw:Mod [] w2 wS:=hSw
  clear hSw
  go_simp
  all_goals with_reducible rfl
 ·exact fun _ _ _ h=>h
 try simp only [Act.put,Lq1,Lq2,Lq3]
 refine TlAny.take 6 (v:=?_) hHeld ?_ ?_ ?_
 rotate_left 1
 ·refine Or.inl ⟨by rfl,?_⟩
  intro wS hSw
  replace hSw:Mod [] w2 wS:=hSw
  have p:=hSw.cell c1 (by simp)
  clear hSw
  go_simp
  all_goals with_reducible rfl
 ·exact fun _ _ _ h=>h
 try simp only [Act.put,Lq1,Lq2,Lq3]
 refine TlAny.take 7 (v:=.agg K) hHeld ?_ ?_ ?_
 ·refine yieldsIf_load_mid (by rfl) 68 _ rfl kb 0 rfl K.toList _ ?_ Try.underlying68 rfl HKl.out
  intro wS hSw
  replace hSw:Mod [] w2 wS:=hSw
  exact fun j v hv=>by have:=cell_at (hSw.at X2.out (by simp)) j;rw [Nat.zero_add];rw [this];simpa using hv
 ·exact fun _ _ _ h=>h
 try simp only [Act.put,Lq1,Lq2,Lq3]
 refine TlAny.take 8 (v:=.pointer (some ⟨x,0,none⟩)) hHeld ?_ ?_ ?_
 ·refine Or.inl ⟨by rfl,?_⟩
  intro wS hSw
  replace hSw:Mod [] w2 wS:=hSw
  obtain ⟨v,ps,hrun,hv⟩:=(ownsMap_mod HR.out.rows (M2.out.trans hSw (by simp)) hbn1).lookup lawKey Try.underlying54 (z:=.pointer none) (by kernel_rfl) (zd:=.held (.pointer none)) (zp:=[]) rfl HKL.out
  rw [HOLD.out] at hv
  obtain ⟨rfl,-⟩:v=.pointer (some ⟨x,0,none⟩)/\ps=[]:=by simpa [idR] using hv
  clear hSw
  go_simp
 ·exact fun _ _ _ h=>h
 try simp only [Act.put,Lq1,Lq2,Lq3]
 refine TlAny.take 9 (v:=?_) hHeld ?_ ?_ ?_
 rotate_left 1
 ·refine Or.inl ⟨by rfl,?_⟩
  intro wS hSw
  replace hSw:Mod [] w2 wS:=hSw
  clear hSw
  go_simp
  all_goals with_reducible rfl
 ·exact fun _ _ _ h=>h
 try simp only [Act.put,Lq1,Lq2,Lq3]
 refine TlAny.take 10 (v:=?_) hHeld ?_ ?_ ?_
 rotate_left 1
 ·refine Or.inl ⟨by rfl,?_⟩
  intro wS hSw
  replace hSw:Mod [] w2 wS:=hSw
  clear hSw
  go_simp
  all_goals with_reducible rfl
 ·exact fun _ _ _ h=>h
 try simp only [Act.put,Lq1,Lq2,Lq3]
 refine TlAny.fin ?_
 have M4:=Hxq (M2.out.trans hHeld (by simp));have N4:=Hxq (hHeld.at N2.out (by simp));have P4:=Hxq (hHeld.at P2.out (by simp));have X4:=Hxq (hHeld.at X2.out (by simp))
 have Y4:=Hxq (M4.out.at HX.out (by simp))
 clear hHeld M2 N2 P2 X2 c1
 go_upto_region 4 with fail
 have c1:=cell_at P4.out 1;have y1:=cell_at Y4.out 1;have y2:=cell_at Y4.out 2
 simp only [List.getElem?_toArray,List.getElem?_cons_zero,List.getElem?_cons_succ] at c1 y1 y2
 refine tl_region (fun wS=>Mod [] wd wS) [9,10] (by kernel_rfl) ?_
 have hHeld:Mod [] wd wd.drew:=(Mod.refl [] wd).drew
 try simp only [Act.put,Lq1,Lq2,Lq3]
 generalize wd.drew=we at *
 refine TlAny.take 0 (v:=?_) hHeld ?_ ?_ ?_
 rotate_left 1
 ·refine Or.inl ⟨by rfl,?_⟩
  intro wS hSw
  replace hSw:Mod [] wd wS:=hSw
  clear hSw
  go_simp
  all_goals with_reducible rfl
 ·exact fun _ _ _ h=>h
 try simp only [Act.put,Lq1,Lq2,Lq3]
 refine TlAny.take 1 (v:=?_) hHeld ?_ ?_ ?_
 rotate_left 1
 ·refine Or.inl ⟨by rfl,?_⟩
  intro wS hSw
  replace hSw:Mod [] wd wS:=hSw
  clear hSw
  go_simp
  all_goals with_reducible rfl
 ·exact fun _ _ _ h=>h
 try simp only [Act.put,Lq1,Lq2,Lq3]
 refine TlAny.take 2 (v:=?_) hHeld ?_ ?_ ?_
 rotate_left 1
 ·refine Or.inl ⟨by rfl,?_⟩
  intro wS hSw
  replace hSw:Mod [] wd wS:=hSw
  clear hSw
  go_simp
  all_goals with_reducible rfl
 ·exact fun _ _ _ h=>h
 try simp only [Act.put,Lq1,Lq2,Lq3]
 refine TlAny.take 3 (v:=?_) hHeld ?_ ?_ ?_
 rotate_left 1
 ·refine Or.inl ⟨by rfl,?_⟩
  intro wS hSw
  replace hSw:Mod [] wd wS:=hSw
  have p:=hSw.cell c1 (by simp)
  clear hSw
  go_simp
  all_goals with_reducible rfl
 ·exact fun _ _ _ h=>h
 try simp only [Act.put,Lq1,Lq2,Lq3]
 refine TlAny.take 4 (v:=.agg K) hHeld ?_ ?_ ?_
 ·refine yieldsIf_load_mid (by rfl) 68 _ rfl kb 0 rfl K.toList _ ?_ Try.underlying68 rfl HKl.out
  intro wS hSw
  replace hSw:Mod [] wd wS:=hSw
  exact fun j v hv=>by have:=cell_at (hSw.at X4.out (by simp)) j;rw [Nat.zero_add];rw [this];simpa using hv
 ·exact fun _ _ _ h=>h
 try simp only [Act.put,Lq1,Lq2,Lq3]
 refine TlAny.take 5 (v:=.pointer (some ⟨x,0,none⟩)) hHeld ?_ ?_ ?_
 ·refine Or.inl ⟨by rfl,?_⟩
  intro wS hSw
  replace hSw:Mod [] wd wS:=hSw
  obtain ⟨v,ps,hrun,hv⟩:=(ownsMap_mod HR.out.rows (M4.out.trans hSw (by simp)) hbn1).lookup lawKey Try.underlying54 (z:=.pointer none) (by kernel_rfl) (zd:=.held (.pointer none)) (zp:=[]) rfl HKL.out
  rw [HOLD.out] at hv
  obtain ⟨rfl,-⟩:v=.pointer (some ⟨x,0,none⟩)/\ps=[]:=by simpa [idR] using hv
  clear hSw
  go_simp
 ·exact fun _ _ _ h=>h
 try simp only [Act.put,Lq1,Lq2,Lq3]
 refine TlAny.take 6 (v:=?_) hHeld ?_ ?_ ?_
 rotate_left 1
 ·refine Or.inl ⟨by rfl,?_⟩
  intro wS hSw
  replace hSw:Mod [] wd wS:=hSw
  clear hSw
  go_simp
  all_goals with_reducible rfl
 ·exact fun _ _ _ h=>h
 try simp only [Act.put,Lq1,Lq2,Lq3]
 refine TlAny.take 7 (v:=?_) hHeld ?_ ?_ ?_
 rotate_left 1
 ·refine Or.inl ⟨by rfl,?_⟩
  intro wS hSw
  replace hSw:Mod [] wd wS:=hSw
  clear hSw
  go_simp
  all_goals with_reducible rfl
 ·exact fun _ _ _ h=>h
 try simp only [Act.put,Lq1,Lq2,Lq3]
 refine TlAny.take 8 (v:=?_) hHeld ?_ ?_ ?_
 rotate_left 1
 ·refine Or.inl ⟨by rfl,?_⟩
  intro wS hSw
  replace hSw:Mod [] wd wS:=hSw
  have p1:=hSw.cell y1 (by simp)
  have p2:=hSw.cell y2 (by simp)
  clear hSw
  go_simp
  all_goals with_reducible rfl
 ·exact fun _ _ _ h=>h
 try simp only [Act.put,Lq1,Lq2,Lq3]
 have sN:=hHeld.at N4.out (by simp)
 have s0:=cell_at sN 0;have s1:=cell_at sN 1
 simp only [List.getElem?_toArray,List.getElem?_cons_zero,List.getElem?_cons_succ] at s0 s1
 have fN:∀ j,we.frozen? ⟨q,j,none⟩=false:=fun j=>free_at sN j
 refine TlAny.one 9 ?_
 intro K hK
 go_simp
 refine hK.out _ _ (fun hN=>absurd hN (by decide)) ?_
 clear hK K
 try simp only [Act.put,Lq1,Lq2,Lq3]
 refine TlAny.one 10 ?_
 intro K hK
 go_simp
 refine hK.out _ _ (fun hN=>absurd hN (by decide)) ?_
 clear hK K
 try simp only [Act.put,Lq1,Lq2,Lq3]
 refine TlAny.fin ?_
 have hm:=Hxq ((M4.out.trans hHeld (by simp)).trans (setCs_mod q [.int .i64 rk,.int .i64 ru] 0 we) (fun t ht=>.inr (by rw [Msq] at ht;omega)))
 have HS:=Hxq (setCs_row (vs:=[.int .i64 rk,.int .i64 ru]) sN rfl)
 go_wp2_with fail
 refine bodyPost_ret (res_note rfl _ _ q #[.int .i64 rk,.int .i64 ru] _ _ (.bool true) rfl rfl HS.out (by kernel_rfl)) rfl ⟨rfl,hm.out⟩
theorem len_any (p:Nat) (n:Int) (b1 b2 b5:Nat) (D1 D2:DataW Value) (n1 n2:Nat) (w:World) (hR:RelB w p n b1 b2 b5 D1 D2 n1 n2) :
  Calls Try.prog 14 #[.pointer (some ⟨p,0,none⟩)] w fun e w'=>e=.returned (.int .i64 (Maps.size D1))/\Mod [] w w':=by
 have HR:=Lib.hid hR
 have c1:=cell_at hR.at_ 1
 simp only [List.getElem?_toArray,List.getElem?_cons_zero,List.getElem?_cons_succ] at c1
 clear hR
 go_enter Try.func14,Try.ntmps14
 go_wp2_with (first | (at_len;refine wpList_len_own _ rfl _ 54 rfl 68 72 Try.underlying54 _ b1 n1 D1 rfl HR.out.rows ?_) | fail)
 go_ret
 exact ⟨rfl,Mod.refl _ _⟩
end Go.Proofs.Ytdpgbnohelepiaa
