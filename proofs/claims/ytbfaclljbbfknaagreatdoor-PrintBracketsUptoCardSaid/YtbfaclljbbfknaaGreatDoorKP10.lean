/- THE TEXTS MERGED: SyUn. -/
import Derived.Test.YtbfaclljbbfknaaGreatDoorKP9
namespace Go.Proofs.YtbfaclljbbfknaaGreatDoor
open Go.RowKit
set_option linter.unusedVariables false
set_option linter.unusedSimpArgs false
set_option maxRecDepth 100000
theorem cells7 {w:World} {b:Nat} {a0 a1 a2 a3 a4 a5 a6:Value} {T:TypeId} {fr:Nat × Nat} (h:w.heap[b]?=some (.cells #[a0,a1,a2,a3,a4,a5,a6] T fr)) :
  w.cell? ⟨b,0,none⟩=some a0/\w.cell? ⟨b,1,none⟩=some a1/\w.cell? ⟨b,2,none⟩=some a2/\w.cell? ⟨b,3,none⟩=some a3/\w.cell? ⟨b,4,none⟩=some a4/\w.cell? ⟨b,5,none⟩=some a5/\w.cell? ⟨b,6,none⟩=some a6 :=
 ⟨cell_at h 0,cell_at h 1,cell_at h 2,cell_at h 3,cell_at h 4,cell_at h 5,cell_at h 6⟩
theorem Tryz.sizeEx:(Tryz.prog.info? 26).map (·.size)=some 7:=by kernel_rfl
theorem res_ex {fn:Func} {p u:Tmp} (h:fn.results=#[.cell p 26,.tmp u]) (tmps:Array Value) (w:World) (b:Nat) (cs:Array Value) (T:TypeId) (fr:Nat × Nat) (x:Value)
  (hp:tmps.getD p undef=.pointer (some ⟨b,0,none⟩)) (hx:tmps.getD u undef=x) (hg:w.heap[b]?=some (.cells cs T fr)) (hc:cs.size=7) :
  (results fn tmps).run Tryz.prog w=.ok (.tuple #[.agg cs,x]) w:=by
 have hl:=run_loadVar_row (P:=Tryz.prog) w b T 26 cs fr _ hg Tryz.underlying26 rfl (by rw [Tryz.sizeEx,hc])
 rw [results_cell_tmp h,hp,hx]
 simp [asAddr,hl]
/-- an expression and its depth, newer than n -/
def valX (n:Nat):Pr.Ex × Nat->World->Value->Prop:=fun r w x=>∃ u,x=.tuple #[.agg (exV r.1 u),.int .i64 (r.2:Nat)]/\EB (fun k=>n<=k) w r.1 u
def ExC (b:Nat) (ra:Option Addr) (rc:Nat) (f:Value) (v:Sy.Env) (k:Nat):Prop:=∀ (line above i:Nat) (w:World),RdP w b ra rc f v i->i<=v.ws.length->1<=line->line<=3->above<=16->3 * (17 - above)+(3 - line)+1<=k ->
 Calls Tryz.prog 39 #[.pointer (some ⟨b,0,none⟩),.int .i64 (line:Nat),.int .i64 (above:Nat)] w (PRes b ra rc f v (Sy.exprF v k line above i) (valX w.heap.size) w)
def UnC (b:Nat) (ra:Option Addr) (rc:Nat) (f:Value) (v:Sy.Env) (k:Nat):Prop:=∀ (above i:Nat) (w:World),RdP w b ra rc f v i->i<=v.ws.length->(above<=16\/(above=17/\Sy.operand (v.tk i)=false))->3 * (17 - above)+1<=k ->
 Calls Tryz.prog 64 #[.pointer (some ⟨b,0,none⟩),.int .i64 (above:Nat)] w (PRes b ra rc f v (Sy.exprF v k 3 above i) (valX w.heap.size) w)
def unRest (v:Sy.Env) (k above i:Nat) (rs rp:Bool) (pm:Sy.PR Unit):Option (Va.Val × Nat)->Sy.PR (Pr.Ex × Nat)
 | some (c,n)=>.ok (.mk 2 (Sy.txt []) c 0 [],0) (i+n)
 | none =>
     if rs=true then
      if 16<=above/\Sy.operand (v.tk (i+1))=true then .err (v.give 41 (i+1))
      else (Sy.exprF v k 3 (above+1) (i+1)).bind fun r j=>.ok (.mk 4 (Sy.txt []) Va.zero 6 [r.1],r.2+1) j
     else if rp=true/\16<=above then .err (v.give 41 i)
     else pm.bind fun _ j=>(Sy.exprF v k 1 (above+1) j).bind fun r j=>(Sy.must v [41] j).bind fun _ j=>.ok (r.1,r.2+1) j
theorem exprF_un (v:Sy.Env) (k above i:Nat):Sy.exprF v (k+1) 3 above i =
   if (v.tk i).kind=2 then .ok (.mk 1 (Sy.txt (v.tk i).text) Va.zero 0 [],0) (i+1)
   else unRest v k above i (Sy.sign (v.tk i) [45]) (Sy.sign (v.tk i) [40]) (Sy.must v [40] i) (Sy.constant v i):=by
 rw [Sy.exprF,if_pos rfl]
 unfold unRest
 cases Sy.constant v i <;> rfl
set_option maxHeartbeats 8000000 in
theorem un_of (b:Nat) (ra:Option Addr) (rc:Nat) (f:Value) (v:Sy.Env) (k:Nat) (hv:EnvOk v) (hU:UnC b ra rc f v k) (hE:ExC b ra rc f v k):UnC b ra rc f v (k+1):=by
 intro above i w h hi ha hk
 have hlen:=hv.len
 have mA:=(Mod.refl [] w).alloc (Obj.cells #[Value.int IntKind.i64 0,Value.string ⟨#[]⟩,Value.int IntKind.i64 0,Value.int IntKind.i64 0,Value.string ⟨#[]⟩,Value.int IntKind.i64 0,Value.slice none 0 0] 26)
 have hA:=h.past mA (by simp)
 have eA:=heap_alloc_new w (Obj.cells #[Value.int IntKind.i64 0,Value.string ⟨#[]⟩,Value.int IntKind.i64 0,Value.int IntKind.i64 0,Value.string ⟨#[]⟩,Value.int IntKind.i64 0,Value.slice none 0 0] 26)
 have HP:=Hxq (peek0 b ra rc f v i _ hA hv (by omega))
 have HR:=Hxq (exprF_un v k above i)
 have HCon:=Hxq (fun w h=>constant_any b ra rc f v i w h hv (by omega))
 have HMy:=Hxq (fun w h=>may_any b ra rc f v i [45] { data:=#[45] } w h hv (by omega) rfl (by decide))
 have HIs:=Hxq (fun w h=>is_any b ra rc f v i [40] { data:=#[40] } w h hv (by omega) rfl (by decide))
 have HMu:=Hxq (fun w h=>must_any b ra rc f v i [40] { data:=#[40] } w h hv (by omega) rfl (by decide))
 have HMc:=Hxq (fun j w h (hj:j<=v.ws.length)=>must_any b ra rc f v j [41] { data:=#[41] } w h hv (by omega) rfl (by decide))
 have hslt:=fun h=>Sy.sign_lt (v:=v) (i:=i) (s:=[45]) h
 have hmadv:=Sy.adv_must v [40] i
 have h17:above=17->(v.tk i).kind≠2/\Sy.constant v i=none/\Sy.sign (v.tk i) [45]=false/\Sy.sign (v.tk i) [40]=false:=fun e=>by
  rcases ha with ha | ⟨-,ho⟩
  ·omega
  ·exact Sy.opd_none ho
 have hms:∀ a j,Sy.must v [40] i=.ok a j->Sy.sign (v.tk i) [40]=true:=fun a j hm=>by
  unfold Sy.must at hm
  split at hm
  ·assumption
  ·cases hm
 have hcadv:∀ c n,Sy.constant v i=some (c,n)->i+n<=v.ws.length:=fun c n hc=>(Sy.constant_adv hc).2
 have HLo:=Lib.hid h.low
 have hbl:=h.lt
 have HA:=Lib.hid hA;have EA:=Lib.hid eA;have MA:=Lib.hid mA
 have ha17:above<=17:=by omega
 clear h hA eA mA ha
 generalize Sy.constant v i=oc at *
 generalize Sy.sign (v.tk i) [45]=rs at *
 generalize Sy.sign (v.tk i) [40]=rp at *
 generalize Sy.must v [40] i=pm at *
 generalize hq:Sy.exprF v (k+1) 3 above i=q at *
 generalize v.tk i=t at *
 have H17:=Lib.hid h17;have HMS:=Lib.hid hms;have HMA:=Lib.hid hmadv;have HCA:=Lib.hid hcadv;have HSL:=Lib.hid hslt
 clear hq h17 hms hmadv hcadv hslt
 go_enter Tryz.func64,Tryz.ntmps64
 go_upto_region 1 with fail
 generalize w.alloc (Obj.cells #[Value.int IntKind.i64 0,Value.string ⟨#[]⟩,Value.int IntKind.i64 0,Value.int IntKind.i64 0,Value.string ⟨#[]⟩,Value.int IntKind.i64 0,Value.slice none 0 0] 26)=wA at *
 go_wp2_with fail
 refine HP.out.mono ?_
 rintro e1 w1 ⟨rfl,m1⟩
 have E1:=Hxq (m1.at EA.out (by simp))
 have z1:=lt_of_block E1.out
 have mB:=(Mod.refl [] w1).alloc (Obj.cells (tokC t) 93)
 have bB:=heap_alloc_new w1 (Obj.cells (tokC t) 93)
 have HB:=Hxq ((HA.out.past m1 (by simp)).past mB (by simp));have AB:=Hxq (mB.at E1.out (by simp));have BB:=Lib.hid bB;have MB:=Hxq ((MA.out.trans m1 (by simp)).trans mB (by simp))
 have zB:(w1.alloc (Obj.cells (tokC t) 93)).heap.size=w1.heap.size+1:=by simp
 clear m1 mB bB HP
 unfold tokC at *
 go_upto_region 2 with fail
 generalize w1.alloc (Obj.cells _ 93)=wB at *
 obtain ⟨x0,x1,x2,x3,x4,x5,x6⟩:=tok_cells (t:=t) BB.out
 have hnb:w.heap.size∉[b]:=by simp;omega
 by_cases k2:t.kind=2
 ·have hq:q=.ok (.mk 1 (Sy.txt t.text) Va.zero 0 [],0) (i+1):=by rw [HR.out,if_pos k2]
  subst hq
  have b2:((t.kind:Int) == 2)=true:=by rw [k2];rfl
  obtain ⟨c0,c1,c2,c3,c4,c5,fz⟩:=HB.out.cells
  have hT:=HB.out.to (i+1)
  have hnb1:w1.heap.size∉[b]:=by simp;omega
  have aC:(wB.setCell ⟨b,1,none⟩ (.int .i64 ((i:Int)+1))).heap[w.heap.size]?=_:=hT.2.at AB.out hnb
  have tC:(wB.setCell ⟨b,1,none⟩ (.int .i64 ((i:Int)+1))).heap[w1.heap.size]?=_:=hT.2.at BB.out hnb1
  have HC:Hid (RdP (wB.setCell ⟨b,1,none⟩ (.int .i64 ((i:Int)+1))) b ra rc f v (i+1)):=Lib.hid hT.1
  have MC:Hid (Mod [b] w (wB.setCell ⟨b,1,none⟩ (.int .i64 ((i:Int)+1)))):=Hxq ((MB.out.mono (T:=[b]) (by simp)).trans hT.2 (by simp))
  clear hT HR k2
  go_upto_region 4 with fail
  generalize wB.setCell ⟨b,1,none⟩ (.int .i64 ((i:Int)+1))=wC at *
  clear x0 x1 x2 x3 x4 x5 x6 c0 c1 c2 c3 c4 c5 fz
  obtain ⟨x0,x1,x2,x3,x4,x5,x6⟩:=tok_cells (t:=t) tC
  obtain ⟨y0,y1,y2,y3,y4,y5,y6⟩:=cells7 aC
  have fA:∀ j,wC.frozen? ⟨w.heap.size,j,none⟩=false:=fun j=>free_at aC j
  have AC:=Lib.hid aC
  clear aC tC
  go_wp2_with fail
  have mR:=setCs_mod w.heap.size [.int .i64 1,.string (Lx.ofS t.text),.int .i64 0,.int .i64 0,.string ⟨#[]⟩,.int .i64 0,.slice none 0 0] 0 wC
  refine bodyPost_ret (res_ex rfl _ _ _ _ _ _ _ rfl rfl (setCs_row (vs:=[.int .i64 1,.string (Lx.ofS t.text),.int .i64 0,.int .i64 0,.string ⟨#[]⟩,.int .i64 0,.slice none 0 0]) AC.out rfl) rfl) rfl ⟨_,rfl,⟨.slice none 0 0,rfl,.nil⟩,HC.out.new HLo.out mR (by simp),MC.out.trans mR (by simp)⟩
 have b2:((t.kind:Int) == 2)=false:=by rw [beq_eq_false_iff_ne];omega
 have HR2:Hid (q=unRest v k above i rs rp pm oc):=Hxq (by rw [HR.out,if_neg k2])
 clear HR k2
 go_wp2_with fail
 refine (HCon.out wB HB.out).mono ?_
 rintro e2 w2 ⟨rfl,h2,m2⟩
 have M2:=Hxq ((MB.out.mono (T:=[b]) (by simp)).trans m2 (by simp));have A2:=Hxq (m2.at AB.out hnb)
 have z2:=lt_of_block A2.out
 clear x0 x1 x2 x3 x4 x5 x6 m2
 unfold ConV
 cases oc with
 | some cn =>
  obtain ⟨c,n⟩:=cn
  have hq:q=.ok (.mk 2 (Sy.txt []) c 0 [],0) (i+n):=HR2.out
  subst hq
  have H2:=Hxq (show RdP w2 b ra rc f v (i+n) from h2)
  clear h2 HR2
  simp only [Option.map_some,Option.getD_some,Option.isSome_some,valV]
  have mC:=(Mod.refl [] w2).alloc (Obj.cells #[Value.int .i64 c.k,Value.int .i64 c.n,Value.string (Lx.ofS c.s)] 23)
  have cC:=heap_alloc_new w2 (Obj.cells #[Value.int .i64 c.k,Value.int .i64 c.n,Value.string (Lx.ofS c.s)] 23)
  have aC:=mC.at A2.out (by simp)
  have HC:=Hxq (H2.out.past mC (by simp));have MC:=Hxq (M2.out.trans mC (by simp));have AC:=Lib.hid aC
  obtain ⟨x0,x1,x2⟩:=cells3 cC
  obtain ⟨y0,y1,y2,y3,y4,y5,y6⟩:=cells7 aC
  have fA:∀ j,(w2.alloc (Obj.cells #[Value.int .i64 c.k,Value.int .i64 c.n,Value.string (Lx.ofS c.s)] 23)).frozen? ⟨w.heap.size,j,none⟩=false:=fun j=>free_at aC j
  clear mC cC aC
  go_upto_region 7 with fail
  generalize w2.alloc (Obj.cells #[Value.int .i64 c.k,Value.int .i64 c.n,Value.string (Lx.ofS c.s)] 23)=wC at *
  go_wp2_with fail
  have mR:=setCs_mod w.heap.size [.int .i64 2,.string ⟨#[]⟩,.int .i64 c.k,.int .i64 c.n,.string (Lx.ofS c.s),.int .i64 0,.slice none 0 0] 0 wC
  refine bodyPost_ret (res_ex rfl _ _ _ _ _ _ _ rfl rfl (setCs_row (vs:=[.int .i64 2,.string ⟨#[]⟩,.int .i64 c.k,.int .i64 c.n,.string (Lx.ofS c.s),.int .i64 0,.slice none 0 0]) AC.out rfl) rfl) rfl ⟨_,rfl,⟨.slice none 0 0,rfl,.nil⟩,HC.out.new HLo.out mR (by simp),MC.out.trans mR (by simp)⟩
 | none =>
  have HR3:Hid (q=if rs=true then
      if 16<=above/\Sy.operand (v.tk (i+1))=true then .err (v.give 41 (i+1))
      else (Sy.exprF v k 3 (above+1) (i+1)).bind fun r j=>.ok (.mk 4 (Sy.txt []) Va.zero 6 [r.1],r.2+1) j
     else if rp=true/\16<=above then .err (v.give 41 i)
     else pm.bind fun _ j=>(Sy.exprF v k 1 (above+1) j).bind fun r j=>(Sy.must v [41] j).bind fun _ j=>.ok (r.1,r.2+1) j):=Lib.hid HR2.out
  have h2':RdP w2 b ra rc f v i:=h2
  clear HR2 h2
  simp only [Option.map_none,Option.getD_none,Option.isSome_none,valV,Va.zero]
  have mC:=(Mod.refl [] w2).alloc (Obj.cells #[Value.int .i64 0,Value.int .i64 0,Value.string (Lx.ofS [])] 23)
  have HC:=Hxq (h2'.past mC (by simp));have MC:=Hxq (M2.out.trans mC (by simp));have AC:=Hxq (mC.at A2.out (by simp))
  clear mC h2'
  go_wp2_with fail
  refine (HMy.out _ HC.out).mono ?_
  rintro e3 w3 ⟨rfl,h3,m3⟩
  have M3:=Hxq (MC.out.trans m3 (by simp));have A3:=Hxq (m3.at AC.out hnb)
  have z3:=lt_of_block A3.out
  clear m3 HC MC AC
  cases rs
  ·have HR4:Hid (q=if rp=true/\16<=above then .err (v.give 41 i)
     else pm.bind fun _ j=>(Sy.exprF v k 1 (above+1) j).bind fun r j=>(Sy.must v [41] j).bind fun _ j=>.ok (r.1,r.2+1) j):=Lib.hid HR3.out
   have H3:=Hxq (show RdP w3 b ra rc f v i from h3)
   clear HR3 h3
   go_wp2_with fail
   refine (HIs.out w3 H3.out).mono ?_
   rintro e4 w4 ⟨rfl,m4⟩
   have M4:=Hxq (M3.out.trans m4 (by simp));have A4:=Hxq (m4.at A3.out (by simp));have H4:=Hxq (H3.out.past m4 (by simp))
   have z4:=m4.size
   clear m4
   by_cases hc:rp=true/\16<=above
   ·have hq:q=.err (v.give 41 i):=by rw [HR4.out,if_pos hc]
    subst hq
    obtain ⟨hc1,hc2⟩:=hc
    subst hc1
    have hI:(16:Int)<=(above:Int):=by omega
    clear HR4
    go_wp2_with fail
    refine (give_any b ra rc f v i 41 w4 H4.out hv (by omega)).mono ?_
    rintro e5 w5 ⟨rfl,m5⟩
    have M5:=Hxq (M4.out.trans m5 (by simp))
    clear m5
    unfold stopE
    go_wp2_with fail
    exact ⟨rfl,rfl,M5.out⟩
   ·have HR5:Hid (q=pm.bind fun _ j=>(Sy.exprF v k 1 (above+1) j).bind fun r j=>(Sy.must v [41] j).bind fun _ j=>.ok (r.1,r.2+1) j):=Hxq (by rw [HR4.out,if_neg hc])
    have hx:∃ D:Bool,(rp=true->D=false/\¬ (16:Int)<=(above:Int))/\True:=⟨false,fun h=>⟨rfl,fun hh=>hc ⟨h,by omega⟩⟩,trivial⟩
    have hpa:rp=true->above<16:=fun h=>Nat.lt_of_not_le (fun hh=>hc ⟨h,hh⟩)
    clear HR4 hc hx
    cases pm with
    | err g =>
     have hq:q=.err g:=HR5.out
     subst hq
     clear HR5
     cases rp
     all_goals (
      try have hI:¬ (16:Int)<=(above:Int):=by have:=hpa rfl;omega
      clear hpa
      go_wp2_with fail
      refine (HMu.out w4 H4.out).mono ?_
      rintro e5 w5 ⟨rfl,m5⟩
      have M5:=Hxq (M4.out.trans m5 (by simp))
      clear m5
      unfold stopE
      go_wp2_with fail
      exact ⟨rfl,rfl,M5.out⟩)
    | ok uu j =>
     have hj:=HMA.out uu j hi rfl
     have hrp:=HMS.out uu j rfl
     subst hrp
     have hab:=hpa rfl
     have hI:¬ (16:Int)<=(above:Int):=by omega
     have HR6:Hid (q=(Sy.exprF v k 1 (above+1) j).bind fun r j=>(Sy.must v [41] j).bind fun _ j=>.ok (r.1,r.2+1) j):=Lib.hid HR5.out
     have hadv:=Sy.adv_exprF v k 1 (above+1) (by omega) j
     have hdp:=Sy.expr_deep v k 1 (above+1) j
     clear HR5 hpa
     go_wp2_with fail
     refine (HMu.out w4 H4.out).mono ?_
     rintro e5 w5 ⟨y5,rfl,hy5,h5,m5⟩
     unfold valU at hy5
     subst hy5
     have z5:=m5.size
     have M5:=Hxq (M4.out.trans m5 (by simp));have A5:=Hxq (m5.at A4.out hnb);have H5:=Lib.hid h5
     have HX:=Hxq (hE 1 (above+1) j w5 h5 hj.2 (by omega) (by omega) (by omega) (by omega))
     clear m5 h5
     generalize Sy.exprF v k 1 (above+1) j=px at *
     cases px with
     | err g =>
      have hq:q=.err g:=HR6.out
      subst hq
      clear HR6 hadv hdp
      go_wp2_with fail
      refine HX.out.mono ?_
      rintro e6 w6 ⟨rfl,m6⟩
      have M6:=Hxq (M5.out.trans m6 (by simp))
      clear m6
      unfold stopE
      go_wp2_with fail
      exact ⟨rfl,rfl,M6.out⟩
     | ok r n =>
      obtain ⟨ex,dd⟩:=r
      have hn:=hadv _ n hj.2 rfl
      have hdd:=hdp _ n (by omega) rfl
      simp only at hdd
      have HR7:Hid (q=(Sy.must v [41] n).bind fun _ j=>.ok (ex,dd+1) j):=Lib.hid HR6.out
      clear HR6 hadv hdp
      go_wp2_with fail
      refine HX.out.mono ?_
      rintro e6 w6 ⟨y6,rfl,⟨u6,rfl,hb6⟩,h6,m6⟩
      obtain ⟨a6,c6,rfl⟩:=hb6.lit
      have z6:=m6.size
      have M6:=Hxq (M5.out.trans m6 (by simp));have A6:=Hxq (m6.at A5.out hnb)
      have mD:=(Mod.refl [] w6).alloc (Obj.cells (exV ex (.slice a6 ex.args.length c6)) 26)
      have dD:=heap_alloc_new w6 (Obj.cells (exV ex (.slice a6 ex.args.length c6)) 26)
      have HD:=Hxq (h6.past mD (by simp));have MD:=Hxq (M6.out.trans mD (by simp));have AD:=Hxq (mD.at A6.out (by simp));have DD:=Lib.hid dD;have BD:=Hxq (hb6.keep mD (by simp))
      have HU:=Hxq (HMc.out n _ HD.out hn.2)
      clear mD dD hb6 h6 m6
      have hdI:(dd:Int)<=16:=by omega
      unfold exV at *
      simp only at *
      go_upto_region 17 with fail
      generalize w6.alloc (Obj.cells _ 26)=wD at *
      generalize Sy.must v [41] n=pm2 at *
      cases pm2 with
      | err g =>
       have hq:q=.err g:=HR7.out
       subst hq
       clear HR7
       go_wp2_with fail
       refine HU.out.mono ?_
       rintro e7 w7 ⟨rfl,m7⟩
       have M7:=Hxq (MD.out.trans m7 (by simp))
       clear m7
       unfold stopE
       go_wp2_with fail
       exact ⟨rfl,rfl,M7.out⟩
      | ok uu2 n2 =>
       have hq:q=.ok (ex,dd+1) n2:=HR7.out
       subst hq
       clear HR7
       go_wp2_with fail
       refine HU.out.mono ?_
       rintro e7 w7 ⟨y7,rfl,hy7,h7,m7⟩
       unfold valU at hy7
       subst hy7
       have hnb6:w6.heap.size∉[b]:=by simp;omega
       have M7:=Hxq (MD.out.trans m7 (by simp));have H7:=Lib.hid h7;have a7:=m7.at AD.out hnb;have d7:=m7.at DD.out hnb6
       have B7:=Hxq (BD.out.keep m7 (fun s hs=>by rw [Msq] at hs;omega))
       obtain ⟨x0,x1,x2,x3,x4,x5,x6⟩:=cells7 d7
       obtain ⟨y0,y1,y2,y3,y4,y5,y6⟩:=cells7 a7
       have fA:∀ j,w7.frozen? ⟨w.heap.size,j,none⟩=false:=fun j=>free_at a7 j
       have A7:=Lib.hid a7
       clear h7 m7 a7 d7
       go_wp2_with fail
       have mR:=setCs_mod w.heap.size [.int .i64 ex.k,.string ex.v,.int .i64 ex.x.k,.int .i64 ex.x.n,.string (Lx.ofS ex.x.s),.int .i64 ex.op,.slice a6 ex.args.length c6] 0 w7
       refine bodyPost_ret (res_ex rfl _ _ _ _ _ _ _ rfl rfl (setCs_row (vs:=[.int .i64 ex.k,.string ex.v,.int .i64 ex.x.k,.int .i64 ex.x.n,.string (Lx.ofS ex.x.s),.int .i64 ex.op,.slice a6 ex.args.length c6]) A7.out rfl) rfl) rfl ⟨_,rfl,⟨.slice a6 ex.args.length c6,rfl,((B7.out.keep mR (fun s hs=>by rw [Msq] at hs;omega)).mono (fun k hk _=>by omega))⟩,H7.out.new HLo.out mR (by simp),M7.out.trans mR (by simp)⟩
  ·have hil:=HSL.out rfl
   have hab:above<=16:=by
    rcases Nat.lt_or_ge 16 above with h | h
    ·have:=(H17.out (by omega)).2.2.1;cases this
    ·exact h
   have H3:=Hxq (show RdP w3 b ra rc f v (i+1) from h3)
   have HR4:Hid (q=if 16<=above/\Sy.operand (v.tk (i+1))=true then .err (v.give 41 (i+1))
      else (Sy.exprF v k 3 (above+1) (i+1)).bind fun r j=>.ok (.mk 4 (Sy.txt []) Va.zero 6 [r.1],r.2+1) j):=Lib.hid HR3.out
   clear HR3 h3
   have HPk:=Hxq (fun w h=>peek0 b ra rc f v (i+1) w h hv (by omega))
   have HOp:=Hxq (fun w=>operand_any (v.tk (i+1)) w (hv.tbyte (i+1)))
   have hUn:=fun (h:above<16\/Sy.operand (v.tk (i+1))=false) w hr=>hU (above+1) (i+1) w hr (by omega) (by
    rcases h with h | h
    ·exact .inl (by omega)
    ·by_cases e:above=16
     ·exact .inr ⟨by omega,h⟩
     ·exact .inl (by omega)) (by omega)
   have HU2:=Lib.hid hUn
   clear hUn
   have HU17:Hid (Sy.operand (v.tk (i+1))=false->∃ g,Sy.exprF v k 3 (16+1) (i+1)=.err g):=Hxq (fun h=>Sy.un17 (16+1) h)
   generalize Sy.operand (v.tk (i+1))=op at *
   generalize v.tk (i+1)=t2 at *
   by_cases hI:(16:Int)<=(above:Int)
   ·obtain rfl:above=16:=by omega
    cases op with
    | true =>
     have hq:q=.err (v.give 41 (i+1)):=by rw [HR4.out,if_pos ⟨by omega,rfl⟩]
     subst hq
     clear HR4 HU2 HU17 hI
     go_wp2_with fail
     refine (HPk.out w3 H3.out).mono ?_
     rintro e4 w4 ⟨rfl,m4⟩
     have M4:=Hxq (M3.out.trans m4 (by simp));have H4:=Hxq (H3.out.past m4 (by simp))
     clear m4
     go_wp2_with fail
     refine (HOp.out w4).mono ?_
     rintro e5 w5 ⟨rfl,m5⟩
     have M5:=Hxq (M4.out.trans m5 (by simp));have H5:=Hxq (H4.out.past m5 (by simp))
     clear m5
     go_wp2_with fail
     refine (give_any b ra rc f v (i+1) 41 w5 H5.out hv (by omega)).mono ?_
     rintro e6 w6 ⟨rfl,m6⟩
     have M6:=Hxq (M5.out.trans m6 (by simp))
     clear m6
     unfold stopE
     go_wp2_with fail
     exact ⟨rfl,rfl,M6.out⟩
    | false =>
     obtain ⟨g,hg⟩:=HU17.out rfl
     have hq:q=.err g:=by rw [HR4.out,if_neg (by simp),hg];rfl
     subst hq
     have HUc:=Hxq (HU2.out (.inr rfl))
     rw [hg] at HUc
     clear HR4 HU2 HU17 hI
     go_wp2_with fail
     refine (HPk.out w3 H3.out).mono ?_
     rintro e4 w4 ⟨rfl,m4⟩
     have M4:=Hxq (M3.out.trans m4 (by simp));have H4:=Hxq (H3.out.past m4 (by simp))
     clear m4
     go_wp2_with fail
     refine (HOp.out w4).mono ?_
     rintro e5 w5 ⟨rfl,m5⟩
     have M5:=Hxq (M4.out.trans m5 (by simp));have H5:=Hxq (H4.out.past m5 (by simp))
     clear m5
     go_wp2_with fail
     refine (HUc.out w5 H5.out).mono ?_
     rintro e6 w6 ⟨rfl,m6⟩
     have M6:=Hxq (M5.out.trans m6 (by simp))
     clear m6
     unfold stopE
     go_wp2_with fail
     exact ⟨rfl,rfl,M6.out⟩
   ·have ha2:above<16:=by omega
    have HR6:Hid (q=(Sy.exprF v k 3 (above+1) (i+1)).bind fun r j=>.ok (.mk 4 (Sy.txt []) Va.zero 6 [r.1],r.2+1) j):=Hxq (by rw [HR4.out,if_neg (fun hh=>by omega)])
    have HDp:Hid (∀ r j,Sy.exprF v k 3 (above+1) (i+1)=.ok r j->above+1+r.2<=16):=Hxq (fun r j hh=>Sy.expr_deep v k 3 (above+1) (i+1) r j (by omega) hh)
    have HUc:=Hxq (HU2.out (.inl ha2))
    clear HR4 HU2 HU17
    generalize Sy.exprF v k 3 (above+1) (i+1)=px at *
    cases px with
    | err g =>
     have hq:q=.err g:=HR6.out
     subst hq
     clear HR6 HDp
     go_wp2_with fail
     refine (HUc.out w3 H3.out).mono ?_
     rintro e6 w6 ⟨rfl,m6⟩
     have M6:=Hxq (M3.out.trans m6 (by simp))
     clear m6
     unfold stopE
     go_wp2_with fail
     exact ⟨rfl,rfl,M6.out⟩
    | ok r n =>
     obtain ⟨ex,dd⟩:=r
     have hdd:above+1+dd<=16:=HDp.out _ n rfl
     have hq:q=.ok (.mk 4 (Sy.txt []) Va.zero 6 [ex],dd+1) n:=HR6.out
     subst hq
     clear HR6 HDp
     go_wp2_with fail
     refine (HUc.out w3 H3.out).mono ?_
     rintro e6 w6 ⟨y6,rfl,⟨u6,rfl,hb6⟩,h6,m6⟩
     obtain ⟨a6,c6,rfl⟩:=hb6.lit
     have z6:=m6.size
     have M6:=Hxq (M3.out.trans m6 (by simp));have A6:=Hxq (m6.at A3.out hnb)
     have mD:=(Mod.refl [] w6).alloc (Obj.cells (exV ex (.slice a6 ex.args.length c6)) 26)
     have dD:=heap_alloc_new w6 (Obj.cells (exV ex (.slice a6 ex.args.length c6)) 26)
     have HD:=Hxq (h6.past mD (by simp));have MD:=Hxq (M6.out.trans mD (by simp));have AD:=Hxq (mD.at A6.out (by simp));have DD:=Lib.hid dD;have BD:=Hxq (hb6.keep mD (by simp))
     have zD:(w6.alloc (Obj.cells (exV ex (.slice a6 ex.args.length c6)) 26)).heap.size=w6.heap.size+1:=by simp
     clear mD dD hb6 h6 m6
     have hdI:(dd:Int)<=16:=by omega
     unfold exV at *
     simp only at *
     go_upto_region 12 with fail
     generalize w6.alloc (Obj.cells _ 26)=wD at *
     obtain ⟨x0,x1,x2,x3,x4,x5,x6⟩:=cells7 DD.out
     have mE:=(Mod.refl [] wD).alloc (Obj.cells #[.int .i64 ex.k,.string ex.v,.int .i64 ex.x.k,.int .i64 ex.x.n,.string (Lx.ofS ex.x.s),.int .i64 ex.op,.slice a6 ex.args.length c6] 26)
     have eE:=heap_alloc_new wD (Obj.cells #[.int .i64 ex.k,.string ex.v,.int .i64 ex.x.k,.int .i64 ex.x.n,.string (Lx.ofS ex.x.s),.int .i64 ex.op,.slice a6 ex.args.length c6] 26)
     have aE:=mE.at AD.out (by simp)
     obtain ⟨y0,y1,y2,y3,y4,y5,y6⟩:=cells7 aE
     have fA:∀ j,(wD.alloc (Obj.cells #[.int .i64 ex.k,.string ex.v,.int .i64 ex.x.k,.int .i64 ex.x.n,.string (Lx.ofS ex.x.s),.int .i64 ex.op,.slice a6 ex.args.length c6] 26)).frozen? ⟨w.heap.size,j,none⟩=false:=fun j=>free_at aE j
     have HE:=Hxq (HD.out.past mE (by simp));have ME:=Hxq (MD.out.trans mE (by simp));have AE:=Lib.hid aE;have BE:=Hxq (BD.out.keep mE (by simp))
     have zE:=lt_of_block DD.out
     rw [zD] at eE
     have EE:=Lib.hid eE
     rw [zD] at zE
     clear mE eE aE
     go_wp2_with fail
     generalize (wD.alloc (Obj.cells #[.int .i64 ex.k,.string ex.v,.int .i64 ex.x.k,.int .i64 ex.x.n,.string (Lx.ofS ex.x.s),.int .i64 ex.op,.slice a6 ex.args.length c6] 26))=wE at *
     have mR:=setCs_mod w.heap.size [.int .i64 4,.string ⟨#[]⟩,.int .i64 0,.int .i64 0,.string ⟨#[]⟩,.int .i64 6,.slice (some ⟨w6.heap.size+1,0,none⟩) 1 1] 0 wE
     refine bodyPost_ret (res_ex rfl _ _ _ _ _ _ _ rfl rfl (setCs_row (vs:=[.int .i64 4,.string ⟨#[]⟩,.int .i64 0,.int .i64 0,.string ⟨#[]⟩,.int .i64 6,.slice (some ⟨w6.heap.size+1,0,none⟩) 1 1]) AE.out rfl) rfl) rfl ⟨_,rfl,⟨.slice (some ⟨w6.heap.size+1,0,none⟩) 1 1,rfl,?_⟩,HE.out.new HLo.out mR (by simp),ME.out.trans mR (by simp)⟩
     have hg:(setCs wE w.heap.size 0 [.int .i64 4,.string ⟨#[]⟩,.int .i64 0,.int .i64 0,.string ⟨#[]⟩,.int .i64 6,.slice (some ⟨w6.heap.size+1,0,none⟩) 1 1]).heap[(w6.heap.size+1)]?=_:=mR.at EE.out (by simp;omega)
     exact EB.one (u:=.slice a6 ex.args.length c6) hg (by omega) ((BE.out.keep mR (fun s hs=>by rw [Msq] at hs;omega)).mono (fun k hk _=>by omega)) 1
end Go.Proofs.YtbfaclljbbfknaaGreatDoor
