/- THE TEXTS MERGED: VaPut VaAwake VaLent VaSame. -/
import Derived.Test.YtdablillhbfgkaaDoorKT6
import Derived.Deep.RegionHeld3
import Derived.Deep.RegionWith
import Derived.Laws.CopyOwn
namespace Go.Proofs.YtdablillhbfgkaaDoor
open Go.RowKit
set_option linter.unusedVariables false
set_option linter.unusedSimpArgs false
set_option maxRecDepth 100000
structure ValAt (w:World) (b o:Nat) (v:Va.Val):Prop where
  c0:w.cell? ⟨b,o,none⟩=some (.int .i64 v.k)
  c1:w.cell? ⟨b,o+1,none⟩=some (.int .i64 v.n)
  c2:w.cell? ⟨b,o+2,none⟩=some (.string (Lx.ofS v.s))
/-- a slice that reads as these values -/
def VRow (w:World) (v:Value) (ts:List Va.Val):Prop :=
  (∃ a c,v=.slice a 0 c/\ts=[]) \/
   ∃ b off cap,v=.slice (some ⟨b,off,none⟩) ts.length cap/\∀ i (h:i<ts.length),ValAt w b (off+i * 3) ts[i]
theorem VRow.past {S:List Nat} {w w':World} {v:Value} {ts:List Va.Val} (h:VRow w v ts) (hm:Mod S w w') (hS:∀ t∈S,w.heap.size<=t):VRow w' v ts:=by
  rcases h with h | ⟨b,off,cap,rfl,hc⟩
  · exact .inl h
  · refine .inr ⟨b,off,cap,rfl,fun i hi=>?_⟩
    have h0:=hc i hi
    have hb:b∉S:=fun hb=>by have:=hS b hb;have hlt:b<w.heap.size:=World.block_lt_of_cell? w _ h0.c0;omega
    exact ⟨hm.cell h0.c0 hb,hm.cell h0.c1 hb,hm.cell h0.c2 hb⟩
theorem VRow.at {w:World} {a:Option Addr} {c:Nat} {ts:List Va.Val} (h:VRow w (.slice a ts.length c) ts) (i:Nat) (hi:i<ts.length) :
    ∃ b off,a=some ⟨b,off,none⟩/\ValAt w b (off+i * 3) ts[i]:=by
  rcases h with ⟨a',c',e,rfl⟩ | ⟨b,off,cap,e,hc⟩
  · simp at hi
  · simp only [Value.slice.injEq,true_and] at e
    exact ⟨b,off,e.1,hc i hi⟩
theorem VRow.lit {w:World} {v:Value} {ts:List Va.Val} (h:VRow w v ts):∃ a c,v=.slice a ts.length c:=by
  rcases h with ⟨a,c,rfl,rfl⟩ | ⟨b,off,cap,rfl,hc⟩
  · exact ⟨_,_,rfl⟩
  · exact ⟨_,_,rfl⟩
theorem all1_any (v:Va.Val) (w:World) :
    Calls Tryd.prog 72 #[.agg (valV v)] w fun e w'=>e=.returned (.bool (!Va.may v))/\Mod [] w w':=by
  have h1:=fun w=>check_any v w
  unfold chk at h1
  cases hm:Va.may v
  · rw [hm] at h1
    simp only [Bool.false_eq_true,if_false] at h1
    have H1:=Lib.hid h1
    clear h1 hm
    unfold valV at *
    go_enter Tryd.func72,Tryd.ntmps72
    go_wp2_with fail
    refine (H1.out _).mono ?_
    rintro e w1 ⟨rfl,hm⟩
    go_wp2_with fail
    go_ret
    exact ⟨rfl,((Mod.refl [] w).alloc _).trans hm (by simp)⟩
  · rw [hm] at h1
    simp only [if_true] at h1
    have H1:=Lib.hid h1
    clear h1 hm
    unfold valV at *
    go_enter Tryd.func72,Tryd.ntmps72
    go_wp2_with fail
    refine (H1.out _).mono ?_
    rintro e w1 ⟨rfl,hm⟩
    go_wp2_with fail
    go_ret
    exact ⟨rfl,((Mod.refl [] w).alloc _).trans hm (by simp)⟩
def mayI (ts:List Va.Val) (k:Int):Prop:=(k=-1/\ts.all Va.may=true)\/(0<=k/\ts.all Va.may=false)
set_option maxHeartbeats 1000000 in
theorem vindex_any (v:Value) (ts:List Va.Val) (hl:ts.length<=140737488355328) (w:World) (h:VRow w v ts) :
    Calls Tryd.prog 92 #[v,.func (.func 72) #[] #[]] w fun e w'=>(∃ k,e=.returned (.int .i64 k)/\mayI ts k)/\Mod [] w w':=by
  have he:=enter_of Tryd.func72 (by kernel_rfl) rfl
  obtain ⟨a,c,rfl⟩:=h.lit
  have H:=Lib.hid h
  clear h
  go_enter Tryd.func92,Tryd.ntmps92
  go_wp2_with fail
  go_loopw [8] (fun iv wr=>∃ k:Nat,k<=ts.length/\iv=.int .i64 (k:Nat)/\(ts.take k).all Va.may=true/\Mod [] w wr) (fun iv _=>ts.length - (intOf iv).toNat)
  case atStart=>exact ⟨0,Nat.zero_le _,rfl,rfl,Mod.refl _ _⟩
  case round =>
    obtain ⟨k,hk,rfl,hal,hmr⟩:=hrel
    by_cases hlt:k<ts.length
    · have hkI:(k:Int)<(ts.length:Int):=by omega
      have hk0:(0:Int)<=(k:Int):=by omega
      obtain ⟨b,off,rfl,hv⟩:=(H.out.past hmr (by simp)).at k hlt
      obtain ⟨c0,c1,c2⟩:=hv
      have h1:=fun w=>all1_any ts[k] w
      unfold valV at h1
      have hsn:(ts.take (k+1)).all Va.may=Va.may ts[k]:=by
        rw [List.take_succ_eq_append_getElem hlt,List.all_append,hal];simp
      have hno:Va.may ts[k]=false->ts.all Va.may=false:=fun hm=>by
        rw [<-Bool.not_eq_true,List.all_eq_true]
        intro hh
        have:=hh _ (List.getElem_mem hlt)
        rw [hm] at this;cases this
      generalize ts[k]=x at *
      cases hm:Va.may x
      · rw [hm] at h1
        have HN:=Hxq (hno hm)
        have H1:=Lib.hid h1
        clear h1 hno hsn hm hal
        go_wp2_with fail
        refine (H1.out _).mono ?_
        rintro e w1 ⟨rfl,hm1⟩
        go_wp2_with fail
        go_ret
        exact ⟨⟨_,rfl,.inr ⟨by omega,HN.out⟩⟩,hmr.trans hm1 (by simp)⟩
      · rw [hm] at h1
        have HS:=Hxq (hsn.trans hm)
        have H1:=Lib.hid h1
        clear h1 hno hsn hm hal
        go_wp2_with fail
        refine (H1.out _).mono ?_
        rintro e w1 ⟨rfl,hm1⟩
        go_wp2_with fail
        go_roundw
        case rel=>exact ⟨k+1,by omega,by go_num,HS.out,hmr.trans hm1 (by simp)⟩
        case measure=>simp [intOf];omega
    · obtain rfl:k=ts.length:=by omega
      have hkI:¬ (ts.length:Int)<(ts.length:Int):=by omega
      rw [List.take_length] at hal
      have HA:=Lib.hid hal
      clear hal
      go_wp2_with fail
      go_ret
      exact ⟨⟨_,rfl,.inl ⟨rfl,HA.out⟩⟩,hmr⟩
theorem vall_any (v:Value) (ts:List Va.Val) (hl:ts.length<=140737488355328) (w:World) (h:VRow w v ts) :
    Calls Tryd.prog 52 #[v] w fun e w'=>e=.returned (.bool (ts.all Va.may))/\Mod [] w w':=by
  have h1:=fun w h=>vindex_any v ts hl w h
  have hc:∀ w,VRow w v ts->Calls Tryd.prog 71 #[v,.func (.func 72) #[] #[]] w fun e w'=>e=.returned (.bool (!ts.all Va.may))/\Mod [] w w':=by
    intro w h
    have H1:=Hxq (h1 w h)
    clear h1
    go_enter Tryd.func71,Tryd.ntmps71
    go_wp2_with fail
    refine H1.out.mono ?_
    rintro e w1 ⟨⟨k,rfl,hk⟩,hm⟩
    rcases hk with ⟨rfl,ha⟩ | ⟨hk,ha⟩
    · go_wp2_with fail
      go_ret
      exact ⟨by rw [ha];rfl,hm⟩
    · go_wp2_with fail
      go_ret
      exact ⟨by rw [ha];rfl,hm⟩
  have HC:=Hxq (hc w h)
  clear h1 hc
  generalize ts.all Va.may=b at *
  go_enter Tryd.func52,Tryd.ntmps52
  go_wp2_with fail
  refine HC.out.mono ?_
  rintro e w1 ⟨rfl,hm⟩
  go_wp2_with fail
  go_ret
  exact ⟨by simp,hm⟩
/-- one value's bytes -/
def enc1 (v:Va.Val):List Nat:=[v.k.toNat]++(if v.k=1 then Cod.uv (Cod.zz v.n) else Cod.uv v.s.length++v.s)
def putB (ts:List Va.Val):List Nat:=Cod.uv ts.length++ts.flatMap enc1
theorem enc1_len {v:Va.Val} (h:Va.may v=true):(enc1 v).length<=100:=by
  have h1:=may_len h
  have h2:=Cod.uvF_len 10 (Cod.zz v.n)
  have h3:=Cod.uvF_len 10 v.s.length
  unfold enc1 Cod.uv
  split
  · simp;omega
  · simp;omega
theorem encs_len:∀ ts:List Va.Val,ts.all Va.may=true->(ts.flatMap enc1).length<=100 * ts.length
  | [],_=>by simp
  | v :: r,h=>by
    simp only [List.all_cons,Bool.and_eq_true] at h
    have:=encs_len r h.2
    have:=enc1_len h.1
    rw [List.flatMap_cons,List.length_append,List.length_cons]
    omega
def putE (ts:List Va.Val):Int:=if 8<ts.length then 2 else if ts.all Va.may then 0 else 20
def putL (ts:List Va.Val):List Nat:=if 8<ts.length then [] else if ts.all Va.may then putB ts else []
/-- what Put answers -/
def PutR (ts:List Va.Val) (w:World) (e:Ending) (w':World):Prop :=
  ∃ v,e=.returned (.tuple #[v,.int .i64 (putE ts)])/\w'.ownsRow 0 5 1 v (putL ts).length (toCells (putL ts))/\Mod [] w w'/\(∀ k∈fp v,w.heap.size<=k)
theorem may_kind {v:Va.Val} (h:Va.may v=true):(v.k=1/\v.s=[])\/v.k=2:=by
  unfold Va.may at h
  simp only [Bool.or_eq_true,Bool.and_eq_true,beq_iff_eq,decide_eq_true_eq] at h
  rcases h with ⟨h,h2,-⟩ | ⟨h,-⟩
  · exact .inl ⟨h,h2⟩
  · exact .inr h
set_option maxHeartbeats 4000000 in
theorem Put_any (v:Value) (ts:List Va.Val) (hb:∀ x∈ts,VB x) (hl:ts.length<=140737488355328) (w:World) (h:VRow w v ts) :
    Calls Tryd.prog 24 #[v] w (PutR ts w):=by
  obtain ⟨a,c,rfl⟩:=h.lit
  have hall:=fun w h=>vall_any (.slice a ts.length c) ts hl w h
  by_cases h8:8<ts.length
  · have h8I:(8:Int)<(ts.length:Int):=by omega
    have E1:Hid (putE ts=2):=Hxq (if_pos h8)
    have E2:Hid (putL ts=[]):=Hxq (if_pos h8)
    clear hall h8 h
    go_enter Tryd.func24,Tryd.ntmps24
    go_wp2_with fail
    go_ret2
    exact ⟨.slice none 0 0,by rw [E1.out];rfl,by rw [E2.out];exact World.ownsRow_nil _ _ _ _,Mod.refl _ _,by simp [fp]⟩
  · have h8I:¬ (8:Int)<(ts.length:Int):=by omega
    cases ha:ts.all Va.may
    · have E1:Hid (putE ts=20):=Hxq (by unfold putE;rw [if_neg h8,ha];rfl)
      rw [ha] at hall
      have E2:Hid (putL ts=[]):=Hxq (by unfold putL;rw [if_neg h8,ha];rfl)
      have HA:=Lib.hid hall
      have H:=Lib.hid h
      clear hall h8 ha h
      go_enter Tryd.func24,Tryd.ntmps24
      go_wp2_with fail
      refine (HA.out _ H.out).mono ?_
      rintro e w1 ⟨rfl,hm⟩
      go_wp2_with fail
      go_ret2
      exact ⟨.slice none 0 0,by rw [E1.out];rfl,by rw [E2.out];exact World.ownsRow_nil _ _ _ _,hm,by simp [fp]⟩
    · have E1:Hid (putE ts=0):=Hxq (by unfold putE;rw [if_neg h8,ha];rfl)
      rw [ha] at hall
      have E2:Hid (putL ts=putB ts):=Hxq (by unfold putL;rw [if_neg h8,ha];rfl)
      have HA:=Lib.hid hall
      have H:=Lib.hid h
      have hn8:ts.length<=8:=by omega
      have hma:∀ x∈ts,Va.may x=true:=List.all_eq_true.1 ha
      have hel:=encs_len ts ha
      have htk:∀ k,((ts.take k).flatMap enc1).length<=100 * k:=fun k=>by
        have:=encs_len (ts.take k) (List.all_eq_true.2 (fun x hx=>hma x (List.mem_of_mem_take hx)))
        rw [List.length_take] at this
        omega
      have huv:=Cod.uvF_len 10 ts.length
      have HMA:=Lib.hid hma;have HTK:=Lib.hid htk;have HVB:=Lib.hid hb
      clear hall h8 ha h hma htk hb
      go_enter Tryd.func24,Tryd.ntmps24
      go_wp2_with fail
      refine (HA.out _ H.out).mono ?_
      rintro e w1 ⟨rfl,hm1⟩
      have HM1:=Lib.hid hm1
      clear hm1
      go_wp2_with fail
      refine (New_any _).mono ?_
      rintro e w2 ⟨rfl,hB2,hm2⟩
      have HM2:=Hxq (HM1.out.trans hm2 (by simp));have HB2:=Lib.hid hB2
      have hs12:=hm2.size
      have hsw1:=HM1.out.size
      clear hB2 hm2
      generalize w1.heap.size=b at *
      go_wp2_with fail
      refine (WUint_any b _ ts.length [] _ HB2.out (by unfold Cod.U64;omega) (by simp)).mono ?_
      rintro e w3 ⟨rfl,v3,hB3,hm3,hf3⟩
      have hm3w:Mod [] w w3:=HM2.out.trans hm3 (fun t ht=>.inr (by simp [fp] at ht;omega))
      have hf3':∀ k∈fp v3,w.heap.size<=k:=fun k hk=>by
        rcases hf3 k hk with q | q
        · simp [fp] at q
        · have:=HM2.out.size;omega
      have HB3:=Lib.hid hB3;have HM3:=Lib.hid hm3w;have HF3:=Lib.hid hf3'
      clear hB3 hm3 hf3 hm3w hf3' HB2
      go_wp2_with fail
      go_loopw [23] (fun iv wr=>∃ (k:Nat) (vw:Value),k<=ts.length/\iv=.int .i64 (k:Nat)/\BoxIs wr b vw (Cod.uv ts.length++(ts.take k).flatMap enc1)/\Mod [] w wr/\(∀ t∈fp vw,w.heap.size<=t)) (fun iv _=>ts.length - (intOf iv).toNat)
      case atStart=>exact ⟨0,v3,Nat.zero_le _,rfl,by simpa using HB3.out,HM3.out,HF3.out⟩
      case round =>
        obtain ⟨k,vw,hk,rfl,hB,hmr,hfw⟩:=hrel
        have htk:=HTK.out k
        have huv2:(Cod.uv ts.length).length<=11:=huv
        have hlen:(Cod.uv ts.length++(ts.take k).flatMap enc1).length<=1000:=by rw [List.length_append];omega
        by_cases hlt:k<ts.length
        · have hkI:(k:Int)<(ts.length:Int):=by omega
          have hk0:(0:Int)<=(k:Int):=by omega
          obtain ⟨g,off,rfl,hv⟩:=(H.out.past hmr (by simp)).at k hlt
          obtain ⟨c0,c1,c2⟩:=hv
          have hmay:=HMA.out _ (List.getElem_mem hlt)
          have hvb:=HVB.out _ (List.getElem_mem hlt)
          have hsn:(ts.take (k+1)).flatMap enc1=(ts.take k).flatMap enc1++enc1 ts[k]:=by
            rw [List.take_succ_eq_append_getElem hlt,List.flatMap_append];simp
          generalize ts[k]=x at *
          have hok:=val_ok hmay hvb
          have h64:=may_len hmay
          have hst:Cod.str (Lx.ofS x.s)=x.s:=Lx.str_ofS hvb
          have hsz:(Lx.ofS x.s).size=x.s.length:=ofS_size _
          generalize hL:Cod.uv ts.length++(ts.take k).flatMap enc1=L at *
          have hsn':Hid (Cod.uv ts.length++(ts.take (k+1)).flatMap enc1=L++enc1 x):=Hxq (by rw [hsn,<-List.append_assoc,hL])
          have hX:=heap_alloc_new wr (Obj.cells (valV x) 28)
          have hBa:=hB.alloc (Obj.cells (valV x) 28)
          have hma:=hmr.alloc (Obj.cells (valV x) 28)
          have hbl:=lt_of_block hB.at_
          have hgl:g<wr.heap.size:=World.block_lt_of_cell? wr _ c0
          have HX:=Lib.hid hX;have HBa:=Lib.hid hBa;have HMa:=Lib.hid hma;have HFw:=Lib.hid hfw
          have hfwl:=fp_lt hB.row
          have HFL:=Lib.hid hfwl
          clear hB hX hBa hma hfw hmr hsn hfwl
          have hwx:w.heap.size<=wr.heap.size:=by have:=HMa.out.size;simp at this;have h2:=HMa.out;omega
          obtain ⟨xk,xn,xs⟩:=x
          simp only [valV] at HX HBa HMa c0 c1 c2 h64 hst hsz hok
          rcases may_kind hmay with ⟨k1,-⟩ | k2
          · simp only at k1
            subst k1
            have hwb:=WByte_any b vw 1 L _ HBa.out (by decide) (by omega)
            rw [show ((1:Nat):Int)=1 from rfl] at hwb
            have HWB:=Lib.hid hwb
            clear hwb
            go_wp2_with fail
            refine HWB.out.mono ?_
            rintro e w5 ⟨rfl,v5,hB5,hm5,hf5⟩
            have hX5:=hm5.at HX.out (fun hh=>by
              rcases List.mem_cons.1 hh with q | q
              · omega
              · have:=HFL.out _ q;omega)
            have d0:w5.cell? ⟨wr.heap.size,0,none⟩=some (.int .i64 1):=by simp only [World.cell?,hX5];rfl
            have d1:w5.cell? ⟨wr.heap.size,1,none⟩=some (.int .i64 xn):=by simp only [World.cell?,hX5];rfl
            have d2:w5.cell? ⟨wr.heap.size,2,none⟩=some (.string (Lx.ofS xs)):=by simp only [World.cell?,hX5];rfl
            have hm5w:Mod [] w w5:=HMa.out.trans hm5 (fun t ht=>by
              rcases List.mem_cons.1 ht with q | q
              · right;omega
              · exact .inr (HFw.out t q))
            have hf5':∀ k∈fp v5,w.heap.size<=k:=fun k hk=>by
              rcases hf5 k hk with q | q
              · exact HFw.out k q
              · have:=HMa.out.size;omega
            have HB5:=Lib.hid hB5;have HM5:=Lib.hid hm5w;have HF5:=Lib.hid hf5'
            have hs5:=hm5w.size
            clear hX5 hB5 hm5 hf5 hm5w hf5' c0 c1 c2
            have hwi:=WInt_any b v5 xn (L++[1]) _ HB5.out hok.lo hok.hi (by rw [List.length_append];simp;omega)
            have HWI:=Lib.hid hwi
            clear hwi
            go_wp2_with fail
            refine HWI.out.mono ?_
            rintro e w6 ⟨rfl,v6,hB6,hm6,hf6⟩
            have hm6w:Mod [] w w6:=HM5.out.trans hm6 (fun t ht=>by
              rcases List.mem_cons.1 ht with q | q
              · right;omega
              · exact .inr (HF5.out t q))
            have hf6':∀ k∈fp v6,w.heap.size<=k:=fun k hk=>by
              rcases hf6 k hk with q | q
              · exact HF5.out k q
              · omega
            have hB6':BoxIs w6 b v6 (Cod.uv ts.length++(ts.take (k+1)).flatMap enc1):=by
              rw [hsn'.out]
              have e:enc1 ⟨1,xn,xs⟩=[1]++Cod.uv (Cod.zz xn):=rfl
              rw [e,<-List.append_assoc]
              exact hB6
            have HB6:=Lib.hid hB6';have HM6:=Lib.hid hm6w;have HF6:=Lib.hid hf6'
            clear hB6 hm6 hf6 hm6w hf6' hB6'
            go_wp2_with fail
            go_roundw
            case rel=>exact ⟨k+1,v6,by omega,by go_num,HB6.out,HM6.out,HF6.out⟩
            case measure=>simp [intOf];omega
          · simp only at k2
            subst k2
            have hwb:=WByte_any b vw 2 L _ HBa.out (by decide) (by omega)
            rw [show ((2:Nat):Int)=2 from rfl] at hwb
            have HWB:=Lib.hid hwb
            clear hwb
            go_wp2_with fail
            refine HWB.out.mono ?_
            rintro e w5 ⟨rfl,v5,hB5,hm5,hf5⟩
            have hX5:=hm5.at HX.out (fun hh=>by
              rcases List.mem_cons.1 hh with q | q
              · omega
              · have:=HFL.out _ q;omega)
            have d0:w5.cell? ⟨wr.heap.size,0,none⟩=some (.int .i64 2):=by simp only [World.cell?,hX5];rfl
            have d1:w5.cell? ⟨wr.heap.size,1,none⟩=some (.int .i64 xn):=by simp only [World.cell?,hX5];rfl
            have d2:w5.cell? ⟨wr.heap.size,2,none⟩=some (.string (Lx.ofS xs)):=by simp only [World.cell?,hX5];rfl
            have hm5w:Mod [] w w5:=HMa.out.trans hm5 (fun t ht=>by
              rcases List.mem_cons.1 ht with q | q
              · right;omega
              · exact .inr (HFw.out t q))
            have hf5':∀ k∈fp v5,w.heap.size<=k:=fun k hk=>by
              rcases hf5 k hk with q | q
              · exact HFw.out k q
              · have:=HMa.out.size;omega
            have HB5:=Lib.hid hB5;have HM5:=Lib.hid hm5w;have HF5:=Lib.hid hf5'
            have hs5:=hm5w.size
            clear hX5 hB5 hm5 hf5 hm5w hf5' c0 c1 c2
            have hwi:=WText_any b v5 (Lx.ofS xs) (L++[2]) _ HB5.out (by rw [List.length_append,hsz];simp;omega)
            rw [hsz,hst] at hwi
            have HWI:=Lib.hid hwi
            clear hwi
            go_wp2_with fail
            refine HWI.out.mono ?_
            rintro e w6 ⟨rfl,v6,hB6,hm6,hf6⟩
            have hm6w:Mod [] w w6:=HM5.out.trans hm6 (fun t ht=>by
              rcases List.mem_cons.1 ht with q | q
              · right;omega
              · exact .inr (HF5.out t q))
            have hf6':∀ k∈fp v6,w.heap.size<=k:=fun k hk=>by
              rcases hf6 k hk with q | q
              · exact HF5.out k q
              · omega
            have hB6':BoxIs w6 b v6 (Cod.uv ts.length++(ts.take (k+1)).flatMap enc1):=by
              rw [hsn'.out]
              have e:enc1 ⟨2,xn,xs⟩=[2]++(Cod.uv xs.length++xs):=rfl
              rw [e,<-List.append_assoc]
              exact hB6
            have HB6:=Lib.hid hB6';have HM6:=Lib.hid hm6w;have HF6:=Lib.hid hf6'
            clear hB6 hm6 hf6 hm6w hf6' hB6'
            go_wp2_with fail
            go_roundw
            case rel=>exact ⟨k+1,v6,by omega,by go_num,HB6.out,HM6.out,HF6.out⟩
            case measure=>simp [intOf];omega
        · obtain rfl:k=ts.length:=by omega
          have hkI:¬ (ts.length:Int)<(ts.length:Int):=by omega
          rw [List.take_length] at hB hlen
          have hout:=Out_any b vw _ wr hB (by omega)
          have HO:=Lib.hid hout
          clear hout hB
          go_wp2_with fail
          refine HO.out.mono ?_
          rintro e w4 ⟨v4,rfl,hown,hm4,hf4,-⟩
          go_wp2_with fail
          go_ret2
          exact ⟨v4,by rw [E1.out];rfl,by rw [E2.out];exact hown,hmr.trans hm4 (by simp),fun t ht=>by have:=hf4 t ht;have:=hmr.size;omega⟩
theorem num_any (n:Int) (w:World):Calls Tryd.prog 20 #[.int .i64 n] w fun e w'=>e=.returned (.agg (valV ⟨1,n,[]⟩))/\Mod [] w w':=by
 go_enter Tryd.func20,Tryd.ntmps20
 go_wp2_with fail
 refine bodyPost_ret (results_cell_row rfl _ _ _ _ _ _ _ rfl (heap_alloc_new w _) Tryd.underlying28 rfl (by kernel_rfl)) rfl ⟨rfl,(Mod.refl [] w).alloc _⟩
theorem sym_any (s:ByteArray) (w:World):Calls Tryd.prog 22 #[.string s] w fun e w'=>e=.returned (.agg #[.int .i64 2,.int .i64 0,.string s])/\Mod [] w w':=by
 go_enter Tryd.func22,Tryd.ntmps22
 go_wp2_with fail
 refine bodyPost_ret (results_cell_row rfl _ _ _ _ _ _ _ rfl (heap_alloc_new w _) Tryd.underlying28 rfl (by kernel_rfl)) rfl ⟨rfl,(Mod.refl [] w).alloc _⟩
def aAnn:Va.Val:=⟨2,0,[65,110,110]⟩
theorem aMay:Va.may aAnn=true:=by decide
theorem aText:Va.text aAnn=[34,65,110,110,34]:=by
 unfold Va.text aAnn
 rw [if_neg (show ¬ (2:Int)=1 by decide)]
 decide
theorem aParse:Va.parse [34,65,110,110,34]=some aAnn:=by
 rw [<-aText]
 exact Va.parse_text (by decide) aMay
theorem aPut:putL [⟨1,1,[]⟩,⟨2,0,[97]⟩]=[2,1,2,2,1,97]:=by decide
theorem aPutE:putE [⟨1,1,[]⟩,⟨2,0,[97]⟩]=0:=by decide
theorem aN1:Va.name (Cod.str { data:=#[97,66,95,57] })=true:=by decide
theorem aN2:Va.name (Cod.str { data:=#[115,117,109] })=false:=by decide
theorem aC1:chk ⟨1,2147483647,[]⟩=0:=by decide
theorem aC2:chk ⟨1,2147483648,[]⟩=20:=by decide
theorem aS:Cod.str { data:=#[34,65,110,110,34] }=[34,65,110,110,34]:=by rfl
set_option maxHeartbeats 4000000 in
theorem awake_any (w:World) (hG:GlobV w):Calls Tryd.prog 6 #[] w fun e w'=>e=.returned (.bool true)/\Mod [] w w':=by
 have h1:=fun w=>check_any ⟨1,2147483647,[]⟩ w
 have h2:=fun w=>check_any ⟨1,2147483648,[]⟩ w
 rw [aC1] at h1
 rw [aC2] at h2
 have h3:=fun w hG=>Text_any aAnn (val_ok aMay (by decide)) w hG
 have h4:=fun w hG=>Parse_any { data:=#[34,65,110,110,34] } (by decide) w hG
 rw [aS,aParse] at h4
 have h5:=fun v w h=>Put_any v [⟨1,1,[]⟩,⟨2,0,[97]⟩] (by intro x hx;simp only [List.mem_cons,List.not_mem_nil,or_false] at hx;rcases hx with rfl | rfl <;> simp [VB]) (by decide) w h
 unfold PutR at h5
 rw [aPut,aPutE] at h5
 have h6:=fun w=>Name_any { data:=#[97,66,95,57] } (by decide) w
 have h7:=fun w=>Name_any { data:=#[115,117,109] } (by decide) w
 rw [aN1] at h6
 rw [aN2] at h7
 have ht:txtV aAnn=.tuple #[.string { data:=#[34,65,110,110,34] },.int .i64 0]:=by
  unfold txtV chk
  rw [aMay]
  simp only [if_true]
  rw [aText];rfl
 rw [ht] at h3
 have hp:prsV (some aAnn)=.tuple #[.agg #[.int .i64 2,.int .i64 0,.string { data:=#[65,110,110] }],.int .i64 0]:=rfl
 rw [hp] at h4
 have ha:valV aAnn=#[.int .i64 2,.int .i64 0,.string { data:=#[65,110,110] }]:=rfl
 rw [ha] at h3
 simp only [valV] at h1 h2
 have hem:Lx.ofS []=⟨#[]⟩:=rfl
 rw [hem] at h1 h2
 have hnum:=fun n w=>num_any n w
 simp only [valV,hem] at hnum
 have H1:=Lib.hid h1;have H2:=Lib.hid h2;have H3:=Lib.hid h3;have H4:=Lib.hid h4;have H5:=Lib.hid h5;have H6:=Lib.hid h6;have H7:=Lib.hid h7;have HN:=Lib.hid hnum
 clear h1 h2 h3 h4 h5 h6 h7 hnum ht hp ha hem
 go_enter Tryd.func6,Tryd.ntmps6
 go_wp2_with fail
 refine (HN.out _ _).mono ?_
 rintro e w1 ⟨rfl,m1⟩
 have M1:=Lib.hid m1
 clear m1
 go_wp2_with fail
 refine (H1.out _).mono ?_
 rintro e w2 ⟨rfl,m2⟩
 have M2:=Hxq (M1.out.trans m2 (by simp))
 clear m2 M1
 go_wp2_with fail
 refine (HN.out _ _).mono ?_
 rintro e w3 ⟨rfl,m3⟩
 have M3:=Hxq (M2.out.trans m3 (by simp))
 clear m3 M2
 go_wp2_with fail
 refine (H2.out _).mono ?_
 rintro e w4 ⟨rfl,m4⟩
 have M4:=Hxq (M3.out.trans m4 (by simp))
 clear m4 M3
 go_wp2_with fail
 refine (sym_any _ _).mono ?_
 rintro e w5 ⟨rfl,m5⟩
 have M5:=Hxq (M4.out.trans m5 (by simp))
 clear m5 M4
 go_wp2_with fail
 refine (H3.out _ (hG.past M5.out (by simp))).mono ?_
 rintro e w6 ⟨rfl,m6⟩
 have M6:=Hxq (M5.out.trans m6 (by simp))
 clear m6 M5
 go_wp2_with fail
 refine (H4.out _ (hG.past M6.out (by simp))).mono ?_
 rintro e w7 ⟨rfl,m7⟩
 have hB7:=heap_alloc_new w7 (Obj.cells #[Value.int IntKind.i64 2,Value.int IntKind.i64 0,Value.string { data:=#[65,110,110] }] 28)
 have M7:=Hxq ((M6.out.trans m7 (by simp)).alloc (Obj.cells #[Value.int IntKind.i64 2,Value.int IntKind.i64 0,Value.string { data:=#[65,110,110] }] 28));have HB7:=Lib.hid hB7
 clear m7 M6 hB7
 go_wp2_with fail
 refine (HN.out _ _).mono ?_
 rintro e w8 ⟨rfl,m8⟩
 have M8:=Hxq (M7.out.trans m8 (by simp));have HB8:=Hxq (m8.at HB7.out (by simp))
 clear m8 M7 HB7
 go_wp2_with fail
 refine (sym_any _ _).mono ?_
 rintro e w9 ⟨rfl,m9⟩
 have M9:=Hxq (M8.out.trans m9 (by simp));have HB9:=Hxq (m9.at HB8.out (by simp))
 clear m9 M8 HB8
 go_wp2_with fail
 have hB10:=heap_alloc_new w9 (Obj.cells #[Value.int IntKind.i64 1,Value.int IntKind.i64 1,Value.string ⟨#[]⟩,Value.int IntKind.i64 2,Value.int IntKind.i64 0,Value.string { data:=#[97] }] 28)
 have hv:VRow (w9.alloc (Obj.cells #[Value.int IntKind.i64 1,Value.int IntKind.i64 1,Value.string ⟨#[]⟩,Value.int IntKind.i64 2,Value.int IntKind.i64 0,Value.string { data:=#[97] }] 28)) (.slice (some ⟨w9.heap.size,0,none⟩) 2 2) [⟨1,1,[]⟩,⟨2,0,[97]⟩]:=by
  refine .inr ⟨w9.heap.size,0,2,rfl,fun i hi=>?_⟩
  match i,hi with
  | 0,_=>exact ⟨by simp only [World.cell?,hB10];rfl,by simp only [World.cell?,hB10];rfl,by simp only [World.cell?,hB10];rfl⟩
  | 1,_=>exact ⟨by simp only [World.cell?,hB10];rfl,by simp only [World.cell?,hB10];rfl,by simp only [World.cell?,hB10];rfl⟩
 refine (H5.out _ _ hv).mono ?_
 rintro e w10 ⟨v10,rfl,hown,m10,hf10⟩
 have m10':=((Mod.refl [] w9).alloc (Obj.cells #[Value.int IntKind.i64 1,Value.int IntKind.i64 1,Value.string ⟨#[]⟩,Value.int IntKind.i64 2,Value.int IntKind.i64 0,Value.string { data:=#[97] }] 28)).trans m10 (by simp)
 have M10:=Hxq (M9.out.trans m10' (by simp));have HB10:=Hxq (m10'.at HB9.out (by simp));have HO10:=Lib.hid hown
 clear hB10 hv hown m10 hf10 m10' M9 HB9
 go_wp2_with fail
 refine (H6.out _).mono ?_
 rintro e w11 ⟨rfl,m11⟩
 have M11:=Hxq (M10.out.trans m11 (by simp));have HB11:=Hxq (m11.at HB10.out (by simp));have HO11:=Hxq (m11.owns HO10.out (by simp))
 clear m11 M10 HB10 HO10
 go_wp2_with fail
 refine (H7.out _).mono ?_
 rintro e w12 ⟨rfl,m12⟩
 have M12:=Hxq (M11.out.trans m12 (by simp));have HB12:=Hxq (m12.at HB11.out (by simp));have HO12:=Hxq (m12.owns HO11.out (by simp))
 clear m12 M11 HB11 HO11 H1 H2 H3 H4 H5 H6 H7 HN
 go_wp2_with fail
 have hcell:∀ w':World,w'.heap[w7.heap.size]?=some (.cells #[Value.int IntKind.i64 2,Value.int IntKind.i64 0,Value.string { data:=#[65,110,110] }] 28 (0,0))->w'.cell? ⟨w7.heap.size,0,none⟩=some (.int .i64 2)/\w'.cell? ⟨w7.heap.size,1,none⟩=some (.int .i64 0)/\w'.cell? ⟨w7.heap.size,2,none⟩=some (.string { data:=#[65,110,110] }):=fun w' h=>by
  refine ⟨?_,?_,?_⟩ <;> simp only [World.cell?,h] <;> rfl
 have hconv:∀ w':World,w'.ownsRow 0 5 1 v10 6 (toCells [2,1,2,2,1,97])->(convert 68 9 v10).run Tryd.prog w'=.ok (.string { data:=#[2,1,2,2,1,97] }) w':=fun w' h=>conv_reads (l:=[2,1,2,2,1,97]) (reads_own h (by decide) (by decide))
 obtain ⟨c0,c1,c2⟩:=hcell w12 HB12.out
 obtain ⟨e0,e1,e2⟩:=hcell w12.drew HB12.out
 have k0:=hconv w12 HO12.out
 have k1:=hconv w12.drew HO12.out
 have HCELL:=Lib.hid hcell;have HCONV:=Lib.hid hconv
 clear hcell hconv
 refine wp_region_held_drew (S:=(fun w':World=>w'.cell? ⟨w7.heap.size,0,none⟩=some (.int .i64 2)/\w'.cell? ⟨w7.heap.size,1,none⟩=some (.int .i64 0)/\w'.cell? ⟨w7.heap.size,2,none⟩=some (.string { data:=#[65,110,110] })/\(convert 68 9 v10).run Tryd.prog w'=.ok (.string { data:=#[2,1,2,2,1,97] }) w')) (by kernel_rfl) (by (try dsimp only);exact ⟨e0,e1,e2,k1⟩) (fun hHeld=>?_)
 refine Tkq 0 (v:=?_) (by assumption) ?_ ?_ ?_
 rotate_left 1
 ·refine .inl ⟨by rfl,?_⟩;intro w hSw;(try dsimp only at hSw);go_simp
  all_goals with_reducible rfl
 ·exact fun _ _ _ h=>h
 try simp only [Act.put,Lq1,Lq2,Lq3]
 refine Tkq 1 (v:=?_) (by assumption) ?_ ?_ ?_
 rotate_left 1
 ·refine .inl ⟨by rfl,?_⟩;intro w hSw;(try dsimp only at hSw);go_simp
  all_goals with_reducible rfl
 ·exact fun _ _ _ h=>h
 try simp only [Act.put,Lq1,Lq2,Lq3]
 refine Tkq 2 (v:=?_) (by assumption) ?_ ?_ ?_
 rotate_left 1
 ·refine .inl ⟨by rfl,?_⟩;intro w hSw;(try dsimp only at hSw);go_simp
  all_goals with_reducible rfl
 ·exact fun _ _ _ h=>h
 try simp only [Act.put,Lq1,Lq2,Lq3]
 refine Tkq 3 (v:=?_) (by assumption) ?_ ?_ ?_
 rotate_left 1
 ·refine .inl ⟨by rfl,?_⟩;intro w hSw;(try dsimp only at hSw);go_simp
  all_goals with_reducible rfl
 ·exact fun _ _ _ h=>h
 try simp only [Act.put,Lq1,Lq2,Lq3]
 refine Tkq 4 (v:=?_) (by assumption) ?_ ?_ ?_
 rotate_left 1
 ·refine .inl ⟨by rfl,?_⟩;intro w hSw;(try dsimp only at hSw);go_simp
  all_goals with_reducible rfl
 ·exact fun _ _ _ h=>h
 try simp only [Act.put,Lq1,Lq2,Lq3]
 refine Tkq 5 (v:=?_) (by assumption) ?_ ?_ ?_
 rotate_left 1
 ·refine .inl ⟨by rfl,?_⟩;intro w hSw;(try dsimp only at hSw);go_simp
  all_goals with_reducible rfl
 ·exact fun _ _ _ h=>h
 try simp only [Act.put,Lq1,Lq2,Lq3]
 refine Tkq 6 (v:=?_) (by assumption) ?_ ?_ ?_
 rotate_left 1
 ·refine .inl ⟨by rfl,?_⟩;intro w hSw;(try dsimp only at hSw);go_simp
  all_goals with_reducible rfl
 ·exact fun _ _ _ h=>h
 try simp only [Act.put,Lq1,Lq2,Lq3]
 refine Tkq 7 (v:=?_) (by assumption) ?_ ?_ ?_
 rotate_left 1
 ·refine .inl ⟨by rfl,?_⟩;intro w hSw;(try dsimp only at hSw);go_simp
  all_goals with_reducible rfl
 ·exact fun _ _ _ h=>h
 try simp only [Act.put,Lq1,Lq2,Lq3]
 refine Tkq 8 (v:=?_) (by assumption) ?_ ?_ ?_
 rotate_left 1
 ·refine .inl ⟨by rfl,?_⟩;intro w hSw;(try dsimp only at hSw);go_simp
  all_goals with_reducible rfl
 ·exact fun _ _ _ h=>h
 try simp only [Act.put,Lq1,Lq2,Lq3]
 refine Tkq 9 (v:=?_) (by assumption) ?_ ?_ ?_
 rotate_left 1
 ·refine .inl ⟨by rfl,?_⟩;intro w hSw;(try dsimp only at hSw);go_simp
  all_goals with_reducible rfl
 ·exact fun _ _ _ h=>h
 try simp only [Act.put,Lq1,Lq2,Lq3]
 refine Tkq 10 (v:=?_) (by assumption) ?_ ?_ ?_
 rotate_left 1
 ·refine .inl ⟨by rfl,?_⟩;intro w hSw;(try dsimp only at hSw);go_simp
  all_goals with_reducible rfl
 ·exact fun _ _ _ h=>h
 try simp only [Act.put,Lq1,Lq2,Lq3]
 refine Tkq 11 (v:=?_) (by assumption) ?_ ?_ ?_
 rotate_left 1
 ·refine .inl ⟨by rfl,?_⟩;intro w hSw;(try dsimp only at hSw);go_simp
  all_goals with_reducible rfl
 ·exact fun _ _ _ h=>h
 try simp only [Act.put,Lq1,Lq2,Lq3]
 refine Tkq 12 (v:=?_) (by assumption) ?_ ?_ ?_
 rotate_left 1
 ·refine .inl ⟨by rfl,?_⟩;intro w hSw;(try dsimp only at hSw);go_simp
  all_goals with_reducible rfl
 ·exact fun _ _ _ h=>h
 try simp only [Act.put,Lq1,Lq2,Lq3]
 refine Tkq 13 (v:=?_) (by assumption) ?_ ?_ ?_
 rotate_left 1
 ·refine .inl ⟨by rfl,?_⟩;intro w hSw;(try dsimp only at hSw);go_simp
  all_goals with_reducible rfl
 ·exact fun _ _ _ h=>h
 try simp only [Act.put,Lq1,Lq2,Lq3]
 refine Tkq 14 (v:=?_) (by assumption) ?_ ?_ ?_
 rotate_left 1
 ·refine .inl ⟨by rfl,?_⟩;intro w hSw;(try dsimp only at hSw);go_simp
  all_goals with_reducible rfl
 ·exact fun _ _ _ h=>h
 try simp only [Act.put,Lq1,Lq2,Lq3]
 refine Tkq 15 (v:=?_) (by assumption) ?_ ?_ ?_
 rotate_left 1
 ·refine .inl ⟨by rfl,?_⟩;intro w hSw;(try dsimp only at hSw);go_simp
  all_goals with_reducible rfl
 ·exact fun _ _ _ h=>h
 try simp only [Act.put,Lq1,Lq2,Lq3]
 refine wpAnyH_ready (rs:=[16]) (by kernel_rfl) (by simp) ?_
 refine AllReadyH.cons (o:=?_) ?_ ?_ AllReadyH.nil
 rotate_left 1
 ·(simp only [Gq1,Gq2,Gq3])<;>rfl
 intro K hK
 go_simp
 refine (sym_any _ _).mono ?_
 rintro e w13 ⟨rfl,m13⟩
 obtain ⟨g0,g1,g2⟩:=HCELL.out w13 (m13.at HB12.out (by simp))
 have k2:=HCONV.out w13 (m13.owns HO12.out (by simp))
 have M13:Hid (Mod [] w12 w13):=Hxq (((Mod.refl [] w12).drew).trans m13 (by simp))
 clear m13
 refine hK.out _ _ (by (try dsimp only);exact ⟨g0,g1,g2,k2⟩) (fun hHeld=>?_)
 clear hK K
 try simp only [Act.put,Lq1,Lq2,Lq3]
 refine Tkq 17 (v:=?_) (by assumption) ?_ ?_ ?_
 rotate_left 1
 ·refine .inl ⟨by rfl,?_⟩;intro w hSw;(try dsimp only at hSw);go_simp
  all_goals with_reducible rfl
 ·exact fun _ _ _ h=>h
 try simp only [Act.put,Lq1,Lq2,Lq3]
 refine Tkq 18 (v:=?_) (by assumption) ?_ ?_ ?_
 rotate_left 1
 ·refine .inl ⟨by rfl,?_⟩;intro w hSw;(try dsimp only at hSw);go_simp
  all_goals with_reducible rfl
 ·exact fun _ _ _ h=>h
 try simp only [Act.put,Lq1,Lq2,Lq3]
 refine Tkq 19 (v:=?_) (by assumption) ?_ ?_ ?_
 rotate_left 1
 ·refine .inl ⟨by rfl,?_⟩;intro w hSw;(try dsimp only at hSw);go_simp
  all_goals with_reducible rfl
 ·exact fun _ _ _ h=>h
 try simp only [Act.put,Lq1,Lq2,Lq3]
 refine Tkq 20 (v:=?_) (by assumption) ?_ ?_ ?_
 rotate_left 1
 ·refine .inl ⟨by rfl,?_⟩;intro w hSw;(try dsimp only at hSw);go_simp
  all_goals with_reducible rfl
 ·exact fun _ _ _ h=>h
 try simp only [Act.put,Lq1,Lq2,Lq3]
 refine Tkq 21 (v:=?_) (by assumption) ?_ ?_ ?_
 rotate_left 1
 ·refine .inl ⟨by rfl,?_⟩;intro w hSw;(try dsimp only at hSw);go_simp
  all_goals with_reducible rfl
 ·exact fun _ _ _ h=>h
 try simp only [Act.put,Lq1,Lq2,Lq3]
 refine Tkq 22 (v:=?_) (by assumption) ?_ ?_ ?_
 rotate_left 1
 ·refine .inl ⟨by rfl,?_⟩;intro w hSw;(try dsimp only at hSw);go_simp
  all_goals with_reducible rfl
 ·exact fun _ _ _ h=>h
 try simp only [Act.put,Lq1,Lq2,Lq3]
 refine Tkq 23 (v:=?_) (by assumption) ?_ ?_ ?_
 rotate_left 1
 ·refine .inl ⟨by rfl,?_⟩;intro w hSw;(try dsimp only at hSw);go_simp
  all_goals with_reducible rfl
 ·exact fun _ _ _ h=>h
 try simp only [Act.put,Lq1,Lq2,Lq3]
 refine Tkq 24 (v:=?_) (by assumption) ?_ ?_ ?_
 rotate_left 1
 ·refine .inl ⟨by rfl,?_⟩;intro w hSw;(try dsimp only at hSw);go_simp
  all_goals with_reducible rfl
 ·exact fun _ _ _ h=>h
 try simp only [Act.put,Lq1,Lq2,Lq3]
 refine Tkq 25 (v:=?_) (by assumption) ?_ ?_ ?_
 rotate_left 1
 ·refine .inl ⟨by rfl,?_⟩;intro w hSw;(try dsimp only at hSw);go_simp
  all_goals with_reducible rfl
 ·exact fun _ _ _ h=>h
 try simp only [Act.put,Lq1,Lq2,Lq3]
 refine Tkq 26 (v:=?_) (by assumption) ?_ ?_ ?_
 rotate_left 1
 ·refine .inl ⟨by rfl,?_⟩;intro w hSw;(try dsimp only at hSw);go_simp
  all_goals with_reducible rfl
 ·exact fun _ _ _ h=>h
 try simp only [Act.put,Lq1,Lq2,Lq3]
 refine Tkq 27 (v:=?_) (by assumption) ?_ ?_ ?_
 rotate_left 1
 ·refine .inl ⟨by rfl,?_⟩;intro w hSw;(try dsimp only at hSw);go_simp
  all_goals with_reducible rfl
 ·exact fun _ _ _ h=>h
 try simp only [Act.put,Lq1,Lq2,Lq3]
 refine Tkq 28 (v:=?_) (by assumption) ?_ ?_ ?_
 rotate_left 1
 ·refine .inl ⟨by rfl,?_⟩;intro w hSw;(try dsimp only at hSw);go_simp
  all_goals with_reducible rfl
 ·exact fun _ _ _ h=>h
 try simp only [Act.put,Lq1,Lq2,Lq3]
 refine Tkq 29 (v:=?_) (by assumption) ?_ ?_ ?_
 rotate_left 1
 ·refine .inl ⟨by rfl,?_⟩;intro w hSw;(try dsimp only at hSw);go_simp
  all_goals with_reducible rfl
 ·exact fun _ _ _ h=>h
 try simp only [Act.put,Lq1,Lq2,Lq3]
 refine Tkq 30 (v:=?_) (by assumption) ?_ ?_ ?_
 rotate_left 1
 ·refine .inl ⟨by rfl,?_⟩;intro w hSw;(try dsimp only at hSw);go_simp
  all_goals with_reducible rfl
 ·exact fun _ _ _ h=>h
 try simp only [Act.put,Lq1,Lq2,Lq3]
 refine Tkq 31 (v:=?_) (by assumption) ?_ ?_ ?_
 rotate_left 1
 ·refine .inl ⟨by rfl,?_⟩;intro w hSw;(try dsimp only at hSw);go_simp
  all_goals with_reducible rfl
 ·exact fun _ _ _ h=>h
 try simp only [Act.put,Lq1,Lq2,Lq3]
 refine Tkq 32 (v:=?_) (by assumption) ?_ ?_ ?_
 rotate_left 1
 ·refine .inl ⟨by rfl,?_⟩;intro w hSw;(try dsimp only at hSw);go_simp
  all_goals with_reducible rfl
 ·exact fun _ _ _ h=>h
 try simp only [Act.put,Lq1,Lq2,Lq3]
 refine Tkq 33 (v:=?_) (by assumption) ?_ ?_ ?_
 rotate_left 1
 ·refine .inl ⟨by rfl,?_⟩;intro w hSw;(try dsimp only at hSw);go_simp
  all_goals with_reducible rfl
 ·exact fun _ _ _ h=>h
 try simp only [Act.put,Lq1,Lq2,Lq3]
 refine Tkq 34 (v:=?_) (by assumption) ?_ ?_ ?_
 rotate_left 1
 ·refine .inl ⟨by rfl,?_⟩;intro w hSw;(try dsimp only at hSw);go_simp
  all_goals with_reducible rfl
 ·exact fun _ _ _ h=>h
 try simp only [Act.put,Lq1,Lq2,Lq3]
 refine Tkq 35 (v:=?_) (by assumption) ?_ ?_ ?_
 rotate_left 1
 ·refine .inl ⟨by rfl,?_⟩;intro w hSw;(try dsimp only at hSw);go_simp
  all_goals with_reducible rfl
 ·exact fun _ _ _ h=>h
 try simp only [Act.put,Lq1,Lq2,Lq3]
 refine Tkq 36 (v:=?_) (by assumption) ?_ ?_ ?_
 rotate_left 1
 ·refine .inl ⟨by rfl,?_⟩;intro w hSw;(try dsimp only at hSw);go_simp
  all_goals with_reducible rfl
 ·exact fun _ _ _ h=>h
 try simp only [Act.put,Lq1,Lq2,Lq3]
 refine Tkq 37 (v:=?_) (by assumption) ?_ ?_ ?_
 rotate_left 1
 ·refine .inl ⟨by rfl,?_⟩;intro w hSw;(try dsimp only at hSw);go_simp
  all_goals with_reducible rfl
 ·exact fun _ _ _ h=>h
 try simp only [Act.put,Lq1,Lq2,Lq3]
 refine Tkq 38 (v:=?_) (by assumption) ?_ ?_ ?_
 rotate_left 1
 ·refine .inl ⟨by rfl,?_⟩;intro w hSw;(try dsimp only at hSw);go_simp
  all_goals with_reducible rfl
 ·exact fun _ _ _ h=>h
 try simp only [Act.put,Lq1,Lq2,Lq3]
 refine Tkq 39 (v:=?_) (by assumption) ?_ ?_ ?_
 rotate_left 1
 ·refine .inl ⟨by rfl,?_⟩;intro w hSw;(try dsimp only at hSw);go_simp
  all_goals with_reducible rfl
 ·exact fun _ _ _ h=>h
 try simp only [Act.put,Lq1,Lq2,Lq3]
 refine wpAnyH_done (by kernel_rfl) ?_ _
 go_wp2_with fail
 go_ret
 exact ⟨rfl,M12.out.trans M13.out (by simp)⟩
def rowVals (ts:List Va.Val):List Value:=ts.flatMap fun v=>(valV v).toList
theorem rowVals_cons (v:Va.Val) (ts:List Va.Val):rowVals (v :: ts)=.int .i64 v.k :: .int .i64 v.n :: .string (Lx.ofS v.s) :: rowVals ts:=rfl
theorem rowVals_app (a b:List Va.Val):rowVals (a++b)=rowVals a++rowVals b:=by simp [rowVals]
theorem rowVals_len:∀ ts:List Va.Val,(rowVals ts).length=ts.length * 3
 | []=>rfl
 | v :: ts=>by rw [rowVals_cons];simp only [List.length_cons];rw [rowVals_len ts];omega
theorem rowVals_get:∀ (ts:List Va.Val) (i:Nat) (h:i<ts.length),(rowVals ts)[i * 3]?=some (.int .i64 ts[i].k)/\(rowVals ts)[i * 3+1]?=some (.int .i64 ts[i].n)/\(rowVals ts)[i * 3+2]?=some (.string (Lx.ofS ts[i].s))
 | v :: ts,0,_=>⟨rfl,rfl,rfl⟩
 | v :: ts,i+1,h=>by
  have ih:=rowVals_get ts i (by simpa using h)
  rw [rowVals_cons,show (i+1) * 3=i * 3+1+1+1 by omega]
  simpa using ih
theorem rowVals_one (ts:List Va.Val):∀ v∈rowVals ts,v.oneCell'=true:=by
 intro v hv
 unfold rowVals at hv
 rw [List.mem_flatMap] at hv
 obtain ⟨x,-,hx⟩:=hv
 simp only [valV,List.mem_cons,List.not_mem_nil,or_false] at hx
 rcases hx with rfl | rfl | rfl <;> rfl
theorem VRow.src {w:World} {b off c:Nat} {ts:List Va.Val} (h:∀ i (h:i<ts.length),ValAt w b (off+i * 3) ts[i]) (j:Nat) (u:Value) (hu:(rowVals ts)[j]?=some u):w.cell? ((⟨b,off,none⟩:Addr).add j)=some u:=by
 have hj:j<ts.length * 3:=by
  obtain ⟨hh,-⟩:=List.getElem?_eq_some_iff.1 hu
  rwa [rowVals_len] at hh
 have hi:j / 3<ts.length:=by omega
 obtain ⟨h0,h1,h2⟩:=rowVals_get ts (j / 3) hi
 obtain ⟨c0,c1,c2⟩:=h (j / 3) hi
 rw [Addr.add_lit]
 generalize ts[j / 3]=x at *
 have h3:j % 3=0\/j % 3=1\/j % 3=2:=by omega
 rcases h3 with e | e | e
 ·have e':j=j / 3 * 3:=by omega
  rw [e',h0] at hu
  obtain rfl:=Option.some.inj hu
  rw [e'];exact c0
 ·have e':j=j / 3 * 3+1:=by omega
  rw [e',h1] at hu
  obtain rfl:=Option.some.inj hu
  rw [e'];exact c1
 ·have e':j=j / 3 * 3+2:=by omega
  rw [e',h2] at hu
  obtain rfl:=Option.some.inj hu
  rw [e'];exact c2
theorem val_ext {x y:Va.Val} (h1:x.k=y.k) (h2:x.n=y.n) (h3:x.s=y.s):x=y:=by
 obtain ⟨a,b,c⟩:=x;obtain ⟨d,e,f⟩:=y;simp_all
theorem ofS_inj {a b:List Nat} (ha:∀ c∈a,c<256) (hb:∀ c∈b,c<256) (h:Lx.ofS a=Lx.ofS b):a=b:=by
 rw [<-Lx.str_ofS ha,<-Lx.str_ofS hb,h]
theorem ofS_beq {a b:List Nat} (ha:∀ c∈a,c<256) (hb:∀ c∈b,c<256) (h:a≠b):((Lx.ofS a).toList == (Lx.ofS b).toList)=false:=by
 rw [str_beq,decide_eq_false (fun e=>h (ofS_inj ha hb e))]
end Go.Proofs.YtdablillhbfgkaaDoor
