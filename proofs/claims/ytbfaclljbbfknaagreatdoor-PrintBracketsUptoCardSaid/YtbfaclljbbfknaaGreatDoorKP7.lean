/- THE TEXTS MERGED: SyTok2 SyTok3 SyOpd SyMem. -/
import Derived.Test.YtbfaclljbbfknaaGreatDoorKP6
namespace Go.Proofs.YtbfaclljbbfknaaGreatDoor
open Go.RowKit
set_option linter.unusedVariables false
set_option linter.unusedSimpArgs false
set_option maxRecDepth 100000
/-- cells written one behind the other -/
def setCs (w:World) (b:Nat):Nat->List Value->World
 | _,[]=>w
 | o,v :: r=>setCs (w.setCell ⟨b,o,none⟩ v) b (o+1) r
theorem setCs_mod (b:Nat):∀ (vs:List Value) (o:Nat) (w:World),Mod [b] w (setCs w b o vs)
 | [],o,w=>Mod.refl _ _
 | v :: r,o,w=>((Mod.refl [b] w).setCell (p:=⟨b,o,none⟩) (.inl (by simp)) v).trans (setCs_mod b r (o+1) _) (by simp)
def putL (cs:List Value):Nat->List Value->List Value
 | _,[]=>cs
 | o,v :: r=>putL (cs.set o v) (o+1) r
theorem setCs_heap {b:Nat} {T:TypeId} {fr:Nat × Nat}:∀ (vs:List Value) (o:Nat) (cs:List Value) (w:World),w.heap[b]?=some (.cells cs.toArray T fr) ->
  (setCs w b o vs).heap[b]?=some (.cells (putL cs o vs).toArray T fr)
 | [],o,cs,w,h=>h
 | v :: r,o,cs,w,h=>by
  have:=setCell_at h o v
  rw [List.setIfInBounds_toArray] at this
  exact setCs_heap r (o+1) (cs.set o v) _ this
theorem putL_get:∀ (vs:List Value) (o:Nat) (cs:List Value) (j:Nat),o+vs.length<=cs.length->(putL cs o vs)[j]?=if j<o then cs[j]? else if j<o+vs.length then vs[j - o]? else cs[j]?
 | [],o,cs,j,_=>by
  by_cases h:j<o
  ·rw [if_pos h];rfl
  ·rw [if_neg h,if_neg (by simp;omega)];rfl
 | v :: r,o,cs,j,h=>by
  simp only [List.length_cons] at h ⊢
  rw [putL,putL_get r (o+1) (cs.set o v) j (by simp;omega)]
  by_cases h1:j<o
  ·rw [if_pos (by omega),if_pos h1,List.getElem?_set_ne (by omega)]
  ·rw [if_neg h1]
   by_cases h2:j=o
   ·subst h2
    rw [if_pos (by omega),if_pos (by omega),List.getElem?_set_self (by omega)];simp
   ·rw [if_neg (by omega)]
    by_cases h3:j<o+(r.length+1)
    ·rw [if_pos (by omega),if_pos h3,show j - o=(j - (o+1))+1 by omega,List.getElem?_cons_succ]
    ·rw [if_neg (by omega),if_neg h3,List.getElem?_set_ne (by omega)]
/-- a row written whole -/
theorem setCs_row {w:World} {b:Nat} {cs:Array Value} {T:TypeId} {fr:Nat × Nat} {vs:List Value} (h:w.heap[b]?=some (.cells cs T fr)) (hn:cs.size=vs.length):(setCs w b 0 vs).heap[b]?=some (.cells vs.toArray T fr):=by
 have h2:=setCs_heap vs 0 cs.toList w (by simpa using h)
 rw [h2]
 congr 2
 refine congrArg List.toArray ?_
 apply List.ext_getElem?
 intro j
 rw [putL_get _ _ _ _ (by simp [hn])]
 rw [if_neg (by omega)]
 by_cases hj:j<vs.length
 ·rw [if_pos (by omega)];simp
 ·rw [if_neg (by omega),List.getElem?_eq_none (by simp;omega),List.getElem?_eq_none (by omega)]
theorem placeF_hit {t:Lx.Tok}:∀ (l:List (List Nat)) (n k:Nat) (hk:k<l.length),(∀ j (h:j<k),Sy.sign t (l[j]'(by omega))=false)->Sy.sign t l[k]=true->Sy.placeF t l n=n+k+1
 | s :: r,n,0,hk,_,h=>by simp [Sy.placeF,show Sy.sign t s=true from h]
 | s :: r,n,k+1,hk,hb,h=>by
  have h0:=hb 0 (by omega)
  rw [Sy.placeF,if_neg (by simpa using h0),placeF_hit r (n+1) k (by simpa using hk) (fun j hj=>by simpa using hb (j+1) (by omega)) (by simpa using h)]
  omega
theorem placeF_miss {t:Lx.Tok}:∀ (l:List (List Nat)) (n:Nat),(∀ s∈l,Sy.sign t s=false)->Sy.placeF t l n=0
 | [],n,_=>rfl
 | s :: r,n,h=>by
  rw [Sy.placeF,if_neg (by simpa using h s List.mem_cons_self),placeF_miss r (n+1) (fun x hx=>h x (List.mem_cons_of_mem _ hx))]
set_option maxHeartbeats 1000000 in
theorem place_any (t:Lx.Tok) (g c:Nat) (ss:List (List Nat)) (w:World) (ht:∀ c∈t.text,c<256) (hss:∀ s∈ss,∀ c∈s,c<256) (hn:ss.length<=100)
  (hc:∀ i (h:i<ss.length),w.cell? ⟨g,i,none⟩=some (.string (Lx.ofS ss[i]))) :
  Calls Tryz.prog 40 #[.agg (tokC t),.slice (some ⟨g,0,none⟩) ss.length c] w fun e w'=>e=.returned (.int .i64 (Sy.place t ss:Nat))/\Mod [] w w':=by
 have eA:=heap_alloc_new w (Obj.cells (tokC t) 93)
 have mA:=(Mod.refl [] w).alloc (Obj.cells (tokC t) 93)
 have HT:=Lib.hid ht;have HSS:=Lib.hid hss;have HC:=Hxq (fun i h=>mA.cell (hc i h) (by simp));have EA:=Lib.hid eA;have MA:=Lib.hid mA
 have HS:=Hxq (fun (s:List Nat) (w:World) (hs:∀ c∈s,c<256)=>sign_any t s (Lx.ofS s) w rfl ht hs)
 clear ht hss hc eA mA
 unfold tokC at *
 go_enter Tryz.func40,Tryz.ntmps40
 go_wp2_with fail
 generalize w.alloc (Obj.cells _ 93)=wA at *
 go_loopg [9] ss.length (fun gk iv wr=>∃ k:Nat,ss.length=gk+k/\iv=.int .i64 (k:Nat)/\Mod [] wA wr/\(∀ j (h:j<k) (h2:j<ss.length),Sy.sign t ss[j]=false))
 case atStart=>exact ⟨0,rfl,rfl,Mod.refl _ _,fun j h=>by omega⟩
 case round =>
  obtain ⟨k,hg,rfl,hm,hb⟩:=hrel
  by_cases hk:k<ss.length
  ·have hkI:(k:Int)<(ss.length:Int):=by omega
   have hk0:(0:Int)<=(k:Int):=by omega
   have hcell:=hm.cell (HC.out k hk) (by simp)
   obtain ⟨x0,x1,x2,x3,x4,x5,x6⟩:=tok_cells (hm.at EA.out (by simp))
   have HM:=Lib.hid hm;have HB:=Lib.hid hb;have HG:=Lib.hid hg
   have HS1:=Hxq (HS.out ss[k] wr (HSS.out _ (List.getElem_mem hk)))
   have HP:Hid (Sy.sign t ss[k]=true->Sy.place t ss=k+1):=Hxq (fun h=>by
    have:=placeF_hit ss 0 k hk (fun j hj=>hb j hj (by omega)) h
    unfold Sy.place;omega)
   have HN:Hid (Sy.sign t ss[k]=false->∀ j (h:j<k+1) (h2:j<ss.length),Sy.sign t ss[j]=false):=Hxq (fun h j hj h2=>by
    by_cases e:j=k
    ·subst e;exact h
    ·exact hb j (by omega) h2)
   generalize ss[k]=s at *
   generalize Sy.sign t s=r at *
   clear hm hb hg
   go_wp2_with fail
   refine HS1.out.mono ?_
   rintro e1 w1 ⟨rfl,m1⟩
   have M1:=Hxq (HM.out.trans m1 (by simp))
   clear m1 x0 x1 x2 x3 x4 x5 x6
   cases r
   ·have HN2:=Hxq (HN.out rfl)
    clear HN HP
    go_wp2_with fail
    go_roundg (gk - 1)
    case measure=>have:=HG.out;omega
    case rel=>exact ⟨k+1,by have:=HG.out;omega,by go_num,M1.out,HN2.out⟩
   ·have HP2:=Hxq (HP.out rfl)
    clear HN HP
    go_wp2_with fail
    go_ret
    exact ⟨by rw [HP2.out];rfl,MA.out.trans M1.out (by simp)⟩
  ·have hkI:¬ (k:Int)<(ss.length:Int):=by omega
   have HM:=Lib.hid hm
   have HP:Hid (Sy.place t ss=0):=Hxq (placeF_miss ss 0 (fun s hs=>by
    obtain ⟨j,hj,rfl⟩:=List.getElem_of_mem hs
    exact hb j (by omega) hj))
   clear hm hb hg
   go_wp2_with fail
   go_ret
   exact ⟨by rw [HP.out];rfl,MA.out.trans HM.out (by simp)⟩
theorem function_any (t:Lx.Tok) (w:World) (ht:∀ c∈t.text,c<256) :
  Calls Tryz.prog 37 #[.agg (tokC t)] w fun e w'=>e=.returned (.int .i64 (Sy.fnOf t:Nat))/\Mod [] w w':=by
 have eA:=heap_alloc_new w (Obj.cells (tokC t) 93)
 have mA:=(Mod.refl [] w).alloc (Obj.cells (tokC t) 93)
 obtain ⟨x0,x1,x2,x3,x4,x5,x6⟩:=tok_cells eA
 have HA:=Lib.hid mA
 have HP:=Hxq (fun g w hc=>place_any t g 4 [[99,111,117,110,116],[115,117,109],[109,105,110],[109,97,120]] w ht (by decide) (by decide) hc)
 clear eA mA ht
 unfold tokC at *
 go_enter Tryz.func37,Tryz.ntmps37
 go_wp2_with fail
 have hsz:(w.alloc (Obj.cells #[Value.int .i64 (t.kind:Nat),Value.string (Lx.ofS t.text),Value.int .i64 (t.vk:Nat),Value.int .i64 (t.num:Nat),Value.string (Lx.ofS t.sym),Value.int .i64 (t.line:Nat),Value.int .i64 (t.col:Nat)] 93)).heap.size=w.heap.size+1:=by simp
 generalize w.alloc (Obj.cells _ 93)=wA at *
 refine (HP.out _ _ (fun i hi=>?_)).mono ?_
 ·have eB:=alloc_at (w0:=wA) (n:=w.heap.size+1) (Obj.cells #[Value.string { data:=#[99,111,117,110,116] },Value.string { data:=#[115,117,109] },Value.string { data:=#[109,105,110] },Value.string { data:=#[109,97,120] }] 9) hsz
  have:i=0\/i=1\/i=2\/i=3:=by simp at hi;omega
  rcases this with rfl | rfl | rfl | rfl
  ·exact cell_at eB 0
  ·exact cell_at eB 1
  ·exact cell_at eB 2
  ·exact cell_at eB 3
 ·rintro e1 w1 ⟨rfl,m1⟩
  have M1:=Hxq ((HA.out.alloc _).trans m1 (by simp))
  clear m1
  go_wp2_with fail
  go_ret
  exact ⟨rfl,M1.out⟩
theorem level_eq (t:Lx.Tok):Sy.level t=if Sy.sign t [43]=true then (1,1) else if Sy.sign t [45]=true then (1,2) else if Sy.sign t [42]=true then (2,3) else if Sy.sign t [47]=true then (2,4) else if Sy.sign t [109,111,100]=true then (2,5) else (0,0):=rfl
def levV:Array Value:=#[Value.string { data:=#[43] },Value.string { data:=#[45] },Value.string { data:=#[42] },Value.string { data:=#[47] },Value.string { data:=#[109,111,100] }]
theorem lev_index (k:Int) (h:0<=k/\k<5) (w:World):(Instr.index 149 (.agg #[Value.string { data:=#[43] },Value.string { data:=#[45] },Value.string { data:=#[42] },Value.string { data:=#[47] },Value.string { data:=#[109,111,100] }]) (.int .i64 k)).run Tryz.prog w=.ok (levV.getD k.toNat undef) w:=by
 have:k=0\/k=1\/k=2\/k=3\/k=4:=by omega
 rcases this with rfl | rfl | rfl | rfl | rfl <;> rfl
set_option maxHeartbeats 2000000 in
theorem level_any (t:Lx.Tok) (w:World) (ht:∀ c∈t.text,c<256) :
  Calls Tryz.prog 65 #[.agg (tokC t)] w fun e w'=>e=.returned (.tuple #[.int .i64 ((Sy.level t).1:Nat),.int .i64 ((Sy.level t).2:Nat)])/\Mod [] w w':=by
 have eA:=heap_alloc_new w (Obj.cells (tokC t) 93)
 have mA:=(Mod.refl [] w).alloc (Obj.cells (tokC t) 93)
 have EA:=Lib.hid eA;have MA:=Lib.hid mA
 have HL:=Hxq (level_eq t)
 have S0:=Hxq (fun w=>sign_any t [43] { data:=#[43] } w rfl ht (by decide))
 have S1:=Hxq (fun w=>sign_any t [45] { data:=#[45] } w rfl ht (by decide))
 have S2:=Hxq (fun w=>sign_any t [42] { data:=#[42] } w rfl ht (by decide))
 have S3:=Hxq (fun w=>sign_any t [47] { data:=#[47] } w rfl ht (by decide))
 have S4:=Hxq (fun w=>sign_any t [109,111,100] { data:=#[109,111,100] } w rfl ht (by decide))
 generalize Sy.sign t [43]=r0 at *
 generalize Sy.sign t [45]=r1 at *
 generalize Sy.sign t [42]=r2 at *
 generalize Sy.sign t [47]=r3 at *
 generalize Sy.sign t [109,111,100]=r4 at *
 generalize Sy.level t=q at *
 clear eA mA ht
 unfold tokC at *
 go_enter Tryz.func65,Tryz.ntmps65
 go_wp2_with fail
 generalize w.alloc (Obj.cells _ 93)=wA at *
 go_loopg [7] 5 (fun gk iv wr=>∃ k:Nat,5=gk+k/\iv=.int .i64 (k:Nat)/\Mod [] wA wr/\(∀ j,j<k->[r0,r1,r2,r3,r4][j]?=some false))
 case atStart=>exact ⟨0,rfl,rfl,Mod.refl _ _,fun j h=>by omega⟩
 case round =>
  obtain ⟨k,hg,rfl,hm,hb⟩:=hrel
  obtain ⟨x0,x1,x2,x3,x4,x5,x6⟩:=tok_cells (hm.at EA.out (by simp))
  have HM:=Lib.hid hm
  have:k=0\/k=1\/k=2\/k=3\/k=4\/k=5:=by omega
  rcases this with rfl | rfl | rfl | rfl | rfl | rfl
  ·have HG:=Lib.hid hg
   have hix:=fun w=>lev_index 0 (by omega) w
   simp only [levV] at hix
   clear hg hm hb
   simp only [Int.ofNat_zero,Int.ofNat_one,Int.cast_ofNat_Int]
   go_wp2_with fail
   refine (S0.out wr).mono ?_
   rintro e1 w1 ⟨rfl,m1⟩
   have M1:=Hxq (HM.out.trans m1 (by simp))
   clear m1 x0 x1 x2 x3 x4 x5 x6 hix
   cases r0
   ·go_wp2_with fail
    go_roundg (gk - 1)
    case measure=>have:=HG.out;omega
    case rel=>exact ⟨1,by have:=HG.out;omega,by go_num,M1.out,fun j h=>by
     have:j=0:=by omega
     rcases this with rfl <;> rfl⟩
   ·have HQ:Hid (q=(1,1)):=Lib.hid HL.out
    clear HL
    go_wp2_with fail
    go_ret2
    exact ⟨by rw [HQ.out];rfl,MA.out.trans M1.out (by simp)⟩
  ·have HG:=Lib.hid hg
   have hix:=fun w=>lev_index 1 (by omega) w
   simp only [levV] at hix
   obtain rfl:r0=false:=by simpa using hb 0 (by omega)
   clear hg hm hb
   simp only [Int.ofNat_zero,Int.ofNat_one,Int.cast_ofNat_Int]
   go_wp2_with fail
   refine (S1.out wr).mono ?_
   rintro e1 w1 ⟨rfl,m1⟩
   have M1:=Hxq (HM.out.trans m1 (by simp))
   clear m1 x0 x1 x2 x3 x4 x5 x6 hix
   cases r1
   ·go_wp2_with fail
    go_roundg (gk - 1)
    case measure=>have:=HG.out;omega
    case rel=>exact ⟨2,by have:=HG.out;omega,by go_num,M1.out,fun j h=>by
     have:j=0\/j=1:=by omega
     rcases this with rfl | rfl <;> rfl⟩
   ·have HQ:Hid (q=(1,2)):=Lib.hid HL.out
    clear HL
    go_wp2_with fail
    go_ret2
    exact ⟨by rw [HQ.out];rfl,MA.out.trans M1.out (by simp)⟩
  ·have HG:=Lib.hid hg
   have hix:=fun w=>lev_index 2 (by omega) w
   simp only [levV] at hix
   obtain rfl:r0=false:=by simpa using hb 0 (by omega)
   obtain rfl:r1=false:=by simpa using hb 1 (by omega)
   clear hg hm hb
   simp only [Int.ofNat_zero,Int.ofNat_one,Int.cast_ofNat_Int]
   go_wp2_with fail
   refine (S2.out wr).mono ?_
   rintro e1 w1 ⟨rfl,m1⟩
   have M1:=Hxq (HM.out.trans m1 (by simp))
   clear m1 x0 x1 x2 x3 x4 x5 x6 hix
   cases r2
   ·go_wp2_with fail
    go_roundg (gk - 1)
    case measure=>have:=HG.out;omega
    case rel=>exact ⟨3,by have:=HG.out;omega,by go_num,M1.out,fun j h=>by
     have:j=0\/j=1\/j=2:=by omega
     rcases this with rfl | rfl | rfl <;> rfl⟩
   ·have HQ:Hid (q=(2,3)):=Lib.hid HL.out
    clear HL
    go_wp2_with fail
    go_ret2
    exact ⟨by rw [HQ.out];rfl,MA.out.trans M1.out (by simp)⟩
  ·have HG:=Lib.hid hg
   have hix:=fun w=>lev_index 3 (by omega) w
   simp only [levV] at hix
   obtain rfl:r0=false:=by simpa using hb 0 (by omega)
   obtain rfl:r1=false:=by simpa using hb 1 (by omega)
   obtain rfl:r2=false:=by simpa using hb 2 (by omega)
   clear hg hm hb
   simp only [Int.ofNat_zero,Int.ofNat_one,Int.cast_ofNat_Int]
   go_wp2_with fail
   refine (S3.out wr).mono ?_
   rintro e1 w1 ⟨rfl,m1⟩
   have M1:=Hxq (HM.out.trans m1 (by simp))
   clear m1 x0 x1 x2 x3 x4 x5 x6 hix
   cases r3
   ·go_wp2_with fail
    go_roundg (gk - 1)
    case measure=>have:=HG.out;omega
    case rel=>exact ⟨4,by have:=HG.out;omega,by go_num,M1.out,fun j h=>by
     have:j=0\/j=1\/j=2\/j=3:=by omega
     rcases this with rfl | rfl | rfl | rfl <;> rfl⟩
   ·have HQ:Hid (q=(2,4)):=Lib.hid HL.out
    clear HL
    go_wp2_with fail
    go_ret2
    exact ⟨by rw [HQ.out];rfl,MA.out.trans M1.out (by simp)⟩
  ·have HG:=Lib.hid hg
   have hix:=fun w=>lev_index 4 (by omega) w
   simp only [levV] at hix
   obtain rfl:r0=false:=by simpa using hb 0 (by omega)
   obtain rfl:r1=false:=by simpa using hb 1 (by omega)
   obtain rfl:r2=false:=by simpa using hb 2 (by omega)
   obtain rfl:r3=false:=by simpa using hb 3 (by omega)
   clear hg hm hb
   simp only [Int.ofNat_zero,Int.ofNat_one,Int.cast_ofNat_Int]
   go_wp2_with fail
   refine (S4.out wr).mono ?_
   rintro e1 w1 ⟨rfl,m1⟩
   have M1:=Hxq (HM.out.trans m1 (by simp))
   clear m1 x0 x1 x2 x3 x4 x5 x6 hix
   cases r4
   ·go_wp2_with fail
    go_roundg (gk - 1)
    case measure=>have:=HG.out;omega
    case rel=>exact ⟨5,by have:=HG.out;omega,by go_num,M1.out,fun j h=>by
     have:j=0\/j=1\/j=2\/j=3\/j=4:=by omega
     rcases this with rfl | rfl | rfl | rfl | rfl <;> rfl⟩
   ·have HQ:Hid (q=(2,5)):=Lib.hid HL.out
    clear HL
    go_wp2_with fail
    go_ret2
    exact ⟨by rw [HQ.out];rfl,MA.out.trans M1.out (by simp)⟩
  ·obtain rfl:r0=false:=by simpa using hb 0 (by omega)
   obtain rfl:r1=false:=by simpa using hb 1 (by omega)
   obtain rfl:r2=false:=by simpa using hb 2 (by omega)
   obtain rfl:r3=false:=by simpa using hb 3 (by omega)
   obtain rfl:r4=false:=by simpa using hb 4 (by omega)
   have HQ:Hid (q=(0,0)):=Lib.hid HL.out
   clear hg hm hb HL
   simp only [Int.ofNat_zero,Int.ofNat_one,Int.cast_ofNat_Int]
   go_wp2_with fail
   go_ret2
   exact ⟨by rw [HQ.out];rfl,MA.out.trans HM.out (by simp)⟩
set_option maxHeartbeats 1000000 in
theorem operand_any (t:Lx.Tok) (w:World) (ht:∀ c∈t.text,c<256) :
  Calls Tryz.prog 81 #[.agg (tokC t)] w fun e w'=>e=.returned (.bool (Sy.operand t))/\Mod [] w w':=by
 have eA:=heap_alloc_new w (Obj.cells (tokC t) 93)
 have mA:=(Mod.refl [] w).alloc (Obj.cells (tokC t) 93)
 have EA:=Lib.hid eA;have MA:=Lib.hid mA
 obtain ⟨x0,x1,x2,x3,x4,x5,x6⟩:=tok_cells eA
 have HO:Hid (Sy.operand t=(decide (t.kind=2) || (decide (t.kind=3) || (decide (t.kind=4) || (Sy.plain t || (Sy.sign t [45] || Sy.sign t [40])))))):=Lib.hid rfl
 have HP:=Hxq (fun w=>plain_any t w ht)
 have S1:=Hxq (fun w=>sign_any t [45] { data:=#[45] } w rfl ht (by decide))
 have S2:=Hxq (fun w=>sign_any t [40] { data:=#[40] } w rfl ht (by decide))
 generalize Sy.plain t=rp at *
 generalize Sy.sign t [45]=r1 at *
 generalize Sy.sign t [40]=r2 at *
 generalize Sy.operand t=q at *
 clear eA mA ht
 unfold tokC at *
 by_cases h2:t.kind=2
 ·have k2:((t.kind:Int) == 2)=true:=by rw [h2];rfl
  have HQ:Hid (q=true):=Hxq (by rw [HO.out,decide_eq_true h2];simp)
  clear h2 HO
  go_enter Tryz.func81,Tryz.ntmps81
  go_wp2_with fail
  go_ret
  exact ⟨by rw [HQ.out];rfl,MA.out⟩
 have k2:((t.kind:Int) == 2)=false:=by rw [beq_eq_false_iff_ne];omega
 by_cases h3:t.kind=3
 ·have k3:((t.kind:Int) == 3)=true:=by rw [h3];rfl
  have HQ:Hid (q=true):=Hxq (by rw [HO.out,decide_eq_true h3];simp)
  clear h2 h3 HO
  go_enter Tryz.func81,Tryz.ntmps81
  go_wp2_with fail
  go_ret
  exact ⟨by rw [HQ.out];rfl,MA.out⟩
 have k3:((t.kind:Int) == 3)=false:=by rw [beq_eq_false_iff_ne];omega
 by_cases h4:t.kind=4
 ·have k4:((t.kind:Int) == 4)=true:=by rw [h4];rfl
  have HQ:Hid (q=true):=Hxq (by rw [HO.out,decide_eq_true h4];simp)
  clear h2 h3 h4 HO
  go_enter Tryz.func81,Tryz.ntmps81
  go_wp2_with fail
  go_ret
  exact ⟨by rw [HQ.out];rfl,MA.out⟩
 have k4:((t.kind:Int) == 4)=false:=by rw [beq_eq_false_iff_ne];omega
 have HO2:Hid (q=(rp || (r1 || r2))):=Hxq (by rw [HO.out,decide_eq_false h2,decide_eq_false h3,decide_eq_false h4];rfl)
 clear h2 h3 h4 HO
 go_enter Tryz.func81,Tryz.ntmps81
 go_wp2_with fail
 refine (HP.out _).mono ?_
 rintro e1 w1 ⟨rfl,m1⟩
 have E1:=Hxq (m1.at EA.out (by simp));have M1:=Hxq (MA.out.trans m1 (by simp))
 clear m1 x0 x1 x2 x3 x4 x5 x6
 obtain ⟨x0,x1,x2,x3,x4,x5,x6⟩:=tok_cells (t:=t) E1.out
 cases rp
 ·go_wp2_with fail
  refine (S1.out _).mono ?_
  rintro e2 w2 ⟨rfl,m2⟩
  have E2:=Hxq (m2.at E1.out (by simp));have M2:=Hxq (M1.out.trans m2 (by simp))
  clear m2 x0 x1 x2 x3 x4 x5 x6
  obtain ⟨x0,x1,x2,x3,x4,x5,x6⟩:=tok_cells (t:=t) E2.out
  cases r1
  ·go_wp2_with fail
   refine (S2.out _).mono ?_
   rintro e3 w3 ⟨rfl,m3⟩
   have M3:=Hxq (M2.out.trans m3 (by simp))
   clear m3 x0 x1 x2 x3 x4 x5 x6
   have HQ:Hid (q=r2):=Lib.hid HO2.out
   clear HO2
   go_wp2_with fail
   go_ret
   exact ⟨by rw [HQ.out];rfl,M3.out⟩
  ·have HQ:Hid (q=true):=Lib.hid HO2.out
   clear HO2
   go_wp2_with fail
   go_ret
   exact ⟨by rw [HQ.out];rfl,M2.out⟩
 ·have HQ:Hid (q=true):=Lib.hid HO2.out
  clear HO2
  go_wp2_with fail
  go_ret
  exact ⟨by rw [HQ.out];rfl,M1.out⟩
def CellsAt (w:World) (b o:Nat) (xs:Array Value):Prop:=∀ (i:Nat) (x:Value),xs[i]?=some x->w.cell? ⟨b,o+i,none⟩=some x
theorem CellsAt.keep {S:List Nat} {w w':World} {b o:Nat} {xs:Array Value} (h:CellsAt w b o xs) (hm:Mod S w w') (hb:b∉S):CellsAt w' b o xs:=fun i x hx=>hm.cell (h i x hx) hb
theorem CellsAt.of {w:World} {b:Nat} {xs:Array Value} {T:TypeId} {fr:Nat × Nat} (h:w.heap[b]?=some (.cells xs T fr)):CellsAt w b 0 xs:=by
 intro i x hx
 simp only [World.cell?,h,Nat.zero_add]
 exact hx
theorem CellsAt.sub {w:World} {b o:Nat} {xs ys:Array Value} (h:CellsAt w b o xs) (k:Nat) (hk:∀ i x,ys[i]?=some x->xs[k+i]?=some x):CellsAt w b (o+k) ys:=fun i x hx=>by
 have:=h (k+i) x (hk i x hx)
 rwa [<-Nat.add_assoc] at this
def valV (x:Va.Val):Array Value:=#[.int .i64 x.k,.int .i64 x.n,.string (Lx.ofS x.s)]
def exV (e:Pr.Ex) (u:Value):Array Value:=#[.int .i64 e.k,.string e.v,.int .i64 e.x.k,.int .i64 e.x.n,.string (Lx.ofS e.x.s),.int .i64 e.op,u]
def tmV (t:Pr.Term):Array Value:=#[.int .i64 t.k,.string t.v,.int .i64 t.x.k,.int .i64 t.x.n,.string (Lx.ofS t.x.s)]
/-- an expression's arguments, in blocks of F -/
inductive EB (F:Nat->Prop) (w:World):Pr.Ex->Value->Prop
 | nil {k:Int} {v:ByteArray} {x:Va.Val} {op:Int} {a:Option Addr} {c:Nat}:EB F w (.mk k v x op []) (.slice a 0 c)
 | row {k:Int} {v:ByteArray} {x:Va.Val} {op:Int} {args:List Pr.Ex} {b off c:Nat} {us:Nat->Value} (hF:F b) (hb:b<w.heap.size)
   (h1:∀ i (h:i<args.length),CellsAt w b (off+i * 7) (exV args[i] (us i))) (h2:∀ i (h:i<args.length),EB F w args[i] (us i)) :
   EB F w (.mk k v x op args) (.slice (some ⟨b,off,none⟩) args.length c)
theorem EB.keep {F:Nat->Prop} {S:List Nat} {w w':World} {e:Pr.Ex} {u:Value} (h:EB F w e u) (hm:Mod S w w') (hS:∀ s∈S,¬ F s):EB F w' e u:=by
 induction h with
 | nil=>exact .nil
 | row hF hb h1 h2 ih=>exact .row hF (Nat.lt_of_lt_of_le hb hm.size) (fun i h=>(h1 i h).keep hm (fun hs=>hS _ hs hF)) ih
theorem EB.mono {F F':Nat->Prop} {w:World} {e:Pr.Ex} {u:Value} (h:EB F w e u) (hF:∀ k,F k->k<w.heap.size->F' k):EB F' w e u:=by
 induction h with
 | nil=>exact .nil
 | row hf hb h1 h2 ih=>exact .row (hF _ hf hb) hb h1 ih
theorem EB.lit {F:Nat->Prop} {w:World} {e:Pr.Ex} {u:Value} (h:EB F w e u):∃ a c,u=.slice a e.args.length c:=by
 cases h with
 | nil=>exact ⟨_,_,rfl⟩
 | row hF hb h1 h2=>exact ⟨_,_,rfl⟩
theorem EB.at {F:Nat->Prop} {w:World} {e:Pr.Ex} {a:Option Addr} {c:Nat} (h:EB F w e (.slice a e.args.length c)) (i:Nat) (hi:i<e.args.length) :
  ∃ b off u,a=some ⟨b,off,none⟩/\CellsAt w b (off+i * 7) (exV e.args[i] u)/\EB F w e.args[i] u:=by
 generalize hu:Value.slice a e.args.length c=u at h
 cases h with
 | nil=>simp [Pr.Ex.args] at hi
 | row hF hb h1 h2 =>
  simp only [Value.slice.injEq] at hu
  exact ⟨_,_,_,hu.1,h1 i hi,h2 i hi⟩
/-- one argument -/
theorem EB.one {F:Nat->Prop} {w:World} {k:Int} {v:ByteArray} {x:Va.Val} {op:Int} {a:Pr.Ex} {u:Value} {g:Nat} {T:TypeId} (hg:w.heap[g]?=some (.cells (exV a u) T (0,0))) (hF:F g) (ha:EB F w a u) (c:Nat) :
  EB F w (.mk k v x op [a]) (.slice (some ⟨g,0,none⟩) 1 c):=by
 refine .row (us:=fun _=>u) hF (lt_of_block hg) (fun i hi=>?_) (fun i hi=>?_)
 ·obtain rfl:i=0:=by simpa using hi
  exact CellsAt.of hg
 ·obtain rfl:i=0:=by simpa using hi
  exact ha
/-- two arguments -/
theorem EB.two {F:Nat->Prop} {w:World} {k:Int} {v:ByteArray} {x:Va.Val} {op:Int} {a b:Pr.Ex} {u u':Value} {g:Nat} {T:TypeId} (hg:w.heap[g]?=some (.cells (exV a u++exV b u') T (0,0))) (hF:F g) (ha:EB F w a u) (hb:EB F w b u') (c:Nat) :
  EB F w (.mk k v x op [a,b]) (.slice (some ⟨g,0,none⟩) 2 c):=by
 have hc:=CellsAt.of hg
 refine .row (us:=fun i=>if i=0 then u else u') hF (lt_of_block hg) (fun i hi=>?_) (fun i hi=>?_)
 ·have:i=0\/i=1:=by simp at hi;omega
  rcases this with rfl | rfl
  ·exact hc.sub 0 (fun i x hx=>by
    rw [Nat.zero_add]
    exact (Array.getElem?_append_left (by
     have:=(Array.getElem?_eq_some_iff.1 hx).1
     simpa using this)).trans hx)
  ·exact hc.sub 7 (fun i x hx=>by
    have h7:(exV a u).size=7:=rfl
    rw [Array.getElem?_append_right (by omega),h7,Nat.add_sub_cancel_left]
    exact hx)
 ·have:i=0\/i=1:=by simp at hi;omega
  rcases this with rfl | rfl
  ·exact ha
  ·exact hb
/-- a list of things of n cells, in blocks of F -/
inductive RowB {α:Type} (F:Nat->Prop) (w:World) (n:Nat) (cs:α->Array Value):List α->Value->Prop
 | nil {a:Option Addr} {c:Nat}:RowB F w n cs [] (.slice a 0 c)
 | row {l:List α} {b off c:Nat} (hF:F b) (hb:b<w.heap.size) (h1:∀ i (h:i<l.length),CellsAt w b (off+i * n) (cs l[i])) (hcap:l.length<=c:=by first | assumption | omega | simp):RowB F w n cs l (.slice (some ⟨b,off,none⟩) l.length c)
section
variable {α:Type} {F F':Nat->Prop} {S:List Nat} {w w':World} {n:Nat} {cs:α->Array Value} {l:List α} {u:Value}
theorem RowB.keep (h:RowB F w n cs l u) (hm:Mod S w w') (hS:∀ s∈S,¬ F s):RowB F w' n cs l u:=by
 cases h with
 | nil=>exact .nil
 | row hF hb h1=>exact .row hF (Nat.lt_of_lt_of_le hb hm.size) (fun i h=>(h1 i h).keep hm (fun hs=>hS _ hs hF))
theorem RowB.mono (h:RowB F w n cs l u) (hF:∀ k,F k->k<w.heap.size->F' k):RowB F' w n cs l u:=by
 cases h with
 | nil=>exact .nil
 | row hf hb h1=>exact .row (hF _ hf hb) hb h1
theorem RowB.lit (h:RowB F w n cs l u):∃ a c,u=.slice a l.length c:=by
 cases h with
 | nil=>exact ⟨_,_,rfl⟩
 | row hF hb h1=>exact ⟨_,_,rfl⟩
theorem RowB.at {a:Option Addr} {c:Nat} (h:RowB F w n cs l (.slice a l.length c)) (i:Nat) (hi:i<l.length):∃ b off,a=some ⟨b,off,none⟩/\CellsAt w b (off+i * n) (cs l[i]):=by
 generalize hu:Value.slice a l.length c=u at h
 cases h with
 | nil=>simp at hi
 | row hF hb h1 =>
  simp only [Value.slice.injEq] at hu
  exact ⟨_,_,hu.1,h1 i hi⟩
theorem RowB.cap {a:Option Addr} {c:Nat} (h:RowB F w n cs l (.slice a l.length c)):l.length<=c:=by
 generalize hu:Value.slice a l.length c=u at h
 cases h with
 | nil=>simp
 | row hF hb h1 hcap =>
  simp only [Value.slice.injEq] at hu
  omega
/-- cells of a list -/
def rowCells (cs:α->Array Value) (l:List α):List Value:=l.flatMap fun x=>(cs x).toList
theorem rowCells_len (hn:∀ x,(cs x).size=n) (l:List α):(rowCells cs l).length=l.length * n:=by
 induction l with
 | nil=>simp [rowCells]
 | cons t r ih =>
  simp only [rowCells,List.flatMap_cons,List.length_append,List.length_cons] at ih ⊢
  rw [ih,Array.length_toList,hn,Nat.add_mul];omega
theorem rowCells_snoc (l:List α) (x:α):rowCells cs (l++[x])=rowCells cs l++(cs x).toList:=by simp [rowCells]
theorem rowCells_get (hn:∀ x,(cs x).size=n):∀ (l:List α) (i:Nat) (hi:i<l.length) (j:Nat) (x:Value),(cs l[i])[j]?=some x->(rowCells cs l)[i * n+j]?=some x
 | t :: r,0,hi,j,x,h=>by
  have hj:j<(cs t).size:=(Array.getElem?_eq_some_iff.1 h).1
  rw [rowCells,List.flatMap_cons,Nat.zero_mul,Nat.zero_add,List.getElem?_append_left (by simpa using hj)]
  simpa using h
 | t :: r,i+1,hi,j,x,h=>by
  rw [rowCells,List.flatMap_cons,List.getElem?_append_right (by rw [Array.length_toList,hn,Nat.add_mul];omega)]
  have:=rowCells_get hn r i (by simpa using hi) j x (by simpa using h)
  rw [rowCells] at this
  rw [<-this]
  congr 1
  rw [Array.length_toList,hn,Nat.add_mul];omega
/-- a row that the call owns is such a list -/
theorem RowB.of_owns {T:TypeId} {base:Nat} (hn:∀ x,(cs x).size=n) (h:w.ownsRow base T n u l.length (rowCells cs l)) (hF:∀ k∈fp u,F k):RowB F w n cs l u:=by
 rcases h.2 with ⟨rfl,h0⟩ | ⟨g,cap,cur,rfl,hb,hg,hc,hm,hs,ht⟩
 ·have hl:l=[]:=List.eq_nil_of_length_eq_zero h0
  subst hl
  exact .nil
 ·refine .row (hF g (by simp [fp])) (lt_of_block hg) (fun i hi j x hx=>?_)
  have hk:=rowCells_get hn l i hi j x hx
  have hlt:i * n+j<(rowCells cs l).length:=(List.getElem?_eq_some_iff.1 hk).1
  rw [Nat.zero_add]
  simp only [World.cell?,hg]
  rw [<-ht,List.getElem?_take] at hk
  rw [rowCells_len hn] at hlt
  rw [if_pos (by first | exact hlt | (rw [ht] at *;simpa using hlt))] at hk
  simpa using hk
end
end Go.Proofs.YtbfaclljbbfknaaGreatDoor
