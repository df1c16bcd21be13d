/- THE TEXTS MERGED: SyBegin SyAll. -/
import Derived.Test.YtbfaclljbbfknaaGreatDoorKP14
import Derived.Laws.EntriesVeiled
namespace Go.Proofs.YtbfaclljbbfknaaGreatDoor
open Go.RowKit
set_option linter.unusedVariables false
set_option linter.unusedSimpArgs false
set_option maxRecDepth 100000
/-- how many bytes stand behind a text's last line's end -/
def tailN (l:List Nat):Nat:=(l.reverse.takeWhile (fun c=>!(c == 10))).length
theorem tw_all {p:Nat->Bool}:∀ {l:List Nat},(∀ c∈l,p c=true)->l.takeWhile p=l
 | [],_=>rfl
 | c :: t,h=>by rw [List.takeWhile_cons,if_pos (h c (by simp)),tw_all (fun d hd=>h d (by simp [hd]))]
theorem tailN_none {l:List Nat} (h:10∉l):tailN l=l.length:=by
 unfold tailN
 rw [tw_all,List.length_reverse]
 intro c hc
 rw [List.mem_reverse] at hc
 simp
 rintro rfl
 exact h hc
theorem tailN_hit (l:List Nat) (k:Nat) (hk:k<l.length) (h1:l[k]=10) (h2:10∉l.drop (k+1)):tailN l=l.length - 1 - k:=by
 have e:l=l.take k++(10 :: l.drop (k+1)):=by
  rw [<-h1,<-List.drop_eq_getElem_cons hk,List.take_append_drop]
 unfold tailN
 have e2:l.reverse=(l.drop (k+1)).reverse++(10 :: (l.take k).reverse):=by
  conv=>lhs;rw [e]
  simp
 rw [e2,List.takeWhile_append]
 have h3:((l.drop (k+1)).reverse.takeWhile (fun c=>!(c == 10)))=(l.drop (k+1)).reverse:=by
  refine tw_all fun c hc=>?_
  rw [List.mem_reverse] at hc
  simp
  rintro rfl
  exact h2 hc
 rw [h3,if_pos rfl]
 simp
 omega
set_option maxHeartbeats 1000000 in
theorem lastByteS_any (s:ByteArray) (hs:s.size<=140737488355328) (w:World) :
  Calls Tryz.prog 78 #[.string s,.int .u8 10] w fun e w'=>e=.returned (.int .i64 ((s.size:Int) - 1 - (tailN (Cod.str s):Nat)))/\w'=w:=by
 go_enter Tryz.func78,Tryz.ntmps78
 go_wp2_with fail
 go_loopw [5] (fun iv wr=>∃ m:Int,-1<=m/\m<s.size/\iv=.int .i64 m/\10∉(Cod.str s).drop (m+1).toNat/\wr=w) (fun iv _=>(intOf iv+1).toNat)
 case atStart=>exact ⟨_,by omega,by omega,rfl,by rw [List.drop_eq_nil_of_le (by rw [Cod.str_len];omega)];simp,rfl⟩
 case round =>
  obtain ⟨m,h1,h2,rfl,h3,rfl⟩:=hrel
  by_cases h0:0<=m
  ·obtain ⟨k,rfl⟩:∃ k:Nat,m=k:=⟨m.toNat,by omega⟩
   have hk:k<s.size:=by omega
   have hk2:k<(Cod.str s).length:=by rw [Cod.str_len];exact hk
   have hge:(k:Int) ≥ 0:=h0
   have hy0:s[k].toNat=(Cod.str s)[k]:=by
    have:=Lx.get_str s k hk
    rw [List.getD_eq_getElem?_getD,List.getElem?_eq_getElem hk2] at this
    exact this.symm
   have e3:(Cod.str s).drop k=(Cod.str s)[k] :: (Cod.str s).drop (k+1):=List.drop_eq_getElem_cons hk2
   rw [show ((k:Int)+1).toNat=k+1 by omega] at h3
   by_cases hy:(Cod.str s)[k]=10
   ·have hyb:((s[k].toNat:Int) == 10)=true:=by rw [beq_iff_eq,hy0,hy];rfl
    have ht:=Hxq (tailN_hit (Cod.str s) k hk2 hy h3)
    clear h3 e3 hy hy0
    go_wp2_with fail
    go_ret
    have e:(s.size:Int) - 1 - ((tailN (Cod.str s):Nat):Int)=k:=by rw [ht.out,Cod.str_len];omega
    exact ⟨by rw [e];rfl,rfl⟩
   ·have hyb:((s[k].toNat:Int) == 10)=false:=by rw [beq_eq_false_iff_ne,hy0];omega
    have HT:Hid (10∉(Cod.str s).drop k):=Hxq (by rw [e3];simp only [List.mem_cons,not_or];exact ⟨fun e=>hy e.symm,h3⟩)
    clear h3 e3 hy hy0
    go_wp2_with fail
    go_roundw
    case rel=>exact ⟨(k:Int) - 1,by omega,by omega,by go_num,by rw [show ((k:Int) - 1+1).toNat=k by omega];exact HT.out,trivial⟩
    case measure=>simp [intOf]
  ·obtain rfl:m=-1:=by omega
   have ht:=Hxq (tailN_none (l:=Cod.str s) (by simpa using h3))
   clear h3
   go_wp2_with fail
   go_ret
   have e:(s.size:Int) - 1 - ((tailN (Cod.str s):Nat):Int)=-1:=by rw [ht.out,Cod.str_len];omega
   exact ⟨by rw [e];rfl,rfl⟩
theorem lastByte_any (s:ByteArray) (hs:s.size<=140737488355328) (w:World) :
  Calls Tryz.prog 54 #[.string s,.int .u8 10] w fun e w'=>e=.returned (.int .i64 ((s.size:Int) - 1 - (tailN (Cod.str s):Nat)))/\w'=w:=by
 go_enter Tryz.func54,Tryz.ntmps54
 go_wp2_with fail
 refine (lastByteS_any s hs w).mono ?_
 rintro e1 w1 ⟨rfl,rfl⟩
 go_wp2_with fail
 go_ret
 exact ⟨rfl,rfl⟩
/-- the loop over all words: what it holds -/
structure BLoop (l:List Nat) (w wr:World) (p b:Nat) (va:Option Addr) (vc:Nat) (acc:List Lx.Tok) (x:Lx.St) (k gk:Nat) (s':ByteArray):Prop where
 box:wr.heap[p]?=some (.cells #[.slice va acc.length vc,.int .i64 0,.int .i64 0,.int .i64 0,.int .i64 0,.nilFunc] 90 (0,0))
 row:TokRow wr (w.heap.size+1) (.slice va acc.length vc) acc
 sc:ScIs wr b s' x
 pb:p≠b
 pv:p∉fp (.slice va acc.length vc)
 bv:b∉fp (.slice va acc.length vc)
 all:Lx.given l=(acc++(Lx.allF k x).1,(Lx.allF k x).2)
 lim:x.s.length+1<=k/\x.s.length+1<=gk/\acc.length+x.s.length<=l.length/\x.long=decide (65536<l.length)
 byte:∀ c∈x.s,c<256
 mod:Mod [] w wr
/-- a word more -/
theorem BLoop.grow {l:List Nat} {w W w5:World} {b:Nat} {va va5:Option Addr} {vc vc5:Nat} {acc:List Lx.Tok} {t:Lx.Tok} {y:Lx.St} {k gk:Nat} {s4:ByteArray}
  (hx:W.heap[w.heap.size]?=some (.cells #[.slice va acc.length vc,.int .i64 0,.int .i64 0,.int .i64 0,.int .i64 0,.nilFunc] 90 (0,0))) (hr:TokRow W (w.heap.size+1) (.slice va acc.length vc) acc) (hs:ScIs W b s4 y)
  (pb:w.heap.size≠b) (pv:w.heap.size∉fp (.slice va acc.length vc)) (bv:b∉fp (.slice va acc.length vc)) (hm:Mod [] w W)
  (hown:w5.ownsRow 0 93 7 (.slice va5 (acc.length+1) vc5) (acc.length+1) (tokCells acc++(tokC t).toList)) (hm5:Mod (fp (.slice va acc.length vc)) W w5)
  (hf:∀ k∈fp (.slice va5 (acc.length+1) vc5),k∈fp (.slice va acc.length vc)\/W.heap.size<=k)
  (hall:Lx.given l=((acc++[t])++(Lx.allF k y).1,(Lx.allF k y).2))
  (hlim:(y.s.length+1<=k/\y.s.length+1<=gk/\(acc++[t]).length+y.s.length<=l.length/\y.long=decide (65536<l.length))/\∀ c∈y.s,c<256) :
  BLoop l w (w5.setCell ⟨w.heap.size,0,none⟩ (.slice va5 (acc.length+1) vc5)) w.heap.size b va5 vc5 (acc++[t]) y k gk s4:=by
 have e1:(acc++[t]).length=acc.length+1:=by simp
 have hcl:tokCells acc++(tokC t).toList=tokCells (acc++[t]):=by rw [tokCells_append];simp [tokCells]
 have hsz:=hm.size
 have hbl:=hs.lt
 have hxl:=lt_of_block hx
 have hp5:w.heap.size∉fp (.slice va5 (acc.length+1) vc5):=fun hk=>by
  rcases hf _ hk with h | h
  ·exact pv h
  ·omega
 have hb5:b∉fp (.slice va5 (acc.length+1) vc5):=fun hk=>by
  rcases hf _ hk with h | h
  ·exact bv h
  ·omega
 have hm6:Mod [w.heap.size] w5 (w5.setCell ⟨w.heap.size,0,none⟩ (.slice va5 (acc.length+1) vc5)):=(Mod.refl [w.heap.size] w5).setCell (p:=⟨w.heap.size,0,none⟩) (.inl (by simp)) _
 refine ⟨?_,?_,?_,pb,by rw [e1];exact hp5,by rw [e1];exact hb5,hall,hlim.1,hlim.2,?_⟩
 ·have:=setCell_at (hm5.at hx pv) 0 (.slice va5 (acc.length+1) vc5)
  rw [this,e1]
  simp
 ·rw [e1]
  refine (TokRow.mk (w:=w5) (base:=w.heap.size+1) (v:=.slice va5 (acc.length+1) vc5) (l:=acc++[t]) (by rw [e1,<-hcl];exact hown) (fun k hk=>?_)).keep hm6 (fun k hk=>by simp;rintro rfl;exact hp5 hk)
  rcases hf _ hk with h | h
  ·exact hr.new k h
  ·omega
 ·exact (hs.keep hm5 bv).keep hm6 (by simp;omega)
 ·exact (hm.trans hm5 (fun k hk=>by have:=hr.new k hk;exact .inr (by omega))).trans hm6 (by simp)
theorem count_nl (s:ByteArray):Lib.countByte s.data.toList 10=(Cod.str s).count 10:=by
 have:∀ l:List UInt8,l.count 10=(l.map UInt8.toNat).count 10:=by
  intro l
  induction l with
  | nil=>rfl
  | cons c t ih =>
   rw [List.count_cons,List.map_cons,List.count_cons,ih]
   congr 1
   by_cases h:c=10
   ·subst h;rfl
   ·have h2:¬ c.toNat=10:=fun e=>h (by
     have:(10:UInt8).toNat=10:=rfl
     exact UInt8.toNat_inj.1 (e.trans this.symm))
    simp [h,h2]
 exact this s.data.toList
theorem nextC (r:Lx.St × Option Lx.Tok):nextV r.2=.tuple #[.agg (tokC (r.2.getD zeroT)),.bool r.2.isSome]:=nextV_eq r.2
set_option maxHeartbeats 4000000 in
theorem begin_any (s:ByteArray) (hs:s.size<=140737488355328) (w:World) (hG:Glob w) :
  Calls Tryz.prog 29 #[.string s] w fun e w'=>∃ b ra rc,e=.returned (.pointer (some ⟨b,0,none⟩))/\RdP w' b ra rc .nilFunc (Sy.envOf (Cod.str s)) 0/\w.heap.size<=b/\(∀ k∈fp (.slice ra (Sy.envOf (Cod.str s)).ws.length rc),w.heap.size<=k)/\Mod [] w w':=by
 obtain ⟨i0,hinf,hz0,hz1,hz2⟩:=info_parts Tryz.infoTok
 obtain ⟨l,hl⟩:∃ l,Cod.str s=l:=⟨_,rfl⟩
 have hlb:∀ c∈l,c<256:=by rw [<-hl];exact Cod.str_lt s
 have hsl:s.size=l.length:=by rw [<-hl,Cod.str_len]
 have hcn:Hid (Lib.countByte s.data.toList 10=l.count 10):=Hxq (by rw [count_nl,hl])
 have hlbt:=lastByte_any s hs
 rw [hl] at hlbt ⊢
 have HLB:=Lib.hid hlbt
 have HL:=Lib.hid hl
 clear hl hlbt
 have m0:=(Mod.refl [] w).alloc (Obj.cells #[Value.slice none 0 0,Value.int IntKind.i64 0,Value.int IntKind.i64 0,Value.int IntKind.i64 0,Value.int IntKind.i64 0,Value.nilFunc] 90)
 have e0:=heap_alloc_new w (Obj.cells #[Value.slice none 0 0,Value.int IntKind.i64 0,Value.int IntKind.i64 0,Value.int IntKind.i64 0,Value.int IntKind.i64 0,Value.nilFunc] 90)
 go_enter Tryz.func29,Tryz.ntmps29
 go_wp2_with fail
 refine (Scan_any s hs _).mono ?_
 rintro e1 w1 ⟨b,rfl,h1,hb1,m1⟩
 rw [HL.out] at h1
 have hbw:w.heap.size<b:=by simp at hb1;omega
 have e1:=m1.at e0 (by simp)
 have M1:=m0.trans m1 (by simp)
 have hw3:=hG.size
 have hb3:5<=b:=by omega
 have hB0:BLoop l w w1 w.heap.size b none 0 [] (Lx.start l) (l.length+1) (l.length+1) s:=⟨e1,TokRow.nil _ _,h1,by omega,by simp [fp],by simp [fp],by simp [Lx.given],⟨by simp [Lx.start],by simp [Lx.start],by simp [Lx.start],rfl⟩,hlb,M1⟩
 have HB0:=Lib.hid hB0
 clear hB0 e1 M1 m1 m0 e0 h1 hb1
 go_wp2_with fail
 go_loopg [5,6] (l.length+1) (fun gk tv mv wr=>∃ (va:Option Addr) (vc k:Nat) (acc:List Lx.Tok) (x:Lx.St) (s':ByteArray),BLoop l w wr w.heap.size b va vc acc x k gk s')
 case atStart=>exact ⟨none,0,_,[],_,s,HB0.out⟩
 case round =>
  clear HB0
  obtain ⟨va,vc,k,acc,x,s',hT⟩:=hrel
  have hm:=hT.mod
  have hGr:=hG.past hm (by simp)
  obtain ⟨hl1,hl2,hl3,hl4⟩:=hT.lim
  obtain ⟨k',rfl⟩:∃ k',k=k'+1:=⟨k - 1,by omega⟩
  have hall:=hT.all
  rw [allF_succ] at hall
  have hnl:=fun (y:Lx.St) (u:Lx.Tok) (hy:Lx.next x=(y,some u))=>next_len hT.byte hy
  have hnb:=next_bytes hT.byte
  have HN:=Hxq (next_any b s' x wr hT.sc hGr hb3)
  have HT:=Lib.hid hT
  have HALL:=Lib.hid hall;have HNL:=Lib.hid hnl;have HNB:=Lib.hid hnb
  clear hT hall hnl hnb hGr hm
  go_wp2_with fail
  refine HN.out.mono ?_
  rintro e w4 ⟨rfl,s4,h4,hm4⟩
  have hbx4:=hm4.at HT.out.box (by simp;omega)
  have hrow4:=HT.out.row.keep hm4 (fun k hk=>by simp;rintro rfl;exact HT.out.bv hk)
  have hm4w:=HT.out.mod.trans hm4 (fun t ht=>.inr (by simp at ht;omega))
  rw [nextC]
  generalize hr:Lx.next x=r at *
  obtain ⟨y,o⟩:=r
  have HR:=Lib.hid hr
  clear hr HN
  have mA:=(Mod.refl [] w4).alloc (Obj.cells (tokC (o.getD zeroT)) 93)
  have eA:=heap_alloc_new w4 (Obj.cells (tokC (o.getD zeroT)) 93)
  have hszw:=hm4w.size
  have hlt4:=lt_of_block hbx4
  cases o with
  | none =>
   simp only [rest,List.append_nil] at HALL
   simp only [Option.getD,Option.isSome] at *
   generalize zeroT=u at *
   unfold tokC at *
   have hF:=Fault_any b s4 y _ (h4.past mA (by simp))
   unfold faultV at hF
   have HF:=Lib.hid hF;have HA:=Lib.hid mA;have HX:=Hxq (mA.at hbx4 (by simp));have HW:=Hxq (hrow4.past mA (by simp));have HM:=Hxq (hm4w.trans mA (by simp))
   clear hF mA eA hbx4 hrow4 hm4w h4 hm4
   go_wp2_with fail
   refine HF.out.mono ?_
   rintro e5 w5 ⟨rfl,m5⟩
   have X5:=Hxq (m5.at HX.out (by simp));have W5:=Hxq (HW.out.past m5 (by simp));have M5:=Hxq (HM.out.trans m5 (by simp))
   have c2:=cell_at X5.out 2;have c3:=cell_at X5.out 3;have c4:=cell_at X5.out 4
   simp only [List.getElem?_toArray,List.getElem?_cons_zero,List.getElem?_cons_succ] at c2 c3 c4
   have f2:=free_at X5.out 2;have f3:=free_at X5.out 3;have f4:=free_at X5.out 4
   clear m5 HF HA HX HW HM
   go_upto_region 7 with fail
   generalize hwS:World.setCell (World.setCell (World.setCell w5 _ _) _ _) _ _=wS at *
   have hS:wS.heap[w.heap.size]?=some (.cells #[.slice va acc.length vc,.int .i64 0,.int .i64 (y.code:Nat),.int .i64 (y.fp.1:Nat),.int .i64 (y.fp.2:Nat),.nilFunc] 90 (0,0)):=by
    rw [<-hwS];exact setCs_heap [.int .i64 (y.code:Nat),.int .i64 (y.fp.1:Nat),.int .i64 (y.fp.2:Nat)] 2 [.slice va acc.length vc,.int .i64 0,.int .i64 0,.int .i64 0,.int .i64 0,.nilFunc] w5 X5.out
   have mS:Mod [w.heap.size] w5 wS:=by
    rw [<-hwS];exact setCs_mod w.heap.size [.int .i64 (y.code:Nat),.int .i64 (y.fp.1:Nat),.int .i64 (y.fp.2:Nat)] 2 w5
   have hpv:∀ k∈fp (.slice va acc.length vc),k∉[w.heap.size]:=fun k hk=>by simp;rintro rfl;exact HT.out.pv hk
   have WS:=Hxq (W5.out.keep mS hpv);have MS:=Hxq (M5.out.trans mS (by simp));have XS:=Lib.hid hS
   clear hwS mS W5 M5 X5 c2 c3 c4 f2 f3 f4 hS
   have c2:=cell_at XS.out 2;have c3:=cell_at XS.out 3;have c4:=cell_at XS.out 4
   simp only [List.getElem?_toArray,List.getElem?_cons_zero,List.getElem?_cons_succ] at c2 c3 c4
   have f2:=free_at XS.out 2;have f3:=free_at XS.out 3;have f4:=free_at XS.out 4
   have hws:(Sy.envOf l).ws=acc:=by unfold Sy.envOf;rw [HALL.out]
   have hnewk:∀ k∈fp (.slice va acc.length vc),w.heap.size<=k:=fun k hk=>by have:=WS.out.new k hk;omega
   by_cases hc:y.code=0
   ·have hcB:((y.code:Int) == 0)=true:=by rw [hc];rfl
    have hla:(Sy.envOf l).last=(42,1+l.count 10,1+tailN l):=by unfold Sy.envOf;rw [HALL.out];simp only;rw [if_pos hc];rfl
    have HLA:=Lib.hid hla;have HWS:=Lib.hid hws;have HNK:=Lib.hid hnewk;have HPV:=Lib.hid hpv
    have hbd:l.count 10<=l.length:=List.count_le_length
    have htl:tailN l<=l.length:=by
     unfold tailN
     have:=(List.takeWhile_sublist (l:=l.reverse) (fun c=>!(c == 10))).length_le
     simpa using this
    clear hla hws hnewk hpv hc
    go_wp2_with fail
    refine (Tryz.strings_Count_one s 10 wS).mono ?_
    rintro e6 w6 ⟨rfl,rfl⟩
    rw [hcn.out]
    go_wp2_with fail
    refine (HLB.out _).mono ?_
    rintro e7 w7 ⟨rfl,rfl⟩
    go_wp2_with fail
    go_ret
    have hvI:((1+l.count 10:Nat):Int)=(l.count 10:Int)+1:=by omega
    have hvJ:((1+tailN l:Nat):Int)=(l.length:Int) - ((l.length:Int) - 1 - (tailN l:Int)):=by omega
    have mS2:=setCs_mod w.heap.size [.int .i64 42,.int .i64 ((l.count 10:Int)+1),.int .i64 ((l.length:Int) - ((l.length:Int) - 1 - (tailN l:Int)))] 2 w7
    refine ⟨_,va,vc,rfl,⟨?_,?_,?_⟩,Nat.le_refl _,?_,MS.out.trans mS2 (by simp)⟩
    ·rw [HLA.out,HWS.out]
     simp only
     rw [hvI,hvJ]
     exact setCs_heap [.int .i64 42,.int .i64 ((l.count 10:Int)+1),.int .i64 ((l.length:Int) - ((l.length:Int) - 1 - (tailN l:Int)))] 2 [.slice va acc.length vc,.int .i64 0,.int .i64 (y.code:Nat),.int .i64 (y.fp.1:Nat),.int .i64 (y.fp.2:Nat),.nilFunc] w7 XS.out
    ·rw [HWS.out];exact (WS.out.base (by omega)).keep mS2 HPV.out
    ·rw [HWS.out];exact HT.out.pv
    ·rw [HWS.out];exact HNK.out
   ·have hcB:((y.code:Int) == 0)=false:=by rw [beq_eq_false_iff_ne];omega
    have hla:(Sy.envOf l).last=(y.code,y.fp):=by unfold Sy.envOf;rw [HALL.out];simp only;rw [if_neg hc]
    have HLA:=Lib.hid hla;have HWS:=Lib.hid hws;have HNK:=Lib.hid hnewk
    clear hla hws hnewk
    go_wp2_with fail
    go_ret
    refine ⟨_,va,vc,rfl,⟨?_,?_,?_⟩,Nat.le_refl _,?_,MS.out⟩
    ·rw [HLA.out,HWS.out];exact XS.out
    ·rw [HWS.out];exact WS.out.base (by omega)
    ·rw [HWS.out];exact HT.out.pv
    ·rw [HWS.out];exact HNK.out
  | some t =>
   simp only [rest] at HALL
   simp only [Option.getD,Option.isSome] at *
   have hnl:=HNL.out y t rfl
   have hlong:l.length<=65536:=by
    have:=hnl.2.2.1
    rw [hl4] at this
    simpa using this
   have hXA:=mA.at hbx4 (by simp)
   have mB:=(Mod.refl [] (w4.alloc (Obj.cells (tokC t) 93))).alloc (Obj.cells (tokC t) 93)
   have mC:=mB.drew
   have hXB:=mC.at hXA (by simp)
   have hWB:=(hrow4.past mA (by simp)).past mC (by simp)
   have hSB:=(h4.past mA (by simp)).past mC (by simp)
   have hMB:=(hm4w.trans mA (by simp)).trans mC (by simp)
   have HS3:=Hxq (src_tok (drew_cells (heap_alloc_new (w4.alloc (Obj.cells (tokC t) 93)) (Obj.cells (tokC t) 93))))
   have HO3:=Lib.hid hWB.row
   have HXB:=Lib.hid hXB;have HWB:=Lib.hid hWB;have HSB:=Lib.hid hSB;have HMB:=Lib.hid hMB
   have hwA:=lt_of_block eA
   have q0:(w4.alloc (Obj.cells (tokC t) 93)).cell? ⟨w.heap.size,0,none⟩=some (.slice va acc.length vc):=cell_at hXA 0
   have q1:(w4.alloc (Obj.cells (tokC t) 93)).drew.cell? ⟨w.heap.size,0,none⟩=some (.slice va acc.length vc):=cell_at hXA 0
   have q2:=cell_at HXB.out 0
   simp only [List.getElem?_toArray,List.getElem?_cons_zero] at q2
   obtain ⟨t0,t1,t2,t3,t4,t5,t6⟩:=tok_cells eA
   have HNL2:=Lib.hid hnl
   have HF0:=Hxq (fun j=>free_at HXB.out j)
   clear mA mB mC eA hXA hXB hWB hSB hMB hbx4 hrow4 hm4w h4 hm4 hnl HNL
   unfold tokC at *
   go_upto_region 5 with fail
   generalize w4.alloc (Obj.cells _ 93)=wA at *
   go_region_law (refine step_append_src _ rfl _ _ 88 88 rfl 93 i0 (.agg (tokC zeroT)) 7 72 Tryz.underlying88 hinf hz0 hz1 hz2 rfl (.slice va acc.length vc) acc.length (tokCells acc) rfl HO3.out _ 1 _ rfl HS3.out (by unfold maxLen;omega) (by omega) ?_;intro v5 w5 hown5 hm5 hf5;obtain ⟨va5,vc5,rfl⟩:=owns_slice hown5;have q5:=hm5.cell (cell_at HXB.out 0) HT.out.pv;have f5:w5.frozen? ⟨w.heap.size,0,none⟩=false:=(World.frozen?_of_block (hm5.block _ (lt_of_block HXB.out) HT.out.pv)).trans (HF0.out 0);have HG5:=Hxq (fun gk h1 h2=>BLoop.grow (l:=l) (t:=t) (gk:=gk) (k:=k') HXB.out HWB.out HSB.out HT.out.pb HT.out.pv HT.out.bv HMB.out hown5 hm5 hf5 h1 h2);clear hown5 hm5 hf5)
   all_goals (
    go_wp2_with fail
    go_roundg (x.s.length)
    case measure=>omega
    case rel=>exact ⟨va5,vc5,k',acc++[t],y,s4,HG5.out _ (by rw [HALL.out];simp) ⟨⟨by have:=HNL2.out.1;omega,by have:=HNL2.out.1;omega,by have:=HNL2.out.1;simp;omega,by rw [HNL2.out.2.2.2];simp;omega⟩,HNB.out⟩⟩)
section
variable {P:Program} {ops:Array Oper} {rest:List Oper} {o:Oper} {a:Act} {w:World} {Q:Exit->Act->World->Prop}
theorem wpList_built2 (hgd:o.guard=none) (t:TypeId) (n m:Nat) (x y:Operand) (ho:o.op=.build t #[(n,x),(m,y)])
  (v u:Value) (hv:a.eval x=v) (hu:a.eval y=u) (cells:Array Value) (hc:(Instr.build t #[(n,v),(m,u)]).run P w=.ok (.agg cells) w) (h:wpList P ops Q rest (a.put o.dst (.agg cells)) w):wpList P ops Q (o :: rest) a w :=
 wpList_plain hgd fun K hK=>by
  unfold Oper.wp execOp
  simp only [ho,Sem.run_bind,List.map_toArray,List.map_cons,List.map_nil,hv,hu,hc,Result.andThen_ok]
  exact hK _ _ h
end
/-- a text's words are in order -/
theorem envOk (s:ByteArray):EnvOk (Sy.envOf (Cod.str s)):=by
 obtain ⟨h1,h2⟩:=Sy.env_toks (Cod.str s) (Cod.str_lt s)
 exact ⟨h2,fun t ht=>(h1 t ht).num,fun t ht=>(h1 t ht).byte⟩
/-- another function in the reader's last field -/
theorem RdP.setF {w:World} {b:Nat} {ra:Option Addr} {rc:Nat} {f:Value} {v:Sy.Env} {i:Nat} (h:RdP w b ra rc f v i) (f':Value) :
  RdP (w.setCell ⟨b,5,none⟩ f') b ra rc f' v i/\Mod [b] w (w.setCell ⟨b,5,none⟩ f'):=by
 have hm:Mod [b] w (w.setCell ⟨b,5,none⟩ f'):=(Mod.refl [b] w).setCell (p:=⟨b,5,none⟩) (.inl (by simp)) _
 refine ⟨⟨?_,h.row.keep hm (fun k hk hs=>h.out (by simp at hs;exact hs ▸ hk)),h.out⟩,hm⟩
 have:=setCell_at h.at_ 5 f'
 simpa using this
/-- what all leaves -/
def AllRes {α:Type} (r:Sy.PR α) (val:α->World->Value->Prop) (z:Value) (w:World) (e:Ending) (w':World):Prop :=
 match r with
 | .ok a _=>∃ C:Array Value,e=.returned (.tuple #[.agg C,.agg #[.int .i64 0,.int .i64 0,.int .i64 0]])/\val a w' (.agg C)/\Mod [] w w'
 | .err g=>e=.returned (.tuple #[z,.agg (fltC g)])/\Mod [] w w'
theorem wp_range {w:World} {b:Nat} {C:Array Value} {T:TypeId} {fr:Nat × Nat} (h:w.heap[b]?=some (.cells C T fr)):w.rangeAt b 0 C.toList:=fun j v hv=>by
 rw [Nat.zero_add,cell_at h,<-hv,Array.getElem?_toList]
theorem part_range {w:World} {px:Nat} {a o:Value} {C:Array Value} {T:TypeId} {fr:Nat × Nat} (h:w.heap[px]?=some (.cells (#[a,o]++C) T fr)):w.rangeAt px 2 C.toList:=fun j v hv=>by
 rw [cell_at h,<-hv,Array.getElem?_toList,Array.getElem?_append_right (by simp)]
 congr 1
 simp
theorem sizeFlt:(Tryz.prog.info? 42).map (·.size)=some 3:=by kernel_rfl
theorem RdRes.mono {α:Type} {b:Nat} {ra:Option Addr} {rc:Nat} {f:Value} {v:Sy.Env} {r:Sy.PR α} {S:List Nat} {Got Got':α->World->Prop} {w:World} {e:Ending} {w':World} (h:RdRes b ra rc f v r S Got w e w') (hG:∀ a w',Got a w'->Got' a w'):RdRes b ra rc f v r S Got' w e w':=by
 cases r with
 | ok a j=>exact ⟨h.1,hG _ _ h.2.1,h.2.2⟩
 | err g=>exact h
theorem res_pair {fn:Func} {p q:Tmp} {T U:TypeId} (h:fn.results=#[.cell p T,.cell q U]) (tmps:Array Value) (w:World) (b c:Nat) (C D:Array Value)
  (hp:tmps.getD p undef=.pointer (some ⟨b,0,none⟩)) (hq:tmps.getD q undef=.pointer (some ⟨c,0,none⟩)) (hl:(loadVar T ⟨b,0,none⟩).run Tryz.prog w=.ok (.agg C) w) (hm:(loadVar U ⟨c,0,none⟩).run Tryz.prog w=.ok (.agg D) w) :
  (results fn tmps).run Tryz.prog w=.ok (.tuple #[.agg C,.agg D]) w:=by
 have hp':tmps[p]?.getD undef=.pointer (some ⟨b,0,none⟩):=by simpa using hp
 have hq':tmps[q]?.getD undef=.pointer (some ⟨c,0,none⟩):=by simpa using hq
 simp [results,h,hp',hq',asAddr,hl,hm]
end Go.Proofs.YtbfaclljbbfknaaGreatDoor
