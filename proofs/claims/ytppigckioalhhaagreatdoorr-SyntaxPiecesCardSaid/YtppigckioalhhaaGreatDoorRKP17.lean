/- THE TEXTS MERGED: SyEnv SyBegin. -/
import Derived.Test.YtppigckioalhhaaGreatDoorRKP1
import Derived.Test.YtppigckioalhhaaGreatDoorRKP6
import Derived.Test.YtppigckioalhhaaGreatDoorRKP16
import Derived.Test.YtppigckioalhhaaGreatDoorRKP9
import Derived.Test.YtppigckioalhhaaGreatDoorRKP2
namespace Go.Proofs.YtppigckioalhhaaGreatDoorR.Lx
set_option linter.unusedVariables false
theorem next_ok {x y:St} {t:Tok} (hb:∀ c∈x.s,c<256) (h:next x=(y,some t)):t.num<=2147483647/\(∀ c∈t.text,c<256)/\(∀ c∈t.sym,c<256)/\t.kind<=5/\t.vk<=2/\y.s.length<x.s.length/\(∀ c∈y.s,c<256)/\x.long=false/\y.long=false:=by
 unfold next at h
 split at h
 ·simp at h
 ·split at h
  ·simp at h
  ·rename_i hl
   have hl':x.long=false:=by simpa using hl
   split at h
   ·simp at h
   ·rename_i he
    split at h
    ·simp at h
    ·rename_i wd hw
     have hbs:∀ c∈x.skip.s,c<256:=fun c hc=>hb c (List.mem_of_mem_drop hc)
     obtain ⟨h1,h2,h3,h4,h5,h6⟩:=word_len hbs he hw
     simp only [Prod.mk.injEq,Option.some.injEq] at h
     obtain ⟨rfl,rfl⟩:=h
     have hsk:x.skip.s.length<=x.s.length:=by unfold St.skip;simp
     refine ⟨h4,fun c hc=>hbs c (List.mem_of_mem_take hc),h3,h5,h6,?_,fun c hc=>hbs c (List.mem_of_mem_drop hc),hl',hl'⟩
     simp only [List.length_drop];omega
structure TokOk (t:Tok):Prop where
 num:t.num<=2147483647
 byte:∀ c∈t.text,c<256
 sym:∀ c∈t.sym,c<256
 kind:t.kind<=5
 vk:t.vk<=2
theorem all_ok:∀ (k:Nat) (x:St),(∀ c∈x.s,c<256)->(∀ t∈(allF k x).1,TokOk t)/\(allF k x).1.length<=x.s.length/\((allF k x).1≠[]->x.long=false)
 | 0,x,hb=>⟨by simp [allF],by simp [allF],by simp [allF]⟩
 | k+1,x,hb=>by
  rw [allF]
  cases hn:next x with
  | mk y o =>
   cases o with
   | none=>exact ⟨by simp,by simp,by simp⟩
   | some t =>
    obtain ⟨h1,h2,h3,h4,h5,h6,h7,h8,h9⟩:=next_ok hb hn
    obtain ⟨g1,g2,g3⟩:=all_ok k y h7
    refine ⟨fun u hu=>?_,by simp only [List.length_cons];omega,fun _=>h8⟩
    rcases List.mem_cons.1 hu with rfl | hu
    ·exact ⟨h1,h2,h3,h4,h5⟩
    ·exact g1 u hu
end Go.Proofs.YtppigckioalhhaaGreatDoorR.Lx
namespace Go.Proofs.YtppigckioalhhaaGreatDoorR.Sy
theorem env_toks (s:List Nat) (hb:∀ c∈s,c<256):(∀ t∈(envOf s).ws,Lx.TokOk t)/\(envOf s).ws.length<=65536:=by
 obtain ⟨h1,h2,h3⟩:=Lx.all_ok (s.length+1) (Lx.start s) hb
 refine ⟨h1,?_⟩
 show (Lx.allF (s.length+1) (Lx.start s)).1.length<=65536
 by_cases h:(Lx.allF (s.length+1) (Lx.start s)).1=[]
 ·rw [h];simp
 ·have:=h3 h
  simp only [Lx.start,decide_eq_false_iff_not] at this
  have h4:(Lx.start s).s.length=s.length:=rfl
  omega
end Go.Proofs.YtppigckioalhhaaGreatDoorR.Sy
namespace Go.Proofs.YtppigckioalhhaaGreatDoorR
open Go.RowKit
set_option linter.unusedVariables false
set_option linter.unusedSimpArgs false
set_option maxRecDepth 100000
/-- how many bytes stand behind a text's last line's end -/
def tailN (l:List Nat):Nat:=(l.reverse.takeWhile (fun c=>!(c == 10))).length
theorem tw_all {p:Nat->Bool}:∀ {l:List Nat},(∀ c∈l,p c=true)->l.takeWhile p=l
 | [],_=>rfl
 | c :: t,h=>by rw [List.takeWhile_cons,if_pos (h c (by simp)),tw_all (fun d hd=>h d (by simp [hd]))]
theorem tailN_none {l:List Nat} (h:10∉l):tailN l=l.length:=by
 unfold tailN
 rw [tw_all,List.length_reverse]
 intro c hc
 rw [List.mem_reverse] at hc
 simp
 rintro rfl
 exact h hc
theorem tailN_hit (l:List Nat) (k:Nat) (hk:k<l.length) (h1:l[k]=10) (h2:10∉l.drop (k+1)):tailN l=l.length - 1 - k:=by
 have e:l=l.take k++(10 :: l.drop (k+1)):=by
  rw [<-h1,<-List.drop_eq_getElem_cons hk,List.take_append_drop]
 unfold tailN
 have e2:l.reverse=(l.drop (k+1)).reverse++(10 :: (l.take k).reverse):=by
  conv=>lhs;rw [e]
  simp
 rw [e2,List.takeWhile_append]
 have h3:((l.drop (k+1)).reverse.takeWhile (fun c=>!(c == 10)))=(l.drop (k+1)).reverse:=by
  refine tw_all fun c hc=>?_
  rw [List.mem_reverse] at hc
  simp
  rintro rfl
  exact h2 hc
 rw [h3,if_pos rfl]
 simp
 omega
set_option maxHeartbeats 1000000 in
theorem lastByteS_any (s:ByteArray) (hs:s.size<=140737488355328) (w:World) :
  Calls Tryz.prog 127 #[.string s,.int .u8 10] w fun e w'=>e=.returned (.int .i64 ((s.size:Int) - 1 - (tailN (Cod.str s):Nat)))/\w'=w:=by
 go_enter Tryz.func127,Tryz.ntmps127
 go_wp2_with fail
 go_loopw [5] (fun iv wr=>∃ m:Int,-1<=m/\m<s.size/\iv=.int .i64 m/\10∉(Cod.str s).drop (m+1).toNat/\wr=w) (fun iv _=>(intOf iv+1).toNat)
 case atStart=>exact ⟨_,by omega,by omega,rfl,by rw [List.drop_eq_nil_of_le (by rw [Cod.str_len];omega)];simp,rfl⟩
 case round =>
  obtain ⟨m,h1,h2,rfl,h3,rfl⟩:=hrel
  by_cases h0:0<=m
  ·obtain ⟨k,rfl⟩:∃ k:Nat,m=k:=⟨m.toNat,by omega⟩
   have hk:k<s.size:=by omega
   have hk2:k<(Cod.str s).length:=by rw [Cod.str_len];exact hk
   have hge:(k:Int) ≥ 0:=h0
   have hy0:s[k].toNat=(Cod.str s)[k]:=by
    have:=Lx.get_str s k hk
    rw [List.getD_eq_getElem?_getD,List.getElem?_eq_getElem hk2] at this
    exact this.symm
   have e3:(Cod.str s).drop k=(Cod.str s)[k] :: (Cod.str s).drop (k+1):=List.drop_eq_getElem_cons hk2
   rw [show ((k:Int)+1).toNat=k+1 by omega] at h3
   by_cases hy:(Cod.str s)[k]=10
   ·have hyb:((s[k].toNat:Int) == 10)=true:=by rw [beq_iff_eq,hy0,hy];rfl
    have ht:=Hxq (tailN_hit (Cod.str s) k hk2 hy h3)
    clear h3 e3 hy hy0
    go_wp2_with fail
    go_ret
    have e:(s.size:Int) - 1 - ((tailN (Cod.str s):Nat):Int)=k:=by rw [ht.out,Cod.str_len];omega
    exact ⟨by rw [e];rfl,rfl⟩
   ·have hyb:((s[k].toNat:Int) == 10)=false:=by rw [beq_eq_false_iff_ne,hy0];omega
    have HT:Hid (10∉(Cod.str s).drop k):=Hxq (by rw [e3];simp only [List.mem_cons,not_or];exact ⟨fun e=>hy e.symm,h3⟩)
    clear h3 e3 hy hy0
    go_wp2_with fail
    go_roundw
    case rel=>exact ⟨(k:Int) - 1,by omega,by omega,by go_num,by rw [show ((k:Int) - 1+1).toNat=k by omega];exact HT.out,trivial⟩
    case measure=>simp [intOf]
  ·obtain rfl:m=-1:=by omega
   have ht:=Hxq (tailN_none (l:=Cod.str s) (by simpa using h3))
   clear h3
   go_wp2_with fail
   go_ret
   have e:(s.size:Int) - 1 - ((tailN (Cod.str s):Nat):Int)=-1:=by rw [ht.out,Cod.str_len];omega
   exact ⟨by rw [e];rfl,rfl⟩
theorem lastByte_any (s:ByteArray) (hs:s.size<=140737488355328) (w:World) :
  Calls Tryz.prog 101 #[.string s,.int .u8 10] w fun e w'=>e=.returned (.int .i64 ((s.size:Int) - 1 - (tailN (Cod.str s):Nat)))/\w'=w:=by
 go_enter Tryz.func101,Tryz.ntmps101
 go_wp2_with fail
 refine (lastByteS_any s hs w).mono ?_
 rintro e1 w1 ⟨rfl,rfl⟩
 go_wp2_with fail
 go_ret
 exact ⟨rfl,rfl⟩
/-- the loop over all words: what it holds -/
structure BLoop (l:List Nat) (w wr:World) (p b:Nat) (va:Option Addr) (vc:Nat) (acc:List Lx.Tok) (x:Lx.St) (k gk:Nat) (s':ByteArray):Prop where
 box:wr.heap[p]?=some (.cells #[.slice va acc.length vc,.int .i64 0,.int .i64 0,.int .i64 0,.int .i64 0,.nilFunc] 128 (0,0))
 row:TokRow wr (w.heap.size+1) (.slice va acc.length vc) acc
 sc:ScIs wr b s' x
 pb:p≠b
 pv:p∉fp (.slice va acc.length vc)
 bv:b∉fp (.slice va acc.length vc)
 all:Lx.given l=(acc++(Lx.allF k x).1,(Lx.allF k x).2)
 lim:x.s.length+1<=k/\x.s.length+1<=gk/\acc.length+x.s.length<=l.length/\x.long=decide (65536<l.length)
 byte:∀ c∈x.s,c<256
 mod:Mod [] w wr
/-- a word more -/
theorem BLoop.grow {l:List Nat} {w W w5:World} {b:Nat} {va va5:Option Addr} {vc vc5:Nat} {acc:List Lx.Tok} {t:Lx.Tok} {y:Lx.St} {k gk:Nat} {s4:ByteArray}
  (hx:W.heap[w.heap.size]?=some (.cells #[.slice va acc.length vc,.int .i64 0,.int .i64 0,.int .i64 0,.int .i64 0,.nilFunc] 128 (0,0))) (hr:TokRow W (w.heap.size+1) (.slice va acc.length vc) acc) (hs:ScIs W b s4 y)
  (pb:w.heap.size≠b) (pv:w.heap.size∉fp (.slice va acc.length vc)) (bv:b∉fp (.slice va acc.length vc)) (hm:Mod [] w W)
  (hown:w5.ownsRow 0 74 7 (.slice va5 (acc.length+1) vc5) (acc.length+1) (tokCells acc++(tokC t).toList)) (hm5:Mod (fp (.slice va acc.length vc)) W w5)
  (hf:∀ k∈fp (.slice va5 (acc.length+1) vc5),k∈fp (.slice va acc.length vc)\/W.heap.size<=k)
  (hall:Lx.given l=((acc++[t])++(Lx.allF k y).1,(Lx.allF k y).2))
  (hlim:(y.s.length+1<=k/\y.s.length+1<=gk/\(acc++[t]).length+y.s.length<=l.length/\y.long=decide (65536<l.length))/\∀ c∈y.s,c<256) :
  BLoop l w (w5.setCell ⟨w.heap.size,0,none⟩ (.slice va5 (acc.length+1) vc5)) w.heap.size b va5 vc5 (acc++[t]) y k gk s4:=by
 have e1:(acc++[t]).length=acc.length+1:=by simp
 have hcl:tokCells acc++(tokC t).toList=tokCells (acc++[t]):=by rw [tokCells_append];simp [tokCells]
 have hsz:=hm.size
 have hbl:=hs.lt
 have hxl:=lt_of_block hx
 have hp5:w.heap.size∉fp (.slice va5 (acc.length+1) vc5):=fun hk=>by
  rcases hf _ hk with h | h
  ·exact pv h
  ·omega
 have hb5:b∉fp (.slice va5 (acc.length+1) vc5):=fun hk=>by
  rcases hf _ hk with h | h
  ·exact bv h
  ·omega
 have hm6:Mod [w.heap.size] w5 (w5.setCell ⟨w.heap.size,0,none⟩ (.slice va5 (acc.length+1) vc5)):=(Mod.refl [w.heap.size] w5).setCell (p:=⟨w.heap.size,0,none⟩) (.inl (by simp)) _
 refine ⟨?_,?_,?_,pb,by rw [e1];exact hp5,by rw [e1];exact hb5,hall,hlim.1,hlim.2,?_⟩
 ·have:=setCell_at (hm5.at hx pv) 0 (.slice va5 (acc.length+1) vc5)
  rw [this,e1]
  simp
 ·rw [e1]
  refine (TokRow.mk (w:=w5) (base:=w.heap.size+1) (v:=.slice va5 (acc.length+1) vc5) (l:=acc++[t]) (by rw [e1,<-hcl];exact hown) (fun k hk=>?_)).keep hm6 (fun k hk=>by simp;rintro rfl;exact hp5 hk)
  rcases hf _ hk with h | h
  ·exact hr.new k h
  ·omega
 ·exact (hs.keep hm5 bv).keep hm6 (by simp;omega)
 ·exact (hm.trans hm5 (fun k hk=>by have:=hr.new k hk;exact .inr (by omega))).trans hm6 (by simp)
theorem count_nl (s:ByteArray):Lib.countByte s.data.toList 10=(Cod.str s).count 10:=by
 have:∀ l:List UInt8,l.count 10=(l.map UInt8.toNat).count 10:=by
  intro l
  induction l with
  | nil=>rfl
  | cons c t ih =>
   rw [List.count_cons,List.map_cons,List.count_cons,ih]
   congr 1
   by_cases h:c=10
   ·subst h;rfl
   ·have h2:¬ c.toNat=10:=fun e=>h (by
     have:(10:UInt8).toNat=10:=rfl
     exact UInt8.toNat_inj.1 (e.trans this.symm))
    simp [h,h2]
 exact this s.data.toList
theorem nextC (r:Lx.St × Option Lx.Tok):nextV r.2=.tuple #[.agg (tokC (r.2.getD zeroT)),.bool r.2.isSome]:=nextV_eq r.2
set_option maxHeartbeats 4000000 in
theorem begin_any (s:ByteArray) (hs:s.size<=140737488355328) (w:World) (hG:Glob w) :
  Calls Tryz.prog 56 #[.string s] w fun e w'=>∃ b ra rc,e=.returned (.pointer (some ⟨b,0,none⟩))/\RdP w' b ra rc .nilFunc (Sy.envOf (Cod.str s)) 0/\w.heap.size<=b/\(∀ k∈fp (.slice ra (Sy.envOf (Cod.str s)).ws.length rc),w.heap.size<=k)/\Mod [] w w':=by
 obtain ⟨i0,hinf,hz0,hz1,hz2⟩:=info_parts Tryz.infoTok
 obtain ⟨l,hl⟩:∃ l,Cod.str s=l:=⟨_,rfl⟩
 have hlb:∀ c∈l,c<256:=by rw [<-hl];exact Cod.str_lt s
 have hsl:s.size=l.length:=by rw [<-hl,Cod.str_len]
 have hcn:Hid (Lib.countByte s.data.toList 10=l.count 10):=Hxq (by rw [count_nl,hl])
 have hlbt:=lastByte_any s hs
 rw [hl] at hlbt ⊢
 have HLB:=Lib.hid hlbt
 have HL:=Lib.hid hl
 clear hl hlbt
 have m0:=(Mod.refl [] w).alloc (Obj.cells #[Value.slice none 0 0,Value.int IntKind.i64 0,Value.int IntKind.i64 0,Value.int IntKind.i64 0,Value.int IntKind.i64 0,Value.nilFunc] 128)
 have e0:=heap_alloc_new w (Obj.cells #[Value.slice none 0 0,Value.int IntKind.i64 0,Value.int IntKind.i64 0,Value.int IntKind.i64 0,Value.int IntKind.i64 0,Value.nilFunc] 128)
 go_enter Tryz.func56,Tryz.ntmps56
 go_wp2_with fail
 refine (Scan_any s hs _).mono ?_
 rintro e1 w1 ⟨b,rfl,h1,hb1,m1⟩
 rw [HL.out] at h1
 have hbw:w.heap.size<b:=by simp at hb1;omega
 have e1:=m1.at e0 (by simp)
 have M1:=m0.trans m1 (by simp)
 have hw3:=hG.size
 have hb3:4<=b:=by omega
 have hB0:BLoop l w w1 w.heap.size b none 0 [] (Lx.start l) (l.length+1) (l.length+1) s:=⟨e1,TokRow.nil _ _,h1,by omega,by simp [fp],by simp [fp],by simp [Lx.given],⟨by simp [Lx.start],by simp [Lx.start],by simp [Lx.start],rfl⟩,hlb,M1⟩
 have HB0:=Lib.hid hB0
 clear hB0 e1 M1 m1 m0 e0 h1 hb1
 go_wp2_with fail
 go_loopg [5,6] (l.length+1) (fun gk tv mv wr=>∃ (va:Option Addr) (vc k:Nat) (acc:List Lx.Tok) (x:Lx.St) (s':ByteArray),BLoop l w wr w.heap.size b va vc acc x k gk s')
 case atStart=>exact ⟨none,0,_,[],_,s,HB0.out⟩
 case round =>
  clear HB0
  obtain ⟨va,vc,k,acc,x,s',hT⟩:=hrel
  have hm:=hT.mod
  have hGr:=hG.past hm (by simp)
  obtain ⟨hl1,hl2,hl3,hl4⟩:=hT.lim
  obtain ⟨k',rfl⟩:∃ k',k=k'+1:=⟨k - 1,by omega⟩
  have hall:=hT.all
  rw [allF_succ] at hall
  have hnl:=fun (y:Lx.St) (u:Lx.Tok) (hy:Lx.next x=(y,some u))=>next_len hT.byte hy
  have hnb:=next_bytes hT.byte
  have HN:=Hxq (next_any b s' x wr hT.sc hGr hb3)
  have HT:=Lib.hid hT
  have HALL:=Lib.hid hall;have HNL:=Lib.hid hnl;have HNB:=Lib.hid hnb
  clear hT hall hnl hnb hGr hm
  go_wp2_with fail
  refine HN.out.mono ?_
  rintro e w4 ⟨rfl,s4,h4,hm4⟩
  have hbx4:=hm4.at HT.out.box (by simp;omega)
  have hrow4:=HT.out.row.keep hm4 (fun k hk=>by simp;rintro rfl;exact HT.out.bv hk)
  have hm4w:=HT.out.mod.trans hm4 (fun t ht=>.inr (by simp at ht;omega))
  rw [nextC]
  generalize hr:Lx.next x=r at *
  obtain ⟨y,o⟩:=r
  have HR:=Lib.hid hr
  clear hr HN
  have mA:=(Mod.refl [] w4).alloc (Obj.cells (tokC (o.getD zeroT)) 74)
  have eA:=heap_alloc_new w4 (Obj.cells (tokC (o.getD zeroT)) 74)
  have hszw:=hm4w.size
  have hlt4:=lt_of_block hbx4
  cases o with
  | none =>
   simp only [rest,List.append_nil] at HALL
   simp only [Option.getD,Option.isSome] at *
   generalize zeroT=u at *
   unfold tokC at *
   have hF:=Fault_any b s4 y _ (h4.past mA (by simp))
   unfold faultV at hF
   have HF:=Lib.hid hF;have HA:=Lib.hid mA;have HX:=Hxq (mA.at hbx4 (by simp));have HW:=Hxq (hrow4.past mA (by simp));have HM:=Hxq (hm4w.trans mA (by simp))
   clear hF mA eA hbx4 hrow4 hm4w h4 hm4
   go_wp2_with fail
   refine HF.out.mono ?_
   rintro e5 w5 ⟨rfl,m5⟩
   have X5:=Hxq (m5.at HX.out (by simp));have W5:=Hxq (HW.out.past m5 (by simp));have M5:=Hxq (HM.out.trans m5 (by simp))
   have c2:=cell_at X5.out 2;have c3:=cell_at X5.out 3;have c4:=cell_at X5.out 4
   simp only [List.getElem?_toArray,List.getElem?_cons_zero,List.getElem?_cons_succ] at c2 c3 c4
   have f2:=free_at X5.out 2;have f3:=free_at X5.out 3;have f4:=free_at X5.out 4
   clear m5 HF HA HX HW HM
   go_upto_region 7 with fail
   generalize hwS:World.setCell (World.setCell (World.setCell w5 _ _) _ _) _ _=wS at *
   have hS:wS.heap[w.heap.size]?=some (.cells #[.slice va acc.length vc,.int .i64 0,.int .i64 (y.code:Nat),.int .i64 (y.fp.1:Nat),.int .i64 (y.fp.2:Nat),.nilFunc] 128 (0,0)):=by
    rw [<-hwS];exact setCs_heap [.int .i64 (y.code:Nat),.int .i64 (y.fp.1:Nat),.int .i64 (y.fp.2:Nat)] 2 [.slice va acc.length vc,.int .i64 0,.int .i64 0,.int .i64 0,.int .i64 0,.nilFunc] w5 X5.out
   have mS:Mod [w.heap.size] w5 wS:=by
    rw [<-hwS];exact setCs_mod w.heap.size [.int .i64 (y.code:Nat),.int .i64 (y.fp.1:Nat),.int .i64 (y.fp.2:Nat)] 2 w5
   have hpv:∀ k∈fp (.slice va acc.length vc),k∉[w.heap.size]:=fun k hk=>by simp;rintro rfl;exact HT.out.pv hk
   have WS:=Hxq (W5.out.keep mS hpv);have MS:=Hxq (M5.out.trans mS (by simp));have XS:=Lib.hid hS
   clear hwS mS W5 M5 X5 c2 c3 c4 f2 f3 f4 hS
   have c2:=cell_at XS.out 2;have c3:=cell_at XS.out 3;have c4:=cell_at XS.out 4
   simp only [List.getElem?_toArray,List.getElem?_cons_zero,List.getElem?_cons_succ] at c2 c3 c4
   have f2:=free_at XS.out 2;have f3:=free_at XS.out 3;have f4:=free_at XS.out 4
   have hws:(Sy.envOf l).ws=acc:=by unfold Sy.envOf;rw [HALL.out]
   have hnewk:∀ k∈fp (.slice va acc.length vc),w.heap.size<=k:=fun k hk=>by have:=WS.out.new k hk;omega
   by_cases hc:y.code=0
   ·have hcB:((y.code:Int) == 0)=true:=by rw [hc];rfl
    have hla:(Sy.envOf l).last=(42,1+l.count 10,1+tailN l):=by unfold Sy.envOf;rw [HALL.out];simp only;rw [if_pos hc];rfl
    have HLA:=Lib.hid hla;have HWS:=Lib.hid hws;have HNK:=Lib.hid hnewk;have HPV:=Lib.hid hpv
    have hbd:l.count 10<=l.length:=List.count_le_length
    have htl:tailN l<=l.length:=by
     unfold tailN
     have:=(List.takeWhile_sublist (l:=l.reverse) (fun c=>!(c == 10))).length_le
     simpa using this
    clear hla hws hnewk hpv hc
    go_wp2_with fail
    refine (Tryz.strings_Count_one s 10 wS).mono ?_
    rintro e6 w6 ⟨rfl,rfl⟩
    rw [hcn.out]
    go_wp2_with fail
    refine (HLB.out _).mono ?_
    rintro e7 w7 ⟨rfl,rfl⟩
    go_wp2_with fail
    go_ret
    have hvI:((1+l.count 10:Nat):Int)=(l.count 10:Int)+1:=by omega
    have hvJ:((1+tailN l:Nat):Int)=(l.length:Int) - ((l.length:Int) - 1 - (tailN l:Int)):=by omega
    have mS2:=setCs_mod w.heap.size [.int .i64 42,.int .i64 ((l.count 10:Int)+1),.int .i64 ((l.length:Int) - ((l.length:Int) - 1 - (tailN l:Int)))] 2 w7
    refine ⟨_,va,vc,rfl,⟨?_,?_,?_⟩,Nat.le_refl _,?_,MS.out.trans mS2 (by simp)⟩
    ·rw [HLA.out,HWS.out]
     simp only
     rw [hvI,hvJ]
     exact setCs_heap [.int .i64 42,.int .i64 ((l.count 10:Int)+1),.int .i64 ((l.length:Int) - ((l.length:Int) - 1 - (tailN l:Int)))] 2 [.slice va acc.length vc,.int .i64 0,.int .i64 (y.code:Nat),.int .i64 (y.fp.1:Nat),.int .i64 (y.fp.2:Nat),.nilFunc] w7 XS.out
    ·rw [HWS.out];exact (WS.out.base (by omega)).keep mS2 HPV.out
    ·rw [HWS.out];exact HT.out.pv
    ·rw [HWS.out];exact HNK.out
   ·have hcB:((y.code:Int) == 0)=false:=by rw [beq_eq_false_iff_ne];omega
    have hla:(Sy.envOf l).last=(y.code,y.fp):=by unfold Sy.envOf;rw [HALL.out];simp only;rw [if_neg hc]
    have HLA:=Lib.hid hla;have HWS:=Lib.hid hws;have HNK:=Lib.hid hnewk
    clear hla hws hnewk
    go_wp2_with fail
    go_ret
    refine ⟨_,va,vc,rfl,⟨?_,?_,?_⟩,Nat.le_refl _,?_,MS.out⟩
    ·rw [HLA.out,HWS.out];exact XS.out
    ·rw [HWS.out];exact WS.out.base (by omega)
    ·rw [HWS.out];exact HT.out.pv
    ·rw [HWS.out];exact HNK.out
  | some t =>
   simp only [rest] at HALL
   simp only [Option.getD,Option.isSome] at *
   have hnl:=HNL.out y t rfl
   have hlong:l.length<=65536:=by
    have:=hnl.2.2.1
    rw [hl4] at this
    simpa using this
   have hXA:=mA.at hbx4 (by simp)
   have mB:=(Mod.refl [] (w4.alloc (Obj.cells (tokC t) 74))).alloc (Obj.cells (tokC t) 74)
   have mC:=mB.drew
   have hXB:=mC.at hXA (by simp)
   have hWB:=(hrow4.past mA (by simp)).past mC (by simp)
   have hSB:=(h4.past mA (by simp)).past mC (by simp)
   have hMB:=(hm4w.trans mA (by simp)).trans mC (by simp)
   have HS3:=Hxq (src_tok (drew_cells (heap_alloc_new (w4.alloc (Obj.cells (tokC t) 74)) (Obj.cells (tokC t) 74))))
   have HO3:=Lib.hid hWB.row
   have HXB:=Lib.hid hXB;have HWB:=Lib.hid hWB;have HSB:=Lib.hid hSB;have HMB:=Lib.hid hMB
   have hwA:=lt_of_block eA
   have q0:(w4.alloc (Obj.cells (tokC t) 74)).cell? ⟨w.heap.size,0,none⟩=some (.slice va acc.length vc):=cell_at hXA 0
   have q1:(w4.alloc (Obj.cells (tokC t) 74)).drew.cell? ⟨w.heap.size,0,none⟩=some (.slice va acc.length vc):=cell_at hXA 0
   have q2:=cell_at HXB.out 0
   simp only [List.getElem?_toArray,List.getElem?_cons_zero] at q2
   obtain ⟨t0,t1,t2,t3,t4,t5,t6⟩:=tok_cells eA
   have HNL2:=Lib.hid hnl
   have HF0:=Hxq (fun j=>free_at HXB.out j)
   clear mA mB mC eA hXA hXB hWB hSB hMB hbx4 hrow4 hm4w h4 hm4 hnl HNL
   unfold tokC at *
   go_upto_region 5 with fail
   generalize w4.alloc (Obj.cells _ 74)=wA at *
   go_region_law (refine step_append_src _ rfl _ _ 69 69 rfl 74 i0 (.agg (tokC zeroT)) 7 72 Tryz.underlying69 hinf hz0 hz1 hz2 rfl (.slice va acc.length vc) acc.length (tokCells acc) rfl HO3.out _ 1 _ rfl HS3.out (by unfold maxLen;omega) (by omega) ?_;intro v5 w5 hown5 hm5 hf5;obtain ⟨va5,vc5,rfl⟩:=owns_slice hown5;have q5:=hm5.cell (cell_at HXB.out 0) HT.out.pv;have f5:w5.frozen? ⟨w.heap.size,0,none⟩=false:=(World.frozen?_of_block (hm5.block _ (lt_of_block HXB.out) HT.out.pv)).trans (HF0.out 0);have HG5:=Hxq (fun gk h1 h2=>BLoop.grow (l:=l) (t:=t) (gk:=gk) (k:=k') HXB.out HWB.out HSB.out HT.out.pb HT.out.pv HT.out.bv HMB.out hown5 hm5 hf5 h1 h2);clear hown5 hm5 hf5)
   all_goals (
    go_wp2_with fail
    go_roundg (x.s.length)
    case measure=>omega
    case rel=>exact ⟨va5,vc5,k',acc++[t],y,s4,HG5.out _ (by rw [HALL.out];simp) ⟨⟨by have:=HNL2.out.1;omega,by have:=HNL2.out.1;omega,by have:=HNL2.out.1;simp;omega,by rw [HNL2.out.2.2.2];simp;omega⟩,HNB.out⟩⟩)
end Go.Proofs.YtppigckioalhhaaGreatDoorR
