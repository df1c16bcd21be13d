/- THE TEXTS MERGED: VaQuo VaText VaUnq. -/
import Derived.Test.YtcalbbfkgdfidaaDoorKV3
import Derived.Deep.RegionLaw
import Derived.Lib.LaidTab
namespace Go.Proofs.YtcalbbfkgdfidaaDoor
open Go.RowKit
set_option linter.unusedVariables false
set_option linter.unusedSimpArgs false
set_option maxRecDepth 100000
theorem src_lit {w:World} {b:Nat} {cs:Array Value} {l:List Nat} {T:TypeId} {fr:Nat × Nat} (h:w.heap[b]?=some (.cells cs T fr)) (hc:cs.toList=toCells l) :
  Src Tryd.prog 1 51 (.slice (some ⟨b,0,none⟩) l.length l.length) l.length (toCells l) w:=by
 refine Src.ofSlice w Tryd.underlying51 ⟨b,0,none⟩ _ _ _ (by rw [toCells_len,Nat.mul_one]) (fun j u hu=>?_) (toCells_one l)
 rw [addr_add,Nat.zero_add,<-hc] at *
 simp [World.cell?,h]
 rw [<-Array.getElem?_toList];exact hu
/-- the loop over a symbol's bytes: what it holds -/
structure QL (w wr:World) (s:ByteArray) (bb:Nat) (va:Option Addr) (vc:Nat) (acc:List Nat) (k:Nat):Prop where
 row:wr.ownsRow 0 5 1 (.slice va acc.length vc) acc.length (toCells acc)
 new:∀ b∈fp (.slice va acc.length vc),w.heap.size<=b/\b≠bb
 byt:∀ j,j<s.size->wr.cell? ⟨bb,j,none⟩=some (.int .u8 ((Cod.str s).getD j 0:Nat))
 bbl:bb<wr.heap.size
 val:acc=34 :: ((Cod.str s).take k).flatMap Va.qb
 mod:Mod [] w wr
theorem qb_len (c:Nat):(Va.qb c).length<=4:=by
 unfold Va.qb
 split
 ·simp
 ·split
  ·simp
  ·split <;> simp
theorem qb_lt {c:Nat} (hc:c<256):∀ x∈Va.qb c,x<256:=by
 have:∀ c:Fin 256,∀ x∈Va.qb c.val,x<256:=by decide +kernel
 exact this ⟨c,hc⟩
theorem digit_at (a:Nat) (ha:a<16) (h:a<({ data:=#[48,49,50,51,52,53,54,55,56,57,65,66,67,68,69,70] }:ByteArray).size):(({ data:=#[48,49,50,51,52,53,54,55,56,57,65,66,67,68,69,70] }:ByteArray)[a]'h).toNat=Va.hexd a:=by
 have:∀ m:Fin 16,∀ h:m.val<({ data:=#[48,49,50,51,52,53,54,55,56,57,65,66,67,68,69,70] }:ByteArray).size,(({ data:=#[48,49,50,51,52,53,54,55,56,57,65,66,67,68,69,70] }:ByteArray)[m.val]'h).toNat=Va.hexd m.val:=by decide
 exact this ⟨a,ha⟩ h
theorem and15 (c:Nat) (hc:c<256):bits BinOp.and IntKind.u8 (c:Int) 15=((c % 16:Nat):Int):=by
 have:∀ c:Fin 256,bits BinOp.and IntKind.u8 (c.1:Int) 15=((c.1 % 16:Nat):Int):=by decide +kernel
 exact this ⟨c,hc⟩
section
variable {P:Program} (w:World)
theorem step_append_src {ops:Array Oper} {o:Oper} {a:Act} {K:Act->World->Prop} {Q:Exit->Act->World->Prop} {E:Prop} (hgd:o.guard=none) (s x:Operand) (t tx:TypeId)
  (ho:o.op=.call { callee:=.builtin .append,args:=#[s,x],argTypes:=#[t,tx] })
  (e:TypeId) (i:TypeInfo) (z:Value) (size bytes:Nat) (ht:P.underlying t=some (.slice e)) (hi:P.info? e=some i) (hz:i.zero=some z)
  (hsize:i.size=size) (hby:i.bytes=bytes) (hzs:z.cells.size=size)
  (v:Value) (n:Nat) (xs:List Value) (hs:a.eval s=v) (hown:w.ownsRow 0 e size v n xs)
  (vx:Value) (m:Nat) (news:List Value) (hx:a.eval x=vx) (hsrc:Src P size tx vx m news w)
  (h63:n+m<=maxLen) (hbytes:(n+m) * bytes<=140737488355328)
  (h:∀ v' w',w'.ownsRow 0 e size v' (n+m) (xs++news)->Mod (fp v) w w'->(∀ k∈fp v',k∈fp v\/w.heap.size<=k)->K (a.put o.dst v') w') :
  if Region.wanted o (yielded ops a.tmps)=true then Oper.wp P o a w K Q else E:=by
 have hw:Region.wanted o (yielded ops a.tmps)=true:=by simp [Region.wanted,hgd]
 rw [if_pos hw]
 obtain ⟨v',w',hr,h2,h3,h4,h5⟩:=run_append_own_src (P:=P) w t tx o.type e i z size bytes ht hi hz hsize hby hzs v n xs hown vx m news hsrc h63 hbytes
 unfold Oper.wp execOp
 simp only [ho,resolve,invoke,builtin,Sem.run_bind,Sem.run_pure,Result.andThen_ok,List.map_toArray,List.map_cons,List.map_nil,hs,hx,hr]
 exact h v' w' h2 h3 h4
end
theorem flat_len:∀ l:List Nat,(l.flatMap Va.qb).length<=4 * l.length
 | []=>by simp
 | c :: r=>by
  have:=flat_len r
  have:=qb_len c
  rw [List.flatMap_cons,List.length_append,List.length_cons]
  omega
theorem QL.le {w wr:World} {s:ByteArray} {bb:Nat} {va:Option Addr} {vc:Nat} {acc:List Nat} {k:Nat} (h:QL w wr s bb va vc acc k) (hk:k<=s.size):acc.length<=1+4 * s.size:=by
 rw [h.val,List.length_cons]
 have:=flat_len ((Cod.str s).take k)
 rw [List.length_take,Cod.str_len] at this
 omega
theorem QL.step {w wr:World} {s:ByteArray} {bb:Nat} {va:Option Addr} {vc:Nat} {acc:List Nat} {k:Nat} (h:QL w wr s bb va vc acc k) (hk:k<s.size) {l:List Nat} (hl:Va.qb ((Cod.str s).getD k 0)=l) {w1 w3:World} {v':Value}
  (h1:Mod [] wr w1) (hown:w3.ownsRow 0 5 1 v' (acc.length+l.length) (toCells acc++toCells l)) (hm:Mod (fp (.slice va acc.length vc)) w1 w3) (hf:∀ b∈fp v',b∈fp (.slice va acc.length vc)\/wr.heap.size<=b) :
  ∃ va' vc',v'=.slice va' (acc++l).length vc'/\QL w w3 s bb va' vc' (acc++l) (k+1):=by
 obtain ⟨va',vc',rfl⟩:=owns_slice hown
 rw [<-List.length_append,<-toCells_append] at hown
 have hsz:=h1.size
 have hsz3:=hm.size
 have hszw:=h.mod.size
 have hbl:=h.bbl
 refine ⟨va',vc',by rw [List.length_append],hown,fun b hb=>?_,fun j hj=>?_,by omega,?_,?_⟩
 ·have hb':=hb
  rw [List.length_append] at hb'
  rcases hf b hb' with q | q
  ·exact h.new b q
  ·exact ⟨by omega,by omega⟩
 ·refine hm.cell (h1.cell (h.byt j hj) (by simp)) (fun hb=>(h.new _ hb).2 rfl)
 ·rw [h.val,take_snoc _ 0 _ (by rw [Cod.str_len];exact hk),List.flatMap_append,List.cons_append]
  simp only [List.flatMap_cons,List.flatMap_nil,List.append_nil,hl]
 ·exact (h.mod.trans h1 (by simp)).trans hm (fun t ht=>.inr (h.new t ht).1)
set_option maxHeartbeats 4000000 in
theorem quoted_any (s:ByteArray) (hs:s.size<=1000) (w:World) :
  Calls Tryd.prog 48 #[.string s] w fun e w'=>e=.returned (.string (Lx.ofS (Va.quoted (Cod.str s))))/\Mod [] w w':=by
 obtain ⟨i0,hinf,hz0,hz1,hz2⟩:=info_parts Tryd.infoU8
 have hcv:=fun w s=>run_bytes_of_string (P:=Tryd.prog) w 9 51 5 s Tryd.underlying9 Tryd.underlying51 Tryd.underlying5
 go_enter Tryd.func48,Tryd.ntmps48
 go_wp2_with fail
 have hQ0:QL w (((w.alloc (Obj.cells #[Value.int IntKind.u8 34] 5)).alloc (Obj.cells (bytesRow s (grownCap (w.alloc (Obj.cells #[Value.int IntKind.u8 34] 5)) s.size 0 5)) 5 ((bytesRow s (grownCap (w.alloc (Obj.cells #[Value.int IntKind.u8 34] 5)) s.size 0 5)).size,(bytesRow s (grownCap (w.alloc (Obj.cells #[Value.int IntKind.u8 34] 5)) s.size 0 5)).size+1))).drew) s (w.heap.size+1) (some ⟨w.heap.size,0,none⟩) 1 [34] 0:=by
  have hmA:Mod [] w (w.alloc (Obj.cells #[Value.int IntKind.u8 34] 5)):=(Mod.refl [] w).alloc _
  have hmB:Mod [] (w.alloc (Obj.cells #[Value.int IntKind.u8 34] 5)) (((w.alloc (Obj.cells #[Value.int IntKind.u8 34] 5)).alloc (Obj.cells (bytesRow s (grownCap (w.alloc (Obj.cells #[Value.int IntKind.u8 34] 5)) s.size 0 5)) 5 ((bytesRow s (grownCap (w.alloc (Obj.cells #[Value.int IntKind.u8 34] 5)) s.size 0 5)).size,(bytesRow s (grownCap (w.alloc (Obj.cells #[Value.int IntKind.u8 34] 5)) s.size 0 5)).size+1))).drew):=((Mod.refl [] _).alloc _).drew
  refine ⟨⟨rfl,.inr ⟨w.heap.size,1,#[.int .u8 34],rfl,Nat.zero_le _,hmB.at (heap_alloc_new w _) (by simp),Nat.le_refl _,by unfold maxLen;omega,rfl,rfl⟩⟩,fun b hb=>?_,fun j hj=>?_,?_,rfl,hmA.trans hmB (by simp)⟩
  ·simp [fp] at hb;omega
  ·have:=bytes_read (w.alloc (Obj.cells #[Value.int IntKind.u8 34] 5)) s (grownCap (w.alloc (Obj.cells #[Value.int IntKind.u8 34] 5)) s.size 0 5) ((bytesRow s (grownCap (w.alloc (Obj.cells #[Value.int IntKind.u8 34] 5)) s.size 0 5)).size,(bytesRow s (grownCap (w.alloc (Obj.cells #[Value.int IntKind.u8 34] 5)) s.size 0 5)).size+1) j hj
   simpa using this
  ·show w.heap.size+1<((w.alloc _).alloc _).heap.size
   simp
 have HQ0:=Lib.hid hQ0
 clear hQ0 hcv
 generalize (((w.alloc (Obj.cells #[Value.int IntKind.u8 34] 5)).alloc (Obj.cells (bytesRow s (grownCap (w.alloc (Obj.cells #[Value.int IntKind.u8 34] 5)) s.size 0 5)) 5 ((bytesRow s (grownCap (w.alloc (Obj.cells #[Value.int IntKind.u8 34] 5)) s.size 0 5)).size,(bytesRow s (grownCap (w.alloc (Obj.cells #[Value.int IntKind.u8 34] 5)) s.size 0 5)).size+1))).drew)=wL at *
 generalize grownCap (w.alloc (Obj.cells #[Value.int IntKind.u8 34] 5)) s.size 0 5=cap at *
 have hlb:=Cod.str_lt s
 have hll:=Cod.str_len s
 have HLB:=Lib.hid hlb;have HLL:=Lib.hid hll
 clear hlb hll
 go_loopw [3,10] (fun vv iv wr=>∃ (acc:List Nat) (va:Option Addr) (vc k:Nat),k<=s.size/\vv=.slice va acc.length vc/\iv=.int .i64 (k:Nat)/\QL w wr s (w.heap.size+1) va vc acc k) (fun _ iv _=>s.size - (intOf iv).toNat)
 case atStart=>exact ⟨[34],_,_,0,Nat.zero_le _,rfl,rfl,HQ0.out⟩
 case round =>
  obtain ⟨acc,va,vc,k,hk,rfl,rfl,hQ⟩:=hrel
  have hal:=hQ.le hk
  have HQ:=Lib.hid hQ
  by_cases hlt:k<s.size
  ·have hkI:(k:Int)<(s.size:Int):=by omega
   have hk0:(0:Int)<=(k:Int):=by omega
   have hby:=hQ.byt k hlt
   have hc:=getD_lt' HLB.out k
   have HQB:Hid (∀ l,Va.qb ((Cod.str s).getD k 0)=l->Va.qb ((Cod.str s).getD k 0)=l):=Hxq (fun l h=>h)
   clear hQ HQB
   have hqb:Va.qb ((Cod.str s).getD k 0)=Va.qb ((Cod.str s).getD k 0):=rfl
   generalize hcd:(Cod.str s).getD k 0=c at hby hc
   by_cases c34:c=34
   ·have e1:((c:Int) == 34)=true:=by rw [beq_iff_eq];omega
    have HQB:Hid (Va.qb ((Cod.str s).getD k 0)=[92,c]):=Hxq (by rw [hcd];unfold Va.qb;rw [if_pos (by omega)])
    clear c34 hcd hqb
    have hsrc:=src_lit (l:=[92,c]) (heap_alloc_new wr (Obj.cells #[Value.int IntKind.u8 92,Value.int IntKind.u8 (c:Int)] 5)) rfl
    have h1:Mod [] wr (wr.alloc (Obj.cells #[Value.int IntKind.u8 92,Value.int IntKind.u8 (c:Int)] 5)):=(Mod.refl [] wr).alloc _
    have HSRC:=Lib.hid hsrc;have H1:=Lib.hid h1
    clear hsrc h1
    go_wp2_with (at_builtin;refine wpList_append_src _ rfl _ _ 51 51 rfl 5 i0 (.int .u8 0) 1 1 Tryd.underlying51 hinf hz0 hz1 hz2 rfl (.slice va acc.length vc) acc.length (toCells acc) rfl (HQ.out.row.alloc _) _ 2 (toCells [92,c]) rfl HSRC.out (by unfold maxLen;omega) (by omega) ?_)
    intro v' w3 hown3 hm3 hf3 hn3
    obtain ⟨va3,vc3,rfl,hQ3⟩:=HQ.out.step hlt HQB.out H1.out hown3 hm3 (fun b hb=>(hf3 b hb).imp id (fun h=>by first | omega | (simp at h;omega)))
    have HQ3:=Lib.hid hQ3
    clear hown3 hm3 hf3 hn3 hQ3
    go_wp2_with fail
    go_roundw
    case rel=>exact ⟨_,va3,vc3,k+1,by omega,rfl,by go_num,HQ3.out⟩
    case measure=>simp [intOf];omega
   ·have e1:((c:Int) == 34)=false:=by rw [beq_eq_false_iff_ne];omega
    by_cases c92:c=92
    ·have e2:((c:Int) == 92)=true:=by rw [beq_iff_eq];omega
     have HQB:Hid (Va.qb ((Cod.str s).getD k 0)=[92,c]):=Hxq (by rw [hcd];unfold Va.qb;rw [if_pos (by omega)])
     clear c34 c92 hcd hqb
     have hsrc:=src_lit (l:=[92,c]) (heap_alloc_new wr (Obj.cells #[Value.int IntKind.u8 92,Value.int IntKind.u8 (c:Int)] 5)) rfl
     have h1:Mod [] wr (wr.alloc (Obj.cells #[Value.int IntKind.u8 92,Value.int IntKind.u8 (c:Int)] 5)):=(Mod.refl [] wr).alloc _
     have HSRC:=Lib.hid hsrc;have H1:=Lib.hid h1
     clear hsrc h1
     go_wp2_with (at_builtin;refine wpList_append_src _ rfl _ _ 51 51 rfl 5 i0 (.int .u8 0) 1 1 Tryd.underlying51 hinf hz0 hz1 hz2 rfl (.slice va acc.length vc) acc.length (toCells acc) rfl (HQ.out.row.alloc _) _ 2 (toCells [92,c]) rfl HSRC.out (by unfold maxLen;omega) (by omega) ?_)
     intro v' w3 hown3 hm3 hf3 hn3
     obtain ⟨va3,vc3,rfl,hQ3⟩:=HQ.out.step hlt HQB.out H1.out hown3 hm3 (fun b hb=>(hf3 b hb).imp id (fun h=>by first | omega | (simp at h;omega)))
     have HQ3:=Lib.hid hQ3
     clear hown3 hm3 hf3 hn3 hQ3
     go_wp2_with fail
     go_roundw
     case rel=>exact ⟨_,va3,vc3,k+1,by omega,rfl,by go_num,HQ3.out⟩
     case measure=>simp [intOf];omega
    ·have e2:((c:Int) == 92)=false:=by rw [beq_eq_false_iff_ne];omega
     by_cases c10:c=10
     ·have e3:((c:Int) == 10)=true:=by rw [beq_iff_eq];omega
      have HQB:Hid (Va.qb ((Cod.str s).getD k 0)=[92,110]):=Hxq (by rw [hcd];unfold Va.qb;rw [if_neg (by omega),if_pos c10])
      clear c34 c92 c10 hcd hqb
      have hsrc:=src_lit (l:=[92,110]) (heap_alloc_new wr (Obj.cells #[Value.int IntKind.u8 92,Value.int IntKind.u8 110] 5)) rfl
      have h1:Mod [] wr (wr.alloc (Obj.cells #[Value.int IntKind.u8 92,Value.int IntKind.u8 110] 5)):=(Mod.refl [] wr).alloc _
      have HSRC:=Lib.hid hsrc;have H1:=Lib.hid h1
      clear hsrc h1
      go_wp2_with (at_builtin;refine wpList_append_src _ rfl _ _ 51 51 rfl 5 i0 (.int .u8 0) 1 1 Tryd.underlying51 hinf hz0 hz1 hz2 rfl (.slice va acc.length vc) acc.length (toCells acc) rfl (HQ.out.row.alloc _) _ 2 (toCells [92,110]) rfl HSRC.out (by unfold maxLen;omega) (by omega) ?_)
      intro v' w3 hown3 hm3 hf3 hn3
      obtain ⟨va3,vc3,rfl,hQ3⟩:=HQ.out.step hlt HQB.out H1.out hown3 hm3 (fun b hb=>(hf3 b hb).imp id (fun h=>by first | omega | (simp at h;omega)))
      have HQ3:=Lib.hid hQ3
      clear hown3 hm3 hf3 hn3 hQ3
      go_wp2_with fail
      go_roundw
      case rel=>exact ⟨_,va3,vc3,k+1,by omega,rfl,by go_num,HQ3.out⟩
      case measure=>simp [intOf];omega
     ·have e3:((c:Int) == 10)=false:=by rw [beq_eq_false_iff_ne];omega
      by_cases c32:c<32
      ·have e4:(c:Int)<32:=by omega
       have HQB:Hid (Va.qb ((Cod.str s).getD k 0)=[92,120,Va.hexd (c / 16),Va.hexd (c % 16)]):=Hxq (by rw [hcd];unfold Va.qb;rw [if_neg (by omega),if_neg (by omega),if_pos (by omega)])
       clear c34 c92 c10 hcd hqb
       go_wp2_with fail
       obtain ⟨a,ha⟩:∃ a:Nat,a=c / 16:=⟨_,rfl⟩
       obtain ⟨b,hb⟩:∃ b:Nat,b=c % 16:=⟨_,rfl⟩
       have hA:(c:Int) / 16=(a:Int):=by omega
       have hB:(c:Int) % 16=(b:Int):=by omega
       have ha1:(0:Int)<=(a:Int):=by omega
       have ha2:(a:Int)<16:=by omega
       have hb1:(0:Int)<=(b:Int):=by omega
       have hb2:(b:Int)<16:=by omega
       have hxa:∀ h,((({ data:=#[48,49,50,51,52,53,54,55,56,57,65,66,67,68,69,70] }:ByteArray)[a]'h).toNat:Nat)=Va.hexd a:=fun h=>digit_at a (by omega) h
       have hxb:∀ h,((({ data:=#[48,49,50,51,52,53,54,55,56,57,65,66,67,68,69,70] }:ByteArray)[b]'h).toNat:Nat)=Va.hexd b:=fun h=>digit_at b (by omega) h
       rw [<-ha,<-hb] at HQB
       have hsrc:=src_lit (l:=[92,120,Va.hexd a,Va.hexd b]) (drew_at (heap_alloc_new wr (Obj.cells #[Value.int IntKind.u8 92,Value.int IntKind.u8 120,Value.int IntKind.u8 (Va.hexd a:Nat),Value.int IntKind.u8 (Va.hexd b:Nat)] 5))) rfl
       have h1:Mod [] wr ((wr.alloc (Obj.cells #[Value.int IntKind.u8 92,Value.int IntKind.u8 120,Value.int IntKind.u8 (Va.hexd a:Nat),Value.int IntKind.u8 (Va.hexd b:Nat)] 5)).drew):=((Mod.refl [] wr).alloc _).drew
       have hrow:((wr.alloc (Obj.cells #[Value.int IntKind.u8 92,Value.int IntKind.u8 120,Value.int IntKind.u8 (Va.hexd a:Nat),Value.int IntKind.u8 (Va.hexd b:Nat)] 5)).drew).ownsRow 0 5 1 (.slice va acc.length vc) acc.length (toCells acc):=HQ.out.row.alloc _
       have HSRC:=Lib.hid hsrc;have H1:=Lib.hid h1;have HROW:=Lib.hid hrow
       have hB2:bits BinOp.and IntKind.u8 (c:Int) 15=(b:Int):=by rw [and15 c hc];omega
       clear hsrc h1 hrow ha hb
       go_region_law (refine step_append_src _ rfl _ _ 51 51 rfl 5 i0 (.int .u8 0) 1 1 Tryd.underlying51 hinf hz0 hz1 hz2 rfl (.slice va acc.length vc) acc.length (toCells acc) rfl HROW.out _ 4 (toCells [92,120,Va.hexd a,Va.hexd b]) rfl HSRC.out (by unfold maxLen;omega) (by omega) ?_;intro v' w3 hown3 hm3 hf3;obtain ⟨va3,vc3,rfl,hQ3⟩:=HQ.out.step hlt HQB.out H1.out hown3 hm3 (fun bq hbq=>(hf3 bq hbq).imp id (fun h=>Nat.le_trans (Nat.le_succ _) (by rw [show ((wr.alloc (Obj.cells #[Value.int IntKind.u8 92,Value.int IntKind.u8 120,Value.int IntKind.u8 (Va.hexd a:Nat),Value.int IntKind.u8 (Va.hexd b:Nat)] 5)).drew).heap.size=wr.heap.size+1 by simp] at h;exact h)));have HQ3:=Lib.hid hQ3;clear hown3 hm3 hf3 hQ3)
       all_goals (
        go_wp2_with fail
        go_roundw
        case rel=>exact ⟨_,va3,vc3,k+1,by omega,by simp,by go_num,HQ3.out⟩
        case measure=>simp [intOf];omega)
      ·have e4:¬ (c:Int)<32:=by omega
       by_cases c126:126<c
       ·have e5:126<(c:Int):=by omega
        have HQB:Hid (Va.qb ((Cod.str s).getD k 0)=[92,120,Va.hexd (c / 16),Va.hexd (c % 16)]):=Hxq (by rw [hcd];unfold Va.qb;rw [if_neg (by omega),if_neg (by omega),if_pos (by omega)])
        clear c34 c92 c10 hcd hqb
        go_wp2_with fail
        obtain ⟨a,ha⟩:∃ a:Nat,a=c / 16:=⟨_,rfl⟩
        obtain ⟨b,hb⟩:∃ b:Nat,b=c % 16:=⟨_,rfl⟩
        have hA:(c:Int) / 16=(a:Int):=by omega
        have hB:(c:Int) % 16=(b:Int):=by omega
        have ha1:(0:Int)<=(a:Int):=by omega
        have ha2:(a:Int)<16:=by omega
        have hb1:(0:Int)<=(b:Int):=by omega
        have hb2:(b:Int)<16:=by omega
        have hxa:∀ h,((({ data:=#[48,49,50,51,52,53,54,55,56,57,65,66,67,68,69,70] }:ByteArray)[a]'h).toNat:Nat)=Va.hexd a:=fun h=>digit_at a (by omega) h
        have hxb:∀ h,((({ data:=#[48,49,50,51,52,53,54,55,56,57,65,66,67,68,69,70] }:ByteArray)[b]'h).toNat:Nat)=Va.hexd b:=fun h=>digit_at b (by omega) h
        rw [<-ha,<-hb] at HQB
        have hsrc:=src_lit (l:=[92,120,Va.hexd a,Va.hexd b]) (drew_at (heap_alloc_new wr (Obj.cells #[Value.int IntKind.u8 92,Value.int IntKind.u8 120,Value.int IntKind.u8 (Va.hexd a:Nat),Value.int IntKind.u8 (Va.hexd b:Nat)] 5))) rfl
        have h1:Mod [] wr ((wr.alloc (Obj.cells #[Value.int IntKind.u8 92,Value.int IntKind.u8 120,Value.int IntKind.u8 (Va.hexd a:Nat),Value.int IntKind.u8 (Va.hexd b:Nat)] 5)).drew):=((Mod.refl [] wr).alloc _).drew
        have hrow:((wr.alloc (Obj.cells #[Value.int IntKind.u8 92,Value.int IntKind.u8 120,Value.int IntKind.u8 (Va.hexd a:Nat),Value.int IntKind.u8 (Va.hexd b:Nat)] 5)).drew).ownsRow 0 5 1 (.slice va acc.length vc) acc.length (toCells acc):=HQ.out.row.alloc _
        have HSRC:=Lib.hid hsrc;have H1:=Lib.hid h1;have HROW:=Lib.hid hrow
        have hB2:bits BinOp.and IntKind.u8 (c:Int) 15=(b:Int):=by rw [and15 c hc];omega
        clear hsrc h1 hrow ha hb
        go_region_law (refine step_append_src _ rfl _ _ 51 51 rfl 5 i0 (.int .u8 0) 1 1 Tryd.underlying51 hinf hz0 hz1 hz2 rfl (.slice va acc.length vc) acc.length (toCells acc) rfl HROW.out _ 4 (toCells [92,120,Va.hexd a,Va.hexd b]) rfl HSRC.out (by unfold maxLen;omega) (by omega) ?_;intro v' w3 hown3 hm3 hf3;obtain ⟨va3,vc3,rfl,hQ3⟩:=HQ.out.step hlt HQB.out H1.out hown3 hm3 (fun bq hbq=>(hf3 bq hbq).imp id (fun h=>Nat.le_trans (Nat.le_succ _) (by rw [show ((wr.alloc (Obj.cells #[Value.int IntKind.u8 92,Value.int IntKind.u8 120,Value.int IntKind.u8 (Va.hexd a:Nat),Value.int IntKind.u8 (Va.hexd b:Nat)] 5)).drew).heap.size=wr.heap.size+1 by simp] at h;exact h)));have HQ3:=Lib.hid hQ3;clear hown3 hm3 hf3 hQ3)
        all_goals (
         go_wp2_with fail
         go_roundw
         case rel=>exact ⟨_,va3,vc3,k+1,by omega,by simp,by go_num,HQ3.out⟩
         case measure=>simp [intOf];omega)
       ·have e5:¬ 126<(c:Int):=by omega
        have HQB:Hid (Va.qb ((Cod.str s).getD k 0)=[c]):=Hxq (by rw [hcd];unfold Va.qb;rw [if_neg (by omega),if_neg (by omega),if_neg (by omega)])
        clear c34 c92 c10 c32 c126 hcd hqb
        have hsrc:=src_lit (l:=[c]) (heap_alloc_new wr (Obj.cells #[Value.int IntKind.u8 (c:Int)] 5)) rfl
        have h1:Mod [] wr (wr.alloc (Obj.cells #[Value.int IntKind.u8 (c:Int)] 5)):=(Mod.refl [] wr).alloc _
        have HSRC:=Lib.hid hsrc;have H1:=Lib.hid h1
        clear hsrc h1
        go_wp2_with (at_builtin;refine wpList_append_src _ rfl _ _ 51 51 rfl 5 i0 (.int .u8 0) 1 1 Tryd.underlying51 hinf hz0 hz1 hz2 rfl (.slice va acc.length vc) acc.length (toCells acc) rfl (HQ.out.row.alloc _) _ 1 (toCells [c]) rfl HSRC.out (by unfold maxLen;omega) (by omega) ?_)
        intro v' w3 hown3 hm3 hf3 hn3
        obtain ⟨va3,vc3,rfl,hQ3⟩:=HQ.out.step hlt HQB.out H1.out hown3 hm3 (fun b hb=>(hf3 b hb).imp id (fun h=>by first | omega | (simp at h;omega)))
        have HQ3:=Lib.hid hQ3
        clear hown3 hm3 hf3 hn3 hQ3
        go_wp2_with fail
        go_roundw
        case rel=>exact ⟨_,va3,vc3,k+1,by omega,rfl,by go_num,HQ3.out⟩
        case measure=>simp [intOf];omega
  ·obtain rfl:k=s.size:=by omega
   have hkI:¬ (s.size:Int)<(s.size:Int):=by omega
   clear hQ
   have hsrc:=src_lit (l:=[34]) (heap_alloc_new wr (Obj.cells #[Value.int IntKind.u8 34] 5)) rfl
   have h1:Mod [] wr (wr.alloc (Obj.cells #[Value.int IntKind.u8 34] 5)):=(Mod.refl [] wr).alloc _
   have HSRC:=Lib.hid hsrc;have H1:=Lib.hid h1
   clear hsrc h1
   go_wp2_with (at_builtin;refine wpList_append_src _ rfl _ _ 51 51 rfl 5 i0 (.int .u8 0) 1 1 Tryd.underlying51 hinf hz0 hz1 hz2 rfl (.slice va acc.length vc) acc.length (toCells acc) rfl (HQ.out.row.alloc _) _ 1 (toCells [34]) rfl HSRC.out (by unfold maxLen;omega) (by omega) ?_)
   intro v' w3 hown3 hm3 hf3 hn3
   have hval:=HQ.out.val
   rw [List.take_of_length_le (by rw [HLL.out];omega)] at hval
   rw [<-toCells_append,show acc.length+1=(acc++[34]).length by simp] at hown3
   have hcv:=conv_reads (reads_own hown3 (fun x hx=>by
    rw [hval] at hx
    simp only [List.mem_append,List.mem_cons,List.mem_flatMap,List.not_mem_nil,or_false] at hx
    rcases hx with (rfl | ⟨y,hy,hx⟩) | rfl
    ·decide
    ·exact qb_lt (HLB.out y hy) x hx
    ·decide) (by rw [List.length_append];simp;omega))
   have e:Hid (acc++[34]=Va.quoted (Cod.str s)):=Hxq (by rw [hval];rfl)
   have hmw:=(HQ.out.mod.trans H1.out (by simp)).trans hm3 (fun t ht=>.inr (HQ.out.new t ht).1)
   have HMW:=Lib.hid hmw
   clear hown3 hm3 hf3 hn3 hval hmw
   go_wp2_with fail
   go_ret
   exact ⟨by rw [<-e.out];rfl,HMW.out⟩
open Go.RowKit
set_option linter.unusedVariables false
set_option linter.unusedSimpArgs false
set_option maxRecDepth 100000
theorem var_heap {P:Program} {w:World} {n:String} {g:Nat} {cs:Array Value} (hg:P.globalNamed n=some g) (h:w.var? P n=some cs):∃ T fr,w.heap[g]?=some (.cells cs T fr):=by
 simp only [World.var?,hg,Option.bind_some] at h
 split at h
 ·rename_i c T fr he
  cases h
  exact ⟨_,_,he⟩
 ·cases h
theorem var_past {P:Program} {S:List Nat} {w w':World} {n:String} {cs:Array Value} (h:w.var? P n=some cs) (hm:Mod S w w') (hS:∀ t∈S,w.heap.size<=t):w'.var? P n=some cs:=by
 cases hg:P.globalNamed n with
 | none=>simp [World.var?,hg] at h
 | some g =>
  obtain ⟨T,fr,hh⟩:=var_heap hg h
  have h2:=hm.at hh (fun hb=>by have:=hS g hb;have:=lt_of_block hh;omega)
  simp [World.var?,hg,h2]
/-- what the library's package-level variables hold -/
structure GlobV (w:World):Prop where
 tab : Lib.TabIs Tryd.prog w "internal/strconv.uint64pow10" .u64 Lib.pow10Tab
 syn : ∃ tp p, w.var? Tryd.prog "strconv.ErrSyntax" = some #[.iface tp p]
 rng : ∃ tp p, w.var? Tryd.prog "strconv.ErrRange" = some #[.iface tp p]
theorem GlobV.past {S:List Nat} {w w':World} (h:GlobV w) (hm:Mod S w w') (hS:∀ t∈S,w.heap.size<=t):GlobV w':=by
 obtain ⟨h1,⟨t2,p2,h2⟩,⟨t3,p3,h3⟩⟩:=h
 exact ⟨var_past h1 hm hS,⟨t2,p2,var_past h2 hm hS⟩,⟨t3,p3,var_past h3 hm hS⟩⟩
theorem mod_grow (w:World) (k:Nat) (os:Array Obj):Mod [] w (Sort.grow (w.drewN k) os) :=
 ⟨rfl,rfl,rfl,by simp [Sort.grow],fun i hi _=>by simp [Sort.grow,Array.getElem?_append,hi]⟩
theorem itoa_ofS (n:Int):Lx.ofS (Va.itoa n)=⟨(Lib.itoa n).toArray⟩:=by
 unfold Lx.ofS Va.itoa
 rw [Va.map_back]
theorem itoa_any (n:Int) (h0:-9223372036854775808<=n) (h1:n<=9223372036854775807) (w:World) (hG:GlobV w) :
  Calls Tryd.prog 47 #[.int .i64 n] w fun e w'=>e=.returned (.string (Lx.ofS (Va.itoa n)))/\Mod [] w w':=by
 refine (Tryd.strconv_Itoa n h0 h1 w hG.tab).mono ?_
 rintro e w' ⟨rfl,k,os,rfl⟩
 exact ⟨by rw [itoa_ofS],mod_grow _ _ _⟩
/-- does it lie in its bounds? -/
structure Va.Val.Ok (v:Va.Val):Prop where
 byte:∀ c∈v.s,c<256
 lo:-9223372036854775808<=v.n
 hi:v.n<=9223372036854775807
theorem may_len {v:Va.Val} (h:Va.may v=true):v.s.length<=64:=by
 unfold Va.may at h
 simp only [Bool.or_eq_true,Bool.and_eq_true,beq_iff_eq,decide_eq_true_eq] at h
 rcases h with ⟨-,h,-⟩ | ⟨-,-,h⟩
 ·rw [h];simp
 ·exact h
theorem text_any (v:Va.Val) (hv:v.Ok) (hl:v.s.length<=1000) (w:World) (hG:GlobV w) :
  Calls Tryd.prog 32 #[.agg (valV v)] w fun e w'=>e=.returned (.string (Lx.ofS (Va.text v)))/\Mod [] w w':=by
 have h1:=fun w hG=>itoa_any v.n hv.lo hv.hi w hG
 have hsz:(Lx.ofS v.s).size=v.s.length:=ofS_size _
 have hst:Cod.str (Lx.ofS v.s)=v.s:=Lx.str_ofS hv.byte
 have h2:=fun w=>Name_any (Lx.ofS v.s) (by omega) w
 have h3:=fun w=>quoted_any (Lx.ofS v.s) (by omega) w
 rw [hst] at h2 h3
 obtain ⟨k,n,s⟩:=v
 unfold valV
 simp only at h1 h2 h3 hsz hst ⊢
 by_cases k1:k=1
 ·subst k1
  have e:Va.text ⟨1,n,s⟩=Va.itoa n:=if_pos rfl
  rw [e]
  have H1:=Lib.hid h1
  clear h1 h2 h3 e hst hv hl
  go_enter Tryd.func32,Tryd.ntmps32
  go_wp2_with fail
  refine (H1.out _ (hG.past ((Mod.refl [] w).alloc _) (by simp))).mono ?_
  rintro e w1 ⟨rfl,hm⟩
  go_wp2_with fail
  go_ret
  exact ⟨rfl,((Mod.refl [] w).alloc _).trans hm (by simp)⟩
 ·have k1B:(k == 1)=false:=by rw [beq_eq_false_iff_ne];exact k1
  cases hn:Va.name s
  ·have e:Va.text ⟨k,n,s⟩=Va.quoted s:=by unfold Va.text;rw [if_neg k1];simp [hn]
   rw [e]
   rw [hn] at h2
   have H2:=Lib.hid h2;have H3:=Lib.hid h3
   clear h1 h2 h3 e hst hv hl hn
   go_enter Tryd.func32,Tryd.ntmps32
   go_wp2_with fail
   refine (H2.out _).mono ?_
   rintro e w1 ⟨rfl,hm⟩
   have hB:=hm.at (heap_alloc_new w (Obj.cells #[Value.int IntKind.i64 k,Value.int IntKind.i64 n,Value.string (Lx.ofS s)] 44)) (by simp)
   have c2:w1.cell? ⟨w.heap.size,2,none⟩=some (.string (Lx.ofS s)):=by simp [World.cell?,hB]
   have HM:=Hxq (((Mod.refl [] w).alloc (Obj.cells #[Value.int IntKind.i64 k,Value.int IntKind.i64 n,Value.string (Lx.ofS s)] 44)).trans hm (by simp))
   clear hB hm
   go_wp2_with fail
   refine (H3.out _).mono ?_
   rintro e w2 ⟨rfl,hm2⟩
   go_wp2_with fail
   go_ret
   exact ⟨rfl,HM.out.trans hm2 (by simp)⟩
  ·have e:Va.text ⟨k,n,s⟩=s:=by unfold Va.text;rw [if_neg k1];simp [hn]
   rw [e]
   rw [hn] at h2
   have H2:=Lib.hid h2
   clear h1 h2 h3 e hst hv hl hn
   go_enter Tryd.func32,Tryd.ntmps32
   go_wp2_with fail
   refine (H2.out _).mono ?_
   rintro e w1 ⟨rfl,hm⟩
   have hB:=hm.at (heap_alloc_new w (Obj.cells #[Value.int IntKind.i64 k,Value.int IntKind.i64 n,Value.string (Lx.ofS s)] 44)) (by simp)
   have c2:w1.cell? ⟨w.heap.size,2,none⟩=some (.string (Lx.ofS s)):=by simp [World.cell?,hB]
   have HM:=Hxq (((Mod.refl [] w).alloc (Obj.cells #[Value.int IntKind.i64 k,Value.int IntKind.i64 n,Value.string (Lx.ofS s)] 44)).trans hm (by simp))
   clear hB hm
   go_wp2_with fail
   go_ret
   exact ⟨rfl,HM.out⟩
/-- what Text answers -/
def txtV (v:Va.Val):Value:=.tuple #[.string (Lx.ofS (if Va.may v then Va.text v else [])),.int .i64 (chk v)]
theorem Text_any (v:Va.Val) (hv:v.Ok) (w:World) (hG:GlobV w) :
  Calls Tryd.prog 14 #[.agg (valV v)] w fun e w'=>e=.returned (txtV v)/\Mod [] w w':=by
 have h1:=fun w=>check_any v w
 have hm0:=(Mod.refl [] w).alloc (Obj.cells (valV v) 44)
 have hB0:=heap_alloc_new w (Obj.cells (valV v) 44)
 unfold txtV
 cases hmv:Va.may v
 ·have e:chk v=20:=by unfold chk;rw [hmv];rfl
  rw [e] at h1 ⊢
  have H1:=Lib.hid h1
  clear h1 hmv e hB0
  unfold valV at *
  go_enter Tryd.func14,Tryd.ntmps14
  go_wp2_with fail
  refine (H1.out _).mono ?_
  rintro e w1 ⟨rfl,hm⟩
  have HM:=Hxq (hm0.trans hm (by simp))
  clear hm hm0
  go_wp2_with fail
  go_ret2
  exact ⟨rfl,HM.out⟩
 ·have e:chk v=0:=by unfold chk;rw [hmv];rfl
  rw [e] at h1 ⊢
  have h2:=fun w hG=>text_any v hv (by have:=may_len hmv;omega) w hG
  have H1:=Lib.hid h1;have H2:=Lib.hid h2
  clear h1 h2 hmv e hv
  unfold valV at *
  go_enter Tryd.func14,Tryd.ntmps14
  go_wp2_with fail
  refine (H1.out _).mono ?_
  rintro e w1 ⟨rfl,hm⟩
  have hB:=hm.at hB0 (by simp)
  have c0:w1.cell? ⟨w.heap.size,0,none⟩=some (.int .i64 v.k):=by simp [World.cell?,hB]
  have c1:w1.cell? ⟨w.heap.size,1,none⟩=some (.int .i64 v.n):=by simp [World.cell?,hB]
  have c2:w1.cell? ⟨w.heap.size,2,none⟩=some (.string (Lx.ofS v.s)):=by simp [World.cell?,hB]
  have HM:=Hxq (hm0.trans hm (by simp))
  clear hm hm0 hB hB0
  go_wp2_with fail
  refine (H2.out _ (hG.past HM.out (by simp))).mono ?_
  rintro e w2 ⟨rfl,hm2⟩
  go_wp2_with fail
  go_ret2
  exact ⟨rfl,HM.out.trans hm2 (by simp)⟩
theorem gSynV : Tryd.prog.globalNamed "strconv.ErrSyntax" = some 0 := by kernel_rfl
theorem str_map (s:ByteArray):(Cod.str s).map UInt8.ofNat=s.data.toList:=by unfold Cod.str;rw [Va.map_back]
/-- what Atoi answers -/
def AtoiR (l:List Nat) (w:World) (e:Ending) (w':World):Prop :=
 (∃ n ev,e=.returned (.tuple #[.int .i64 n,ev])/\((Va.atoiV l=some n/\ev=.nilIface)\/(Va.atoiV l=none/\∃ ty p,ev=.iface ty p)))/\Mod [] w w'
theorem atoi_any (s:ByteArray) (hs:s.size<=140737488355328) (w:World) (hG:GlobV w) :
  Calls Tryd.prog 33 #[.string s] w (AtoiR (Cod.str s) w):=by
 have hv:Va.atoiV (Cod.str s)=match Lib.atoiAll s.data.toList with | .ok v=>some v | _=>none:=by unfold Va.atoiV;rw [str_map];rfl
 rcases hA:Lib.atoiAll s.data.toList with v | _ | _
 ·rw [hA] at hv
  refine (Tryd.strconv_Atoi_ok s (by omega) v hA w).mono ?_
  rintro e w' ⟨rfl,hw⟩
  refine ⟨⟨v,_,rfl,.inl ⟨hv,rfl⟩⟩,?_⟩
  rcases hw with rfl | ⟨t,rfl⟩
  ·exact Mod.refl _ _
  ·exact Mod.of_below (Lib.bytesWorld_below _ _ _)
 ·rw [hA] at hv
  obtain ⟨tp,p,h1⟩:=hG.syn
  refine (Any.strconv_Atoi_syntax_var Tryd.laysC172 s (by omega) hA tp p w h1).mono ?_
  rintro e w' ⟨N,rfl,-,-,hb⟩
  exact ⟨⟨0,_,rfl,.inr ⟨hv,_,_,rfl⟩⟩,Mod.of_below hb⟩
 ·rw [hA] at hv
  obtain ⟨tp,p,h1⟩:=hG.rng
  refine (Tryd.strconv_Atoi_range_var s (by omega) hA tp p w h1).mono ?_
  rintro e w' ⟨N,rfl,-,-,hb⟩
  exact ⟨⟨_,_,rfl,.inr ⟨hv,_,_,rfl⟩⟩,Mod.of_below hb⟩
theorem parse_outer (t:ByteArray) (ht:t.size=2) (w:World) (hG:GlobV w) :
  Calls Tryd.prog 51 #[.string t,.int .i64 16,.int .i64 8] w fun e w'=>(match hexL (Cod.str t) with
   | some n=>e=.returned (.tuple #[.int .u64 (n:Nat),.nilIface])
   | none=>∃ ty v,e=.returned (.tuple #[.int .u64 0,.iface ty v]))/\Mod [] w w':=by
 cases hx:hexL (Cod.str t) with
 | some n =>
  have hin:=parse_inner t ht w
  rw [hx] at hin
  have HI:=Lib.hid hin
  clear hin hx
  go_enter Tryd.func51,Tryd.ntmps51
  go_wp2_with fail
  refine HI.out.mono ?_
  rintro e w2 ⟨rfl,hm2⟩
  unfold hexR
  go_wp2_with fail
  go_ret2
  exact ⟨rfl,hm2⟩
 | none =>
  have hin:=parse_inner t ht w
  rw [hx] at hin
  have HI:=Lib.hid hin
  obtain ⟨tp,p,hs0⟩:=hG.syn
  obtain ⟨T,fr,hs⟩:=var_heap gSynV hs0
  have hs1:w.cell? ⟨0,0,none⟩=some (.iface tp p):=by simp [World.cell?,hs]
  have HS:=Lib.hid hs1
  have hts:t.size<=281474976710656:=by omega
  clear hin hx hs hs1 hG hs0
  go_enter Tryd.func51,Tryd.ntmps51
  go_wp2_with fail
  refine HI.out.mono ?_
  rintro e w2 ⟨rfl,hm2⟩
  have hs2:=hm2.cell HS.out (by simp)
  unfold hexR
  go_wp2_with fail
  refine (Tryd.strconv_toError_syntax _ t 16 8 _ _ hts hs2 (.inr ⟨_,_,rfl⟩)).mono ?_
  rintro e w3 ⟨N,rfl,-,-,hb3⟩
  go_wp2_with fail
  go_ret2
  exact ⟨⟨_,_,rfl⟩,hm2.trans (Mod.of_below hb3) (by simp)⟩
/-- the loop over what stands between the quotes -/
structure UL (s:ByteArray) (w wr:World) (r:ByteArray) (va:Option Addr) (vc:Nat) (acc:List Nat) (K:Nat):Prop where
 row:wr.ownsRow 0 5 1 (.slice va acc.length vc) acc.length (toCells acc)
 new:∀ b∈fp (.slice va acc.length vc),w.heap.size<=b
 len:acc.length+r.size<=s.size
 byte:∀ c∈acc,c<256
 fuel:r.size<K
 eq:Va.uq (Cod.str s)=(Va.uqF K (Cod.str r)).map (acc++·)
 mod:Mod [] w wr
theorem UL.step {s:ByteArray} {w wr:World} {r:ByteArray} {va:Option Addr} {vc:Nat} {acc:List Nat} {K:Nat} (h:UL s w wr r va vc acc (K+1)) {b m:Nat} (hb:b<256) (hm1:1<=m) (hm2:m<=r.size)
  (he:Va.uqF (K+1) (Cod.str r)=(Va.uqF K ((Cod.str r).drop m)).map (b :: ·)) {w1 w3:World} {v':Value} (h1:Mod [] wr w1)
  (hown:w3.ownsRow 0 5 1 v' (acc.length+1) (toCells acc++toCells [b])) (hm:Mod (fp (.slice va acc.length vc)) w1 w3) (hf:∀ b∈fp v',b∈fp (.slice va acc.length vc)\/wr.heap.size<=b) :
  ∃ va' vc',v'=.slice va' (acc++[b]).length vc'/\UL s w w3 (r.extract m r.size) va' vc' (acc++[b]) K:=by
 obtain ⟨va',vc',rfl⟩:=owns_slice hown
 rw [<-toCells_append,show acc.length+1=(acc++[b]).length by simp] at hown
 have hl:=h.len
 have hfu:=h.fuel
 have hszw:=h.mod.size
 refine ⟨va',vc',by simp,hown,fun c hc=>?_,?_,fun c hc=>?_,?_,?_,?_⟩
 ·have hc':=hc
  rw [List.length_append] at hc'
  rcases hf c hc' with q | q
  ·exact h.new c q
  ·omega
 ·rw [List.length_append,ByteArray.size_extract];simp;omega
 ·rcases List.mem_append.1 hc with hc | hc
  ·exact h.byte c hc
  ·simp at hc;omega
 ·rw [ByteArray.size_extract];omega
 ·rw [h.eq,he,Lx.str_extract,List.take_of_length_le (by rw [List.length_drop,Cod.str_len];omega),Option.map_map]
  congr 1
  funext x
  simp
 ·exact (h.mod.trans h1 (by simp)).trans hm (fun t ht=>.inr (h.new t ht))
/-- what unquoted answers -/
def unqV:Option (List Nat)->Value
 | some t=>.tuple #[.string (Lx.ofS t),.bool true]
 | none=>.tuple #[.string ⟨#[]⟩,.bool false]
theorem str_cons {r:ByteArray} (h:0<r.size):∃ c t,Cod.str r=c :: t/\r[0].toNat=c/\c<256:=by
 have hl:=Cod.str_len r
 cases hr:Cod.str r with
 | nil=>rw [hr] at hl;simp at hl;omega
 | cons c t =>
  refine ⟨c,t,rfl,?_,Cod.str_lt r c (by rw [hr];simp)⟩
  have:=Lx.get_str r 0 h
  rw [hr] at this
  exact this.symm
theorem str_cons2 {r:ByteArray} (h:1<r.size) {c:Nat} {t:List Nat} (hr:Cod.str r=c :: t):∃ x u,t=x :: u/\r[1].toNat=x/\x<256:=by
 have hl:=Cod.str_len r
 rw [hr,List.length_cons] at hl
 cases t with
 | nil=>simp at hl;omega
 | cons x u =>
  refine ⟨x,u,rfl,?_,Cod.str_lt r x (by rw [hr];simp)⟩
  have:=Lx.get_str r 1 h
  rw [hr] at this
  exact this.symm
theorem u8_nat {n:Nat} (h:n<256):((n:Int) % 256)=(n:Int):=by omega
def strSize:Value->Nat | .string s=>s.size | _=>0
set_option maxHeartbeats 4000000 in
theorem unquoted_any (s:ByteArray) (hs:s.size<=140737488355327) (w:World) (hG:GlobV w) :
  Calls Tryd.prog 34 #[.string s] w fun e w'=>e=.returned (unqV (Va.uq (Cod.str s)))/\Mod [] w w':=by
 obtain ⟨i0,hinf,hz0,hz1,hz2⟩:=info_parts Tryd.infoU8
 have hU0:UL s w w s none 0 [] (s.size+1):=by
  refine ⟨World.ownsRow_nil _ _ _ _,by simp [fp],by simp,by simp,by omega,?_,Mod.refl _ _⟩
  unfold Va.uq
  rw [Cod.str_len]
  simp
 have HU0:=Lib.hid hU0
 clear hU0
 go_enter Tryd.func34,Tryd.ntmps34
 go_wp2_with fail
 go_loopw [0,4] (fun rv vv wr=>∃ (r:ByteArray) (acc:List Nat) (va:Option Addr) (vc K:Nat),rv=.string r/\vv=.slice va acc.length vc/\UL s w wr r va vc acc K) (fun rv _ _=>strSize rv)
 case atStart=>exact ⟨s,[],none,0,_,rfl,rfl,HU0.out⟩
 case round =>
  obtain ⟨r,acc,va,vc,K,rfl,rfl,hU⟩:=hrel
  have hlen:=hU.len
  have hfu:=hU.fuel
  obtain ⟨K,rfl⟩:∃ k,K=k+1:=⟨K - 1,by omega⟩
  have HU:=Lib.hid hU
  have hrl:=Cod.str_len r
  have hGr:=hG.past hU.mod (by simp)
  clear hU
  by_cases h0:r.size=0
  ·have hr0:Cod.str r=[]:=List.eq_nil_of_length_eq_zero (by omega)
   have e:Hid (Va.uq (Cod.str s)=some acc):=Hxq (by
    rw [HU.out.eq,hr0]
    simp [Va.uqF])
   have hcv:=conv_reads (reads_own HU.out.row HU.out.byte (by omega))
   have h0I:¬ (0:Int)<(r.size:Int):=by omega
   clear hr0 hrl hGr h0
   go_wp2_with fail
   go_ret2
   exact ⟨by rw [e.out];rfl,HU.out.mod⟩
  ·have h0I:(0:Int)<(r.size:Int):=by omega
   obtain ⟨c,t,hsr,hc0,hc⟩:=str_cons (r:=r) (by omega)
   have hcI:(r[0].toNat:Int)=(c:Int):=by omega
   by_cases c92:c=92
   ·have e1:((c:Int) != 92)=false:=by rw [c92];rfl
    by_cases h1:r.size=1
    ·have ht:t=[]:=by rw [hsr] at hrl;simp at hrl;exact List.eq_nil_of_length_eq_zero (by omega)
     have e:Hid (Va.uq (Cod.str s)=none):=Hxq (by
      rw [HU.out.eq,hsr,ht,c92]
      simp [Va.uqF])
     have h1I:¬ (1:Int)<(r.size:Int):=by omega
     have h3I:¬ (3:Int)<(r.size:Int):=by omega
     clear hsr hGr ht c92
     go_wp2_with fail
     go_ret2
     exact ⟨by rw [e.out];rfl,HU.out.mod⟩
    ·have h1I:(1:Int)<(r.size:Int):=by omega
     obtain ⟨x,u,rfl,hx0,hx⟩:=str_cons2 (r:=r) (by omega) hsr
     have hxI:(r[1].toNat:Int)=(x:Int):=by omega
     have hul:u.length+2=r.size:=by rw [hsr] at hrl;simpa using hrl
     subst c92
     by_cases hx3:x=120/\3<r.size
     ·obtain ⟨x120,h3⟩:=hx3
      have h3I:(3:Int)<(r.size:Int):=by omega
      have e2:((x:Int) == 120)=true:=by rw [x120];rfl
      obtain ⟨a,b,u2,rfl⟩:∃ a b u2,u=a :: b :: u2:=by
       match u,hul with
       | [],h=>simp at h;omega
       | [_],h=>simp at h;omega
       | a :: b :: u2,_=>exact ⟨a,b,u2,rfl⟩
      have hst:Cod.str (r.extract 2 4)=[a,b]:=by rw [Lx.str_extract,hsr];rfl
      have hhx:hexL (Cod.str (r.extract 2 4))=match Lx.hexv a,Lx.hexv b with | some p,some q=>some (16 * p+q) | _,_=>none:=by
       rw [hst]
       unfold hexL
       simp only [List.foldl_cons,List.foldl_nil]
       cases Lx.hexv a with
       | none=>cases Lx.hexv b <;> rfl
       | some p=>cases Lx.hexv b <;> simp
      have hpo:=parse_outer (r.extract 2 4) (by rw [ByteArray.size_extract];omega) wr hGr
      rw [hhx] at hpo
      have hq:Va.uqF (K+1) (Cod.str r)=match Lx.hexv a,Lx.hexv b with | some p,some q=>(Va.uqF K u2).map ((16 * p+q) :: ·) | _,_=>none:=by
       rw [hsr,Va.uqF_esc,if_pos ⟨x120,by simp⟩]
       rfl
      have hdr:(Cod.str r).drop 4=u2:=by rw [hsr];rfl
      cases ha:Lx.hexv a with
      | none =>
       rw [ha] at hpo hq
       have e:Hid (Va.uq (Cod.str s)=none):=Hxq (by rw [HU.out.eq,hq];rfl)
       have HP:=Lib.hid hpo
       clear hpo hq hhx hst hsr hGr hdr ha
       go_wp2_with fail
       refine HP.out.mono ?_
       rintro e3 w3 ⟨⟨ty,p,rfl⟩,hm3⟩
       go_wp2_with fail
       go_ret2
       exact ⟨by rw [e.out];rfl,HU.out.mod.trans hm3 (by simp)⟩
      | some p =>
       cases hb:Lx.hexv b with
       | none =>
        rw [ha,hb] at hpo hq
        have e:Hid (Va.uq (Cod.str s)=none):=Hxq (by rw [HU.out.eq,hq];rfl)
        have HP:=Lib.hid hpo
        clear hpo hq hhx hst hsr hGr hdr ha hb
        go_wp2_with fail
        refine HP.out.mono ?_
        rintro e3 w3 ⟨⟨ty,p,rfl⟩,hm3⟩
        go_wp2_with fail
        go_ret2
        exact ⟨by rw [e.out];rfl,HU.out.mod.trans hm3 (by simp)⟩
       | some q =>
        rw [ha,hb] at hpo hq
        have hp16:=Lx.hexv_lt ha
        have hq16:=Lx.hexv_lt hb
        have hn256:16 * p+q<256:=by omega
        simp only at hpo hq
        generalize 16 * p+q=n at *
        rw [<-hdr] at hq
        have HP:=Lib.hid hpo;have HE:=Lib.hid hq
        have hmod8:=u8_nat hn256
        clear hpo hq hhx hst hsr hGr hdr ha hb hp16 hq16
        go_wp2_with fail
        refine HP.out.mono ?_
        rintro e3 w4 ⟨rfl,hm4⟩
        have hrow4:=hm4.owns HU.out.row (by simp)
        have hsrc:=src_lit (l:=[n]) (heap_alloc_new w4 (Obj.cells #[Value.int IntKind.u8 (n:Int)] 5)) rfl
        have h1m:Mod [] wr (w4.alloc (Obj.cells #[Value.int IntKind.u8 (n:Int)] 5)):=hm4.alloc _
        have HSRC:=Lib.hid hsrc;have H1:=Lib.hid h1m;have HROW:=Lib.hid hrow4;have HS4:=Lib.hid hm4.size
        clear hsrc h1m hrow4 hm4
        go_wp2_with (at_builtin;refine wpList_append_src _ rfl _ _ 51 51 rfl 5 i0 (.int .u8 0) 1 1 Tryd.underlying51 hinf hz0 hz1 hz2 rfl (.slice va acc.length vc) acc.length (toCells acc) rfl (HROW.out.alloc _) _ 1 (toCells [n]) rfl HSRC.out (by unfold maxLen;omega) (by omega) ?_)
        intro v' w3 hown3 hm3 hf3 hn3
        obtain ⟨va3,vc3,rfl,hU3⟩:=HU.out.step (m:=4) (by omega) (by omega) (by omega) HE.out H1.out hown3 hm3 (fun b hb=>(hf3 b hb).imp id (fun h=>by have:=HS4.out;first | omega | (simp at h;omega)))
        have HU3:=Lib.hid hU3
        clear hown3 hm3 hf3 hn3 hU3
        go_wp2_with fail
        go_roundw
        case rel=>exact ⟨_,_,va3,vc3,K,rfl,rfl,HU3.out⟩
        case measure =>
         simp only [strSize,ByteArray.size_extract]
         omega
     ·have hnx:¬ (x=120/\2<=u.length):=by omega
      by_cases x110:x=110
      ·have e2:((x:Int) == 120)=false:=by rw [x110];rfl
       have e3:((x:Int) == 110)=true:=by rw [x110];rfl
       have hq:Va.uqF (K+1) (Cod.str r)=(Va.uqF K ((Cod.str r).drop 2)).map (10 :: ·):=by
        rw [hsr,Va.uqF_esc,if_neg hnx,if_pos x110];rfl
       clear hnx x110 hx3 hGr
       rcases Int.lt_or_le 3 (r.size:Int) with h3I | h3I
       ·skip
        have hsrc:=src_lit (l:=[10]) (heap_alloc_new wr (Obj.cells #[Value.int IntKind.u8 10] 5)) rfl
        have h1:Mod [] wr (wr.alloc (Obj.cells #[Value.int IntKind.u8 10] 5)):=(Mod.refl [] wr).alloc _
        have HSRC:=Lib.hid hsrc;have H1:=Lib.hid h1;have HE:=Hxq (hq)
        clear hsrc h1 hsr
        go_wp2_with (at_builtin;refine wpList_append_src _ rfl _ _ 51 51 rfl 5 i0 (.int .u8 0) 1 1 Tryd.underlying51 hinf hz0 hz1 hz2 rfl (.slice va acc.length vc) acc.length (toCells acc) rfl (HU.out.row.alloc _) _ 1 (toCells [10]) rfl HSRC.out (by unfold maxLen;omega) (by omega) ?_)
        intro v' w3 hown3 hm3 hf3 hn3
        obtain ⟨va3,vc3,rfl,hU3⟩:=HU.out.step (m:=2) (by omega) (by omega) (by omega) HE.out H1.out hown3 hm3 (fun b hb=>(hf3 b hb).imp id (fun h=>by first | omega | (simp at h;omega)))
        have HU3:=Lib.hid hU3
        clear hown3 hm3 hf3 hn3 hU3
        go_wp2_with fail
        go_roundw
        case rel=>exact ⟨_,_,va3,vc3,K,rfl,rfl,HU3.out⟩
        case measure =>
         simp only [strSize,ByteArray.size_extract]
         omega
       ·skip
        have hsrc:=src_lit (l:=[10]) (heap_alloc_new wr (Obj.cells #[Value.int IntKind.u8 10] 5)) rfl
        have h1:Mod [] wr (wr.alloc (Obj.cells #[Value.int IntKind.u8 10] 5)):=(Mod.refl [] wr).alloc _
        have HSRC:=Lib.hid hsrc;have H1:=Lib.hid h1;have HE:=Hxq (hq)
        clear hsrc h1 hsr
        go_wp2_with (at_builtin;refine wpList_append_src _ rfl _ _ 51 51 rfl 5 i0 (.int .u8 0) 1 1 Tryd.underlying51 hinf hz0 hz1 hz2 rfl (.slice va acc.length vc) acc.length (toCells acc) rfl (HU.out.row.alloc _) _ 1 (toCells [10]) rfl HSRC.out (by unfold maxLen;omega) (by omega) ?_)
        intro v' w3 hown3 hm3 hf3 hn3
        obtain ⟨va3,vc3,rfl,hU3⟩:=HU.out.step (m:=2) (by omega) (by omega) (by omega) HE.out H1.out hown3 hm3 (fun b hb=>(hf3 b hb).imp id (fun h=>by first | omega | (simp at h;omega)))
        have HU3:=Lib.hid hU3
        clear hown3 hm3 hf3 hn3 hU3
        go_wp2_with fail
        go_roundw
        case rel=>exact ⟨_,_,va3,vc3,K,rfl,rfl,HU3.out⟩
        case measure =>
         simp only [strSize,ByteArray.size_extract]
         omega
      ·have e3:((x:Int) == 110)=false:=by rw [beq_eq_false_iff_ne];omega
       have hq:Va.uqF (K+1) (Cod.str r)=(Va.uqF K ((Cod.str r).drop 2)).map (x :: ·):=by
        rw [hsr,Va.uqF_esc,if_neg hnx,if_neg x110];rfl
       have hcs:(((x:Int) == 120)=false/\(3:Int)<(r.size:Int))\/¬ (3:Int)<(r.size:Int):=by
        by_cases h3:3<r.size
        ·exact .inl ⟨by rw [beq_eq_false_iff_ne];omega,by omega⟩
        ·exact .inr (by omega)
       clear hnx x110 hx3 hGr
       rcases hcs with ⟨e2,h3I⟩ | h3I
       ·skip
        have hsrc:=src_lit (l:=[x]) (heap_alloc_new wr (Obj.cells #[Value.int IntKind.u8 (x:Int)] 5)) rfl
        have h1:Mod [] wr (wr.alloc (Obj.cells #[Value.int IntKind.u8 (x:Int)] 5)):=(Mod.refl [] wr).alloc _
        have HSRC:=Lib.hid hsrc;have H1:=Lib.hid h1;have HE:=Hxq (hq)
        clear hsrc h1 hsr
        go_wp2_with (at_builtin;refine wpList_append_src _ rfl _ _ 51 51 rfl 5 i0 (.int .u8 0) 1 1 Tryd.underlying51 hinf hz0 hz1 hz2 rfl (.slice va acc.length vc) acc.length (toCells acc) rfl (HU.out.row.alloc _) _ 1 (toCells [x]) rfl HSRC.out (by unfold maxLen;omega) (by omega) ?_)
        intro v' w3 hown3 hm3 hf3 hn3
        obtain ⟨va3,vc3,rfl,hU3⟩:=HU.out.step (m:=2) (by omega) (by omega) (by omega) HE.out H1.out hown3 hm3 (fun b hb=>(hf3 b hb).imp id (fun h=>by first | omega | (simp at h;omega)))
        have HU3:=Lib.hid hU3
        clear hown3 hm3 hf3 hn3 hU3
        go_wp2_with fail
        go_roundw
        case rel=>exact ⟨_,_,va3,vc3,K,rfl,rfl,HU3.out⟩
        case measure =>
         simp only [strSize,ByteArray.size_extract]
         omega
       ·skip
        have hsrc:=src_lit (l:=[x]) (heap_alloc_new wr (Obj.cells #[Value.int IntKind.u8 (x:Int)] 5)) rfl
        have h1:Mod [] wr (wr.alloc (Obj.cells #[Value.int IntKind.u8 (x:Int)] 5)):=(Mod.refl [] wr).alloc _
        have HSRC:=Lib.hid hsrc;have H1:=Lib.hid h1;have HE:=Hxq (hq)
        clear hsrc h1 hsr
        go_wp2_with (at_builtin;refine wpList_append_src _ rfl _ _ 51 51 rfl 5 i0 (.int .u8 0) 1 1 Tryd.underlying51 hinf hz0 hz1 hz2 rfl (.slice va acc.length vc) acc.length (toCells acc) rfl (HU.out.row.alloc _) _ 1 (toCells [x]) rfl HSRC.out (by unfold maxLen;omega) (by omega) ?_)
        intro v' w3 hown3 hm3 hf3 hn3
        obtain ⟨va3,vc3,rfl,hU3⟩:=HU.out.step (m:=2) (by omega) (by omega) (by omega) HE.out H1.out hown3 hm3 (fun b hb=>(hf3 b hb).imp id (fun h=>by first | omega | (simp at h;omega)))
        have HU3:=Lib.hid hU3
        clear hown3 hm3 hf3 hn3 hU3
        go_wp2_with fail
        go_roundw
        case rel=>exact ⟨_,_,va3,vc3,K,rfl,rfl,HU3.out⟩
        case measure =>
         simp only [strSize,ByteArray.size_extract]
         omega
   ·have e1:((c:Int) != 92)=true:=by rw [bne_iff_ne];omega
    have hq:Va.uqF (K+1) (Cod.str r)=(Va.uqF K ((Cod.str r).drop 1)).map (c :: ·):=by
     rw [hsr,Va.uqF_one _ _ _ c92];rfl
    clear c92 hGr
    have hsrc:=src_lit (l:=[c]) (heap_alloc_new wr (Obj.cells #[Value.int IntKind.u8 (c:Int)] 5)) rfl
    have h1:Mod [] wr (wr.alloc (Obj.cells #[Value.int IntKind.u8 (c:Int)] 5)):=(Mod.refl [] wr).alloc _
    have HSRC:=Lib.hid hsrc;have H1:=Lib.hid h1;have HE:=Hxq (hq)
    clear hsrc h1 hsr
    go_wp2_with (at_builtin;refine wpList_append_src _ rfl _ _ 51 51 rfl 5 i0 (.int .u8 0) 1 1 Tryd.underlying51 hinf hz0 hz1 hz2 rfl (.slice va acc.length vc) acc.length (toCells acc) rfl (HU.out.row.alloc _) _ 1 (toCells [c]) rfl HSRC.out (by unfold maxLen;omega) (by omega) ?_)
    intro v' w3 hown3 hm3 hf3 hn3
    obtain ⟨va3,vc3,rfl,hU3⟩:=HU.out.step (m:=1) (by omega) (by omega) (by omega) HE.out H1.out hown3 hm3 (fun b hb=>(hf3 b hb).imp id (fun h=>by first | omega | (simp at h;omega)))
    have HU3:=Lib.hid hU3
    clear hown3 hm3 hf3 hn3 hU3
    go_wp2_with fail
    go_roundw
    case rel=>exact ⟨_,_,va3,vc3,K,rfl,rfl,HU3.out⟩
    case measure =>
     simp only [strSize,ByteArray.size_extract]
     omega
end Go.Proofs.YtcalbbfkgdfidaaDoor
