/- THE TEXTS MERGED: PrQuo PrText PrBuf. -/
import Derived.Test.YtbfaclljbbfknaaGreatDoorKP11
import Derived.Test.YtbfaclljbbfknaaGreatDoorKP17
import Derived.Lib.LaidTab
import Derived.Lib.Builder
import Derived.Laws.Externs
namespace Go.Proofs.YtbfaclljbbfknaaGreatDoor
open Go.RowKit
set_option linter.unusedVariables false
set_option linter.unusedSimpArgs false
set_option maxRecDepth 100000
theorem src_lit {w:World} {b:Nat} {cs:Array Value} {l:List Nat} {T:TypeId} {fr:Nat × Nat} (h:w.heap[b]?=some (.cells cs T fr)) (hc:cs.toList=toCells l) :
  Src Tryz.prog 1 64 (.slice (some ⟨b,0,none⟩) l.length l.length) l.length (toCells l) w:=by
 refine Src.ofSlice w Tryz.underlying64 ⟨b,0,none⟩ _ _ _ (by rw [toCells_len,Nat.mul_one]) (fun j u hu=>?_) (toCells_one l)
 rw [addr_add,Nat.zero_add,<-hc] at *
 simp [World.cell?,h]
 rw [<-Array.getElem?_toList];exact hu
/-- the loop over a symbol's bytes: what it holds -/
structure QL (w wr:World) (s:ByteArray) (bb:Nat) (va:Option Addr) (vc:Nat) (acc:List Nat) (k:Nat):Prop where
 row:wr.ownsRow 0 5 1 (.slice va acc.length vc) acc.length (toCells acc)
 new:∀ b∈fp (.slice va acc.length vc),w.heap.size<=b/\b≠bb
 byt:∀ j,j<s.size->wr.cell? ⟨bb,j,none⟩=some (.int .u8 ((Cod.str s).getD j 0:Nat))
 bbl:bb<wr.heap.size
 val:acc=34 :: ((Cod.str s).take k).flatMap Va.qb
 mod:Mod [] w wr
theorem qb_len (c:Nat):(Va.qb c).length<=4:=by
 unfold Va.qb
 split
 ·simp
 ·split
  ·simp
  ·split <;> simp
theorem qb_lt {c:Nat} (hc:c<256):∀ x∈Va.qb c,x<256:=by
 have:∀ c:Fin 256,∀ x∈Va.qb c.val,x<256:=by decide +kernel
 exact this ⟨c,hc⟩
theorem digit_at (a:Nat) (ha:a<16) (h:a<({ data:=#[48,49,50,51,52,53,54,55,56,57,65,66,67,68,69,70] }:ByteArray).size):(({ data:=#[48,49,50,51,52,53,54,55,56,57,65,66,67,68,69,70] }:ByteArray)[a]'h).toNat=Va.hexd a:=by
 have:∀ m:Fin 16,∀ h:m.val<({ data:=#[48,49,50,51,52,53,54,55,56,57,65,66,67,68,69,70] }:ByteArray).size,(({ data:=#[48,49,50,51,52,53,54,55,56,57,65,66,67,68,69,70] }:ByteArray)[m.val]'h).toNat=Va.hexd m.val:=by decide
 exact this ⟨a,ha⟩ h
theorem and15 (c:Nat) (hc:c<256):bits BinOp.and IntKind.u8 (c:Int) 15=((c % 16:Nat):Int):=by
 have:∀ c:Fin 256,bits BinOp.and IntKind.u8 (c.1:Int) 15=((c.1 % 16:Nat):Int):=by decide +kernel
 exact this ⟨c,hc⟩
section
variable {P:Program} (w:World)
end
theorem flat_len:∀ l:List Nat,(l.flatMap Va.qb).length<=4 * l.length
 | []=>by simp
 | c :: r=>by
  have:=flat_len r
  have:=qb_len c
  rw [List.flatMap_cons,List.length_append,List.length_cons]
  omega
theorem QL.le {w wr:World} {s:ByteArray} {bb:Nat} {va:Option Addr} {vc:Nat} {acc:List Nat} {k:Nat} (h:QL w wr s bb va vc acc k) (hk:k<=s.size):acc.length<=1+4 * s.size:=by
 rw [h.val,List.length_cons]
 have:=flat_len ((Cod.str s).take k)
 rw [List.length_take,Cod.str_len] at this
 omega
theorem QL.step {w wr:World} {s:ByteArray} {bb:Nat} {va:Option Addr} {vc:Nat} {acc:List Nat} {k:Nat} (h:QL w wr s bb va vc acc k) (hk:k<s.size) {l:List Nat} (hl:Va.qb ((Cod.str s).getD k 0)=l) {w1 w3:World} {v':Value}
  (h1:Mod [] wr w1) (hown:w3.ownsRow 0 5 1 v' (acc.length+l.length) (toCells acc++toCells l)) (hm:Mod (fp (.slice va acc.length vc)) w1 w3) (hf:∀ b∈fp v',b∈fp (.slice va acc.length vc)\/wr.heap.size<=b) :
  ∃ va' vc',v'=.slice va' (acc++l).length vc'/\QL w w3 s bb va' vc' (acc++l) (k+1):=by
 obtain ⟨va',vc',rfl⟩:=owns_slice hown
 rw [<-List.length_append,<-toCells_append] at hown
 have hsz:=h1.size
 have hsz3:=hm.size
 have hszw:=h.mod.size
 have hbl:=h.bbl
 refine ⟨va',vc',by rw [List.length_append],hown,fun b hb=>?_,fun j hj=>?_,by omega,?_,?_⟩
 ·have hb':=hb
  rw [List.length_append] at hb'
  rcases hf b hb' with q | q
  ·exact h.new b q
  ·exact ⟨by omega,by omega⟩
 ·refine hm.cell (h1.cell (h.byt j hj) (by simp)) (fun hb=>(h.new _ hb).2 rfl)
 ·rw [h.val,take_snoc _ 0 _ (by rw [Cod.str_len];exact hk),List.flatMap_append,List.cons_append]
  simp only [List.flatMap_cons,List.flatMap_nil,List.append_nil,hl]
 ·exact (h.mod.trans h1 (by simp)).trans hm (fun t ht=>.inr (h.new t ht).1)
set_option maxHeartbeats 4000000 in
theorem quoted_anyP (s:ByteArray) (hs:s.size<=1000) (w:World) :
  Calls Tryz.prog 87 #[.string s] w fun e w'=>e=.returned (.string (Lx.ofS (Va.quoted (Cod.str s))))/\Mod [] w w':=by
 obtain ⟨i0,hinf,hz0,hz1,hz2⟩:=info_parts Tryz.infoU8
 have hcv:=fun w s=>run_bytes_of_string (P:=Tryz.prog) w 9 64 5 s Tryz.underlying9 Tryz.underlying64 Tryz.underlying5
 go_enter Tryz.func87,Tryz.ntmps87
 go_wp2_with fail
 have hQ0:QL w (((w.alloc (Obj.cells #[Value.int IntKind.u8 34] 5)).alloc (Obj.cells (bytesRow s (grownCap (w.alloc (Obj.cells #[Value.int IntKind.u8 34] 5)) s.size 0 5)) 5 ((bytesRow s (grownCap (w.alloc (Obj.cells #[Value.int IntKind.u8 34] 5)) s.size 0 5)).size,(bytesRow s (grownCap (w.alloc (Obj.cells #[Value.int IntKind.u8 34] 5)) s.size 0 5)).size+1))).drew) s (w.heap.size+1) (some ⟨w.heap.size,0,none⟩) 1 [34] 0:=by
  have hmA:Mod [] w (w.alloc (Obj.cells #[Value.int IntKind.u8 34] 5)):=(Mod.refl [] w).alloc _
  have hmB:Mod [] (w.alloc (Obj.cells #[Value.int IntKind.u8 34] 5)) (((w.alloc (Obj.cells #[Value.int IntKind.u8 34] 5)).alloc (Obj.cells (bytesRow s (grownCap (w.alloc (Obj.cells #[Value.int IntKind.u8 34] 5)) s.size 0 5)) 5 ((bytesRow s (grownCap (w.alloc (Obj.cells #[Value.int IntKind.u8 34] 5)) s.size 0 5)).size,(bytesRow s (grownCap (w.alloc (Obj.cells #[Value.int IntKind.u8 34] 5)) s.size 0 5)).size+1))).drew):=((Mod.refl [] _).alloc _).drew
  refine ⟨⟨rfl,.inr ⟨w.heap.size,1,#[.int .u8 34],rfl,Nat.zero_le _,hmB.at (heap_alloc_new w _) (by simp),Nat.le_refl _,by unfold maxLen;omega,rfl,rfl⟩⟩,fun b hb=>?_,fun j hj=>?_,?_,rfl,hmA.trans hmB (by simp)⟩
  ·simp [fp] at hb;omega
  ·have:=bytes_read (w.alloc (Obj.cells #[Value.int IntKind.u8 34] 5)) s (grownCap (w.alloc (Obj.cells #[Value.int IntKind.u8 34] 5)) s.size 0 5) ((bytesRow s (grownCap (w.alloc (Obj.cells #[Value.int IntKind.u8 34] 5)) s.size 0 5)).size,(bytesRow s (grownCap (w.alloc (Obj.cells #[Value.int IntKind.u8 34] 5)) s.size 0 5)).size+1) j hj
   simpa using this
  ·show w.heap.size+1<((w.alloc _).alloc _).heap.size
   simp
 have HQ0:=Lib.hid hQ0
 clear hQ0 hcv
 generalize (((w.alloc (Obj.cells #[Value.int IntKind.u8 34] 5)).alloc (Obj.cells (bytesRow s (grownCap (w.alloc (Obj.cells #[Value.int IntKind.u8 34] 5)) s.size 0 5)) 5 ((bytesRow s (grownCap (w.alloc (Obj.cells #[Value.int IntKind.u8 34] 5)) s.size 0 5)).size,(bytesRow s (grownCap (w.alloc (Obj.cells #[Value.int IntKind.u8 34] 5)) s.size 0 5)).size+1))).drew)=wL at *
 generalize grownCap (w.alloc (Obj.cells #[Value.int IntKind.u8 34] 5)) s.size 0 5=cap at *
 have hlb:=Cod.str_lt s
 have hll:=Cod.str_len s
 have HLB:=Lib.hid hlb;have HLL:=Lib.hid hll
 clear hlb hll
 go_loopw [3,10] (fun vv iv wr=>∃ (acc:List Nat) (va:Option Addr) (vc k:Nat),k<=s.size/\vv=.slice va acc.length vc/\iv=.int .i64 (k:Nat)/\QL w wr s (w.heap.size+1) va vc acc k) (fun _ iv _=>s.size - (intOf iv).toNat)
 case atStart=>exact ⟨[34],_,_,0,Nat.zero_le _,rfl,rfl,HQ0.out⟩
 case round =>
  obtain ⟨acc,va,vc,k,hk,rfl,rfl,hQ⟩:=hrel
  have hal:=hQ.le hk
  have HQ:=Lib.hid hQ
  by_cases hlt:k<s.size
  ·have hkI:(k:Int)<(s.size:Int):=by omega
   have hk0:(0:Int)<=(k:Int):=by omega
   have hby:=hQ.byt k hlt
   have hc:=getD_lt' HLB.out k
   have HQB:Hid (∀ l,Va.qb ((Cod.str s).getD k 0)=l->Va.qb ((Cod.str s).getD k 0)=l):=Hxq (fun l h=>h)
   clear hQ HQB
   have hqb:Va.qb ((Cod.str s).getD k 0)=Va.qb ((Cod.str s).getD k 0):=rfl
   generalize hcd:(Cod.str s).getD k 0=c at hby hc
   by_cases c34:c=34
   ·have e1:((c:Int) == 34)=true:=by rw [beq_iff_eq];omega
    have HQB:Hid (Va.qb ((Cod.str s).getD k 0)=[92,c]):=Hxq (by rw [hcd];unfold Va.qb;rw [if_pos (by omega)])
    clear c34 hcd hqb
    have hsrc:=src_lit (l:=[92,c]) (heap_alloc_new wr (Obj.cells #[Value.int IntKind.u8 92,Value.int IntKind.u8 (c:Int)] 5)) rfl
    have h1:Mod [] wr (wr.alloc (Obj.cells #[Value.int IntKind.u8 92,Value.int IntKind.u8 (c:Int)] 5)):=(Mod.refl [] wr).alloc _
    have HSRC:=Lib.hid hsrc;have H1:=Lib.hid h1
    clear hsrc h1
    go_wp2_with (at_builtin;refine wpList_append_src _ rfl _ _ 64 64 rfl 5 i0 (.int .u8 0) 1 1 Tryz.underlying64 hinf hz0 hz1 hz2 rfl (.slice va acc.length vc) acc.length (toCells acc) rfl (HQ.out.row.alloc _) _ 2 (toCells [92,c]) rfl HSRC.out (by unfold maxLen;omega) (by omega) ?_)
    intro v' w3 hown3 hm3 hf3 hn3
    obtain ⟨va3,vc3,rfl,hQ3⟩:=HQ.out.step hlt HQB.out H1.out hown3 hm3 (fun b hb=>(hf3 b hb).imp id (fun h=>by first | omega | (simp at h;omega)))
    have HQ3:=Lib.hid hQ3
    clear hown3 hm3 hf3 hn3 hQ3
    go_wp2_with fail
    go_roundw
    case rel=>exact ⟨_,va3,vc3,k+1,by omega,rfl,by go_num,HQ3.out⟩
    case measure=>simp [intOf];omega
   ·have e1:((c:Int) == 34)=false:=by rw [beq_eq_false_iff_ne];omega
    by_cases c92:c=92
    ·have e2:((c:Int) == 92)=true:=by rw [beq_iff_eq];omega
     have HQB:Hid (Va.qb ((Cod.str s).getD k 0)=[92,c]):=Hxq (by rw [hcd];unfold Va.qb;rw [if_pos (by omega)])
     clear c34 c92 hcd hqb
     have hsrc:=src_lit (l:=[92,c]) (heap_alloc_new wr (Obj.cells #[Value.int IntKind.u8 92,Value.int IntKind.u8 (c:Int)] 5)) rfl
     have h1:Mod [] wr (wr.alloc (Obj.cells #[Value.int IntKind.u8 92,Value.int IntKind.u8 (c:Int)] 5)):=(Mod.refl [] wr).alloc _
     have HSRC:=Lib.hid hsrc;have H1:=Lib.hid h1
     clear hsrc h1
     go_wp2_with (at_builtin;refine wpList_append_src _ rfl _ _ 64 64 rfl 5 i0 (.int .u8 0) 1 1 Tryz.underlying64 hinf hz0 hz1 hz2 rfl (.slice va acc.length vc) acc.length (toCells acc) rfl (HQ.out.row.alloc _) _ 2 (toCells [92,c]) rfl HSRC.out (by unfold maxLen;omega) (by omega) ?_)
     intro v' w3 hown3 hm3 hf3 hn3
     obtain ⟨va3,vc3,rfl,hQ3⟩:=HQ.out.step hlt HQB.out H1.out hown3 hm3 (fun b hb=>(hf3 b hb).imp id (fun h=>by first | omega | (simp at h;omega)))
     have HQ3:=Lib.hid hQ3
     clear hown3 hm3 hf3 hn3 hQ3
     go_wp2_with fail
     go_roundw
     case rel=>exact ⟨_,va3,vc3,k+1,by omega,rfl,by go_num,HQ3.out⟩
     case measure=>simp [intOf];omega
    ·have e2:((c:Int) == 92)=false:=by rw [beq_eq_false_iff_ne];omega
     by_cases c10:c=10
     ·have e3:((c:Int) == 10)=true:=by rw [beq_iff_eq];omega
      have HQB:Hid (Va.qb ((Cod.str s).getD k 0)=[92,110]):=Hxq (by rw [hcd];unfold Va.qb;rw [if_neg (by omega),if_pos c10])
      clear c34 c92 c10 hcd hqb
      have hsrc:=src_lit (l:=[92,110]) (heap_alloc_new wr (Obj.cells #[Value.int IntKind.u8 92,Value.int IntKind.u8 110] 5)) rfl
      have h1:Mod [] wr (wr.alloc (Obj.cells #[Value.int IntKind.u8 92,Value.int IntKind.u8 110] 5)):=(Mod.refl [] wr).alloc _
      have HSRC:=Lib.hid hsrc;have H1:=Lib.hid h1
      clear hsrc h1
      go_wp2_with (at_builtin;refine wpList_append_src _ rfl _ _ 64 64 rfl 5 i0 (.int .u8 0) 1 1 Tryz.underlying64 hinf hz0 hz1 hz2 rfl (.slice va acc.length vc) acc.length (toCells acc) rfl (HQ.out.row.alloc _) _ 2 (toCells [92,110]) rfl HSRC.out (by unfold maxLen;omega) (by omega) ?_)
      intro v' w3 hown3 hm3 hf3 hn3
      obtain ⟨va3,vc3,rfl,hQ3⟩:=HQ.out.step hlt HQB.out H1.out hown3 hm3 (fun b hb=>(hf3 b hb).imp id (fun h=>by first | omega | (simp at h;omega)))
      have HQ3:=Lib.hid hQ3
      clear hown3 hm3 hf3 hn3 hQ3
      go_wp2_with fail
      go_roundw
      case rel=>exact ⟨_,va3,vc3,k+1,by omega,rfl,by go_num,HQ3.out⟩
      case measure=>simp [intOf];omega
     ·have e3:((c:Int) == 10)=false:=by rw [beq_eq_false_iff_ne];omega
      by_cases c32:c<32
      ·have e4:(c:Int)<32:=by omega
       have HQB:Hid (Va.qb ((Cod.str s).getD k 0)=[92,120,Va.hexd (c / 16),Va.hexd (c % 16)]):=Hxq (by rw [hcd];unfold Va.qb;rw [if_neg (by omega),if_neg (by omega),if_pos (by omega)])
       clear c34 c92 c10 hcd hqb
       go_wp2_with fail
       obtain ⟨a,ha⟩:∃ a:Nat,a=c / 16:=⟨_,rfl⟩
       obtain ⟨b,hb⟩:∃ b:Nat,b=c % 16:=⟨_,rfl⟩
       have hA:(c:Int) / 16=(a:Int):=by omega
       have hB:(c:Int) % 16=(b:Int):=by omega
       have ha1:(0:Int)<=(a:Int):=by omega
       have ha2:(a:Int)<16:=by omega
       have hb1:(0:Int)<=(b:Int):=by omega
       have hb2:(b:Int)<16:=by omega
       have hxa:∀ h,((({ data:=#[48,49,50,51,52,53,54,55,56,57,65,66,67,68,69,70] }:ByteArray)[a]'h).toNat:Nat)=Va.hexd a:=fun h=>digit_at a (by omega) h
       have hxb:∀ h,((({ data:=#[48,49,50,51,52,53,54,55,56,57,65,66,67,68,69,70] }:ByteArray)[b]'h).toNat:Nat)=Va.hexd b:=fun h=>digit_at b (by omega) h
       rw [<-ha,<-hb] at HQB
       have hsrc:=src_lit (l:=[92,120,Va.hexd a,Va.hexd b]) (drew_at (heap_alloc_new wr (Obj.cells #[Value.int IntKind.u8 92,Value.int IntKind.u8 120,Value.int IntKind.u8 (Va.hexd a:Nat),Value.int IntKind.u8 (Va.hexd b:Nat)] 5))) rfl
       have h1:Mod [] wr ((wr.alloc (Obj.cells #[Value.int IntKind.u8 92,Value.int IntKind.u8 120,Value.int IntKind.u8 (Va.hexd a:Nat),Value.int IntKind.u8 (Va.hexd b:Nat)] 5)).drew):=((Mod.refl [] wr).alloc _).drew
       have hrow:((wr.alloc (Obj.cells #[Value.int IntKind.u8 92,Value.int IntKind.u8 120,Value.int IntKind.u8 (Va.hexd a:Nat),Value.int IntKind.u8 (Va.hexd b:Nat)] 5)).drew).ownsRow 0 5 1 (.slice va acc.length vc) acc.length (toCells acc):=HQ.out.row.alloc _
       have HSRC:=Lib.hid hsrc;have H1:=Lib.hid h1;have HROW:=Lib.hid hrow
       have hB2:bits BinOp.and IntKind.u8 (c:Int) 15=(b:Int):=by rw [and15 c hc];omega
       clear hsrc h1 hrow ha hb
       go_region_law (refine step_append_src _ rfl _ _ 64 64 rfl 5 i0 (.int .u8 0) 1 1 Tryz.underlying64 hinf hz0 hz1 hz2 rfl (.slice va acc.length vc) acc.length (toCells acc) rfl HROW.out _ 4 (toCells [92,120,Va.hexd a,Va.hexd b]) rfl HSRC.out (by unfold maxLen;omega) (by omega) ?_;intro v' w3 hown3 hm3 hf3;obtain ⟨va3,vc3,rfl,hQ3⟩:=HQ.out.step hlt HQB.out H1.out hown3 hm3 (fun bq hbq=>(hf3 bq hbq).imp id (fun h=>Nat.le_trans (Nat.le_succ _) (by rw [show ((wr.alloc (Obj.cells #[Value.int IntKind.u8 92,Value.int IntKind.u8 120,Value.int IntKind.u8 (Va.hexd a:Nat),Value.int IntKind.u8 (Va.hexd b:Nat)] 5)).drew).heap.size=wr.heap.size+1 by simp] at h;exact h)));have HQ3:=Lib.hid hQ3;clear hown3 hm3 hf3 hQ3)
       all_goals (
        go_wp2_with fail
        go_roundw
        case rel=>exact ⟨_,va3,vc3,k+1,by omega,by simp,by go_num,HQ3.out⟩
        case measure=>simp [intOf];omega)
      ·have e4:¬ (c:Int)<32:=by omega
       by_cases c126:126<c
       ·have e5:126<(c:Int):=by omega
        have HQB:Hid (Va.qb ((Cod.str s).getD k 0)=[92,120,Va.hexd (c / 16),Va.hexd (c % 16)]):=Hxq (by rw [hcd];unfold Va.qb;rw [if_neg (by omega),if_neg (by omega),if_pos (by omega)])
        clear c34 c92 c10 hcd hqb
        go_wp2_with fail
        obtain ⟨a,ha⟩:∃ a:Nat,a=c / 16:=⟨_,rfl⟩
        obtain ⟨b,hb⟩:∃ b:Nat,b=c % 16:=⟨_,rfl⟩
        have hA:(c:Int) / 16=(a:Int):=by omega
        have hB:(c:Int) % 16=(b:Int):=by omega
        have ha1:(0:Int)<=(a:Int):=by omega
        have ha2:(a:Int)<16:=by omega
        have hb1:(0:Int)<=(b:Int):=by omega
        have hb2:(b:Int)<16:=by omega
        have hxa:∀ h,((({ data:=#[48,49,50,51,52,53,54,55,56,57,65,66,67,68,69,70] }:ByteArray)[a]'h).toNat:Nat)=Va.hexd a:=fun h=>digit_at a (by omega) h
        have hxb:∀ h,((({ data:=#[48,49,50,51,52,53,54,55,56,57,65,66,67,68,69,70] }:ByteArray)[b]'h).toNat:Nat)=Va.hexd b:=fun h=>digit_at b (by omega) h
        rw [<-ha,<-hb] at HQB
        have hsrc:=src_lit (l:=[92,120,Va.hexd a,Va.hexd b]) (drew_at (heap_alloc_new wr (Obj.cells #[Value.int IntKind.u8 92,Value.int IntKind.u8 120,Value.int IntKind.u8 (Va.hexd a:Nat),Value.int IntKind.u8 (Va.hexd b:Nat)] 5))) rfl
        have h1:Mod [] wr ((wr.alloc (Obj.cells #[Value.int IntKind.u8 92,Value.int IntKind.u8 120,Value.int IntKind.u8 (Va.hexd a:Nat),Value.int IntKind.u8 (Va.hexd b:Nat)] 5)).drew):=((Mod.refl [] wr).alloc _).drew
        have hrow:((wr.alloc (Obj.cells #[Value.int IntKind.u8 92,Value.int IntKind.u8 120,Value.int IntKind.u8 (Va.hexd a:Nat),Value.int IntKind.u8 (Va.hexd b:Nat)] 5)).drew).ownsRow 0 5 1 (.slice va acc.length vc) acc.length (toCells acc):=HQ.out.row.alloc _
        have HSRC:=Lib.hid hsrc;have H1:=Lib.hid h1;have HROW:=Lib.hid hrow
        have hB2:bits BinOp.and IntKind.u8 (c:Int) 15=(b:Int):=by rw [and15 c hc];omega
        clear hsrc h1 hrow ha hb
        go_region_law (refine step_append_src _ rfl _ _ 64 64 rfl 5 i0 (.int .u8 0) 1 1 Tryz.underlying64 hinf hz0 hz1 hz2 rfl (.slice va acc.length vc) acc.length (toCells acc) rfl HROW.out _ 4 (toCells [92,120,Va.hexd a,Va.hexd b]) rfl HSRC.out (by unfold maxLen;omega) (by omega) ?_;intro v' w3 hown3 hm3 hf3;obtain ⟨va3,vc3,rfl,hQ3⟩:=HQ.out.step hlt HQB.out H1.out hown3 hm3 (fun bq hbq=>(hf3 bq hbq).imp id (fun h=>Nat.le_trans (Nat.le_succ _) (by rw [show ((wr.alloc (Obj.cells #[Value.int IntKind.u8 92,Value.int IntKind.u8 120,Value.int IntKind.u8 (Va.hexd a:Nat),Value.int IntKind.u8 (Va.hexd b:Nat)] 5)).drew).heap.size=wr.heap.size+1 by simp] at h;exact h)));have HQ3:=Lib.hid hQ3;clear hown3 hm3 hf3 hQ3)
        all_goals (
         go_wp2_with fail
         go_roundw
         case rel=>exact ⟨_,va3,vc3,k+1,by omega,by simp,by go_num,HQ3.out⟩
         case measure=>simp [intOf];omega)
       ·have e5:¬ 126<(c:Int):=by omega
        have HQB:Hid (Va.qb ((Cod.str s).getD k 0)=[c]):=Hxq (by rw [hcd];unfold Va.qb;rw [if_neg (by omega),if_neg (by omega),if_neg (by omega)])
        clear c34 c92 c10 c32 c126 hcd hqb
        have hsrc:=src_lit (l:=[c]) (heap_alloc_new wr (Obj.cells #[Value.int IntKind.u8 (c:Int)] 5)) rfl
        have h1:Mod [] wr (wr.alloc (Obj.cells #[Value.int IntKind.u8 (c:Int)] 5)):=(Mod.refl [] wr).alloc _
        have HSRC:=Lib.hid hsrc;have H1:=Lib.hid h1
        clear hsrc h1
        go_wp2_with (at_builtin;refine wpList_append_src _ rfl _ _ 64 64 rfl 5 i0 (.int .u8 0) 1 1 Tryz.underlying64 hinf hz0 hz1 hz2 rfl (.slice va acc.length vc) acc.length (toCells acc) rfl (HQ.out.row.alloc _) _ 1 (toCells [c]) rfl HSRC.out (by unfold maxLen;omega) (by omega) ?_)
        intro v' w3 hown3 hm3 hf3 hn3
        obtain ⟨va3,vc3,rfl,hQ3⟩:=HQ.out.step hlt HQB.out H1.out hown3 hm3 (fun b hb=>(hf3 b hb).imp id (fun h=>by first | omega | (simp at h;omega)))
        have HQ3:=Lib.hid hQ3
        clear hown3 hm3 hf3 hn3 hQ3
        go_wp2_with fail
        go_roundw
        case rel=>exact ⟨_,va3,vc3,k+1,by omega,rfl,by go_num,HQ3.out⟩
        case measure=>simp [intOf];omega
  ·obtain rfl:k=s.size:=by omega
   have hkI:¬ (s.size:Int)<(s.size:Int):=by omega
   clear hQ
   have hsrc:=src_lit (l:=[34]) (heap_alloc_new wr (Obj.cells #[Value.int IntKind.u8 34] 5)) rfl
   have h1:Mod [] wr (wr.alloc (Obj.cells #[Value.int IntKind.u8 34] 5)):=(Mod.refl [] wr).alloc _
   have HSRC:=Lib.hid hsrc;have H1:=Lib.hid h1
   clear hsrc h1
   go_wp2_with (at_builtin;refine wpList_append_src _ rfl _ _ 64 64 rfl 5 i0 (.int .u8 0) 1 1 Tryz.underlying64 hinf hz0 hz1 hz2 rfl (.slice va acc.length vc) acc.length (toCells acc) rfl (HQ.out.row.alloc _) _ 1 (toCells [34]) rfl HSRC.out (by unfold maxLen;omega) (by omega) ?_)
   intro v' w3 hown3 hm3 hf3 hn3
   have hval:=HQ.out.val
   rw [List.take_of_length_le (by rw [HLL.out];omega)] at hval
   rw [<-toCells_append,show acc.length+1=(acc++[34]).length by simp] at hown3
   have hcv:=conv_reads (reads_own hown3 (fun x hx=>by
    rw [hval] at hx
    simp only [List.mem_append,List.mem_cons,List.mem_flatMap,List.not_mem_nil,or_false] at hx
    rcases hx with (rfl | ⟨y,hy,hx⟩) | rfl
    ·decide
    ·exact qb_lt (HLB.out y hy) x hx
    ·decide) (by rw [List.length_append];simp;omega))
   have e:Hid (acc++[34]=Va.quoted (Cod.str s)):=Hxq (by rw [hval];rfl)
   have hmw:=(HQ.out.mod.trans H1.out (by simp)).trans hm3 (fun t ht=>.inr (HQ.out.new t ht).1)
   have HMW:=Lib.hid hmw
   clear hown3 hm3 hf3 hn3 hval hmw
   go_wp2_with fail
   go_ret
   exact ⟨by rw [<-e.out];rfl,HMW.out⟩
open Go.RowKit
set_option linter.unusedVariables false
set_option linter.unusedSimpArgs false
set_option maxRecDepth 100000
theorem var_heap {P:Program} {w:World} {n:String} {g:Nat} {cs:Array Value} (hg:P.globalNamed n=some g) (h:w.var? P n=some cs):∃ T fr,w.heap[g]?=some (.cells cs T fr):=by
 simp only [World.var?,hg,Option.bind_some] at h
 split at h
 ·rename_i c T fr he
  cases h
  exact ⟨_,_,he⟩
 ·cases h
theorem var_past {P:Program} {S:List Nat} {w w':World} {n:String} {cs:Array Value} (h:w.var? P n=some cs) (hm:Mod S w w') (hS:∀ t∈S,w.heap.size<=t):w'.var? P n=some cs:=by
 cases hg:P.globalNamed n with
 | none=>simp [World.var?,hg] at h
 | some g =>
  obtain ⟨T,fr,hh⟩:=var_heap hg h
  have h2:=hm.at hh (fun hb=>by have:=hS g hb;have:=lt_of_block hh;omega)
  simp [World.var?,hg,h2]
/-- what the library's package-level variables hold -/
structure GlobV (w:World):Prop where
 tab : Lib.TabIs Tryz.prog w "internal/strconv.uint64pow10" .u64 Lib.pow10Tab
theorem GlobV.past {S:List Nat} {w w':World} (h:GlobV w) (hm:Mod S w w') (hS:∀ t∈S,w.heap.size<=t):GlobV w':=by
 obtain ⟨h1⟩:=h
 exact ⟨var_past h1 hm hS⟩
theorem mod_grow (w:World) (k:Nat) (os:Array Obj):Mod [] w (Sort.grow (w.drewN k) os) :=
 ⟨rfl,rfl,rfl,by simp [Sort.grow],fun i hi _=>by simp [Sort.grow,Array.getElem?_append,hi]⟩
theorem itoa_ofS (n:Int):Lx.ofS (Va.itoa n)=⟨(Lib.itoa n).toArray⟩:=by
 unfold Lx.ofS Va.itoa
 rw [Va.map_back]
theorem itoa_any (n:Int) (h0:-9223372036854775808<=n) (h1:n<=9223372036854775807) (w:World) (hG:GlobV w) :
  Calls Tryz.prog 86 #[.int .i64 n] w fun e w'=>e=.returned (.string (Lx.ofS (Va.itoa n)))/\Mod [] w w':=by
 refine (Tryz.strconv_Itoa n h0 h1 w hG.tab).mono ?_
 rintro e w' ⟨rfl,k,os,rfl⟩
 exact ⟨by rw [itoa_ofS],mod_grow _ _ _⟩
/-- does it lie in its bounds? -/
structure Va.Val.Ok (v:Va.Val):Prop where
 byte:∀ c∈v.s,c<256
 lo:-9223372036854775808<=v.n
 hi:v.n<=9223372036854775807
theorem may_len {v:Va.Val} (h:Va.may v=true):v.s.length<=64:=by
 unfold Va.may at h
 simp only [Bool.or_eq_true,Bool.and_eq_true,beq_iff_eq,decide_eq_true_eq] at h
 rcases h with ⟨-,h,-⟩ | ⟨-,-,h⟩
 ·rw [h];simp
 ·exact h
theorem text_any (v:Va.Val) (hv:v.Ok) (hl:v.s.length<=1000) (w:World) (hG:GlobV w) :
  Calls Tryz.prog 71 #[.agg (valV v)] w fun e w'=>e=.returned (.string (Lx.ofS (Va.text v)))/\Mod [] w w':=by
 have h1:=fun w hG=>itoa_any v.n hv.lo hv.hi w hG
 have hsz:(Lx.ofS v.s).size=v.s.length:=ofS_size _
 have hst:Cod.str (Lx.ofS v.s)=v.s:=Lx.str_ofS hv.byte
 have h2:=fun w=>Name_any (Lx.ofS v.s) (by omega) w
 have h3:=fun w=>quoted_anyP (Lx.ofS v.s) (by omega) w
 rw [hst] at h2 h3
 obtain ⟨k,n,s⟩:=v
 unfold valV
 simp only at h1 h2 h3 hsz hst ⊢
 by_cases k1:k=1
 ·subst k1
  have e:Va.text ⟨1,n,s⟩=Va.itoa n:=if_pos rfl
  rw [e]
  have H1:=Lib.hid h1
  clear h1 h2 h3 e hst hv hl
  go_enter Tryz.func71,Tryz.ntmps71
  go_wp2_with fail
  refine (H1.out _ (hG.past ((Mod.refl [] w).alloc _) (by simp))).mono ?_
  rintro e w1 ⟨rfl,hm⟩
  go_wp2_with fail
  go_ret
  exact ⟨rfl,((Mod.refl [] w).alloc _).trans hm (by simp)⟩
 ·have k1B:(k == 1)=false:=by rw [beq_eq_false_iff_ne];exact k1
  cases hn:Va.name s
  ·have e:Va.text ⟨k,n,s⟩=Va.quoted s:=by unfold Va.text;rw [if_neg k1];simp [hn]
   rw [e]
   rw [hn] at h2
   have H2:=Lib.hid h2;have H3:=Lib.hid h3
   clear h1 h2 h3 e hst hv hl hn
   go_enter Tryz.func71,Tryz.ntmps71
   go_wp2_with fail
   refine (H2.out _).mono ?_
   rintro e w1 ⟨rfl,hm⟩
   have hB:=hm.at (heap_alloc_new w (Obj.cells #[Value.int IntKind.i64 k,Value.int IntKind.i64 n,Value.string (Lx.ofS s)] 23)) (by simp)
   have c2:w1.cell? ⟨w.heap.size,2,none⟩=some (.string (Lx.ofS s)):=by simp [World.cell?,hB]
   have HM:=Hxq (((Mod.refl [] w).alloc (Obj.cells #[Value.int IntKind.i64 k,Value.int IntKind.i64 n,Value.string (Lx.ofS s)] 23)).trans hm (by simp))
   clear hB hm
   go_wp2_with fail
   refine (H3.out _).mono ?_
   rintro e w2 ⟨rfl,hm2⟩
   go_wp2_with fail
   go_ret
   exact ⟨rfl,HM.out.trans hm2 (by simp)⟩
  ·have e:Va.text ⟨k,n,s⟩=s:=by unfold Va.text;rw [if_neg k1];simp [hn]
   rw [e]
   rw [hn] at h2
   have H2:=Lib.hid h2
   clear h1 h2 h3 e hst hv hl hn
   go_enter Tryz.func71,Tryz.ntmps71
   go_wp2_with fail
   refine (H2.out _).mono ?_
   rintro e w1 ⟨rfl,hm⟩
   have hB:=hm.at (heap_alloc_new w (Obj.cells #[Value.int IntKind.i64 k,Value.int IntKind.i64 n,Value.string (Lx.ofS s)] 23)) (by simp)
   have c2:w1.cell? ⟨w.heap.size,2,none⟩=some (.string (Lx.ofS s)):=by simp [World.cell?,hB]
   have HM:=Hxq (((Mod.refl [] w).alloc (Obj.cells #[Value.int IntKind.i64 k,Value.int IntKind.i64 n,Value.string (Lx.ofS s)] 23)).trans hm (by simp))
   clear hB hm
   go_wp2_with fail
   go_ret
   exact ⟨rfl,HM.out⟩
/-- what Text answers -/
def txtV (v:Va.Val):Value:=.tuple #[.string (Lx.ofS (if Va.may v then Va.text v else [])),.int .i64 (chk v)]
theorem Text_any (v:Va.Val) (hv:v.Ok) (w:World) (hG:GlobV w) :
  Calls Tryz.prog 46 #[.agg (valV v)] w fun e w'=>e=.returned (txtV v)/\Mod [] w w':=by
 have h1:=fun w=>check_any v w
 have hm0:=(Mod.refl [] w).alloc (Obj.cells (valV v) 23)
 have hB0:=heap_alloc_new w (Obj.cells (valV v) 23)
 unfold txtV
 cases hmv:Va.may v
 ·have e:chk v=20:=by unfold chk;rw [hmv];rfl
  rw [e] at h1 ⊢
  have H1:=Lib.hid h1
  clear h1 hmv e hB0
  unfold valV at *
  go_enter Tryz.func46,Tryz.ntmps46
  go_wp2_with fail
  refine (H1.out _).mono ?_
  rintro e w1 ⟨rfl,hm⟩
  have HM:=Hxq (hm0.trans hm (by simp))
  clear hm hm0
  go_wp2_with fail
  go_ret2
  exact ⟨rfl,HM.out⟩
 ·have e:chk v=0:=by unfold chk;rw [hmv];rfl
  rw [e] at h1 ⊢
  have h2:=fun w hG=>text_any v hv (by have:=may_len hmv;omega) w hG
  have H1:=Lib.hid h1;have H2:=Lib.hid h2
  clear h1 h2 hmv e hv
  unfold valV at *
  go_enter Tryz.func46,Tryz.ntmps46
  go_wp2_with fail
  refine (H1.out _).mono ?_
  rintro e w1 ⟨rfl,hm⟩
  have hB:=hm.at hB0 (by simp)
  have c0:w1.cell? ⟨w.heap.size,0,none⟩=some (.int .i64 v.k):=by simp [World.cell?,hB]
  have c1:w1.cell? ⟨w.heap.size,1,none⟩=some (.int .i64 v.n):=by simp [World.cell?,hB]
  have c2:w1.cell? ⟨w.heap.size,2,none⟩=some (.string (Lx.ofS v.s)):=by simp [World.cell?,hB]
  have HM:=Hxq (hm0.trans hm (by simp))
  clear hm hm0 hB hB0
  go_wp2_with fail
  refine (H2.out _ (hG.past HM.out (by simp))).mono ?_
  rintro e w2 ⟨rfl,hm2⟩
  go_wp2_with fail
  go_ret2
  exact ⟨rfl,HM.out.trans hm2 (by simp)⟩
/-- block p holds a writer: its bytes l (the slice v), whether there is none, how many braces are open -/
structure WrIs (w:World) (p:Nat) (q v:Value) (l:List Nat) (bad:Bool) (br:Int):Prop where
 at_:w.heap[p]?=some (.cells #[q,v,.bool bad,.int .i64 br] 68 (0,0))
 adr:q=.pointer none\/q=.pointer (some ⟨p,0,none⟩)
 row:w.ownsRow 0 5 1 v l.length (toCells l)
 out:p∉fp v
 byte:∀ c∈l,c<256
 nil_:l=[]->v=.slice none 0 0
theorem WrIs.lt {w:World} {p:Nat} {q v:Value} {l:List Nat} {bad:Bool} {br:Int} (h:WrIs w p q v l bad br):p<w.heap.size:=lt_of_block h.at_
theorem WrIs.cells {w:World} {p:Nat} {q v:Value} {l:List Nat} {bad:Bool} {br:Int} (h:WrIs w p q v l bad br) :
  w.cell? ⟨p,0,none⟩=some q/\w.cell? ⟨p,1,none⟩=some v/\w.cell? ⟨p,2,none⟩=some (.bool bad)/\w.cell? ⟨p,3,none⟩=some (.int .i64 br)/\∀ j,w.frozen? ⟨p,j,none⟩=false:=by
 have hh:=h.at_
 refine ⟨?_,?_,?_,?_,fun j=>?_⟩ <;> simp [World.cell?,World.frozen?,hh]
theorem WrIs.keep {S:List Nat} {w w':World} {p:Nat} {q v:Value} {l:List Nat} {bad:Bool} {br:Int} (h:WrIs w p q v l bad br) (hm:Mod S w w') (hp:p∉S) (hv:∀ k∈fp v,k∉S):WrIs w' p q v l bad br :=
 ⟨hm.at h.at_ hp,h.adr,hm.owns h.row hv,h.out,h.byte,h.nil_⟩
theorem WrIs.past {S:List Nat} {w w':World} {p:Nat} {q v:Value} {l:List Nat} {bad:Bool} {br:Int} (h:WrIs w p q v l bad br) (hm:Mod S w w') (hS:∀ t∈S,w.heap.size<=t):WrIs w' p q v l bad br :=
 h.keep hm (fun hb=>by have:=hS p hb;have:=h.lt;omega) (fun k hk hs=>by have:=hS k hs;have:=fp_lt h.row k hk;omega)
/-- what a call on a writer may turn: it, its bytes, what is new -/
def WMod (p:Nat) (v v':Value) (w w':World):Prop:=Mod (p :: fp v) w w'/\∀ k∈fp v',k∈fp v\/w.heap.size<=k
theorem WMod.refl (p:Nat) (v:Value) (w:World):WMod p v v w w:=⟨Mod.refl _ _,fun k hk=>.inl hk⟩
theorem WMod.trans {p:Nat} {v v' v'':Value} {a b c:World} (h:WMod p v v' a b) (k:WMod p v' v'' b c):WMod p v v'' a c :=
 ⟨h.1.trans k.1 (fun t ht=>by
  rcases List.mem_cons.1 ht with rfl | ht
  ·exact .inl List.mem_cons_self
  ·rcases h.2 t ht with q | q
   ·exact .inl (List.mem_cons_of_mem _ q)
   ·exact .inr q),fun t ht=>by
  rcases k.2 t ht with q | q
  ·exact h.2 t q
  ·have:=h.1.size
   exact .inr (by omega)⟩
theorem WMod.of {p:Nat} {v:Value} {a b:World} (h:Mod [] a b):WMod p v v a b:=⟨h.mono (by simp),fun k hk=>.inl hk⟩
theorem WMod.size {p:Nat} {v v':Value} {a b:World} (h:WMod p v v' a b):a.heap.size<=b.heap.size:=h.1.size
/-- a cell beside the writer stays -/
theorem WMod.cell {p:Nat} {v v':Value} {a b:World} (h:WMod p v v' a b) {x:Addr} {u:Value} (hc:a.cell? x=some u) (h1:x.block≠p) (h2:x.block∉fp v):b.cell? x=some u :=
 h.1.cell hc (by simp;exact ⟨h1,h2⟩)
theorem Tryz.noEsc : ∃ fn, Tryz.prog.funcs[82]? = some fn ∧ (fn.name == "runtime.NumGoroutine") = false ∧ fn.body.isNone = true ∧ Extern.findNext fn = none ∧ Extern.find fn = some Extern.AbiNoEscape.same :=
 ⟨_,rfl,by kernel_rfl,by kernel_rfl,by kernel_rfl,by kernel_rfl⟩
theorem Tryz.infoBuilder:(Tryz.prog.info? 66).map (·.size)=some 2:=by kernel_rfl
set_option maxHeartbeats 1000000 in
theorem copyCheck_any (p:Nat) (q v:Value) (l:List Nat) (bad:Bool) (br:Int) (w:World) (h:WrIs w p q v l bad br) :
  Calls Tryz.prog 66 #[.pointer (some ⟨p,0,none⟩)] w fun e w'=>e=.returned (.tuple #[])/\WrIs w' p (.pointer (some ⟨p,0,none⟩)) v l bad br/\Mod [p] w w':=by
 obtain ⟨j,hj,hjs⟩:=Option.map_eq_some_iff.1 Tryz.infoBuilder
 have hh:=h.at_
 have hsh:w.shape? p=some (68,4):=by simp [World.shape?,hh]
 obtain ⟨c0,c1,c2,c3,fz⟩:=h.cells
 have H:=Lib.hid h
 rcases h.adr with rfl | rfl
 ·obtain ⟨fn,hf,hn1,hn2,hn3,hn4⟩:=Tryz.noEsc
  have hlies:liesAt Tryz.prog Tryz.prog.depth 68 (4 / Tryz.prog.cellsOf 68) 0 66 1=true:=by kernel_rfl
  go_enter Tryz.func66,Tryz.ntmps66
  go_wp2_with fail
  rw [Lib.run_to_unsafe w ⟨p,0,none⟩ Tryz.underlying63 Tryz.underlying150 hj (by rw [hjs];decide) hsh (show 0<4 by decide)]
  simp only [Result.andThen]
  rw [Oper.upon_value]
  go_wp2_with fail
  rw [run_callFunc_extern hf hn1 hn2 hn3 hn4]
  rw [Lib.run_noEscape]
  simp only [Result.andThen]
  rw [Oper.upon_value]
  go_wp2_with fail
  rw [Lib.run_from_unsafe w ⟨p,0,none⟩ Tryz.underlying150 Tryz.underlying63 hj hsh hlies]
  simp only [Result.andThen]
  rw [Oper.upon_value]
  go_wp2_with fail
  go_end0
  refine ⟨rfl,⟨?_,.inr rfl,ownsRow_setCell_other H.out.row (fun e=>H.out.out (ownBlock_fp _ _ e)) _,H.out.out,H.out.byte,H.out.nil_⟩,Mod.setCell (p:=⟨p,0,none⟩) (Mod.refl _ _) (.inl List.mem_cons_self) _⟩
  have:=setCell_at H.out.at_ 0 (.pointer (some ⟨p,0,none⟩))
  simpa using this
 ·go_enter Tryz.func66,Tryz.ntmps66
  go_wp2_with fail
  rw [Lib.run_neq_ptr_same w _ Tryz.underlying63 hj]
  go_wp2_with fail
  go_end0
  exact ⟨rfl,H.out,Mod.refl _ _⟩
/-- what a call that writes leaves -/
def WLaid (p:Nat) (v:Value) (l:List Nat) (bad:Bool) (br:Int) (w:World) (e:Ending) (w':World):Prop :=
 e=.returned (.tuple #[])/\∃ q' v',WrIs w' p q' v' l bad br/\WMod p v v' w w'
set_option maxHeartbeats 1000000 in
theorem WriteString_any (p:Nat) (q v:Value) (l:List Nat) (bad:Bool) (br:Int) (s:ByteArray) (w:World) (h:WrIs w p q v l bad br) (hlen:l.length+s.size<=140737488355328) :
  Calls Tryz.prog 43 #[.pointer (some ⟨p,0,none⟩),.string s] w fun e w'=>e=.returned (.tuple #[.int .i64 s.size,.nilIface])/\∃ q' v',WrIs w' p q' v' (l++Cod.str s) bad br/\WMod p v v' w w':=by
 obtain ⟨i0,hi,hz0,hz1,hz2⟩:=info_parts Tryz.infoU8
 go_enter Tryz.func43,Tryz.ntmps43
 go_wp2_with fail
 refine (copyCheck_any p q v l bad br w h).mono ?_
 rintro e w1 ⟨rfl,h1,m1⟩
 obtain ⟨c0,c1,c2,c3,fz⟩:=h1.cells
 have hsrc:=Src.ofString (P:=Tryz.prog) w1 Tryz.underlying9 s
 have H1:=Lib.hid h1;have M1:=Lib.hid m1
 clear h1 m1 h
 go_wp2_with (at_builtin;refine wpList_append_src _ rfl _ _ 64 9 rfl 5 i0 (.int .u8 0) 1 1 Tryz.underlying64 hi hz0 hz1 hz2 rfl v _ _ rfl H1.out.row _ _ _ rfl hsrc (by unfold maxLen;omega) (by omega) ?_)
 intro v' w2 hown hmod hfresh hnil
 have hat:=hmod.at H1.out.at_ H1.out.out
 have d1:w2.cell? ⟨p,1,none⟩=some v:=by simp [World.cell?,hat]
 have fz2:∀ j,w2.frozen? ⟨p,j,none⟩=false:=fun j=>by simp [World.frozen?,hat]
 have hpo:p∉fp v':=fun hb=>by
  rcases hfresh p hb with r | r
  ·exact H1.out.out r
  ·have:=H1.out.lt;omega
 have HH:WrIs (w2.setCell ⟨p,1,none⟩ v') p (.pointer (some ⟨p,0,none⟩)) v' (l++Cod.str s) bad br/\WMod p v v' w (w2.setCell ⟨p,1,none⟩ v'):=by
  refine ⟨⟨?_,.inr rfl,?_,hpo,fun c hc=>(List.mem_append.1 hc).elim (H1.out.byte c) (Cod.str_lt s c),fun e=>?_⟩,?_,fun k hk=>?_⟩
  ·have:=setCell_at hat 1 v'
   have hq:w1.heap[p]?=_:=H1.out.at_
   rcases H1.out.adr with e | e
   ·cases e
   ·simpa using this
  ·rw [List.length_append,Cod.str_len,toCells_append,<-byteCells_str]
   exact ownsRow_setCell_other hown (fun e=>hpo (ownBlock_fp _ _ e)) _
  ·obtain ⟨e1,e2⟩:=List.append_eq_nil_iff.1 e
   refine hnil.2 ⟨H1.out.nil_ e1,?_⟩
   first
    | (rw [<-Lx.ofS_str s,e2];rfl)
    | (rw [<-Cod.str_len,e2];rfl)
  ·exact Mod.setCell (p:=⟨p,1,none⟩) ((M1.out.mono (by simp)).trans hmod (fun t ht=>.inl (List.mem_cons_of_mem _ ht))) (.inl List.mem_cons_self) _
  ·rcases hfresh k hk with r | r
   ·exact .inl r
   ·have:=M1.out.size;exact .inr (by omega)
 obtain ⟨a',c',rfl⟩:=owns_slice hown
 have HHH:=Lib.hid HH
 clear hnil hfresh hown hmod HH hpo hat
 go_wp2_with fail
 go_ret2
 exact ⟨rfl,_,_,HHH.out.1,HHH.out.2⟩
theorem must_anyP (p:Nat) (q v:Value) (l:List Nat) (bad:Bool) (br:Int) (b:Bool) (w:World) (h:WrIs w p q v l bad br) :
  Calls Tryz.prog 23 #[.pointer (some ⟨p,0,none⟩),.bool b] w (WLaid p v l (bad || !b) br w):=by
 obtain ⟨c0,c1,c2,c3,fz⟩:=h.cells
 have H:=Lib.hid h
 cases b
 ·go_enter Tryz.func23,Tryz.ntmps23
  go_wp2_with fail
  go_end0
  refine ⟨rfl,q,v,⟨?_,H.out.adr,ownsRow_setCell_other H.out.row (fun e=>H.out.out (ownBlock_fp _ _ e)) _,H.out.out,H.out.byte,H.out.nil_⟩,Mod.setCell (p:=⟨p,2,none⟩) (Mod.refl _ _) (.inl List.mem_cons_self) _,fun k hk=>.inl hk⟩
  have:=setCell_at H.out.at_ 2 (.bool true)
  simpa using this
 ·go_enter Tryz.func23,Tryz.ntmps23
  go_wp2_with fail
  go_end0
  refine ⟨rfl,q,v,?_,WMod.refl _ _ _⟩
  simpa using H.out
set_option maxHeartbeats 2000000 in
theorem put_any (p:Nat) (q v:Value) (l:List Nat) (bad:Bool) (br:Int) (g c:Nat) (ss:List ByteArray) (w:World) (h:WrIs w p q v l bad br)
  (hg:g<w.heap.size) (hgp:g≠p) (hgv:g∉fp v) (hc:∀ i (hi:i<ss.length),w.cell? ⟨g,i,none⟩=some (.string ss[i])) (hn:ss.length<=1000) (hlen:l.length+(ss.flatMap Cod.str).length<=140737488355328) :
  Calls Tryz.prog 20 #[.pointer (some ⟨p,0,none⟩),.slice (some ⟨g,0,none⟩) ss.length c] w (WLaid p v (l++ss.flatMap Cod.str) bad br w):=by
 have H:=Lib.hid h;have HC:=Lib.hid hc
 clear h hc
 go_enter Tryz.func20,Tryz.ntmps20
 go_wp2_with fail
 go_loopw [8] (fun iv wr=>∃ (k:Nat) (q' v':Value),k<=ss.length/\iv=.int .i64 (k:Nat)/\WrIs wr p q' v' (l++(ss.take k).flatMap Cod.str) bad br/\WMod p v v' w wr) (fun iv _=>ss.length - (intOf iv).toNat)
 case atStart=>exact ⟨0,q,v,Nat.zero_le _,rfl,by simpa using H.out,WMod.refl _ _ _⟩
 case round =>
  obtain ⟨k,q',v',hk,rfl,hw,hm⟩:=hrel
  by_cases hlt:k<ss.length
  ·have hkI:(k:Int)<(ss.length:Int):=by omega
   have hk0:(0:Int)<=(k:Int):=by omega
   have hcell:=hm.cell (HC.out k hlt) hgp hgv
   have hsn:(ss.take (k+1)).flatMap Cod.str=(ss.take k).flatMap Cod.str++Cod.str ss[k]:=by
    rw [List.take_succ_eq_append_getElem hlt,List.flatMap_append];simp
   have hle:(l++(ss.take k).flatMap Cod.str).length+ss[k].size<=140737488355328:=by
    have h1:ss.flatMap Cod.str=(ss.take (k+1)).flatMap Cod.str++(ss.drop (k+1)).flatMap Cod.str:=by
     rw [<-List.flatMap_append,List.take_append_drop]
    have h2:=congrArg List.length h1
    rw [hsn,List.length_append,List.length_append,Cod.str_len] at h2
    rw [List.length_append]
    omega
   have HSN:=Lib.hid hsn
   generalize ss[k]=s at *
   have HW:=Hxq (WriteString_any p q' v' _ bad br s wr hw hle)
   have HM:=Lib.hid hm
   clear hw hm hsn hle
   go_wp2_with fail
   refine HW.out.mono ?_
   rintro e w1 ⟨rfl,q2,v2,h2,m2⟩
   have R1:Hid (WrIs w1 p q2 v2 (l++(ss.take (k+1)).flatMap Cod.str) bad br):=Hxq (by rw [HSN.out,<-List.append_assoc];exact h2)
   have R2:=Hxq (HM.out.trans m2)
   clear h2 m2
   go_wp2_with fail
   go_roundw
   case rel=>exact ⟨k+1,q2,v2,by omega,by go_num,R1.out,R2.out⟩
   case measure=>simp [intOf];omega
  ·obtain rfl:k=ss.length:=by omega
   have hkI:¬ (ss.length:Int)<(ss.length:Int):=by omega
   rw [List.take_length] at hw
   have HW:=Lib.hid hw;have HM:=Lib.hid hm
   clear hw hm
   go_wp2_with fail
   go_end0
   exact ⟨rfl,q',v',HW.out,HM.out⟩
end Go.Proofs.YtbfaclljbbfknaaGreatDoor
