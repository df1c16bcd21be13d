/- THE TEXTS MERGED: LxScan LxSkip Shelf. -/
import Derived.Test.YtbfaclljbbfknaaGreatDoorKP1
import Derived.Deep.LoopGhost
import Derived.Outline
import Derived.Shelf.Strings.Builder1
import Derived.Shelf.Utf8.RuneCount
import Derived.Shelf.Strconv.Atoi
import Derived.Shelf.Strconv.Itoa0
import Derived.Shelf.Strconv.Itoa1
import Derived.Shelf.LaysM
import Derived.Shelf.Strconv.Itoa2
import Derived.Shelf.Strconv.Itoa3
import Derived.Shelf.Strconv.AtoiErrFast
import Derived.Shelf.Strconv.ParseIntEmpty
import Derived.Shelf.Strconv.AtoiFail
import Derived.Shelf.Strconv.Clone
import Derived.Shelf.Strconv.SyntaxError
import Derived.Shelf.LaysC
import Derived.Shelf.Strconv.ToError
import Derived.Shelf.Strconv.Lower
import Derived.Shelf.Strconv.ParseUint10
import Derived.Shelf.Strconv.ParseUint10Empty
import Derived.Shelf.Strconv.ParseUint10Any
import Derived.Shelf.Strconv.ParseInt10
import Derived.Shelf.Strconv.AtoiLong
import Derived.Shelf.Strconv.AtoiInnerAll
import Derived.Shelf.Strconv.RangeError
import Derived.Shelf.Strconv.ToErrorRange
import Derived.Shelf.Strconv.AtoiAll
import Derived.Shelf.Strconv.ErrVarAll
import Derived.Ground.MpProg
import Derived.Shelf.Pu.ParseUintPublic10
import Derived.Shelf.Pu.ErrVarParseUint
import Derived.Shelf.Strings.Search1
import Derived.Shelf.Strings.Search2
import Derived.Shelf.Strings.Search3
import Derived.Shelf.Strings.Count
import Derived.Shelf.Strings.Shaped
import Derived.Shelf.Strings.LastIndex
import Derived.Shelf.Strings.Prefix
import Derived.Shelf.Strings.Split
import Derived.Shelf.Strings.RuneCount
import Derived.Test.YtbfaclljbbfknaaGreatDoorProg
namespace Go.Proofs.YtbfaclljbbfknaaGreatDoor
open Go.RowKit
set_option linter.unusedVariables false
set_option linter.unusedSimpArgs false
set_option maxRecDepth 100000
/-- the scanner's cells -/
def scCells (s:ByteArray) (x:Lx.St):Array Value :=
 #[.string s,.int .i64 (x.pos.1:Nat),.int .i64 (x.pos.2:Nat),.int .i64 (x.fin.1:Nat),.int .i64 (x.fin.2:Nat),.int .i64 (x.code:Nat),.int .i64 (x.fp.1:Nat),.int .i64 (x.fp.2:Nat),.bool x.long]
structure ScIs (w:World) (b:Nat) (s:ByteArray) (x:Lx.St):Prop where
 at_:w.heap[b]?=some (.cells (scCells s x) 141 (0,0))
 str:Cod.str s=x.s
 size:s.size<=140737488355328
 lim:x.long=false->s.size<=65536/\x.pos.1+2 * s.size<=200000/\x.pos.2+2 * s.size<=200000
theorem ScIs.cell {w:World} {b:Nat} {s:ByteArray} {x:Lx.St} (h:ScIs w b s x) (i:Nat):w.cell? ⟨b,i,none⟩=(scCells s x)[i]?:=by
 simp [World.cell?,h.at_]
theorem ScIs.free {w:World} {b:Nat} {s:ByteArray} {x:Lx.St} (h:ScIs w b s x) (i:Nat):w.frozen? ⟨b,i,none⟩=false:=by simp [World.frozen?,h.at_]
theorem ScIs.lt {w:World} {b:Nat} {s:ByteArray} {x:Lx.St} (h:ScIs w b s x):b<w.heap.size:=lt_of_block h.at_
theorem ScIs.keep {S:List Nat} {w w':World} {b:Nat} {s:ByteArray} {x:Lx.St} (h:ScIs w b s x) (hm:Mod S w w') (hb:b∉S):ScIs w' b s x :=
 ⟨hm.at h.at_ hb,h.str,h.size,h.lim⟩
theorem ScIs.past {S:List Nat} {w w':World} {b:Nat} {s:ByteArray} {x:Lx.St} (h:ScIs w b s x) (hm:Mod S w w') (hS:∀ t∈S,w.heap.size<=t):ScIs w' b s x :=
 h.keep hm (fun hb=>by have:=hS b hb;have:=h.lt;omega)
theorem take_snoc {α:Type} (l:List α) (d:α) (k:Nat) (h:k<l.length):l.take (k+1)=l.take k++[l.getD k d]:=by
 rw [List.take_succ_eq_append_getElem h,List.getD_eq_getElem?_getD,List.getElem?_eq_getElem h];rfl
theorem setCell_at {w:World} {b:Nat} {cs:Array Value} {T:TypeId} {fr:Nat × Nat} (h:w.heap[b]?=some (.cells cs T fr)) (i:Nat) (v:Value) :
  (w.setCell ⟨b,i,none⟩ v).heap[b]?=some (.cells (cs.setIfInBounds i v) T fr):=by
 simp [World.setCell,Array.getElem?_modify,h]
theorem pass_any (b:Nat) (s:ByteArray) (x:Lx.St) (n:Nat) (w:World) (h:ScIs w b s x) (hn:n<=s.size) (hl:x.long=false) :
  Calls Tryz.prog 74 #[.pointer (some ⟨b,0,none⟩),.int .i64 (n:Int)] w fun e w'=>e=.returned (.tuple #[])/\∃ s',ScIs w' b s' { x with s:=x.s.drop n,pos:=Lx.adv x.pos (x.s.take n) }/\Mod [b] w w':=by
 have c0:w.cell? ⟨b,0,none⟩=some (.string s):=h.cell 0
 obtain ⟨hs,hl1,hl2⟩:=h.lim hl
 have hcv:=fun w s=>run_bytes_of_string (P:=Tryz.prog) w 9 64 5 s Tryz.underlying9 Tryz.underlying64 Tryz.underlying5
 go_enter Tryz.func74,Tryz.ntmps74
 go_wp2_with fail
 have hb:b<w.heap.size:=h.lt
 have hbyte:Hid (∀ k,k<n->((w.alloc (Obj.cells (bytesRow (s.extract 0 n) (grownCap w n 0 5)) 5 ((bytesRow (s.extract 0 n) (grownCap w n 0 5)).size,(bytesRow (s.extract 0 n) (grownCap w n 0 5)).size+1))).drew).cell? ⟨w.heap.size,k,none⟩=some (.int .u8 (x.s.getD k 0:Nat))):=Hxq (fun k hk=>by
  show (w.alloc (Obj.cells _ _ _)).cell? _=_
  rw [World.cell?_alloc_mark]
  have hk':k<(s.extract 0 n).data.size:=by
   have:(s.extract 0 n).data.size=(s.extract 0 n).size:=rfl
   rw [this,ByteArray.size_extract];omega
  rw [bytesRow_at _ _ k hk']
  have e1:(Cod.str (s.extract 0 n)).getD k 0=((s.extract 0 n).data[k]).toNat:=by
   rw [Lx.get_str _ _ hk'];rfl
  have e2:(Cod.str (s.extract 0 n)).getD k 0=x.s.getD k 0:=by
   rw [Lx.str_extract,h.str]
   simp [List.getD_eq_getElem?_getD,List.getElem?_take,hk]
  rw [<-e1,e2])
 have hm0:Mod [b] w ((w.alloc (Obj.cells (bytesRow (s.extract 0 n) (grownCap w n 0 5)) 5 ((bytesRow (s.extract 0 n) (grownCap w n 0 5)).size,(bytesRow (s.extract 0 n) (grownCap w n 0 5)).size+1))).drew):=((Mod.refl [b] w).alloc _).drew
 have hat0:=hm0.mono (T:=[b]) (fun t ht=>.inl ht)
 have hb0:((w.alloc (Obj.cells (bytesRow (s.extract 0 n) (grownCap w n 0 5)) 5 ((bytesRow (s.extract 0 n) (grownCap w n 0 5)).size,(bytesRow (s.extract 0 n) (grownCap w n 0 5)).size+1))).drew).heap[b]?=some (.cells (scCells s x) 141 (0,0)):=(((Mod.refl [] w).alloc _).drew).at h.at_ (by simp)
 have hstr:=h.str
 have hxl:x.s.length=s.size:=by rw [<-hstr,Cod.str_len]
 generalize ((w.alloc (Obj.cells (bytesRow (s.extract 0 n) (grownCap w n 0 5)) 5 ((bytesRow (s.extract 0 n) (grownCap w n 0 5)).size,(bytesRow (s.extract 0 n) (grownCap w n 0 5)).size+1))).drew)=w2 at *
 generalize grownCap w n 0 5=cap at *
 have HX:=Lib.hid hxl
 clear hcv hxl hat0
 go_loopw [14] (fun i wr=>∃ (k:Nat),k<=n/\i=.int .i64 (k:Int)/\wr.heap[b]?=some (.cells (scCells s { x with pos:=Lx.adv x.pos (x.s.take k) }) 141 (0,0))/\Mod [b] w2 wr) (fun i _=>n - (intOf i).toNat)
 case atStart=>exact ⟨0,Nat.zero_le _,rfl,by simpa [Lx.adv] using hb0,Mod.refl _ _⟩
 case round =>
  obtain ⟨k,hk,rfl,hbr,hmr⟩:=hrel
  have hla:=Lx.adv_le x.pos (x.s.take k)
  have hlt:=HX.out
  rw [List.length_take] at hla
  by_cases hlt:k<n
  ·have hck:=hmr.cell (hbyte.out k hlt) (by simp;omega)
   have hsn:Lx.adv x.pos (x.s.take (k+1))=if x.s.getD k 0=10 then ((Lx.adv x.pos (x.s.take k)).1+1,1) else ((Lx.adv x.pos (x.s.take k)).1,(Lx.adv x.pos (x.s.take k)).2+1):=by
    rw [take_snoc _ 0 _ (by omega),Lx.adv_append]
    rfl
   have hlk1:(Lx.adv x.pos (x.s.take k)).1<=200000:=by omega
   have hlk2:(Lx.adv x.pos (x.s.take k)).2<=200000:=by omega
   have q1:wr.cell? ⟨b,1,none⟩=some (.int .i64 ((Lx.adv x.pos (x.s.take k)).1:Nat)):=by simp [World.cell?,hbr,scCells]
   have q2:wr.cell? ⟨b,2,none⟩=some (.int .i64 ((Lx.adv x.pos (x.s.take k)).2:Nat)):=by simp [World.cell?,hbr,scCells]
   have f1:wr.frozen? ⟨b,1,none⟩=false:=by simp [World.frozen?,hbr]
   have f2:wr.frozen? ⟨b,2,none⟩=false:=by simp [World.frozen?,hbr]
   have hset:=fun v=>setCell_at hbr 2 v
   have hset2:=fun v u=>setCell_at (hset v) 1 u
   have hset3:=fun v u t=>setCell_at (hset2 v u) 2 t
   generalize Lx.adv x.pos (x.s.take k)=p at *
   generalize x.s.getD k 0=y at *
   by_cases hy:y=10
   ·have hyb:((y:Int) == 10)=true:=by rw [beq_iff_eq];omega
    rw [if_pos hy] at hsn
    have HS:=Lib.hid hsn
    have H3:=Lib.hid hset3
    clear hsn hset hset2 hset3 hla hbr hy
    go_wp2_with fail
    go_roundw
    case rel =>
     refine ⟨k+1,by omega,by go_num,?_,?_⟩
     ·rw [HS.out,H3.out];simp [scCells]
     ·exact ((hmr.setCell (p:=⟨b,2,none⟩) (by simp) _).setCell (p:=⟨b,1,none⟩) (by simp) _).setCell (p:=⟨b,2,none⟩) (by simp) _
    case measure=>simp [intOf];omega
   ·have hyb:((y:Int) == 10)=false:=by rw [beq_eq_false_iff_ne];omega
    rw [if_neg hy] at hsn
    have HS:=Lib.hid hsn
    have H3:=Lib.hid hset
    clear hsn hset hset2 hset3 hla hbr hy
    go_wp2_with fail
    go_roundw
    case rel =>
     refine ⟨k+1,by omega,by go_num,?_,?_⟩
     ·rw [HS.out,H3.out];simp [scCells]
     ·exact hmr.setCell (p:=⟨b,2,none⟩) (by simp) _
    case measure=>simp [intOf];omega
  ·obtain rfl:k=n:=by omega
   have q0:wr.cell? ⟨b,0,none⟩=some (.string s):=by simp [World.cell?,hbr,scCells]
   have f0:wr.frozen? ⟨b,0,none⟩=false:=by simp [World.frozen?,hbr]
   have hset:=Hxq (fun v=>setCell_at hbr 0 v)
   go_wp2_with fail
   go_end0
   refine ⟨rfl,s.extract k s.size,⟨?_,?_,?_,?_⟩,(hm0.trans hmr (fun t ht=>.inl ht)).setCell (p:=⟨b,0,none⟩) (by simp) _⟩
   ·rw [hset.out];simp [scCells]
   ·rw [Lx.str_extract,hstr]
    simp only
    rw [List.take_of_length_le (by rw [List.length_drop,HX.out];omega)]
   ·rw [ByteArray.size_extract];omega
   ·intro _
    rw [ByteArray.size_extract]
    simp only
    omega
def St.at (x:Lx.St) (m:Nat):Lx.St:={ x with s:=x.s.drop m,pos:=Lx.adv x.pos (x.s.take m) }
theorem St.at_at (x:Lx.St) (m n:Nat):{ St.at x m with s:=(St.at x m).s.drop n,pos:=Lx.adv (St.at x m).pos ((St.at x m).s.take n) }=St.at x (m+n):=by
 unfold St.at
 simp only [List.drop_drop]
 rw [<-Lx.adv_append,<-List.take_add]
theorem toList_isEmpty (s:ByteArray):s.toList.isEmpty=decide (s.size=0):=by
 rw [ByteArray.toList_eq]
 obtain ⟨⟨l⟩⟩:=s
 cases l <;> simp [ByteArray.size]
set_option maxHeartbeats 1000000 in
theorem skip_any (b:Nat) (s:ByteArray) (x:Lx.St) (w:World) (h:ScIs w b s x) (hl:x.long=false) :
  Calls Tryz.prog 72 #[.pointer (some ⟨b,0,none⟩)] w fun e w'=>e=.returned (.tuple #[])/\∃ s',ScIs w' b s' x.skip/\Mod [b] w w':=by
 have hls:=(h.lim hl).1
 have hstr:=h.str
 have hxl:x.s.length=s.size:=by rw [<-hstr,Cod.str_len]
 go_enter Tryz.func72,Tryz.ntmps72
 go_wp2_with fail
 go_loopg [] x.s.length (fun g wr=>∃ m s',x.s.length=g+m/\ScIs wr b s' (St.at x m)/\Lx.skipN false x.s=m+Lx.skipN false (x.s.drop m)/\Mod [b] w wr)
 case atStart=>exact ⟨0,s,rfl,by simpa [St.at,Lx.adv] using h,by simp,Mod.refl _ _⟩
 case round =>
  obtain ⟨m,s',hg,hS,hk,hmr⟩:=hrel
  have q0:wr.cell? ⟨b,0,none⟩=some (.string s'):=hS.cell 0
  have hsz:s'.size=(x.s.drop m).length:=by rw [<-Cod.str_len,hS.str];rfl
  have hss:=hS.size
  cases hd:x.s.drop m with
  | nil =>
   have HD:=Lib.hid hd
   rw [hd] at hsz hk
   have hem:s'.toList.isEmpty=true:=by rw [toList_isEmpty,hsz];rfl
   have HK:=Lib.hid hk
   clear hd hsz hk
   go_wp2_with fail
   go_end0
   refine ⟨rfl,s',?_,hmr⟩
   have e:x.skip=St.at x m:=by
    unfold Lx.St.skip St.at
    rw [HK.out];rfl
   rw [e];exact hS
  | cons c t =>
   have HD:=Lib.hid hd
   rw [hd] at hsz hk
   have hem:s'.toList.isEmpty=false:=by rw [toList_isEmpty,hsz];rfl
   have h0:0<s'.size:=by rw [hsz];simp
   have hst:Cod.str s'=c :: t:=by rw [hS.str,<-hd];rfl
   have hc0:s'[0].toNat=c:=by rw [<-Lx.get_str s' 0 h0,hst];rfl
   have hrn:=Lx.run_le Lx.blank (c :: t)
   have hcallb:=len_blank s' (by omega) wr
   have hcalll:=fun w=>len_line s' (by omega) w
   rw [hst] at hcallb
   simp only [hst] at hcalll
   have hgm:(c :: t).length=gk:=by rw [<-hd,List.length_drop];omega
   by_cases hb:Lx.blank c=true
   ·have hr1:1<=Lx.run Lx.blank (c :: t):=Lx.run_pos (by simp) (by simpa using hb)
    have hsk:=Lx.skip_blank (c :: t)
    rw [<-hd,List.drop_drop,hd] at hsk
    generalize hrr:Lx.run Lx.blank (c :: t)=r at *
    have hz:((r:Int) == 0)=false:=by rw [beq_eq_false_iff_ne];omega
    have hpass:=pass_any b s' (St.at x m) r
    rw [St.at_at] at hpass
    have HSK:=Lib.hid hsk;have HK:=Lib.hid hk;have HP:=Lib.hid hpass;have HB:=Lib.hid hcallb;have HSZ:=Lib.hid hsz;have HGM:=Lib.hid hgm;have HG:=Lib.hid hg
    clear hrr hsk hk hpass hcallb hcalll hst hc0 hsz hd hgm hxl hg hstr
    go_wp2_with fail
    refine HB.out.mono ?_
    rintro e w2 ⟨rfl,hm2⟩
    have hS2:=hS.past hm2 (by simp)
    go_wp2_with fail
    refine (HP.out w2 hS2 (by rw [HSZ.out];exact hrn) hl).mono ?_
    rintro e w3 ⟨rfl,s3,hS3,hm3⟩
    have hm3':=(hmr.trans hm2 (by simp)).trans hm3 (fun t ht=>.inl ht)
    go_wp2_with fail
    go_roundg (gk - r)
    case measure=>have:=HGM.out;simp at this;omega
    case rel =>
     have h1:=HGM.out
     have h2:=HG.out
     exact ⟨m+r,s3,by rw [<-h1] at h2 ⊢;omega,hS3,by rw [HK.out,HSK.out,Nat.add_assoc],hm3'⟩
   ·have hb':Lx.blank c=false:=by simpa using hb
    have hrb:Lx.run Lx.blank (c :: t)=0:=by rw [Lx.run_cons,hb'];rfl
    rw [hrb] at hcallb
    by_cases hc:c=35
    ·subst hc
     have hr1:1<=Lx.run Lx.line (35 :: t):=Lx.run_pos (by simp) rfl
     have hrn:=Lx.run_le Lx.line (35 :: t)
     have hsk:=Lx.skip_remark t
     rw [<-hd,List.drop_drop,hd] at hsk
     generalize hrr:Lx.run Lx.line (35 :: t)=r at *
     have hz:((r:Int) == 0)=false:=by rw [beq_eq_false_iff_ne];omega
     have hpass:=pass_any b s' (St.at x m) r
     rw [St.at_at] at hpass
     have hidx:((s'[0].toNat:Int) == 35)=true:=by rw [hc0];rfl
     have HSK:=Lib.hid hsk;have HK:=Lib.hid hk;have HP:=Lib.hid hpass;have HB:=Lib.hid hcallb;have HL:=Lib.hid hcalll;have HSZ:=Lib.hid hsz;have HGM:=Lib.hid hgm;have HG:=Lib.hid hg
     clear hrr hsk hk hpass hcallb hcalll hst hc0 hsz hd hgm hxl hg hstr hrb
     go_wp2_with fail
     refine HB.out.mono ?_
     rintro e w2 ⟨rfl,hm2⟩
     have hS2:=hS.past hm2 (by simp)
     have q2:w2.cell? ⟨b,0,none⟩=some (.string s'):=hS2.cell 0
     go_wp2_with fail
     refine (HL.out _).mono ?_
     rintro e w3 ⟨rfl,hm3⟩
     have hS3:=hS2.past hm3 (by simp)
     go_wp2_with fail
     refine (HP.out w3 hS3 (by rw [HSZ.out];exact hrn) hl).mono ?_
     rintro e w4 ⟨rfl,s4,hS4,hm4⟩
     have hm4':=((hmr.trans hm2 (by simp)).trans hm3 (by simp)).trans hm4 (fun t ht=>.inl ht)
     go_wp2_with fail
     go_roundg (gk - r)
     case measure=>have:=HGM.out;simp at this;omega
     case rel =>
      have h1:=HGM.out
      have h2:=HG.out
      exact ⟨m+r,s4,by rw [<-h1] at h2 ⊢;omega,hS4,by rw [HK.out,HSK.out,Nat.add_assoc],hm4'⟩
    ·have hsk:=Lx.skip_none (t:=t) hb' hc
     have hidx:((s'[0].toNat:Int) == 35)=false:=by rw [hc0,beq_eq_false_iff_ne];omega
     have HSK:=Lib.hid hsk;have HK:=Lib.hid hk;have HB:=Lib.hid hcallb;have HSZ:=Lib.hid hsz;have HGM:=Lib.hid hgm;have HG:=Lib.hid hg;have HDD:=Lib.hid hd
     clear hsk hk hcallb hcalll hst hc0 hsz hd hgm hxl hg hstr hrb hc
     go_wp2_with fail
     refine HB.out.mono ?_
     rintro e w2 ⟨rfl,hm2⟩
     have hS2:=hS.past hm2 (by simp)
     have q2:w2.cell? ⟨b,0,none⟩=some (.string s'):=hS2.cell 0
     go_wp2_with fail
     refine bodyPost_ret (results_none rfl _ _ _) rfl ?_
     refine ⟨rfl,s',?_,hmr.trans hm2 (by simp)⟩
     have e:x.skip=St.at x m:=by
      unfold Lx.St.skip St.at
      rw [HK.out,HSK.out];rfl
     rw [e];exact hS2
end Go.Proofs.YtbfaclljbbfknaaGreatDoor
namespace Go.Proofs
open Go.Shelf
def Tryz.laysM171_ren:Go.Shelf.Ren:=⟨fun | 171=>86 | 243=>101 | 246=>109 | 283=>115 | 284=>116 | 285=>117 | 286=>118 | 129=>126 | 317=>125 | 318=>127 | 319=>128 | 320=>129 | 337=>134 | 338=>135 | n=>n,fun | 3=>3 | 9=>9 | 2=>2 | 4=>4 | 171=>171 | 0=>0 | 53=>165 | 37=>64 | 5=>5 | 173=>174 | 212=>183 | 51=>168 | 20=>20 | 213=>184 | 46=>160 | 232=>195 | 233=>196 | n=>n,fun | 17=>2 | 18=>5 | 19=>6 | n=>n⟩
theorem Tryz.laysM171:Go.Proofs.LaysM.n171 Tryz.prog Tryz.laysM171_ren:={
 mixed:=by kernel_rfl
 f129:=Tryz.func126.trans (congrArg some (by kernel_rfl))
 f171:=Tryz.func86.trans (congrArg some (by kernel_rfl))
 f243:=Tryz.func101.trans (congrArg some (by kernel_rfl))
 f246:=Tryz.func109.trans (congrArg some (by kernel_rfl))
 f283:=Tryz.func115.trans (congrArg some (by kernel_rfl))
 f284:=Tryz.func116.trans (congrArg some (by kernel_rfl))
 f285:=Tryz.func117.trans (congrArg some (by kernel_rfl))
 f286:=Tryz.func118.trans (congrArg some (by kernel_rfl))
 f317:=Tryz.func125.trans (congrArg some (by kernel_rfl))
 f318:=Tryz.func127.trans (congrArg some (by kernel_rfl))
 f319:=Tryz.func128.trans (congrArg some (by kernel_rfl))
 f320:=Tryz.func129.trans (congrArg some (by kernel_rfl))
 f337:=Tryz.func134.trans (congrArg some (by kernel_rfl))
 f338:=Tryz.func135.trans (congrArg some (by kernel_rfl))
 t0:=Tryz.underlying0
 a0:=Tryz.isAgg0
 z0:=Tryz.sizeOf0
 v0:=Tryz.zeroValue0
 t2:=Tryz.underlying2
 a2:=Tryz.isAgg2
 z2:=Tryz.sizeOf2
 v2:=Tryz.zeroValue2
 t3:=Tryz.underlying3
 a3:=Tryz.isAgg3
 z3:=Tryz.sizeOf3
 v3:=Tryz.zeroValue3
 t4:=Tryz.underlying4
 a4:=Tryz.isAgg4
 z4:=Tryz.sizeOf4
 v4:=Tryz.zeroValue4
 t5:=Tryz.underlying5
 a5:=Tryz.isAgg5
 z5:=Tryz.sizeOf5
 v5:=Tryz.zeroValue5
 t9:=Tryz.underlying9
 a9:=Tryz.isAgg9
 z9:=Tryz.sizeOf9
 v9:=Tryz.zeroValue9
 t20:=Tryz.underlying20
 a20:=Tryz.isAgg20
 z20:=Tryz.sizeOf20
 v20:=Tryz.zeroValue20
 t37:=Tryz.underlying64
 a37:=Tryz.isAgg64
 z37:=Tryz.sizeOf64
 v37:=Tryz.zeroValue64
 t46:=Tryz.underlying160
 a46:=Tryz.isAgg160
 z46:=Tryz.sizeOf160
 v46:=Tryz.zeroValue160
 t51:=Tryz.underlying168
 a51:=Tryz.isAgg168
 z51:=Tryz.sizeOf168
 v51:=Tryz.zeroValue168
 t53:=Tryz.underlying165
 a53:=Tryz.isAgg165
 z53:=Tryz.sizeOf165
 v53:=Tryz.zeroValue165
 t171:=Tryz.underlying171
 a171:=Tryz.isAgg171
 z171:=Tryz.sizeOf171
 v171:=Tryz.zeroValue171
 t173:=Tryz.underlying174
 a173:=Tryz.isAgg174
 z173:=Tryz.sizeOf174
 v173:=Tryz.zeroValue174
 t212:=Tryz.underlying183
 a212:=Tryz.isAgg183
 z212:=Tryz.sizeOf183
 v212:=Tryz.zeroValue183
 t213:=Tryz.underlying184
 a213:=Tryz.isAgg184
 z213:=Tryz.sizeOf184
 t232:=Tryz.underlying195
 a232:=Tryz.isAgg195
 z232:=Tryz.sizeOf195
 v232:=Tryz.zeroValue195
 t233:=Tryz.underlying196
 a233:=Tryz.isAgg196
 z233:=Tryz.sizeOf196
 v233:=Tryz.zeroValue196
 g17:=by kernel_rfl
 g18:=by kernel_rfl
 g19:=by kernel_rfl
 i0:=by kernel_rfl
 i2:=by kernel_rfl
 i3:=by kernel_rfl
 i4:=by kernel_rfl
 i5:=by kernel_rfl
 i9:=by kernel_rfl
 i20:=by kernel_rfl
 i37:=by kernel_rfl
 i46:=by kernel_rfl
 i51:=by kernel_rfl
 i53:=by kernel_rfl
 i171:=by kernel_rfl
 i173:=by kernel_rfl
 i212:=by kernel_rfl
 i232:=by kernel_rfl
 i233:=by kernel_rfl
 m17:=by kernel_rfl
 m18:=by kernel_rfl
 m19:=by kernel_rfl }
open Go.RowKit Go.Sort Go.Lib in
/-- strconv.Itoa: "Itoa is equivalent to FormatInt(int64(i), 10).": i's DECIMAL NUMERAL ('Lib.itoa': a '-' where i is negative, then the digits), FOR EVERY int. The world behind the call: the world before it, new blocks behind the heap (the library's 'var a [24]byte'), draws. (LAID: no walk: one application.) -/
theorem Tryz.strconv_Itoa (n : Int) (h0 : -9223372036854775808 ≤ n) (h1 : n ≤ 9223372036854775807) (w : World) (htab : Lib.TabIs Tryz.prog w "internal/strconv.uint64pow10" .u64 Lib.pow10Tab) :
  Calls Tryz.prog 86 #[.int .i64 n] w fun e w'=>e=.returned (.string ⟨(Lib.itoa n).toArray⟩)/\∃ k os,w'=grow (w.drewN k) os:=Any.strconv_Itoa Tryz.laysM171 n h0 h1 w htab
def Tryz.laysC245_ren:Go.Shelf.Ren:=⟨fun | 245=>111 | 279=>120 | 280=>121 | 281=>122 | 282=>123 | 316=>130 | 171=>86 | 205=>131 | 243=>101 | 246=>109 | 283=>115 | 284=>116 | 285=>117 | 286=>118 | 129=>126 | 317=>125 | 318=>127 | 319=>128 | 320=>129 | 337=>134 | 338=>135 | n=>n,fun | 9=>9 | 3=>3 | 75=>106 | 167=>176 | 4=>4 | 168=>179 | 210=>188 | 37=>64 | 0=>0 | 127=>117 | 145=>194 | 143=>192 | 2=>2 | 171=>171 | 53=>165 | 5=>5 | 173=>174 | 212=>183 | 51=>168 | 20=>20 | 213=>184 | 46=>160 | 232=>195 | 233=>196 | 80=>83 | n=>n,fun | 15=>3 | 16=>4 | 17=>2 | 18=>5 | 19=>6 | n=>n⟩
theorem Tryz.laysC245:Go.Proofs.LaysC.n245 Tryz.prog Tryz.laysC245_ren:={
 mixed:=by kernel_rfl
 f129:=Tryz.func126.trans (congrArg some (by kernel_rfl))
 f171:=Tryz.func86.trans (congrArg some (by kernel_rfl))
 f205:=Tryz.func131.trans (congrArg some (by kernel_rfl))
 f243:=Tryz.func101.trans (congrArg some (by kernel_rfl))
 f245:=Tryz.func111.trans (congrArg some (by kernel_rfl))
 f246:=Tryz.func109.trans (congrArg some (by kernel_rfl))
 f279:=Tryz.func120.trans (congrArg some (by kernel_rfl))
 f280:=Tryz.func121.trans (congrArg some (by kernel_rfl))
 f281:=Tryz.func122.trans (congrArg some (by kernel_rfl))
 f282:=Tryz.func123.trans (congrArg some (by kernel_rfl))
 f283:=Tryz.func115.trans (congrArg some (by kernel_rfl))
 f284:=Tryz.func116.trans (congrArg some (by kernel_rfl))
 f285:=Tryz.func117.trans (congrArg some (by kernel_rfl))
 f286:=Tryz.func118.trans (congrArg some (by kernel_rfl))
 f316:=Tryz.func130.trans (congrArg some (by kernel_rfl))
 f317:=Tryz.func125.trans (congrArg some (by kernel_rfl))
 f318:=Tryz.func127.trans (congrArg some (by kernel_rfl))
 f319:=Tryz.func128.trans (congrArg some (by kernel_rfl))
 f320:=Tryz.func129.trans (congrArg some (by kernel_rfl))
 f337:=Tryz.func134.trans (congrArg some (by kernel_rfl))
 f338:=Tryz.func135.trans (congrArg some (by kernel_rfl))
 t0:=Tryz.underlying0
 a0:=Tryz.isAgg0
 z0:=Tryz.sizeOf0
 v0:=Tryz.zeroValue0
 t2:=Tryz.underlying2
 a2:=Tryz.isAgg2
 z2:=Tryz.sizeOf2
 v2:=Tryz.zeroValue2
 t3:=Tryz.underlying3
 a3:=Tryz.isAgg3
 z3:=Tryz.sizeOf3
 v3:=Tryz.zeroValue3
 t4:=Tryz.underlying4
 a4:=Tryz.isAgg4
 z4:=Tryz.sizeOf4
 v4:=Tryz.zeroValue4
 t5:=Tryz.underlying5
 a5:=Tryz.isAgg5
 z5:=Tryz.sizeOf5
 v5:=Tryz.zeroValue5
 t9:=Tryz.underlying9
 a9:=Tryz.isAgg9
 z9:=Tryz.sizeOf9
 v9:=Tryz.zeroValue9
 t20:=Tryz.underlying20
 a20:=Tryz.isAgg20
 z20:=Tryz.sizeOf20
 v20:=Tryz.zeroValue20
 t37:=Tryz.underlying64
 a37:=Tryz.isAgg64
 z37:=Tryz.sizeOf64
 v37:=Tryz.zeroValue64
 t46:=Tryz.underlying160
 a46:=Tryz.isAgg160
 z46:=Tryz.sizeOf160
 v46:=Tryz.zeroValue160
 t51:=Tryz.underlying168
 a51:=Tryz.isAgg168
 z51:=Tryz.sizeOf168
 v51:=Tryz.zeroValue168
 t53:=Tryz.underlying165
 a53:=Tryz.isAgg165
 z53:=Tryz.sizeOf165
 v53:=Tryz.zeroValue165
 t75:=Tryz.underlying106
 a75:=Tryz.isAgg106
 z75:=Tryz.sizeOf106
 v75:=Tryz.zeroValue106
 t127:=Tryz.underlying117
 a127:=Tryz.isAgg117
 z127:=Tryz.sizeOf117
 v127:=Tryz.zeroValue117
 t143:=Tryz.underlying192
 a143:=Tryz.isAgg192
 z143:=Tryz.sizeOf192
 v143:=Tryz.zeroValue192
 t145:=Tryz.underlying194
 a145:=Tryz.isAgg194
 z145:=Tryz.sizeOf194
 v145:=Tryz.zeroValue194
 t167:=Tryz.underlying176
 a167:=Tryz.isAgg176
 z167:=Tryz.sizeOf176
 v167:=Tryz.zeroValue176
 t168:=Tryz.underlying179
 a168:=Tryz.isAgg179
 z168:=Tryz.sizeOf179
 v168:=Tryz.zeroValue179
 t171:=Tryz.underlying171
 a171:=Tryz.isAgg171
 z171:=Tryz.sizeOf171
 v171:=Tryz.zeroValue171
 t173:=Tryz.underlying174
 a173:=Tryz.isAgg174
 z173:=Tryz.sizeOf174
 v173:=Tryz.zeroValue174
 t210:=Tryz.underlying188
 a210:=Tryz.isAgg188
 z210:=Tryz.sizeOf188
 v210:=Tryz.zeroValue188
 t212:=Tryz.underlying183
 a212:=Tryz.isAgg183
 z212:=Tryz.sizeOf183
 v212:=Tryz.zeroValue183
 t213:=Tryz.underlying184
 a213:=Tryz.isAgg184
 z213:=Tryz.sizeOf184
 t232:=Tryz.underlying195
 a232:=Tryz.isAgg195
 z232:=Tryz.sizeOf195
 v232:=Tryz.zeroValue195
 t233:=Tryz.underlying196
 a233:=Tryz.isAgg196
 z233:=Tryz.sizeOf196
 v233:=Tryz.zeroValue196
 g15:=by kernel_rfl
 g16:=by kernel_rfl
 g17:=by kernel_rfl
 g18:=by kernel_rfl
 g19:=by kernel_rfl
 t80:=Tryz.underlying83
 a80:=Tryz.isAgg83
 z80:=Tryz.sizeOf83
 v80:=Tryz.zeroValue83
 i0:=by kernel_rfl
 i2:=by kernel_rfl
 i3:=by kernel_rfl
 i4:=by kernel_rfl
 i5:=by kernel_rfl
 i9:=by kernel_rfl
 i20:=by kernel_rfl
 i37:=by kernel_rfl
 i46:=by kernel_rfl
 i51:=by kernel_rfl
 i53:=by kernel_rfl
 i75:=by kernel_rfl
 i80:=by kernel_rfl
 i127:=by kernel_rfl
 i143:=by kernel_rfl
 i145:=by kernel_rfl
 i167:=by kernel_rfl
 i168:=by kernel_rfl
 i171:=by kernel_rfl
 i173:=by kernel_rfl
 i210:=by kernel_rfl
 i212:=by kernel_rfl
 i232:=by kernel_rfl
 i233:=by kernel_rfl
 m15:=by kernel_rfl
 m16:=by kernel_rfl
 m17:=by kernel_rfl
 m18:=by kernel_rfl
 m19:=by kernel_rfl
 c0:=by kernel_rfl
 c2:=by kernel_rfl
 c3:=by kernel_rfl
 c4:=by kernel_rfl
 c5:=by kernel_rfl
 c9:=by kernel_rfl
 c20:=by kernel_rfl
 c37:=by kernel_rfl
 c46:=by kernel_rfl
 c51:=by kernel_rfl
 c53:=by kernel_rfl
 c75:=by kernel_rfl
 c80:=by kernel_rfl
 c127:=by kernel_rfl
 c143:=by kernel_rfl
 c145:=by kernel_rfl
 c167:=by kernel_rfl
 c168:=by kernel_rfl
 c171:=by kernel_rfl
 c173:=by kernel_rfl
 c210:=by kernel_rfl
 c212:=by kernel_rfl
 c213:=by kernel_rfl
 c232:=by kernel_rfl
 c233:=by kernel_rfl }
open Go.RowKit in
/-- strconv.toError, at the inner package's ErrSyntax: 'syntaxError(fn, s)' as an error: A *NumError IN A NEW BLOCK. (LAID: no walk: one application.) -/
theorem Tryz.strconv_toError_syntax (fn s:ByteArray) (base bits:Int) (ev:Value) (w:World) (hlim:s.size<=281474976710656) (hv:w.cell? ⟨3,0,none⟩=some ev) (hev:ev=.nilIface\/∃ te pe,ev=.iface te pe) :
  Calls Tryz.prog 111 #[.string fn,.string s,.int .i64 base,.int .i64 bits,.iface 176 (.int .i64 2)] w fun e w'=>∃ N,e=.returned (.iface 179 (.pointer (some ⟨N,0,none⟩)))/\w.heap.size<=N/\w'.heap[N]?=some (.cells #[.string fn,.string s,ev] 188 (0,0))/\Below w.heap.size w w':=Any.strconv_toError_syntax Tryz.laysC245 fn s base bits ev w hlim hv hev
def Tryz.lays321_ren:Go.Shelf.Ren:=⟨fun | 321=>132 | n=>n,fun | 5=>5 | n=>n,fun | n=>n⟩
theorem Tryz.lays321:Go.Proofs.Lays.n321 Tryz.prog Tryz.lays321_ren:={
 mixed:=by kernel_rfl
 f321:=Tryz.func132.trans (congrArg some (by kernel_rfl))
 t5:=Tryz.underlying5
 a5:=Tryz.isAgg5
 z5:=Tryz.sizeOf5
 v5:=Tryz.zeroValue5 }
open Go.RowKit in
/-- internal/strconv.lower: 'c | ('x' - 'X')': the bit 32 set. The world is as it was. (LAID: no walk: one application.) -/
theorem Tryz.internal_strconv_lower (c:Int) (w:World) :
  Calls Tryz.prog 132 #[.int .u8 c] w fun e w'=>e=.returned (.int .u8 (bits .or .u8 c 32))/\w'=w:=Any.internal_strconv_lower Tryz.lays321 c w
def Tryz.laysC172_ren:Go.Shelf.Ren:=⟨fun | 172=>102 | 244=>110 | 245=>111 | 247=>119 | 279=>120 | 280=>121 | 281=>122 | 282=>123 | 287=>124 | 316=>130 | 171=>86 | 205=>131 | 321=>132 | 322=>133 | 243=>101 | 246=>109 | 283=>115 | 284=>116 | 285=>117 | 286=>118 | 129=>126 | 317=>125 | 318=>127 | 319=>128 | 320=>129 | 337=>134 | 338=>135 | n=>n,fun | 9=>9 | 3=>3 | 75=>106 | 76=>107 | 4=>4 | 5=>5 | 167=>176 | 37=>64 | 0=>0 | 85=>177 | 2=>2 | 168=>179 | 53=>165 | 175=>166 | 46=>160 | 210=>188 | 127=>117 | 145=>194 | 143=>192 | 21=>21 | 171=>171 | 173=>174 | 212=>183 | 51=>168 | 20=>20 | 213=>184 | 232=>195 | 233=>196 | 80=>83 | n=>n,fun | 15=>3 | 16=>4 | 17=>2 | 18=>5 | 19=>6 | n=>n⟩
theorem Tryz.laysC172:Go.Proofs.LaysC.n172 Tryz.prog Tryz.laysC172_ren:={
 mixed:=by kernel_rfl
 f129:=Tryz.func126.trans (congrArg some (by kernel_rfl))
 f171:=Tryz.func86.trans (congrArg some (by kernel_rfl))
 f172:=Tryz.func102.trans (congrArg some (by kernel_rfl))
 f205:=Tryz.func131.trans (congrArg some (by kernel_rfl))
 f243:=Tryz.func101.trans (congrArg some (by kernel_rfl))
 f244:=Tryz.func110.trans (congrArg some (by kernel_rfl))
 f245:=Tryz.func111.trans (congrArg some (by kernel_rfl))
 f246:=Tryz.func109.trans (congrArg some (by kernel_rfl))
 f247:=Tryz.func119.trans (congrArg some (by kernel_rfl))
 f279:=Tryz.func120.trans (congrArg some (by kernel_rfl))
 f280:=Tryz.func121.trans (congrArg some (by kernel_rfl))
 f281:=Tryz.func122.trans (congrArg some (by kernel_rfl))
 f282:=Tryz.func123.trans (congrArg some (by kernel_rfl))
 f283:=Tryz.func115.trans (congrArg some (by kernel_rfl))
 f284:=Tryz.func116.trans (congrArg some (by kernel_rfl))
 f285:=Tryz.func117.trans (congrArg some (by kernel_rfl))
 f286:=Tryz.func118.trans (congrArg some (by kernel_rfl))
 f287:=Tryz.func124.trans (congrArg some (by kernel_rfl))
 f316:=Tryz.func130.trans (congrArg some (by kernel_rfl))
 f317:=Tryz.func125.trans (congrArg some (by kernel_rfl))
 f318:=Tryz.func127.trans (congrArg some (by kernel_rfl))
 f319:=Tryz.func128.trans (congrArg some (by kernel_rfl))
 f320:=Tryz.func129.trans (congrArg some (by kernel_rfl))
 f321:=Tryz.func132.trans (congrArg some (by kernel_rfl))
 f322:=Tryz.func133.trans (congrArg some (by kernel_rfl))
 f337:=Tryz.func134.trans (congrArg some (by kernel_rfl))
 f338:=Tryz.func135.trans (congrArg some (by kernel_rfl))
 t0:=Tryz.underlying0
 a0:=Tryz.isAgg0
 z0:=Tryz.sizeOf0
 v0:=Tryz.zeroValue0
 t2:=Tryz.underlying2
 a2:=Tryz.isAgg2
 z2:=Tryz.sizeOf2
 v2:=Tryz.zeroValue2
 t3:=Tryz.underlying3
 a3:=Tryz.isAgg3
 z3:=Tryz.sizeOf3
 v3:=Tryz.zeroValue3
 t4:=Tryz.underlying4
 a4:=Tryz.isAgg4
 z4:=Tryz.sizeOf4
 v4:=Tryz.zeroValue4
 t5:=Tryz.underlying5
 a5:=Tryz.isAgg5
 z5:=Tryz.sizeOf5
 v5:=Tryz.zeroValue5
 t9:=Tryz.underlying9
 a9:=Tryz.isAgg9
 z9:=Tryz.sizeOf9
 v9:=Tryz.zeroValue9
 t20:=Tryz.underlying20
 a20:=Tryz.isAgg20
 z20:=Tryz.sizeOf20
 v20:=Tryz.zeroValue20
 t21:=Tryz.underlying21
 a21:=Tryz.isAgg21
 z21:=Tryz.sizeOf21
 v21:=Tryz.zeroValue21
 t37:=Tryz.underlying64
 a37:=Tryz.isAgg64
 z37:=Tryz.sizeOf64
 v37:=Tryz.zeroValue64
 t46:=Tryz.underlying160
 a46:=Tryz.isAgg160
 z46:=Tryz.sizeOf160
 v46:=Tryz.zeroValue160
 t51:=Tryz.underlying168
 a51:=Tryz.isAgg168
 z51:=Tryz.sizeOf168
 v51:=Tryz.zeroValue168
 t53:=Tryz.underlying165
 a53:=Tryz.isAgg165
 z53:=Tryz.sizeOf165
 v53:=Tryz.zeroValue165
 t75:=Tryz.underlying106
 a75:=Tryz.isAgg106
 z75:=Tryz.sizeOf106
 v75:=Tryz.zeroValue106
 t76:=Tryz.underlying107
 a76:=Tryz.isAgg107
 z76:=Tryz.sizeOf107
 v76:=Tryz.zeroValue107
 t85:=Tryz.underlying177
 a85:=Tryz.isAgg177
 z85:=Tryz.sizeOf177
 v85:=Tryz.zeroValue177
 t127:=Tryz.underlying117
 a127:=Tryz.isAgg117
 z127:=Tryz.sizeOf117
 v127:=Tryz.zeroValue117
 t143:=Tryz.underlying192
 a143:=Tryz.isAgg192
 z143:=Tryz.sizeOf192
 v143:=Tryz.zeroValue192
 t145:=Tryz.underlying194
 a145:=Tryz.isAgg194
 z145:=Tryz.sizeOf194
 v145:=Tryz.zeroValue194
 t167:=Tryz.underlying176
 a167:=Tryz.isAgg176
 z167:=Tryz.sizeOf176
 v167:=Tryz.zeroValue176
 t168:=Tryz.underlying179
 a168:=Tryz.isAgg179
 z168:=Tryz.sizeOf179
 v168:=Tryz.zeroValue179
 t171:=Tryz.underlying171
 a171:=Tryz.isAgg171
 z171:=Tryz.sizeOf171
 v171:=Tryz.zeroValue171
 t173:=Tryz.underlying174
 a173:=Tryz.isAgg174
 z173:=Tryz.sizeOf174
 v173:=Tryz.zeroValue174
 t175:=Tryz.underlying166
 a175:=Tryz.isAgg166
 z175:=Tryz.sizeOf166
 v175:=Tryz.zeroValue166
 t210:=Tryz.underlying188
 a210:=Tryz.isAgg188
 z210:=Tryz.sizeOf188
 v210:=Tryz.zeroValue188
 t212:=Tryz.underlying183
 a212:=Tryz.isAgg183
 z212:=Tryz.sizeOf183
 v212:=Tryz.zeroValue183
 t213:=Tryz.underlying184
 a213:=Tryz.isAgg184
 z213:=Tryz.sizeOf184
 t232:=Tryz.underlying195
 a232:=Tryz.isAgg195
 z232:=Tryz.sizeOf195
 v232:=Tryz.zeroValue195
 t233:=Tryz.underlying196
 a233:=Tryz.isAgg196
 z233:=Tryz.sizeOf196
 v233:=Tryz.zeroValue196
 g15:=by kernel_rfl
 g16:=by kernel_rfl
 g17:=by kernel_rfl
 g18:=by kernel_rfl
 g19:=by kernel_rfl
 t80:=Tryz.underlying83
 a80:=Tryz.isAgg83
 z80:=Tryz.sizeOf83
 v80:=Tryz.zeroValue83
 i0:=by kernel_rfl
 i2:=by kernel_rfl
 i3:=by kernel_rfl
 i4:=by kernel_rfl
 i5:=by kernel_rfl
 i9:=by kernel_rfl
 i20:=by kernel_rfl
 i21:=by kernel_rfl
 i37:=by kernel_rfl
 i46:=by kernel_rfl
 i51:=by kernel_rfl
 i53:=by kernel_rfl
 i75:=by kernel_rfl
 i76:=by kernel_rfl
 i80:=by kernel_rfl
 i85:=by kernel_rfl
 i127:=by kernel_rfl
 i143:=by kernel_rfl
 i145:=by kernel_rfl
 i167:=by kernel_rfl
 i168:=by kernel_rfl
 i171:=by kernel_rfl
 i173:=by kernel_rfl
 i175:=by kernel_rfl
 i210:=by kernel_rfl
 i212:=by kernel_rfl
 i232:=by kernel_rfl
 i233:=by kernel_rfl
 m15:=by kernel_rfl
 m16:=by kernel_rfl
 m17:=by kernel_rfl
 m18:=by kernel_rfl
 m19:=by kernel_rfl
 c0:=by kernel_rfl
 c2:=by kernel_rfl
 c3:=by kernel_rfl
 c4:=by kernel_rfl
 c5:=by kernel_rfl
 c9:=by kernel_rfl
 c20:=by kernel_rfl
 c21:=by kernel_rfl
 c37:=by kernel_rfl
 c46:=by kernel_rfl
 c51:=by kernel_rfl
 c53:=by kernel_rfl
 c75:=by kernel_rfl
 c76:=by kernel_rfl
 c80:=by kernel_rfl
 c85:=by kernel_rfl
 c127:=by kernel_rfl
 c143:=by kernel_rfl
 c145:=by kernel_rfl
 c167:=by kernel_rfl
 c168:=by kernel_rfl
 c171:=by kernel_rfl
 c173:=by kernel_rfl
 c175:=by kernel_rfl
 c210:=by kernel_rfl
 c212:=by kernel_rfl
 c213:=by kernel_rfl
 c232:=by kernel_rfl
 c233:=by kernel_rfl }
open Go.RowKit in
/-- strconv.Atoi, AT EVERY STRING THAT SPELLS AN int ('Lib.atoiAll .. = .ok v'; of whatever length: leading zeros count): v, AND NO ERROR. The world: as it was, or with the one new row that '[]byte(..)' lays. (LAID: no walk: one application.) -/
theorem Tryz.strconv_Atoi_ok (s:ByteArray) (hmax:s.size<=9223372036854775806) (v:Int) (h:Lib.atoiAll s.data.toList=.ok v) (w:World) :
  Calls Tryz.prog 102 #[.string s] w fun e w'=>e=.returned (.tuple #[.int .i64 v,.nilIface])/\(w'=w\/∃ t,w'=Lib.bytesWorld w 5 t):=Any.strconv_Atoi_ok Tryz.laysC172 s hmax v h w
open Go.RowKit in
theorem Tryz.strconv_Atoi_range_var (s : ByteArray) (hlim : s.size ≤ 281474976710656) (h : Lib.atoiAll s.data.toList = .range) (tp : TypeId) (p : Value) (w : World) (hvar : w.var? Tryz.prog "strconv.ErrRange" = some #[.iface tp p]) :
  Calls Tryz.prog 102 #[.string s] w fun e w'=>∃ N,e=.returned (.tuple #[.int .i64 (Lib.atoiSat s.data.toList),.iface 179 (.pointer (some ⟨N,0,none⟩))])/\w.heap.size<=N/\w'.heap[N]?=some (.cells #[.string ⟨#[65,116,111,105]⟩,.string s,.iface tp p] 188 (0,0))/\Below w.heap.size w w':=Any.strconv_Atoi_range_var Tryz.laysC172 s hlim h tp p w hvar
def Tryz.lays138_ren:Go.Shelf.Ren:=⟨fun | 138=>53 | 195=>75 | 218=>76 | 143=>77 | 219=>98 | 217=>105 | 225=>106 | 224=>107 | 267=>108 | 266=>113 | 314=>114 | n=>n,fun | 9=>9 | 3=>3 | 4=>4 | 5=>5 | 0=>0 | 46=>160 | 146=>169 | 51=>168 | n=>n,fun | 1=>1 | n=>n⟩
theorem Tryz.lays138:Go.Proofs.Lays.n138 Tryz.prog Tryz.lays138_ren:={
 mixed:=by kernel_rfl
 f138:=Tryz.func53.trans (congrArg some (by kernel_rfl))
 f143:=Tryz.func77.trans (congrArg some (by kernel_rfl))
 f195:=Tryz.func75.trans (congrArg some (by kernel_rfl))
 f217:=Tryz.func105.trans (congrArg some (by kernel_rfl))
 f218:=Tryz.func76.trans (congrArg some (by kernel_rfl))
 f219:=Tryz.func98.trans (congrArg some (by kernel_rfl))
 f224:=Tryz.func107.trans (congrArg some (by kernel_rfl))
 f225:=Tryz.func106.trans (congrArg some (by kernel_rfl))
 f266:=Tryz.func113.trans (congrArg some (by kernel_rfl))
 f267:=Tryz.func108.trans (congrArg some (by kernel_rfl))
 f314:=Tryz.func114.trans (congrArg some (by kernel_rfl))
 t0:=Tryz.underlying0
 a0:=Tryz.isAgg0
 z0:=Tryz.sizeOf0
 v0:=Tryz.zeroValue0
 t3:=Tryz.underlying3
 a3:=Tryz.isAgg3
 z3:=Tryz.sizeOf3
 v3:=Tryz.zeroValue3
 t4:=Tryz.underlying4
 a4:=Tryz.isAgg4
 z4:=Tryz.sizeOf4
 v4:=Tryz.zeroValue4
 t5:=Tryz.underlying5
 a5:=Tryz.isAgg5
 z5:=Tryz.sizeOf5
 v5:=Tryz.zeroValue5
 t9:=Tryz.underlying9
 a9:=Tryz.isAgg9
 z9:=Tryz.sizeOf9
 v9:=Tryz.zeroValue9
 t46:=Tryz.underlying160
 a46:=Tryz.isAgg160
 z46:=Tryz.sizeOf160
 v46:=Tryz.zeroValue160
 t51:=Tryz.underlying168
 a51:=Tryz.isAgg168
 z51:=Tryz.sizeOf168
 v51:=Tryz.zeroValue168
 t146:=Tryz.underlying169
 a146:=Tryz.isAgg169
 z146:=Tryz.sizeOf169
 v146:=Tryz.zeroValue169
 g1:=by kernel_rfl }
open Go.RowKit Go.Lib in
/-- strings.Count AT A substr OF ONE BYTE ('hp'): "Count counts the number of non-overlapping instances of substr in s.": IT RETURNS 'Lib.countByte s (that byte)'; the world is as it was. ✋ NO CONTRACT HERE YET at an empty substr (utf8.RuneCountInString) or at a longer one (a loop over strings.Index). (LAID: no walk: one application.) -/
theorem Tryz.strings_Count_one (s:ByteArray) (c:UInt8) (w:World) :
  Calls Tryz.prog 53 #[.string s,.string ⟨#[c]⟩] w fun e w'=>e=.returned (.int .i64 (Lib.countByte s.data.toList c))/\w'=w:=Any.strings_Count_one Tryz.lays138 s c w
def Tryz.lays99_ren:Go.Shelf.Ren:=⟨fun | 99=>97 | 206=>104 | n=>n,fun | 9=>9 | 4=>4 | 3=>3 | n=>n,fun | n=>n⟩
theorem Tryz.lays99:Go.Proofs.Lays.n99 Tryz.prog Tryz.lays99_ren:={
 mixed:=by kernel_rfl
 f99:=Tryz.func97.trans (congrArg some (by kernel_rfl))
 f206:=Tryz.func104.trans (congrArg some (by kernel_rfl))
 t3:=Tryz.underlying3
 a3:=Tryz.isAgg3
 z3:=Tryz.sizeOf3
 v3:=Tryz.zeroValue3
 t4:=Tryz.underlying4
 a4:=Tryz.isAgg4
 z4:=Tryz.sizeOf4
 v4:=Tryz.zeroValue4
 t9:=Tryz.underlying9
 a9:=Tryz.isAgg9
 z9:=Tryz.sizeOf9
 v9:=Tryz.zeroValue9 }
open Go.RowKit Go.Lib in
/-- strings.HasPrefix: "HasPrefix reports whether the string s begins with prefix.": IT RETURNS 'Lib.hasPrefix s prefix'; the world is as it was. (LAID: no walk: one application.) -/
theorem Tryz.strings_HasPrefix (s p:ByteArray) (w:World) :
  Calls Tryz.prog 97 #[.string s,.string p] w fun e w'=>e=.returned (.bool (Lib.hasPrefix s.data.toList p.data.toList))/\w'=w:=Any.strings_HasPrefix Tryz.lays99 s p w
end Go.Proofs
