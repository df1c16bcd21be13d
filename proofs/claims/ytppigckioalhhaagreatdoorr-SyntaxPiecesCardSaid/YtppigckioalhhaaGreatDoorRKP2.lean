/- THE TEXTS MERGED: LxScan LxSkip Shelf. -/
import Derived.Test.YtppigckioalhhaaGreatDoorRKP1
import Derived.Deep.LoopGhost
import Derived.Outline
import Derived.Shelf.Strconv.Atoi
import Derived.Shelf.Strconv.Itoa0
import Derived.Shelf.Strconv.Itoa1
import Derived.Shelf.LaysM
import Derived.Shelf.Strconv.Itoa2
import Derived.Shelf.Strconv.Itoa3
import Derived.Shelf.Strconv.AtoiErrFast
import Derived.Shelf.Strconv.ParseIntEmpty
import Derived.Shelf.Strconv.AtoiFail
import Derived.Shelf.Strconv.Clone
import Derived.Shelf.Strconv.SyntaxError
import Derived.Shelf.LaysC
import Derived.Shelf.Strconv.ToError
import Derived.Shelf.Strconv.Lower
import Derived.Shelf.Strconv.ParseUint10
import Derived.Shelf.Strconv.ParseUint10Empty
import Derived.Shelf.Strconv.ParseUint10Any
import Derived.Shelf.Strconv.ParseInt10
import Derived.Shelf.Strconv.AtoiLong
import Derived.Shelf.Strconv.AtoiInnerAll
import Derived.Shelf.Strconv.RangeError
import Derived.Shelf.Strconv.ToErrorRange
import Derived.Shelf.Strconv.AtoiAll
import Derived.Shelf.Strconv.ErrVarAll
import Derived.Ground.MpProg
import Derived.Shelf.Pu.ParseUintPublic10
import Derived.Shelf.Pu.ErrVarParseUint
import Derived.Shelf.Strings.Search1
import Derived.Shelf.Strings.Search2
import Derived.Shelf.Strings.Search3
import Derived.Shelf.Strings.Count
import Derived.Shelf.Strings.Shaped
import Derived.Shelf.Strings.LastIndex
import Derived.Shelf.Strings.Prefix
import Derived.Shelf.Strings.Split
import Derived.Test.YtppigckioalhhaaGreatDoorRProg
namespace Go.Proofs.YtppigckioalhhaaGreatDoorR
open Go.RowKit
set_option linter.unusedVariables false
set_option linter.unusedSimpArgs false
set_option maxRecDepth 100000
/-- the scanner's cells -/
def scCells (s:ByteArray) (x:Lx.St):Array Value :=
 #[.string s,.int .i64 (x.pos.1:Nat),.int .i64 (x.pos.2:Nat),.int .i64 (x.fin.1:Nat),.int .i64 (x.fin.2:Nat),.int .i64 (x.code:Nat),.int .i64 (x.fp.1:Nat),.int .i64 (x.fp.2:Nat),.bool x.long]
structure ScIs (w:World) (b:Nat) (s:ByteArray) (x:Lx.St):Prop where
 at_:w.heap[b]?=some (.cells (scCells s x) 120 (0,0))
 str:Cod.str s=x.s
 size:s.size<=140737488355328
 lim:x.long=false->s.size<=65536/\x.pos.1+2 * s.size<=200000/\x.pos.2+2 * s.size<=200000
theorem ScIs.cell {w:World} {b:Nat} {s:ByteArray} {x:Lx.St} (h:ScIs w b s x) (i:Nat):w.cell? ⟨b,i,none⟩=(scCells s x)[i]?:=by
 simp [World.cell?,h.at_]
theorem ScIs.free {w:World} {b:Nat} {s:ByteArray} {x:Lx.St} (h:ScIs w b s x) (i:Nat):w.frozen? ⟨b,i,none⟩=false:=by simp [World.frozen?,h.at_]
theorem ScIs.lt {w:World} {b:Nat} {s:ByteArray} {x:Lx.St} (h:ScIs w b s x):b<w.heap.size:=lt_of_block h.at_
theorem ScIs.keep {S:List Nat} {w w':World} {b:Nat} {s:ByteArray} {x:Lx.St} (h:ScIs w b s x) (hm:Mod S w w') (hb:b∉S):ScIs w' b s x :=
 ⟨hm.at h.at_ hb,h.str,h.size,h.lim⟩
theorem ScIs.past {S:List Nat} {w w':World} {b:Nat} {s:ByteArray} {x:Lx.St} (h:ScIs w b s x) (hm:Mod S w w') (hS:∀ t∈S,w.heap.size<=t):ScIs w' b s x :=
 h.keep hm (fun hb=>by have:=hS b hb;have:=h.lt;omega)
theorem take_snoc {α:Type} (l:List α) (d:α) (k:Nat) (h:k<l.length):l.take (k+1)=l.take k++[l.getD k d]:=by
 rw [List.take_succ_eq_append_getElem h,List.getD_eq_getElem?_getD,List.getElem?_eq_getElem h];rfl
theorem setCell_at {w:World} {b:Nat} {cs:Array Value} {T:TypeId} {fr:Nat × Nat} (h:w.heap[b]?=some (.cells cs T fr)) (i:Nat) (v:Value) :
  (w.setCell ⟨b,i,none⟩ v).heap[b]?=some (.cells (cs.setIfInBounds i v) T fr):=by
 simp [World.setCell,Array.getElem?_modify,h]
theorem pass_any (b:Nat) (s:ByteArray) (x:Lx.St) (n:Nat) (w:World) (h:ScIs w b s x) (hn:n<=s.size) (hl:x.long=false) :
  Calls Tryz.prog 96 #[.pointer (some ⟨b,0,none⟩),.int .i64 (n:Int)] w fun e w'=>e=.returned (.tuple #[])/\∃ s',ScIs w' b s' { x with s:=x.s.drop n,pos:=Lx.adv x.pos (x.s.take n) }/\Mod [b] w w':=by
 have c0:w.cell? ⟨b,0,none⟩=some (.string s):=h.cell 0
 obtain ⟨hs,hl1,hl2⟩:=h.lim hl
 have hcv:=fun w s=>run_bytes_of_string (P:=Tryz.prog) w 9 189 5 s Tryz.underlying9 Tryz.underlying189 Tryz.underlying5
 go_enter Tryz.func96,Tryz.ntmps96
 go_wp2_with fail
 have hb:b<w.heap.size:=h.lt
 have hbyte:Hid (∀ k,k<n->((w.alloc (Obj.cells (bytesRow (s.extract 0 n) (grownCap w n 0 5)) 5 ((bytesRow (s.extract 0 n) (grownCap w n 0 5)).size,(bytesRow (s.extract 0 n) (grownCap w n 0 5)).size+1))).drew).cell? ⟨w.heap.size,k,none⟩=some (.int .u8 (x.s.getD k 0:Nat))):=Hxq (fun k hk=>by
  show (w.alloc (Obj.cells _ _ _)).cell? _=_
  rw [World.cell?_alloc_mark]
  have hk':k<(s.extract 0 n).data.size:=by
   have:(s.extract 0 n).data.size=(s.extract 0 n).size:=rfl
   rw [this,ByteArray.size_extract];omega
  rw [bytesRow_at _ _ k hk']
  have e1:(Cod.str (s.extract 0 n)).getD k 0=((s.extract 0 n).data[k]).toNat:=by
   rw [Lx.get_str _ _ hk'];rfl
  have e2:(Cod.str (s.extract 0 n)).getD k 0=x.s.getD k 0:=by
   rw [Lx.str_extract,h.str]
   simp [List.getD_eq_getElem?_getD,List.getElem?_take,hk]
  rw [<-e1,e2])
 have hm0:Mod [b] w ((w.alloc (Obj.cells (bytesRow (s.extract 0 n) (grownCap w n 0 5)) 5 ((bytesRow (s.extract 0 n) (grownCap w n 0 5)).size,(bytesRow (s.extract 0 n) (grownCap w n 0 5)).size+1))).drew):=((Mod.refl [b] w).alloc _).drew
 have hat0:=hm0.mono (T:=[b]) (fun t ht=>.inl ht)
 have hb0:((w.alloc (Obj.cells (bytesRow (s.extract 0 n) (grownCap w n 0 5)) 5 ((bytesRow (s.extract 0 n) (grownCap w n 0 5)).size,(bytesRow (s.extract 0 n) (grownCap w n 0 5)).size+1))).drew).heap[b]?=some (.cells (scCells s x) 120 (0,0)):=(((Mod.refl [] w).alloc _).drew).at h.at_ (by simp)
 have hstr:=h.str
 have hxl:x.s.length=s.size:=by rw [<-hstr,Cod.str_len]
 generalize ((w.alloc (Obj.cells (bytesRow (s.extract 0 n) (grownCap w n 0 5)) 5 ((bytesRow (s.extract 0 n) (grownCap w n 0 5)).size,(bytesRow (s.extract 0 n) (grownCap w n 0 5)).size+1))).drew)=w2 at *
 generalize grownCap w n 0 5=cap at *
 have HX:=Lib.hid hxl
 clear hcv hxl hat0
 go_loopw [14] (fun i wr=>∃ (k:Nat),k<=n/\i=.int .i64 (k:Int)/\wr.heap[b]?=some (.cells (scCells s { x with pos:=Lx.adv x.pos (x.s.take k) }) 120 (0,0))/\Mod [b] w2 wr) (fun i _=>n - (intOf i).toNat)
 case atStart=>exact ⟨0,Nat.zero_le _,rfl,by simpa [Lx.adv] using hb0,Mod.refl _ _⟩
 case round =>
  obtain ⟨k,hk,rfl,hbr,hmr⟩:=hrel
  have hla:=Lx.adv_le x.pos (x.s.take k)
  have hlt:=HX.out
  rw [List.length_take] at hla
  by_cases hlt:k<n
  ·have hck:=hmr.cell (hbyte.out k hlt) (by simp;omega)
   have hsn:Lx.adv x.pos (x.s.take (k+1))=if x.s.getD k 0=10 then ((Lx.adv x.pos (x.s.take k)).1+1,1) else ((Lx.adv x.pos (x.s.take k)).1,(Lx.adv x.pos (x.s.take k)).2+1):=by
    rw [take_snoc _ 0 _ (by omega),Lx.adv_append]
    rfl
   have hlk1:(Lx.adv x.pos (x.s.take k)).1<=200000:=by omega
   have hlk2:(Lx.adv x.pos (x.s.take k)).2<=200000:=by omega
   have q1:wr.cell? ⟨b,1,none⟩=some (.int .i64 ((Lx.adv x.pos (x.s.take k)).1:Nat)):=by simp [World.cell?,hbr,scCells]
   have q2:wr.cell? ⟨b,2,none⟩=some (.int .i64 ((Lx.adv x.pos (x.s.take k)).2:Nat)):=by simp [World.cell?,hbr,scCells]
   have f1:wr.frozen? ⟨b,1,none⟩=false:=by simp [World.frozen?,hbr]
   have f2:wr.frozen? ⟨b,2,none⟩=false:=by simp [World.frozen?,hbr]
   have hset:=fun v=>setCell_at hbr 2 v
   have hset2:=fun v u=>setCell_at (hset v) 1 u
   have hset3:=fun v u t=>setCell_at (hset2 v u) 2 t
   generalize Lx.adv x.pos (x.s.take k)=p at *
   generalize x.s.getD k 0=y at *
   by_cases hy:y=10
   ·have hyb:((y:Int) == 10)=true:=by rw [beq_iff_eq];omega
    rw [if_pos hy] at hsn
    have HS:=Lib.hid hsn
    have H3:=Lib.hid hset3
    clear hsn hset hset2 hset3 hla hbr hy
    go_wp2_with fail
    go_roundw
    case rel =>
     refine ⟨k+1,by omega,by go_num,?_,?_⟩
     ·rw [HS.out,H3.out];simp [scCells]
     ·exact ((hmr.setCell (p:=⟨b,2,none⟩) (by simp) _).setCell (p:=⟨b,1,none⟩) (by simp) _).setCell (p:=⟨b,2,none⟩) (by simp) _
    case measure=>simp [intOf];omega
   ·have hyb:((y:Int) == 10)=false:=by rw [beq_eq_false_iff_ne];omega
    rw [if_neg hy] at hsn
    have HS:=Lib.hid hsn
    have H3:=Lib.hid hset
    clear hsn hset hset2 hset3 hla hbr hy
    go_wp2_with fail
    go_roundw
    case rel =>
     refine ⟨k+1,by omega,by go_num,?_,?_⟩
     ·rw [HS.out,H3.out];simp [scCells]
     ·exact hmr.setCell (p:=⟨b,2,none⟩) (by simp) _
    case measure=>simp [intOf];omega
  ·obtain rfl:k=n:=by omega
   have q0:wr.cell? ⟨b,0,none⟩=some (.string s):=by simp [World.cell?,hbr,scCells]
   have f0:wr.frozen? ⟨b,0,none⟩=false:=by simp [World.frozen?,hbr]
   have hset:=Hxq (fun v=>setCell_at hbr 0 v)
   go_wp2_with fail
   go_end0
   refine ⟨rfl,s.extract k s.size,⟨?_,?_,?_,?_⟩,(hm0.trans hmr (fun t ht=>.inl ht)).setCell (p:=⟨b,0,none⟩) (by simp) _⟩
   ·rw [hset.out];simp [scCells]
   ·rw [Lx.str_extract,hstr]
    simp only
    rw [List.take_of_length_le (by rw [List.length_drop,HX.out];omega)]
   ·rw [ByteArray.size_extract];omega
   ·intro _
    rw [ByteArray.size_extract]
    simp only
    omega
def St.at (x:Lx.St) (m:Nat):Lx.St:={ x with s:=x.s.drop m,pos:=Lx.adv x.pos (x.s.take m) }
theorem St.at_at (x:Lx.St) (m n:Nat):{ St.at x m with s:=(St.at x m).s.drop n,pos:=Lx.adv (St.at x m).pos ((St.at x m).s.take n) }=St.at x (m+n):=by
 unfold St.at
 simp only [List.drop_drop]
 rw [<-Lx.adv_append,<-List.take_add]
theorem toList_isEmpty (s:ByteArray):s.toList.isEmpty=decide (s.size=0):=by
 rw [ByteArray.toList_eq]
 obtain ⟨⟨l⟩⟩:=s
 cases l <;> simp [ByteArray.size]
set_option maxHeartbeats 1000000 in
theorem skip_any (b:Nat) (s:ByteArray) (x:Lx.St) (w:World) (h:ScIs w b s x) (hl:x.long=false) :
  Calls Tryz.prog 94 #[.pointer (some ⟨b,0,none⟩)] w fun e w'=>e=.returned (.tuple #[])/\∃ s',ScIs w' b s' x.skip/\Mod [b] w w':=by
 have hls:=(h.lim hl).1
 have hstr:=h.str
 have hxl:x.s.length=s.size:=by rw [<-hstr,Cod.str_len]
 go_enter Tryz.func94,Tryz.ntmps94
 go_wp2_with fail
 go_loopg [] x.s.length (fun g wr=>∃ m s',x.s.length=g+m/\ScIs wr b s' (St.at x m)/\Lx.skipN false x.s=m+Lx.skipN false (x.s.drop m)/\Mod [b] w wr)
 case atStart=>exact ⟨0,s,rfl,by simpa [St.at,Lx.adv] using h,by simp,Mod.refl _ _⟩
 case round =>
  obtain ⟨m,s',hg,hS,hk,hmr⟩:=hrel
  have q0:wr.cell? ⟨b,0,none⟩=some (.string s'):=hS.cell 0
  have hsz:s'.size=(x.s.drop m).length:=by rw [<-Cod.str_len,hS.str];rfl
  have hss:=hS.size
  cases hd:x.s.drop m with
  | nil =>
   have HD:=Lib.hid hd
   rw [hd] at hsz hk
   have hem:s'.toList.isEmpty=true:=by rw [toList_isEmpty,hsz];rfl
   have HK:=Lib.hid hk
   clear hd hsz hk
   go_wp2_with fail
   go_end0
   refine ⟨rfl,s',?_,hmr⟩
   have e:x.skip=St.at x m:=by
    unfold Lx.St.skip St.at
    rw [HK.out];rfl
   rw [e];exact hS
  | cons c t =>
   have HD:=Lib.hid hd
   rw [hd] at hsz hk
   have hem:s'.toList.isEmpty=false:=by rw [toList_isEmpty,hsz];rfl
   have h0:0<s'.size:=by rw [hsz];simp
   have hst:Cod.str s'=c :: t:=by rw [hS.str,<-hd];rfl
   have hc0:s'[0].toNat=c:=by rw [<-Lx.get_str s' 0 h0,hst];rfl
   have hrn:=Lx.run_le Lx.blank (c :: t)
   have hcallb:=len_blank s' (by omega) wr
   have hcalll:=fun w=>len_line s' (by omega) w
   rw [hst] at hcallb
   simp only [hst] at hcalll
   have hgm:(c :: t).length=gk:=by rw [<-hd,List.length_drop];omega
   by_cases hb:Lx.blank c=true
   ·have hr1:1<=Lx.run Lx.blank (c :: t):=Lx.run_pos (by simp) (by simpa using hb)
    have hsk:=Lx.skip_blank (c :: t)
    rw [<-hd,List.drop_drop,hd] at hsk
    generalize hrr:Lx.run Lx.blank (c :: t)=r at *
    have hz:((r:Int) == 0)=false:=by rw [beq_eq_false_iff_ne];omega
    have hpass:=pass_any b s' (St.at x m) r
    rw [St.at_at] at hpass
    have HSK:=Lib.hid hsk;have HK:=Lib.hid hk;have HP:=Lib.hid hpass;have HB:=Lib.hid hcallb;have HSZ:=Lib.hid hsz;have HGM:=Lib.hid hgm;have HG:=Lib.hid hg
    clear hrr hsk hk hpass hcallb hcalll hst hc0 hsz hd hgm hxl hg hstr
    go_wp2_with fail
    refine HB.out.mono ?_
    rintro e w2 ⟨rfl,hm2⟩
    have hS2:=hS.past hm2 (by simp)
    go_wp2_with fail
    refine (HP.out w2 hS2 (by rw [HSZ.out];exact hrn) hl).mono ?_
    rintro e w3 ⟨rfl,s3,hS3,hm3⟩
    have hm3':=(hmr.trans hm2 (by simp)).trans hm3 (fun t ht=>.inl ht)
    go_wp2_with fail
    go_roundg (gk - r)
    case measure=>have:=HGM.out;simp at this;omega
    case rel =>
     have h1:=HGM.out
     have h2:=HG.out
     exact ⟨m+r,s3,by rw [<-h1] at h2 ⊢;omega,hS3,by rw [HK.out,HSK.out,Nat.add_assoc],hm3'⟩
   ·have hb':Lx.blank c=false:=by simpa using hb
    have hrb:Lx.run Lx.blank (c :: t)=0:=by rw [Lx.run_cons,hb'];rfl
    rw [hrb] at hcallb
    by_cases hc:c=35
    ·subst hc
     have hr1:1<=Lx.run Lx.line (35 :: t):=Lx.run_pos (by simp) rfl
     have hrn:=Lx.run_le Lx.line (35 :: t)
     have hsk:=Lx.skip_remark t
     rw [<-hd,List.drop_drop,hd] at hsk
     generalize hrr:Lx.run Lx.line (35 :: t)=r at *
     have hz:((r:Int) == 0)=false:=by rw [beq_eq_false_iff_ne];omega
     have hpass:=pass_any b s' (St.at x m) r
     rw [St.at_at] at hpass
     have hidx:((s'[0].toNat:Int) == 35)=true:=by rw [hc0];rfl
     have HSK:=Lib.hid hsk;have HK:=Lib.hid hk;have HP:=Lib.hid hpass;have HB:=Lib.hid hcallb;have HL:=Lib.hid hcalll;have HSZ:=Lib.hid hsz;have HGM:=Lib.hid hgm;have HG:=Lib.hid hg
     clear hrr hsk hk hpass hcallb hcalll hst hc0 hsz hd hgm hxl hg hstr hrb
     go_wp2_with fail
     refine HB.out.mono ?_
     rintro e w2 ⟨rfl,hm2⟩
     have hS2:=hS.past hm2 (by simp)
     have q2:w2.cell? ⟨b,0,none⟩=some (.string s'):=hS2.cell 0
     go_wp2_with fail
     refine (HL.out _).mono ?_
     rintro e w3 ⟨rfl,hm3⟩
     have hS3:=hS2.past hm3 (by simp)
     go_wp2_with fail
     refine (HP.out w3 hS3 (by rw [HSZ.out];exact hrn) hl).mono ?_
     rintro e w4 ⟨rfl,s4,hS4,hm4⟩
     have hm4':=((hmr.trans hm2 (by simp)).trans hm3 (by simp)).trans hm4 (fun t ht=>.inl ht)
     go_wp2_with fail
     go_roundg (gk - r)
     case measure=>have:=HGM.out;simp at this;omega
     case rel =>
      have h1:=HGM.out
      have h2:=HG.out
      exact ⟨m+r,s4,by rw [<-h1] at h2 ⊢;omega,hS4,by rw [HK.out,HSK.out,Nat.add_assoc],hm4'⟩
    ·have hsk:=Lx.skip_none (t:=t) hb' hc
     have hidx:((s'[0].toNat:Int) == 35)=false:=by rw [hc0,beq_eq_false_iff_ne];omega
     have HSK:=Lib.hid hsk;have HK:=Lib.hid hk;have HB:=Lib.hid hcallb;have HSZ:=Lib.hid hsz;have HGM:=Lib.hid hgm;have HG:=Lib.hid hg;have HDD:=Lib.hid hd
     clear hsk hk hcallb hcalll hst hc0 hsz hd hgm hxl hg hstr hrb hc
     go_wp2_with fail
     refine HB.out.mono ?_
     rintro e w2 ⟨rfl,hm2⟩
     have hS2:=hS.past hm2 (by simp)
     have q2:w2.cell? ⟨b,0,none⟩=some (.string s'):=hS2.cell 0
     go_wp2_with fail
     refine bodyPost_ret (results_none rfl _ _ _) rfl ?_
     refine ⟨rfl,s',?_,hmr.trans hm2 (by simp)⟩
     have e:x.skip=St.at x m:=by
      unfold Lx.St.skip St.at
      rw [HK.out,HSK.out];rfl
     rw [e];exact hS2
end Go.Proofs.YtppigckioalhhaaGreatDoorR
namespace Go.Proofs
open Go.Shelf
def Tryz.laysC245_ren:Go.Shelf.Ren:=⟨fun | 245=>142 | 279=>157 | 280=>158 | 281=>159 | 282=>160 | 316=>166 | 171=>168 | 205=>167 | 243=>172 | 246=>173 | 283=>174 | 284=>175 | 285=>176 | 286=>177 | 129=>179 | 317=>178 | 318=>180 | 319=>181 | 320=>182 | 337=>183 | 338=>184 | n=>n,fun | 9=>9 | 3=>3 | 75=>199 | 167=>217 | 4=>4 | 168=>220 | 210=>228 | 37=>189 | 0=>0 | 127=>233 | 145=>236 | 143=>234 | 2=>2 | 171=>238 | 53=>208 | 5=>5 | 173=>241 | 212=>244 | 51=>223 | 20=>20 | 213=>245 | 46=>212 | 232=>249 | 233=>250 | 80=>251 | n=>n,fun | 15=>2 | 16=>3 | 17=>4 | 18=>5 | 19=>6 | n=>n⟩
theorem Tryz.laysC245:Go.Proofs.LaysC.n245 Tryz.prog Tryz.laysC245_ren:={
 mixed:=by kernel_rfl
 f129:=Tryz.func179.trans (congrArg some (by kernel_rfl))
 f171:=Tryz.func168.trans (congrArg some (by kernel_rfl))
 f205:=Tryz.func167.trans (congrArg some (by kernel_rfl))
 f243:=Tryz.func172.trans (congrArg some (by kernel_rfl))
 f245:=Tryz.func142.trans (congrArg some (by kernel_rfl))
 f246:=Tryz.func173.trans (congrArg some (by kernel_rfl))
 f279:=Tryz.func157.trans (congrArg some (by kernel_rfl))
 f280:=Tryz.func158.trans (congrArg some (by kernel_rfl))
 f281:=Tryz.func159.trans (congrArg some (by kernel_rfl))
 f282:=Tryz.func160.trans (congrArg some (by kernel_rfl))
 f283:=Tryz.func174.trans (congrArg some (by kernel_rfl))
 f284:=Tryz.func175.trans (congrArg some (by kernel_rfl))
 f285:=Tryz.func176.trans (congrArg some (by kernel_rfl))
 f286:=Tryz.func177.trans (congrArg some (by kernel_rfl))
 f316:=Tryz.func166.trans (congrArg some (by kernel_rfl))
 f317:=Tryz.func178.trans (congrArg some (by kernel_rfl))
 f318:=Tryz.func180.trans (congrArg some (by kernel_rfl))
 f319:=Tryz.func181.trans (congrArg some (by kernel_rfl))
 f320:=Tryz.func182.trans (congrArg some (by kernel_rfl))
 f337:=Tryz.func183.trans (congrArg some (by kernel_rfl))
 f338:=Tryz.func184.trans (congrArg some (by kernel_rfl))
 t0:=Tryz.underlying0
 a0:=Tryz.isAgg0
 z0:=Tryz.sizeOf0
 v0:=Tryz.zeroValue0
 t2:=Tryz.underlying2
 a2:=Tryz.isAgg2
 z2:=Tryz.sizeOf2
 v2:=Tryz.zeroValue2
 t3:=Tryz.underlying3
 a3:=Tryz.isAgg3
 z3:=Tryz.sizeOf3
 v3:=Tryz.zeroValue3
 t4:=Tryz.underlying4
 a4:=Tryz.isAgg4
 z4:=Tryz.sizeOf4
 v4:=Tryz.zeroValue4
 t5:=Tryz.underlying5
 a5:=Tryz.isAgg5
 z5:=Tryz.sizeOf5
 v5:=Tryz.zeroValue5
 t9:=Tryz.underlying9
 a9:=Tryz.isAgg9
 z9:=Tryz.sizeOf9
 v9:=Tryz.zeroValue9
 t20:=Tryz.underlying20
 a20:=Tryz.isAgg20
 z20:=Tryz.sizeOf20
 v20:=Tryz.zeroValue20
 t37:=Tryz.underlying189
 a37:=Tryz.isAgg189
 z37:=Tryz.sizeOf189
 v37:=Tryz.zeroValue189
 t46:=Tryz.underlying212
 a46:=Tryz.isAgg212
 z46:=Tryz.sizeOf212
 v46:=Tryz.zeroValue212
 t51:=Tryz.underlying223
 a51:=Tryz.isAgg223
 z51:=Tryz.sizeOf223
 v51:=Tryz.zeroValue223
 t53:=Tryz.underlying208
 a53:=Tryz.isAgg208
 z53:=Tryz.sizeOf208
 v53:=Tryz.zeroValue208
 t75:=Tryz.underlying199
 a75:=Tryz.isAgg199
 z75:=Tryz.sizeOf199
 v75:=Tryz.zeroValue199
 t127:=Tryz.underlying233
 a127:=Tryz.isAgg233
 z127:=Tryz.sizeOf233
 v127:=Tryz.zeroValue233
 t143:=Tryz.underlying234
 a143:=Tryz.isAgg234
 z143:=Tryz.sizeOf234
 v143:=Tryz.zeroValue234
 t145:=Tryz.underlying236
 a145:=Tryz.isAgg236
 z145:=Tryz.sizeOf236
 v145:=Tryz.zeroValue236
 t167:=Tryz.underlying217
 a167:=Tryz.isAgg217
 z167:=Tryz.sizeOf217
 v167:=Tryz.zeroValue217
 t168:=Tryz.underlying220
 a168:=Tryz.isAgg220
 z168:=Tryz.sizeOf220
 v168:=Tryz.zeroValue220
 t171:=Tryz.underlying238
 a171:=Tryz.isAgg238
 z171:=Tryz.sizeOf238
 v171:=Tryz.zeroValue238
 t173:=Tryz.underlying241
 a173:=Tryz.isAgg241
 z173:=Tryz.sizeOf241
 v173:=Tryz.zeroValue241
 t210:=Tryz.underlying228
 a210:=Tryz.isAgg228
 z210:=Tryz.sizeOf228
 v210:=Tryz.zeroValue228
 t212:=Tryz.underlying244
 a212:=Tryz.isAgg244
 z212:=Tryz.sizeOf244
 v212:=Tryz.zeroValue244
 t213:=Tryz.underlying245
 a213:=Tryz.isAgg245
 z213:=Tryz.sizeOf245
 t232:=Tryz.underlying249
 a232:=Tryz.isAgg249
 z232:=Tryz.sizeOf249
 v232:=Tryz.zeroValue249
 t233:=Tryz.underlying250
 a233:=Tryz.isAgg250
 z233:=Tryz.sizeOf250
 v233:=Tryz.zeroValue250
 g15:=by kernel_rfl
 g16:=by kernel_rfl
 g17:=by kernel_rfl
 g18:=by kernel_rfl
 g19:=by kernel_rfl
 t80:=Tryz.underlying251
 a80:=Tryz.isAgg251
 z80:=Tryz.sizeOf251
 v80:=Tryz.zeroValue251
 i0:=by kernel_rfl
 i2:=by kernel_rfl
 i3:=by kernel_rfl
 i4:=by kernel_rfl
 i5:=by kernel_rfl
 i9:=by kernel_rfl
 i20:=by kernel_rfl
 i37:=by kernel_rfl
 i46:=by kernel_rfl
 i51:=by kernel_rfl
 i53:=by kernel_rfl
 i75:=by kernel_rfl
 i80:=by kernel_rfl
 i127:=by kernel_rfl
 i143:=by kernel_rfl
 i145:=by kernel_rfl
 i167:=by kernel_rfl
 i168:=by kernel_rfl
 i171:=by kernel_rfl
 i173:=by kernel_rfl
 i210:=by kernel_rfl
 i212:=by kernel_rfl
 i232:=by kernel_rfl
 i233:=by kernel_rfl
 m15:=by kernel_rfl
 m16:=by kernel_rfl
 m17:=by kernel_rfl
 m18:=by kernel_rfl
 m19:=by kernel_rfl
 c0:=by kernel_rfl
 c2:=by kernel_rfl
 c3:=by kernel_rfl
 c4:=by kernel_rfl
 c5:=by kernel_rfl
 c9:=by kernel_rfl
 c20:=by kernel_rfl
 c37:=by kernel_rfl
 c46:=by kernel_rfl
 c51:=by kernel_rfl
 c53:=by kernel_rfl
 c75:=by kernel_rfl
 c80:=by kernel_rfl
 c127:=by kernel_rfl
 c143:=by kernel_rfl
 c145:=by kernel_rfl
 c167:=by kernel_rfl
 c168:=by kernel_rfl
 c171:=by kernel_rfl
 c173:=by kernel_rfl
 c210:=by kernel_rfl
 c212:=by kernel_rfl
 c213:=by kernel_rfl
 c232:=by kernel_rfl
 c233:=by kernel_rfl }
open Go.RowKit in
/-- strconv.toError, at the inner package's ErrSyntax: 'syntaxError(fn, s)' as an error: A *NumError IN A NEW BLOCK. (LAID: no walk: one application.) -/
theorem Tryz.strconv_toError_syntax (fn s:ByteArray) (base bits:Int) (ev:Value) (w:World) (hlim:s.size<=281474976710656) (hv:w.cell? ⟨2,0,none⟩=some ev) (hev:ev=.nilIface\/∃ te pe,ev=.iface te pe) :
  Calls Tryz.prog 142 #[.string fn,.string s,.int .i64 base,.int .i64 bits,.iface 217 (.int .i64 2)] w fun e w'=>∃ N,e=.returned (.iface 220 (.pointer (some ⟨N,0,none⟩)))/\w.heap.size<=N/\w'.heap[N]?=some (.cells #[.string fn,.string s,ev] 228 (0,0))/\Below w.heap.size w w':=Any.strconv_toError_syntax Tryz.laysC245 fn s base bits ev w hlim hv hev
def Tryz.lays321_ren:Go.Shelf.Ren:=⟨fun | 321=>169 | n=>n,fun | 5=>5 | n=>n,fun | n=>n⟩
theorem Tryz.lays321:Go.Proofs.Lays.n321 Tryz.prog Tryz.lays321_ren:={
 mixed:=by kernel_rfl
 f321:=Tryz.func169.trans (congrArg some (by kernel_rfl))
 t5:=Tryz.underlying5
 a5:=Tryz.isAgg5
 z5:=Tryz.sizeOf5
 v5:=Tryz.zeroValue5 }
open Go.RowKit in
/-- internal/strconv.lower: 'c | ('x' - 'X')': the bit 32 set. The world is as it was. (LAID: no walk: one application.) -/
theorem Tryz.internal_strconv_lower (c:Int) (w:World) :
  Calls Tryz.prog 169 #[.int .u8 c] w fun e w'=>e=.returned (.int .u8 (bits .or .u8 c 32))/\w'=w:=Any.internal_strconv_lower Tryz.lays321 c w
def Tryz.laysC172_ren:Go.Shelf.Ren:=⟨fun | 172=>133 | 244=>141 | 245=>142 | 247=>156 | 279=>157 | 280=>158 | 281=>159 | 282=>160 | 287=>161 | 316=>166 | 171=>168 | 205=>167 | 321=>169 | 322=>170 | 243=>172 | 246=>173 | 283=>174 | 284=>175 | 285=>176 | 286=>177 | 129=>179 | 317=>178 | 318=>180 | 319=>181 | 320=>182 | 337=>183 | 338=>184 | n=>n,fun | 9=>9 | 3=>3 | 75=>199 | 76=>200 | 4=>4 | 5=>5 | 167=>217 | 37=>189 | 0=>0 | 85=>218 | 2=>2 | 168=>220 | 53=>208 | 175=>209 | 46=>212 | 210=>228 | 127=>233 | 145=>236 | 143=>234 | 21=>21 | 171=>238 | 173=>241 | 212=>244 | 51=>223 | 20=>20 | 213=>245 | 232=>249 | 233=>250 | 80=>251 | n=>n,fun | 15=>2 | 16=>3 | 17=>4 | 18=>5 | 19=>6 | n=>n⟩
theorem Tryz.laysC172:Go.Proofs.LaysC.n172 Tryz.prog Tryz.laysC172_ren:={
 mixed:=by kernel_rfl
 f129:=Tryz.func179.trans (congrArg some (by kernel_rfl))
 f171:=Tryz.func168.trans (congrArg some (by kernel_rfl))
 f172:=Tryz.func133.trans (congrArg some (by kernel_rfl))
 f205:=Tryz.func167.trans (congrArg some (by kernel_rfl))
 f243:=Tryz.func172.trans (congrArg some (by kernel_rfl))
 f244:=Tryz.func141.trans (congrArg some (by kernel_rfl))
 f245:=Tryz.func142.trans (congrArg some (by kernel_rfl))
 f246:=Tryz.func173.trans (congrArg some (by kernel_rfl))
 f247:=Tryz.func156.trans (congrArg some (by kernel_rfl))
 f279:=Tryz.func157.trans (congrArg some (by kernel_rfl))
 f280:=Tryz.func158.trans (congrArg some (by kernel_rfl))
 f281:=Tryz.func159.trans (congrArg some (by kernel_rfl))
 f282:=Tryz.func160.trans (congrArg some (by kernel_rfl))
 f283:=Tryz.func174.trans (congrArg some (by kernel_rfl))
 f284:=Tryz.func175.trans (congrArg some (by kernel_rfl))
 f285:=Tryz.func176.trans (congrArg some (by kernel_rfl))
 f286:=Tryz.func177.trans (congrArg some (by kernel_rfl))
 f287:=Tryz.func161.trans (congrArg some (by kernel_rfl))
 f316:=Tryz.func166.trans (congrArg some (by kernel_rfl))
 f317:=Tryz.func178.trans (congrArg some (by kernel_rfl))
 f318:=Tryz.func180.trans (congrArg some (by kernel_rfl))
 f319:=Tryz.func181.trans (congrArg some (by kernel_rfl))
 f320:=Tryz.func182.trans (congrArg some (by kernel_rfl))
 f321:=Tryz.func169.trans (congrArg some (by kernel_rfl))
 f322:=Tryz.func170.trans (congrArg some (by kernel_rfl))
 f337:=Tryz.func183.trans (congrArg some (by kernel_rfl))
 f338:=Tryz.func184.trans (congrArg some (by kernel_rfl))
 t0:=Tryz.underlying0
 a0:=Tryz.isAgg0
 z0:=Tryz.sizeOf0
 v0:=Tryz.zeroValue0
 t2:=Tryz.underlying2
 a2:=Tryz.isAgg2
 z2:=Tryz.sizeOf2
 v2:=Tryz.zeroValue2
 t3:=Tryz.underlying3
 a3:=Tryz.isAgg3
 z3:=Tryz.sizeOf3
 v3:=Tryz.zeroValue3
 t4:=Tryz.underlying4
 a4:=Tryz.isAgg4
 z4:=Tryz.sizeOf4
 v4:=Tryz.zeroValue4
 t5:=Tryz.underlying5
 a5:=Tryz.isAgg5
 z5:=Tryz.sizeOf5
 v5:=Tryz.zeroValue5
 t9:=Tryz.underlying9
 a9:=Tryz.isAgg9
 z9:=Tryz.sizeOf9
 v9:=Tryz.zeroValue9
 t20:=Tryz.underlying20
 a20:=Tryz.isAgg20
 z20:=Tryz.sizeOf20
 v20:=Tryz.zeroValue20
 t21:=Tryz.underlying21
 a21:=Tryz.isAgg21
 z21:=Tryz.sizeOf21
 v21:=Tryz.zeroValue21
 t37:=Tryz.underlying189
 a37:=Tryz.isAgg189
 z37:=Tryz.sizeOf189
 v37:=Tryz.zeroValue189
 t46:=Tryz.underlying212
 a46:=Tryz.isAgg212
 z46:=Tryz.sizeOf212
 v46:=Tryz.zeroValue212
 t51:=Tryz.underlying223
 a51:=Tryz.isAgg223
 z51:=Tryz.sizeOf223
 v51:=Tryz.zeroValue223
 t53:=Tryz.underlying208
 a53:=Tryz.isAgg208
 z53:=Tryz.sizeOf208
 v53:=Tryz.zeroValue208
 t75:=Tryz.underlying199
 a75:=Tryz.isAgg199
 z75:=Tryz.sizeOf199
 v75:=Tryz.zeroValue199
 t76:=Tryz.underlying200
 a76:=Tryz.isAgg200
 z76:=Tryz.sizeOf200
 v76:=Tryz.zeroValue200
 t85:=Tryz.underlying218
 a85:=Tryz.isAgg218
 z85:=Tryz.sizeOf218
 v85:=Tryz.zeroValue218
 t127:=Tryz.underlying233
 a127:=Tryz.isAgg233
 z127:=Tryz.sizeOf233
 v127:=Tryz.zeroValue233
 t143:=Tryz.underlying234
 a143:=Tryz.isAgg234
 z143:=Tryz.sizeOf234
 v143:=Tryz.zeroValue234
 t145:=Tryz.underlying236
 a145:=Tryz.isAgg236
 z145:=Tryz.sizeOf236
 v145:=Tryz.zeroValue236
 t167:=Tryz.underlying217
 a167:=Tryz.isAgg217
 z167:=Tryz.sizeOf217
 v167:=Tryz.zeroValue217
 t168:=Tryz.underlying220
 a168:=Tryz.isAgg220
 z168:=Tryz.sizeOf220
 v168:=Tryz.zeroValue220
 t171:=Tryz.underlying238
 a171:=Tryz.isAgg238
 z171:=Tryz.sizeOf238
 v171:=Tryz.zeroValue238
 t173:=Tryz.underlying241
 a173:=Tryz.isAgg241
 z173:=Tryz.sizeOf241
 v173:=Tryz.zeroValue241
 t175:=Tryz.underlying209
 a175:=Tryz.isAgg209
 z175:=Tryz.sizeOf209
 v175:=Tryz.zeroValue209
 t210:=Tryz.underlying228
 a210:=Tryz.isAgg228
 z210:=Tryz.sizeOf228
 v210:=Tryz.zeroValue228
 t212:=Tryz.underlying244
 a212:=Tryz.isAgg244
 z212:=Tryz.sizeOf244
 v212:=Tryz.zeroValue244
 t213:=Tryz.underlying245
 a213:=Tryz.isAgg245
 z213:=Tryz.sizeOf245
 t232:=Tryz.underlying249
 a232:=Tryz.isAgg249
 z232:=Tryz.sizeOf249
 v232:=Tryz.zeroValue249
 t233:=Tryz.underlying250
 a233:=Tryz.isAgg250
 z233:=Tryz.sizeOf250
 v233:=Tryz.zeroValue250
 g15:=by kernel_rfl
 g16:=by kernel_rfl
 g17:=by kernel_rfl
 g18:=by kernel_rfl
 g19:=by kernel_rfl
 t80:=Tryz.underlying251
 a80:=Tryz.isAgg251
 z80:=Tryz.sizeOf251
 v80:=Tryz.zeroValue251
 i0:=by kernel_rfl
 i2:=by kernel_rfl
 i3:=by kernel_rfl
 i4:=by kernel_rfl
 i5:=by kernel_rfl
 i9:=by kernel_rfl
 i20:=by kernel_rfl
 i21:=by kernel_rfl
 i37:=by kernel_rfl
 i46:=by kernel_rfl
 i51:=by kernel_rfl
 i53:=by kernel_rfl
 i75:=by kernel_rfl
 i76:=by kernel_rfl
 i80:=by kernel_rfl
 i85:=by kernel_rfl
 i127:=by kernel_rfl
 i143:=by kernel_rfl
 i145:=by kernel_rfl
 i167:=by kernel_rfl
 i168:=by kernel_rfl
 i171:=by kernel_rfl
 i173:=by kernel_rfl
 i175:=by kernel_rfl
 i210:=by kernel_rfl
 i212:=by kernel_rfl
 i232:=by kernel_rfl
 i233:=by kernel_rfl
 m15:=by kernel_rfl
 m16:=by kernel_rfl
 m17:=by kernel_rfl
 m18:=by kernel_rfl
 m19:=by kernel_rfl
 c0:=by kernel_rfl
 c2:=by kernel_rfl
 c3:=by kernel_rfl
 c4:=by kernel_rfl
 c5:=by kernel_rfl
 c9:=by kernel_rfl
 c20:=by kernel_rfl
 c21:=by kernel_rfl
 c37:=by kernel_rfl
 c46:=by kernel_rfl
 c51:=by kernel_rfl
 c53:=by kernel_rfl
 c75:=by kernel_rfl
 c76:=by kernel_rfl
 c80:=by kernel_rfl
 c85:=by kernel_rfl
 c127:=by kernel_rfl
 c143:=by kernel_rfl
 c145:=by kernel_rfl
 c167:=by kernel_rfl
 c168:=by kernel_rfl
 c171:=by kernel_rfl
 c173:=by kernel_rfl
 c175:=by kernel_rfl
 c210:=by kernel_rfl
 c212:=by kernel_rfl
 c213:=by kernel_rfl
 c232:=by kernel_rfl
 c233:=by kernel_rfl }
open Go.RowKit in
/-- strconv.Atoi, AT EVERY STRING THAT SPELLS AN int ('Lib.atoiAll .. = .ok v'; of whatever length: leading zeros count): v, AND NO ERROR. The world: as it was, or with the one new row that '[]byte(..)' lays. (LAID: no walk: one application.) -/
theorem Tryz.strconv_Atoi_ok (s:ByteArray) (hmax:s.size<=9223372036854775806) (v:Int) (h:Lib.atoiAll s.data.toList=.ok v) (w:World) :
  Calls Tryz.prog 133 #[.string s] w fun e w'=>e=.returned (.tuple #[.int .i64 v,.nilIface])/\(w'=w\/∃ t,w'=Lib.bytesWorld w 5 t):=Any.strconv_Atoi_ok Tryz.laysC172 s hmax v h w
open Go.RowKit in
theorem Tryz.strconv_Atoi_range_var (s : ByteArray) (hlim : s.size ≤ 281474976710656) (h : Lib.atoiAll s.data.toList = .range) (tp : TypeId) (p : Value) (w : World) (hvar : w.var? Tryz.prog "strconv.ErrRange" = some #[.iface tp p]) :
  Calls Tryz.prog 133 #[.string s] w fun e w'=>∃ N,e=.returned (.tuple #[.int .i64 (Lib.atoiSat s.data.toList),.iface 220 (.pointer (some ⟨N,0,none⟩))])/\w.heap.size<=N/\w'.heap[N]?=some (.cells #[.string ⟨#[65,116,111,105]⟩,.string s,.iface tp p] 228 (0,0))/\Below w.heap.size w w':=Any.strconv_Atoi_range_var Tryz.laysC172 s hlim h tp p w hvar
def Tryz.lays138_ren:Go.Shelf.Ren:=⟨fun | 138=>100 | 195=>124 | 218=>125 | 143=>126 | 219=>136 | 217=>144 | 225=>145 | 224=>146 | 267=>147 | 266=>162 | 314=>163 | n=>n,fun | 9=>9 | 3=>3 | 4=>4 | 5=>5 | 0=>0 | 46=>212 | 146=>224 | 51=>223 | n=>n,fun | 1=>1 | n=>n⟩
theorem Tryz.lays138:Go.Proofs.Lays.n138 Tryz.prog Tryz.lays138_ren:={
 mixed:=by kernel_rfl
 f138:=Tryz.func100.trans (congrArg some (by kernel_rfl))
 f143:=Tryz.func126.trans (congrArg some (by kernel_rfl))
 f195:=Tryz.func124.trans (congrArg some (by kernel_rfl))
 f217:=Tryz.func144.trans (congrArg some (by kernel_rfl))
 f218:=Tryz.func125.trans (congrArg some (by kernel_rfl))
 f219:=Tryz.func136.trans (congrArg some (by kernel_rfl))
 f224:=Tryz.func146.trans (congrArg some (by kernel_rfl))
 f225:=Tryz.func145.trans (congrArg some (by kernel_rfl))
 f266:=Tryz.func162.trans (congrArg some (by kernel_rfl))
 f267:=Tryz.func147.trans (congrArg some (by kernel_rfl))
 f314:=Tryz.func163.trans (congrArg some (by kernel_rfl))
 t0:=Tryz.underlying0
 a0:=Tryz.isAgg0
 z0:=Tryz.sizeOf0
 v0:=Tryz.zeroValue0
 t3:=Tryz.underlying3
 a3:=Tryz.isAgg3
 z3:=Tryz.sizeOf3
 v3:=Tryz.zeroValue3
 t4:=Tryz.underlying4
 a4:=Tryz.isAgg4
 z4:=Tryz.sizeOf4
 v4:=Tryz.zeroValue4
 t5:=Tryz.underlying5
 a5:=Tryz.isAgg5
 z5:=Tryz.sizeOf5
 v5:=Tryz.zeroValue5
 t9:=Tryz.underlying9
 a9:=Tryz.isAgg9
 z9:=Tryz.sizeOf9
 v9:=Tryz.zeroValue9
 t46:=Tryz.underlying212
 a46:=Tryz.isAgg212
 z46:=Tryz.sizeOf212
 v46:=Tryz.zeroValue212
 t51:=Tryz.underlying223
 a51:=Tryz.isAgg223
 z51:=Tryz.sizeOf223
 v51:=Tryz.zeroValue223
 t146:=Tryz.underlying224
 a146:=Tryz.isAgg224
 z146:=Tryz.sizeOf224
 v146:=Tryz.zeroValue224
 g1:=by kernel_rfl }
open Go.RowKit Go.Lib in
/-- strings.Count AT A substr OF ONE BYTE ('hp'): "Count counts the number of non-overlapping instances of substr in s.": IT RETURNS 'Lib.countByte s (that byte)'; the world is as it was. ✋ NO CONTRACT HERE YET at an empty substr (utf8.RuneCountInString) or at a longer one (a loop over strings.Index). (LAID: no walk: one application.) -/
theorem Tryz.strings_Count_one (s:ByteArray) (c:UInt8) (w:World) :
  Calls Tryz.prog 100 #[.string s,.string ⟨#[c]⟩] w fun e w'=>e=.returned (.int .i64 (Lib.countByte s.data.toList c))/\w'=w:=Any.strings_Count_one Tryz.lays138 s c w
open Go.RowKit Go.Lib in
def Tryz.lays99_ren:Go.Shelf.Ren:=⟨fun | 99=>122 | 206=>135 | n=>n,fun | 9=>9 | 4=>4 | 3=>3 | n=>n,fun | n=>n⟩
theorem Tryz.lays99:Go.Proofs.Lays.n99 Tryz.prog Tryz.lays99_ren:={
 mixed:=by kernel_rfl
 f99:=Tryz.func122.trans (congrArg some (by kernel_rfl))
 f206:=Tryz.func135.trans (congrArg some (by kernel_rfl))
 t3:=Tryz.underlying3
 a3:=Tryz.isAgg3
 z3:=Tryz.sizeOf3
 v3:=Tryz.zeroValue3
 t4:=Tryz.underlying4
 a4:=Tryz.isAgg4
 z4:=Tryz.sizeOf4
 v4:=Tryz.zeroValue4
 t9:=Tryz.underlying9
 a9:=Tryz.isAgg9
 z9:=Tryz.sizeOf9
 v9:=Tryz.zeroValue9 }
open Go.RowKit Go.Lib in
/-- strings.HasPrefix: "HasPrefix reports whether the string s begins with prefix.": IT RETURNS 'Lib.hasPrefix s prefix'; the world is as it was. (LAID: no walk: one application.) -/
theorem Tryz.strings_HasPrefix (s p:ByteArray) (w:World) :
  Calls Tryz.prog 122 #[.string s,.string p] w fun e w'=>e=.returned (.bool (Lib.hasPrefix s.data.toList p.data.toList))/\w'=w:=Any.strings_HasPrefix Tryz.lays99 s p w
end Go.Proofs
