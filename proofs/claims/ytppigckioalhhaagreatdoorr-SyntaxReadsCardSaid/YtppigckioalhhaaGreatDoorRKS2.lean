/- THE TEXTS MERGED: LxFn LxScan LxSkip. -/
import Derived.Test.YtppigckioalhhaaGreatDoorRKS1
import Derived.Deep.LoopGhost
import Derived.Outline
namespace Go.Proofs.YtppigckioalhhaaGreatDoorR
open Go.RowKit
set_option linter.unusedVariables false
set_option linter.unusedSimpArgs false
set_option maxRecDepth 100000
def smallI (c:Int):Bool:=decide (97<=c) && decide (c<=122)
def capitalI (c:Int):Bool:=decide (65<=c) && decide (c<=90)
def digitI (c:Int):Bool:=decide (48<=c) && decide (c<=57)
def restI (c:Int):Bool:=smallI c || (capitalI c || (digitI c || decide (c=95)))
def blankI (c:Int):Bool:=decide (c=32) || (decide (c=9) || (decide (c=10) || decide (c=13)))
def lineI (c:Int):Bool:=!decide (c=10)
theorem ret_bool {a b:Bool} (h:a=b):Ending.returned (.bool a)=.returned (.bool b):=by rw [h]
theorem ret_int {k:IntKind} {a b:Int} (h:a=b):Ending.returned (.int k a)=.returned (.int k b):=by rw [h]
theorem isSmall_any (c:Int) (b:Bool) (hb:smallI c=b) (w:World) :
  Calls Tryz.prog 116 #[.int .i32 c] w fun e w'=>e=.returned (.bool b)/\w=w':=by
 subst hb
 unfold smallI
 by_cases h1:97<=c
 ·go_enter Tryz.func116,Tryz.ntmps116
  go_wp2
  all_goals go_ret
  all_goals exact ⟨ret_bool (by rw [Bool.eq_iff_iff];simp <;> omega),rfl⟩
 ·go_enter Tryz.func116,Tryz.ntmps116
  go_wp2
  all_goals go_ret
  all_goals exact ⟨ret_bool (by rw [Bool.eq_iff_iff];simp <;> omega),rfl⟩
theorem isCapital_any (c:Int) (b:Bool) (hb:capitalI c=b) (w:World) :
  Calls Tryz.prog 117 #[.int .i32 c] w fun e w'=>e=.returned (.bool b)/\w=w':=by
 subst hb
 unfold capitalI
 by_cases h1:65<=c
 ·go_enter Tryz.func117,Tryz.ntmps117
  go_wp2
  all_goals go_ret
  all_goals exact ⟨ret_bool (by rw [Bool.eq_iff_iff];simp <;> omega),rfl⟩
 ·go_enter Tryz.func117,Tryz.ntmps117
  go_wp2
  all_goals go_ret
  all_goals exact ⟨ret_bool (by rw [Bool.eq_iff_iff];simp <;> omega),rfl⟩
theorem isDigit_any (c:Int) (b:Bool) (hb:digitI c=b) (w:World) :
  Calls Tryz.prog 119 #[.int .i32 c] w fun e w'=>e=.returned (.bool b)/\w=w':=by
 subst hb
 unfold digitI
 by_cases h1:48<=c
 ·go_enter Tryz.func119,Tryz.ntmps119
  go_wp2
  all_goals go_ret
  all_goals exact ⟨ret_bool (by rw [Bool.eq_iff_iff];simp <;> omega),rfl⟩
 ·go_enter Tryz.func119,Tryz.ntmps119
  go_wp2
  all_goals go_ret
  all_goals exact ⟨ret_bool (by rw [Bool.eq_iff_iff];simp <;> omega),rfl⟩
theorem blank_any (c:Int) (w:World) :
  Calls Tryz.prog 114 #[.int .i32 c] w fun e w'=>e=.returned (.bool (blankI c))/\w=w':=by
 unfold blankI
 go_enter Tryz.func114,Tryz.ntmps114
 go_wp2
 all_goals go_ret
 all_goals exact ⟨ret_bool (by rw [Bool.eq_iff_iff];simp <;> omega),rfl⟩
theorem line_any (c:Int) (w:World) :
  Calls Tryz.prog 115 #[.int .i32 c] w fun e w'=>e=.returned (.bool (lineI c))/\w=w':=by
 unfold lineI
 go_enter Tryz.func115,Tryz.ntmps115
 go_wp2
 all_goals go_ret
 all_goals exact ⟨ret_bool (by rw [Bool.eq_iff_iff];simp <;> omega),rfl⟩
theorem isRest_any (c:Int) (w:World) :
  Calls Tryz.prog 118 #[.int .i32 c] w fun e w'=>e=.returned (.bool (restI c))/\w=w':=by
 cases h1:smallI c
 ·cases h2:capitalI c
  ·cases h3:digitI c
   ·have e:Hid (restI c=decide (c=95)):=Hxq (by simp [restI,h1,h2,h3])
    have H1:=Lib.hid h1;have H2:=Lib.hid h2;have H3:=Lib.hid h3
    clear h1 h2 h3
    go_enter Tryz.func118,Tryz.ntmps118
    go_wp2_with fail
    refine (isSmall_any c _ H1.out _).mono ?_
    rintro e w' ⟨rfl,rfl⟩
    go_wp2_with fail
    refine (isCapital_any c _ H2.out _).mono ?_
    rintro e w' ⟨rfl,rfl⟩
    go_wp2_with fail
    refine (isDigit_any c _ H3.out _).mono ?_
    rintro e w' ⟨rfl,rfl⟩
    go_wp2_with fail
    go_ret
    rw [e.out]
    exact ⟨ret_bool (by rw [Bool.eq_iff_iff];simp),rfl⟩
   ·have e:Hid (restI c=true):=Hxq (by simp [restI,h3])
    have H1:=Lib.hid h1;have H2:=Lib.hid h2;have H3:=Lib.hid h3
    clear h1 h2 h3
    go_enter Tryz.func118,Tryz.ntmps118
    go_wp2_with fail
    refine (isSmall_any c _ H1.out _).mono ?_
    rintro e w' ⟨rfl,rfl⟩
    go_wp2_with fail
    refine (isCapital_any c _ H2.out _).mono ?_
    rintro e w' ⟨rfl,rfl⟩
    go_wp2_with fail
    refine (isDigit_any c _ H3.out _).mono ?_
    rintro e w' ⟨rfl,rfl⟩
    go_wp2_with fail
    go_ret
    rw [e.out]
    exact ⟨rfl,rfl⟩
  ·have e:Hid (restI c=true):=Hxq (by simp [restI,h2])
   have H1:=Lib.hid h1;have H2:=Lib.hid h2
   clear h1 h2
   go_enter Tryz.func118,Tryz.ntmps118
   go_wp2_with fail
   refine (isSmall_any c _ H1.out _).mono ?_
   rintro e w' ⟨rfl,rfl⟩
   go_wp2_with fail
   refine (isCapital_any c _ H2.out _).mono ?_
   rintro e w' ⟨rfl,rfl⟩
   go_wp2_with fail
   go_ret
   rw [e.out]
   exact ⟨rfl,rfl⟩
 ·have e:Hid (restI c=true):=Hxq (by simp [restI,h1])
  have H1:=Lib.hid h1
  clear h1
  go_enter Tryz.func118,Tryz.ntmps118
  go_wp2_with fail
  refine (isSmall_any c _ H1.out _).mono ?_
  rintro e w' ⟨rfl,rfl⟩
  go_wp2_with fail
  go_ret
  rw [e.out]
  exact ⟨rfl,rfl⟩
theorem alike_rest:Lx.Alike restI Lx.goes false:=by
 refine ⟨fun c hc=>?_,fun c hc=>?_,fun c hc=>?_⟩
 ·rw [Bool.eq_iff_iff];simp [restI,smallI,capitalI,digitI,Lx.goes,Lx.small,Lx.capital,Lx.digit];omega
 ·rw [<-Bool.not_eq_true,];simp [restI,smallI,capitalI,digitI];omega
 ·rw [<-Bool.not_eq_true];simp [Lx.goes,Lx.small,Lx.capital,Lx.digit];omega
theorem alike_digit:Lx.Alike digitI Lx.digit false:=by
 refine ⟨fun c hc=>?_,fun c hc=>?_,fun c hc=>?_⟩
 ·rw [Bool.eq_iff_iff];simp [digitI,Lx.digit];omega
 ·rw [<-Bool.not_eq_true,];simp [digitI];omega
 ·rw [<-Bool.not_eq_true];simp [Lx.digit];omega
theorem alike_blank:Lx.Alike blankI Lx.blank false:=by
 refine ⟨fun c hc=>?_,fun c hc=>?_,fun c hc=>?_⟩
 ·rw [Bool.eq_iff_iff];simp [blankI,Lx.blank];omega
 ·rw [<-Bool.not_eq_true,];simp [blankI];omega
 ·rw [<-Bool.not_eq_true];simp [Lx.blank];omega
theorem alike_line:Lx.Alike lineI Lx.line true:=by
 refine ⟨fun c hc=>?_,fun c hc=>?_,fun c hc=>?_⟩
 ·rw [Bool.eq_iff_iff];simp [lineI,Lx.line];omega
 ·simp [lineI];omega
 ·simp [Lx.line];omega
theorem mod_iter (w:World) (s:ByteArray) (pos:Nat):Mod [] w (w.iter s pos):=(Mod.refl [] w).alloc _
theorem enter_of {f : FuncId} {fn : Func} {c : Code} (hf : Tryz.prog.funcs[f]? = some fn) (h1 : (fn.name == "runtime.NumGoroutine") = false) (hb : fn.body = some c) (args : Array Value) (w : World) :
  (callFunc f args).run Tryz.prog w=.ok (.enter f args) w:=by
 have h2 : fn.name ≠ "runtime.NumGoroutine" := by simpa using h1
 simp [callFunc,hf,h2,hb]
set_option maxHeartbeats 1000000 in
/-- how far a text goes on with a kind -/
theorem length_any (n:Nat) (he:∀ (args:Array Value) (w:World),(callFunc n args).run Tryz.prog w=.ok (.enter n args) w) (p:Int->Bool) (q:Nat->Bool) (d:Bool) (ha:Lx.Alike p q d) (hk:∀ (c:Int) (w:World),Calls Tryz.prog n #[.int .i32 c] w fun e w'=>e=.returned (.bool (p c))/\w=w') (s:ByteArray) (hs:s.size<=9223372036854775807) (w:World) :
  Calls Tryz.prog 113 #[.string s,.func (.func n) #[] #[]] w fun e w'=>e=.returned (.int .i64 (Lx.run q (Cod.str s):Nat))/\Mod [] w w':=by
 have HK:=Lib.hid hk
 have hrl:=Lx.run_le q (Cod.str s)
 rw [Cod.str_len] at hrl
 clear hk
 go_enter Tryz.func113,Tryz.ntmps113
 go_wp2_with fail
 go_loopw [] (fun w'=>∃ pos:Nat,pos<=Lx.run q (Cod.str s)/\w'=w.iter s pos) (fun w'=>s.size - w'.iterPos w.heap.size)
 case atStart=>exact ⟨0,Nat.zero_le _,rfl⟩
 case round =>
  obtain ⟨pos,hr,rfl⟩:=hrel
  by_cases hp:pos<s.size
  ·have hnx:∀ ty,(Instr.next (.pointer (some ⟨w.heap.size,0,none⟩)) true ty).run Tryz.prog (w.iter s pos)=_:=fun ty=>run_next_any w s pos ty hp
   cases hd:p ((Utf8.decode s pos).1:Int)
   ·have hst:=Hxq (ha.stop s pos hp hr hd)
    have HD:=Lib.hid hd
    clear hd
    go_wp2_with fail
    refine (HK.out _ _).mono ?_
    rintro e w2 ⟨rfl,rfl⟩
    rw [HD.out]
    go_wp2_with fail
    go_ret
    exact ⟨by rw [hst.out];rfl,mod_iter _ _ _⟩
   ·have hst:=ha.step s pos hp hr hd
    have HD:=Lib.hid hd
    clear hd
    go_wp2_with fail
    refine (HK.out _ _).mono ?_
    rintro e w2 ⟨rfl,rfl⟩
    rw [HD.out]
    go_wp2_with fail
    go_roundw
    case rel=>exact ⟨_,hst.1,rfl⟩
    case measure =>
     simp
     omega
  ·have hnx:∀ ty,(Instr.next (.pointer (some ⟨w.heap.size,0,none⟩)) true ty).run Tryz.prog (w.iter s pos)=_:=fun ty=>run_next_end w s pos ty hp
   go_wp2_with fail
   go_ret
   exact ⟨ret_int (by omega),mod_iter _ _ _⟩
theorem len_blank (s:ByteArray) (hs:s.size<=9223372036854775807) (w:World) :
  Calls Tryz.prog 113 #[.string s,.func (.func 114) #[] #[]] w fun e w'=>e=.returned (.int .i64 (Lx.run Lx.blank (Cod.str s):Nat))/\Mod [] w w' :=
 length_any _ (enter_of Tryz.func114 (by kernel_rfl) rfl) _ _ _ alike_blank blank_any s hs w
theorem len_line (s:ByteArray) (hs:s.size<=9223372036854775807) (w:World) :
  Calls Tryz.prog 113 #[.string s,.func (.func 115) #[] #[]] w fun e w'=>e=.returned (.int .i64 (Lx.run Lx.line (Cod.str s):Nat))/\Mod [] w w' :=
 length_any _ (enter_of Tryz.func115 (by kernel_rfl) rfl) _ _ _ alike_line line_any s hs w
theorem len_rest (s:ByteArray) (hs:s.size<=9223372036854775807) (w:World) :
  Calls Tryz.prog 113 #[.string s,.func (.func 118) #[] #[]] w fun e w'=>e=.returned (.int .i64 (Lx.run Lx.goes (Cod.str s):Nat))/\Mod [] w w' :=
 length_any _ (enter_of Tryz.func118 (by kernel_rfl) rfl) _ _ _ alike_rest isRest_any s hs w
theorem len_digit (s:ByteArray) (hs:s.size<=9223372036854775807) (w:World) :
  Calls Tryz.prog 113 #[.string s,.func (.func 119) #[] #[]] w fun e w'=>e=.returned (.int .i64 (Lx.run Lx.digit (Cod.str s):Nat))/\Mod [] w w' :=
 length_any _ (enter_of Tryz.func119 (by kernel_rfl) rfl) _ _ _ alike_digit (fun c w=>isDigit_any c _ rfl w) s hs w
/-- the scanner's cells -/
def scCells (s:ByteArray) (x:Lx.St):Array Value :=
 #[.string s,.int .i64 (x.pos.1:Nat),.int .i64 (x.pos.2:Nat),.int .i64 (x.fin.1:Nat),.int .i64 (x.fin.2:Nat),.int .i64 (x.code:Nat),.int .i64 (x.fp.1:Nat),.int .i64 (x.fp.2:Nat),.bool x.long]
structure ScIs (w:World) (b:Nat) (s:ByteArray) (x:Lx.St):Prop where
 at_:w.heap[b]?=some (.cells (scCells s x) 120 (0,0))
 str:Cod.str s=x.s
 size:s.size<=140737488355328
 lim:x.long=false->s.size<=65536/\x.pos.1+2 * s.size<=200000/\x.pos.2+2 * s.size<=200000
theorem ScIs.cell {w:World} {b:Nat} {s:ByteArray} {x:Lx.St} (h:ScIs w b s x) (i:Nat):w.cell? ⟨b,i,none⟩=(scCells s x)[i]?:=by
 simp [World.cell?,h.at_]
theorem ScIs.free {w:World} {b:Nat} {s:ByteArray} {x:Lx.St} (h:ScIs w b s x) (i:Nat):w.frozen? ⟨b,i,none⟩=false:=by simp [World.frozen?,h.at_]
theorem ScIs.lt {w:World} {b:Nat} {s:ByteArray} {x:Lx.St} (h:ScIs w b s x):b<w.heap.size:=lt_of_block h.at_
theorem ScIs.keep {S:List Nat} {w w':World} {b:Nat} {s:ByteArray} {x:Lx.St} (h:ScIs w b s x) (hm:Mod S w w') (hb:b∉S):ScIs w' b s x :=
 ⟨hm.at h.at_ hb,h.str,h.size,h.lim⟩
theorem ScIs.past {S:List Nat} {w w':World} {b:Nat} {s:ByteArray} {x:Lx.St} (h:ScIs w b s x) (hm:Mod S w w') (hS:∀ t∈S,w.heap.size<=t):ScIs w' b s x :=
 h.keep hm (fun hb=>by have:=hS b hb;have:=h.lt;omega)
theorem take_snoc {α:Type} (l:List α) (d:α) (k:Nat) (h:k<l.length):l.take (k+1)=l.take k++[l.getD k d]:=by
 rw [List.take_succ_eq_append_getElem h,List.getD_eq_getElem?_getD,List.getElem?_eq_getElem h];rfl
theorem setCell_at {w:World} {b:Nat} {cs:Array Value} {T:TypeId} {fr:Nat × Nat} (h:w.heap[b]?=some (.cells cs T fr)) (i:Nat) (v:Value) :
  (w.setCell ⟨b,i,none⟩ v).heap[b]?=some (.cells (cs.setIfInBounds i v) T fr):=by
 simp [World.setCell,Array.getElem?_modify,h]
theorem pass_any (b:Nat) (s:ByteArray) (x:Lx.St) (n:Nat) (w:World) (h:ScIs w b s x) (hn:n<=s.size) (hl:x.long=false) :
  Calls Tryz.prog 96 #[.pointer (some ⟨b,0,none⟩),.int .i64 (n:Int)] w fun e w'=>e=.returned (.tuple #[])/\∃ s',ScIs w' b s' { x with s:=x.s.drop n,pos:=Lx.adv x.pos (x.s.take n) }/\Mod [b] w w':=by
 have c0:w.cell? ⟨b,0,none⟩=some (.string s):=h.cell 0
 obtain ⟨hs,hl1,hl2⟩:=h.lim hl
 have hcv:=fun w s=>run_bytes_of_string (P:=Tryz.prog) w 9 189 5 s Tryz.underlying9 Tryz.underlying189 Tryz.underlying5
 go_enter Tryz.func96,Tryz.ntmps96
 go_wp2_with fail
 have hb:b<w.heap.size:=h.lt
 have hbyte:Hid (∀ k,k<n->((w.alloc (Obj.cells (bytesRow (s.extract 0 n) (grownCap w n 0 5)) 5 ((bytesRow (s.extract 0 n) (grownCap w n 0 5)).size,(bytesRow (s.extract 0 n) (grownCap w n 0 5)).size+1))).drew).cell? ⟨w.heap.size,k,none⟩=some (.int .u8 (x.s.getD k 0:Nat))):=Hxq (fun k hk=>by
  show (w.alloc (Obj.cells _ _ _)).cell? _=_
  rw [World.cell?_alloc_mark]
  have hk':k<(s.extract 0 n).data.size:=by
   have:(s.extract 0 n).data.size=(s.extract 0 n).size:=rfl
   rw [this,ByteArray.size_extract];omega
  rw [bytesRow_at _ _ k hk']
  have e1:(Cod.str (s.extract 0 n)).getD k 0=((s.extract 0 n).data[k]).toNat:=by
   rw [Lx.get_str _ _ hk'];rfl
  have e2:(Cod.str (s.extract 0 n)).getD k 0=x.s.getD k 0:=by
   rw [Lx.str_extract,h.str]
   simp [List.getD_eq_getElem?_getD,List.getElem?_take,hk]
  rw [<-e1,e2])
 have hm0:Mod [b] w ((w.alloc (Obj.cells (bytesRow (s.extract 0 n) (grownCap w n 0 5)) 5 ((bytesRow (s.extract 0 n) (grownCap w n 0 5)).size,(bytesRow (s.extract 0 n) (grownCap w n 0 5)).size+1))).drew):=((Mod.refl [b] w).alloc _).drew
 have hat0:=hm0.mono (T:=[b]) (fun t ht=>.inl ht)
 have hb0:((w.alloc (Obj.cells (bytesRow (s.extract 0 n) (grownCap w n 0 5)) 5 ((bytesRow (s.extract 0 n) (grownCap w n 0 5)).size,(bytesRow (s.extract 0 n) (grownCap w n 0 5)).size+1))).drew).heap[b]?=some (.cells (scCells s x) 120 (0,0)):=(((Mod.refl [] w).alloc _).drew).at h.at_ (by simp)
 have hstr:=h.str
 have hxl:x.s.length=s.size:=by rw [<-hstr,Cod.str_len]
 generalize ((w.alloc (Obj.cells (bytesRow (s.extract 0 n) (grownCap w n 0 5)) 5 ((bytesRow (s.extract 0 n) (grownCap w n 0 5)).size,(bytesRow (s.extract 0 n) (grownCap w n 0 5)).size+1))).drew)=w2 at *
 generalize grownCap w n 0 5=cap at *
 have HX:=Lib.hid hxl
 clear hcv hxl hat0
 go_loopw [14] (fun i wr=>∃ (k:Nat),k<=n/\i=.int .i64 (k:Int)/\wr.heap[b]?=some (.cells (scCells s { x with pos:=Lx.adv x.pos (x.s.take k) }) 120 (0,0))/\Mod [b] w2 wr) (fun i _=>n - (intOf i).toNat)
 case atStart=>exact ⟨0,Nat.zero_le _,rfl,by simpa [Lx.adv] using hb0,Mod.refl _ _⟩
 case round =>
  obtain ⟨k,hk,rfl,hbr,hmr⟩:=hrel
  have hla:=Lx.adv_le x.pos (x.s.take k)
  have hlt:=HX.out
  rw [List.length_take] at hla
  by_cases hlt:k<n
  ·have hck:=hmr.cell (hbyte.out k hlt) (by simp;omega)
   have hsn:Lx.adv x.pos (x.s.take (k+1))=if x.s.getD k 0=10 then ((Lx.adv x.pos (x.s.take k)).1+1,1) else ((Lx.adv x.pos (x.s.take k)).1,(Lx.adv x.pos (x.s.take k)).2+1):=by
    rw [take_snoc _ 0 _ (by omega),Lx.adv_append]
    rfl
   have hlk1:(Lx.adv x.pos (x.s.take k)).1<=200000:=by omega
   have hlk2:(Lx.adv x.pos (x.s.take k)).2<=200000:=by omega
   have q1:wr.cell? ⟨b,1,none⟩=some (.int .i64 ((Lx.adv x.pos (x.s.take k)).1:Nat)):=by simp [World.cell?,hbr,scCells]
   have q2:wr.cell? ⟨b,2,none⟩=some (.int .i64 ((Lx.adv x.pos (x.s.take k)).2:Nat)):=by simp [World.cell?,hbr,scCells]
   have f1:wr.frozen? ⟨b,1,none⟩=false:=by simp [World.frozen?,hbr]
   have f2:wr.frozen? ⟨b,2,none⟩=false:=by simp [World.frozen?,hbr]
   have hset:=fun v=>setCell_at hbr 2 v
   have hset2:=fun v u=>setCell_at (hset v) 1 u
   have hset3:=fun v u t=>setCell_at (hset2 v u) 2 t
   generalize Lx.adv x.pos (x.s.take k)=p at *
   generalize x.s.getD k 0=y at *
   by_cases hy:y=10
   ·have hyb:((y:Int) == 10)=true:=by rw [beq_iff_eq];omega
    rw [if_pos hy] at hsn
    have HS:=Lib.hid hsn
    have H3:=Lib.hid hset3
    clear hsn hset hset2 hset3 hla hbr hy
    go_wp2_with fail
    go_roundw
    case rel =>
     refine ⟨k+1,by omega,by go_num,?_,?_⟩
     ·rw [HS.out,H3.out];simp [scCells]
     ·exact ((hmr.setCell (p:=⟨b,2,none⟩) (by simp) _).setCell (p:=⟨b,1,none⟩) (by simp) _).setCell (p:=⟨b,2,none⟩) (by simp) _
    case measure=>simp [intOf];omega
   ·have hyb:((y:Int) == 10)=false:=by rw [beq_eq_false_iff_ne];omega
    rw [if_neg hy] at hsn
    have HS:=Lib.hid hsn
    have H3:=Lib.hid hset
    clear hsn hset hset2 hset3 hla hbr hy
    go_wp2_with fail
    go_roundw
    case rel =>
     refine ⟨k+1,by omega,by go_num,?_,?_⟩
     ·rw [HS.out,H3.out];simp [scCells]
     ·exact hmr.setCell (p:=⟨b,2,none⟩) (by simp) _
    case measure=>simp [intOf];omega
  ·obtain rfl:k=n:=by omega
   have q0:wr.cell? ⟨b,0,none⟩=some (.string s):=by simp [World.cell?,hbr,scCells]
   have f0:wr.frozen? ⟨b,0,none⟩=false:=by simp [World.frozen?,hbr]
   have hset:=Hxq (fun v=>setCell_at hbr 0 v)
   go_wp2_with fail
   go_end0
   refine ⟨rfl,s.extract k s.size,⟨?_,?_,?_,?_⟩,(hm0.trans hmr (fun t ht=>.inl ht)).setCell (p:=⟨b,0,none⟩) (by simp) _⟩
   ·rw [hset.out];simp [scCells]
   ·rw [Lx.str_extract,hstr]
    simp only
    rw [List.take_of_length_le (by rw [List.length_drop,HX.out];omega)]
   ·rw [ByteArray.size_extract];omega
   ·intro _
    rw [ByteArray.size_extract]
    simp only
    omega
def St.at (x:Lx.St) (m:Nat):Lx.St:={ x with s:=x.s.drop m,pos:=Lx.adv x.pos (x.s.take m) }
theorem St.at_at (x:Lx.St) (m n:Nat):{ St.at x m with s:=(St.at x m).s.drop n,pos:=Lx.adv (St.at x m).pos ((St.at x m).s.take n) }=St.at x (m+n):=by
 unfold St.at
 simp only [List.drop_drop]
 rw [<-Lx.adv_append,<-List.take_add]
theorem toList_isEmpty (s:ByteArray):s.toList.isEmpty=decide (s.size=0):=by
 rw [ByteArray.toList_eq]
 obtain ⟨⟨l⟩⟩:=s
 cases l <;> simp [ByteArray.size]
set_option maxHeartbeats 1000000 in
theorem skip_any (b:Nat) (s:ByteArray) (x:Lx.St) (w:World) (h:ScIs w b s x) (hl:x.long=false) :
  Calls Tryz.prog 94 #[.pointer (some ⟨b,0,none⟩)] w fun e w'=>e=.returned (.tuple #[])/\∃ s',ScIs w' b s' x.skip/\Mod [b] w w':=by
 have hls:=(h.lim hl).1
 have hstr:=h.str
 have hxl:x.s.length=s.size:=by rw [<-hstr,Cod.str_len]
 go_enter Tryz.func94,Tryz.ntmps94
 go_wp2_with fail
 go_loopg [] x.s.length (fun g wr=>∃ m s',x.s.length=g+m/\ScIs wr b s' (St.at x m)/\Lx.skipN false x.s=m+Lx.skipN false (x.s.drop m)/\Mod [b] w wr)
 case atStart=>exact ⟨0,s,rfl,by simpa [St.at,Lx.adv] using h,by simp,Mod.refl _ _⟩
 case round =>
  obtain ⟨m,s',hg,hS,hk,hmr⟩:=hrel
  have q0:wr.cell? ⟨b,0,none⟩=some (.string s'):=hS.cell 0
  have hsz:s'.size=(x.s.drop m).length:=by rw [<-Cod.str_len,hS.str];rfl
  have hss:=hS.size
  cases hd:x.s.drop m with
  | nil =>
   have HD:=Lib.hid hd
   rw [hd] at hsz hk
   have hem:s'.toList.isEmpty=true:=by rw [toList_isEmpty,hsz];rfl
   have HK:=Lib.hid hk
   clear hd hsz hk
   go_wp2_with fail
   go_end0
   refine ⟨rfl,s',?_,hmr⟩
   have e:x.skip=St.at x m:=by
    unfold Lx.St.skip St.at
    rw [HK.out];rfl
   rw [e];exact hS
  | cons c t =>
   have HD:=Lib.hid hd
   rw [hd] at hsz hk
   have hem:s'.toList.isEmpty=false:=by rw [toList_isEmpty,hsz];rfl
   have h0:0<s'.size:=by rw [hsz];simp
   have hst:Cod.str s'=c :: t:=by rw [hS.str,<-hd];rfl
   have hc0:s'[0].toNat=c:=by rw [<-Lx.get_str s' 0 h0,hst];rfl
   have hrn:=Lx.run_le Lx.blank (c :: t)
   have hcallb:=len_blank s' (by omega) wr
   have hcalll:=fun w=>len_line s' (by omega) w
   rw [hst] at hcallb
   simp only [hst] at hcalll
   have hgm:(c :: t).length=gk:=by rw [<-hd,List.length_drop];omega
   by_cases hb:Lx.blank c=true
   ·have hr1:1<=Lx.run Lx.blank (c :: t):=Lx.run_pos (by simp) (by simpa using hb)
    have hsk:=Lx.skip_blank (c :: t)
    rw [<-hd,List.drop_drop,hd] at hsk
    generalize hrr:Lx.run Lx.blank (c :: t)=r at *
    have hz:((r:Int) == 0)=false:=by rw [beq_eq_false_iff_ne];omega
    have hpass:=pass_any b s' (St.at x m) r
    rw [St.at_at] at hpass
    have HSK:=Lib.hid hsk;have HK:=Lib.hid hk;have HP:=Lib.hid hpass;have HB:=Lib.hid hcallb;have HSZ:=Lib.hid hsz;have HGM:=Lib.hid hgm;have HG:=Lib.hid hg
    clear hrr hsk hk hpass hcallb hcalll hst hc0 hsz hd hgm hxl hg hstr
    go_wp2_with fail
    refine HB.out.mono ?_
    rintro e w2 ⟨rfl,hm2⟩
    have hS2:=hS.past hm2 (by simp)
    go_wp2_with fail
    refine (HP.out w2 hS2 (by rw [HSZ.out];exact hrn) hl).mono ?_
    rintro e w3 ⟨rfl,s3,hS3,hm3⟩
    have hm3':=(hmr.trans hm2 (by simp)).trans hm3 (fun t ht=>.inl ht)
    go_wp2_with fail
    go_roundg (gk - r)
    case measure=>have:=HGM.out;simp at this;omega
    case rel =>
     have h1:=HGM.out
     have h2:=HG.out
     exact ⟨m+r,s3,by rw [<-h1] at h2 ⊢;omega,hS3,by rw [HK.out,HSK.out,Nat.add_assoc],hm3'⟩
   ·have hb':Lx.blank c=false:=by simpa using hb
    have hrb:Lx.run Lx.blank (c :: t)=0:=by rw [Lx.run_cons,hb'];rfl
    rw [hrb] at hcallb
    by_cases hc:c=35
    ·subst hc
     have hr1:1<=Lx.run Lx.line (35 :: t):=Lx.run_pos (by simp) rfl
     have hrn:=Lx.run_le Lx.line (35 :: t)
     have hsk:=Lx.skip_remark t
     rw [<-hd,List.drop_drop,hd] at hsk
     generalize hrr:Lx.run Lx.line (35 :: t)=r at *
     have hz:((r:Int) == 0)=false:=by rw [beq_eq_false_iff_ne];omega
     have hpass:=pass_any b s' (St.at x m) r
     rw [St.at_at] at hpass
     have hidx:((s'[0].toNat:Int) == 35)=true:=by rw [hc0];rfl
     have HSK:=Lib.hid hsk;have HK:=Lib.hid hk;have HP:=Lib.hid hpass;have HB:=Lib.hid hcallb;have HL:=Lib.hid hcalll;have HSZ:=Lib.hid hsz;have HGM:=Lib.hid hgm;have HG:=Lib.hid hg
     clear hrr hsk hk hpass hcallb hcalll hst hc0 hsz hd hgm hxl hg hstr hrb
     go_wp2_with fail
     refine HB.out.mono ?_
     rintro e w2 ⟨rfl,hm2⟩
     have hS2:=hS.past hm2 (by simp)
     have q2:w2.cell? ⟨b,0,none⟩=some (.string s'):=hS2.cell 0
     go_wp2_with fail
     refine (HL.out _).mono ?_
     rintro e w3 ⟨rfl,hm3⟩
     have hS3:=hS2.past hm3 (by simp)
     go_wp2_with fail
     refine (HP.out w3 hS3 (by rw [HSZ.out];exact hrn) hl).mono ?_
     rintro e w4 ⟨rfl,s4,hS4,hm4⟩
     have hm4':=((hmr.trans hm2 (by simp)).trans hm3 (by simp)).trans hm4 (fun t ht=>.inl ht)
     go_wp2_with fail
     go_roundg (gk - r)
     case measure=>have:=HGM.out;simp at this;omega
     case rel =>
      have h1:=HGM.out
      have h2:=HG.out
      exact ⟨m+r,s4,by rw [<-h1] at h2 ⊢;omega,hS4,by rw [HK.out,HSK.out,Nat.add_assoc],hm4'⟩
    ·have hsk:=Lx.skip_none (t:=t) hb' hc
     have hidx:((s'[0].toNat:Int) == 35)=false:=by rw [hc0,beq_eq_false_iff_ne];omega
     have HSK:=Lib.hid hsk;have HK:=Lib.hid hk;have HB:=Lib.hid hcallb;have HSZ:=Lib.hid hsz;have HGM:=Lib.hid hgm;have HG:=Lib.hid hg;have HDD:=Lib.hid hd
     clear hsk hk hcallb hcalll hst hc0 hsz hd hgm hxl hg hstr hrb hc
     go_wp2_with fail
     refine HB.out.mono ?_
     rintro e w2 ⟨rfl,hm2⟩
     have hS2:=hS.past hm2 (by simp)
     have q2:w2.cell? ⟨b,0,none⟩=some (.string s'):=hS2.cell 0
     go_wp2_with fail
     refine bodyPost_ret (results_none rfl _ _ _) rfl ?_
     refine ⟨rfl,s',?_,hmr.trans hm2 (by simp)⟩
     have e:x.skip=St.at x m:=by
      unfold Lx.St.skip St.at
      rw [HK.out,HSK.out];rfl
     rw [e];exact hS2
end Go.Proofs.YtppigckioalhhaaGreatDoorR
