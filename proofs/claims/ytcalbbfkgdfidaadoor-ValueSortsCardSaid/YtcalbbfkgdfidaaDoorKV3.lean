/- THE TEXTS MERGED: VaFn Shelf VaHex. -/
import Derived.Test.YtcalbbfkgdfidaaDoorKV2
import Derived.Shelf.Strconv.Atoi
import Derived.Shelf.Strconv.Itoa0
import Derived.Shelf.Strconv.Itoa1
import Derived.Shelf.LaysM
import Derived.Shelf.Strconv.Itoa2
import Derived.Shelf.Strconv.Itoa3
import Derived.Shelf.Strconv.AtoiErrFast
import Derived.Shelf.Strconv.ParseIntEmpty
import Derived.Shelf.Strconv.AtoiFail
import Derived.Shelf.Strconv.Clone
import Derived.Shelf.Strconv.SyntaxError
import Derived.Shelf.LaysC
import Derived.Shelf.Strconv.ToError
import Derived.Shelf.Strconv.Lower
import Derived.Shelf.Strconv.ParseUint10
import Derived.Shelf.Strconv.ParseUint10Empty
import Derived.Shelf.Strconv.ParseUint10Any
import Derived.Shelf.Strconv.ParseInt10
import Derived.Shelf.Strconv.AtoiLong
import Derived.Shelf.Strconv.AtoiInnerAll
import Derived.Shelf.Strconv.RangeError
import Derived.Shelf.Strconv.ToErrorRange
import Derived.Shelf.Strconv.AtoiAll
import Derived.Shelf.Strconv.ErrVarAll
import Derived.Ground.MpProg
import Derived.Shelf.Pu.ParseUintPublic10
import Derived.Shelf.Pu.ErrVarParseUint
import Derived.Test.YtcalbbfkgdfidaaDoorProg
namespace Go.Proofs.YtcalbbfkgdfidaaDoor
open Go.RowKit
set_option linter.unusedVariables false
set_option linter.unusedSimpArgs false
set_option maxRecDepth 100000
def nrest (c:Int):Bool:=!restI c
theorem word1_any (c:Int) (w:World) :
  Calls Tryd.prog 58 #[.int .i32 c] w fun e w'=>e=.returned (.bool (nrest c))/\w=w':=by
 unfold nrest restI smallI capitalI digitI
 rcases Int.lt_or_le c 97 with h1 | h1
 ·rcases Int.lt_or_le c 65 with h2 | h2
  ·rcases Int.lt_or_le c 48 with h3 | h3
   ·go_enter Tryd.func58,Tryd.ntmps58
    go_wp2
    all_goals go_ret
    all_goals exact ⟨ret_bool (by rw [Bool.eq_iff_iff];simp <;> omega),rfl⟩
   ·go_enter Tryd.func58,Tryd.ntmps58
    go_wp2
    all_goals go_ret
    all_goals exact ⟨ret_bool (by rw [Bool.eq_iff_iff];simp <;> omega),rfl⟩
  ·rcases Int.lt_or_le 90 c with h3 | h3
   ·go_enter Tryd.func58,Tryd.ntmps58
    go_wp2
    all_goals go_ret
    all_goals exact ⟨ret_bool (by rw [Bool.eq_iff_iff];simp <;> omega),rfl⟩
   ·go_enter Tryd.func58,Tryd.ntmps58
    go_wp2
    all_goals go_ret
    all_goals exact ⟨ret_bool (by rw [Bool.eq_iff_iff];simp <;> omega),rfl⟩
 ·rcases Int.lt_or_le 122 c with h3 | h3
  ·go_enter Tryd.func58,Tryd.ntmps58
   go_wp2
   all_goals go_ret
   all_goals exact ⟨ret_bool (by rw [Bool.eq_iff_iff];simp <;> omega),rfl⟩
  ·go_enter Tryd.func58,Tryd.ntmps58
   go_wp2
   all_goals go_ret
   all_goals exact ⟨ret_bool (by rw [Bool.eq_iff_iff];simp <;> omega),rfl⟩
/-- where a text leaves a kind first -/
def idx (l:List Nat):Int:=if Lx.run Lx.goes l=l.length then -1 else (Lx.run Lx.goes l:Nat)
set_option maxHeartbeats 1000000 in
theorem indexFunc_any (s:ByteArray) (hs:s.size<=9223372036854775807) (w:World) :
  Calls Tryd.prog 81 #[.string s,.func (.func 58) #[] #[],.bool true] w fun e w'=>e=.returned (.int .i64 (idx (Cod.str s)))/\Mod [] w w':=by
 have he:=enter_of Tryd.func58 (by kernel_rfl) rfl
 have hrl:=Lx.run_le Lx.goes (Cod.str s)
 have hlen:=Cod.str_len s
 rw [hlen] at hrl
 go_enter Tryd.func81,Tryd.ntmps81
 go_wp2_with fail
 go_loopw [] (fun w'=>∃ pos:Nat,pos<=Lx.run Lx.goes (Cod.str s)/\w'=w.iter s pos) (fun w'=>s.size - w'.iterPos w.heap.size)
 case atStart=>exact ⟨0,Nat.zero_le _,rfl⟩
 case round =>
  obtain ⟨pos,hr,rfl⟩:=hrel
  by_cases hp:pos<s.size
  ·have hnx:∀ ty,(Instr.next (.pointer (some ⟨w.heap.size,0,none⟩)) true ty).run Tryd.prog (w.iter s pos)=_:=fun ty=>run_next_any w s pos ty hp
   cases hd:restI ((Utf8.decode s pos).1:Int)
   ·have hst:=alike_rest.stop s pos hp hr hd
    have hix:idx (Cod.str s)=(pos:Nat):=by unfold idx;rw [hst,if_neg (by rw [hlen];omega)]
    have hnr:nrest ((Utf8.decode s pos).1:Int)=true:=by unfold nrest;rw [hd];rfl
    have HX:=Lib.hid hix;have HN:=Lib.hid hnr
    clear hd hst hix hnr
    go_wp2_with fail
    refine (word1_any _ _).mono ?_
    rintro e w2 ⟨rfl,rfl⟩
    rw [HN.out]
    go_wp2_with fail
    go_ret
    exact ⟨by rw [HX.out];rfl,mod_iter _ _ _⟩
   ·have hst:=alike_rest.step s pos hp hr hd
    have hnr:nrest ((Utf8.decode s pos).1:Int)=false:=by unfold nrest;rw [hd];rfl
    have HN:=Lib.hid hnr
    clear hd hnr
    go_wp2_with fail
    refine (word1_any _ _).mono ?_
    rintro e w2 ⟨rfl,rfl⟩
    rw [HN.out]
    go_wp2_with fail
    go_roundw
    case rel=>exact ⟨_,hst.1,rfl⟩
    case measure =>
     simp
     omega
  ·have hnx:∀ ty,(Instr.next (.pointer (some ⟨w.heap.size,0,none⟩)) true ty).run Tryd.prog (w.iter s pos)=_:=fun ty=>run_next_end w s pos ty hp
   have hix:idx (Cod.str s)=-1:=by unfold idx;rw [if_pos (by rw [hlen];omega)]
   have HX:=Lib.hid hix
   clear hix
   go_wp2_with fail
   go_ret
   exact ⟨by rw [HX.out];rfl,mod_iter _ _ _⟩
theorem contains_any (s:ByteArray) (hs:s.size<=9223372036854775807) (w:World) :
  Calls Tryd.prog 57 #[.string s,.func (.func 58) #[] #[]] w fun e w'=>e=.returned (.bool (!decide (Lx.run Lx.goes (Cod.str s)=(Cod.str s).length)))/\Mod [] w w':=by
 have h1:=fun w=>indexFunc_any s hs w
 have hix:(idx (Cod.str s)=-1/\Lx.run Lx.goes (Cod.str s)=(Cod.str s).length)\/(0<=idx (Cod.str s)/\Lx.run Lx.goes (Cod.str s)≠(Cod.str s).length):=by
  unfold idx
  by_cases h:Lx.run Lx.goes (Cod.str s)=(Cod.str s).length
  ·exact .inl ⟨if_pos h,h⟩
  ·rw [if_neg h];exact .inr ⟨by omega,h⟩
 generalize idx (Cod.str s)=k at *
 rcases hix with ⟨rfl,hr⟩ | ⟨hk,hr⟩
 ·rw [decide_eq_true hr]
  have H1:=Lib.hid h1
  clear h1 hr
  go_enter Tryd.func57,Tryd.ntmps57
  go_wp2_with (go_at_call 73;go_enter Tryd.func73,Tryd.ntmps73;go_wp2_with fail;refine (H1.out _).mono ?_;rintro e w' ⟨rfl,hm⟩;go_wp2_with fail;go_ret)
  all_goals (go_ret;exact ⟨rfl,hm⟩)
 ·rw [decide_eq_false hr]
  have H1:=Lib.hid h1
  clear h1 hr
  go_enter Tryd.func57,Tryd.ntmps57
  go_wp2_with (go_at_call 73;go_enter Tryd.func73,Tryd.ntmps73;go_wp2_with fail;refine (H1.out _).mono ?_;rintro e w' ⟨rfl,hm⟩;go_wp2_with fail;go_ret)
  all_goals (go_ret;exact ⟨rfl,hm⟩)
/-- a word whose first byte lies between two -/
theorem word_any (s:ByteArray) (hs:s.size<=9223372036854775807) (lo hi:Nat) (p:Nat->Bool) (hp:∀ c,p c=(decide (lo<=c) && decide (c<=hi))) (w:World) :
  Calls Tryd.prog 42 #[.string s,.int .u8 (lo:Nat),.int .u8 (hi:Nat)] w fun e w'=>e=.returned (.bool (Va.wordB p (Cod.str s)))/\Mod [] w w':=by
 have h1:=fun w=>contains_any s hs w
 have hlen:=Cod.str_len s
 have hem:s.toList.isEmpty=decide (s.size=0):=toList_isEmpty s
 by_cases h0:s.size=0
 ·have e:Va.wordB p (Cod.str s)=false:=by
   unfold Va.wordB
   have:Cod.str s=[]:=List.eq_nil_of_length_eq_zero (by omega)
   rw [this];rfl
  have hem2:s.toList.isEmpty=true:=by rw [hem,decide_eq_true h0]
  have E:=Lib.hid e
  clear e h1 hlen hem h0
  go_enter Tryd.func42,Tryd.ntmps42
  go_wp2_with fail
  go_ret
  exact ⟨by rw [E.out];rfl,Mod.refl _ _⟩
 ·have hem2:s.toList.isEmpty=false:=by rw [hem,decide_eq_false h0]
  have hne:Cod.str s≠[]:=fun h=>by rw [h] at hlen;simp at hlen;omega
  by_cases h32:s.size<=32
  ·have h32I:¬ (32:Int)<(s.size:Int):=by omega
   have hhd:s[0].toNat=(Cod.str s).headD 0:=by
    have:=Lx.get_str s 0 (by omega)
    rw [<-this]
    cases Cod.str s <;> rfl
   have hh0:(0:Int)<(s.size:Int):=by omega
   have hpc:=hp ((Cod.str s).headD 0)
   have e:Va.wordB p (Cod.str s)=(p ((Cod.str s).headD 0) && decide (Lx.run Lx.goes (Cod.str s)=(Cod.str s).length)):=by
    unfold Va.wordB
    rw [decide_eq_true hne,decide_eq_true (by omega)]
    simp
   rw [e]
   clear e
   generalize hrun:decide (Lx.run Lx.goes (Cod.str s)=(Cod.str s).length)=rb at *
   generalize (Cod.str s).headD 0=c at *
   have H1:=Lib.hid h1
   clear h1 hem hne hrun
   by_cases hl:lo<=c
   ·have n1:¬ ((s[0].toNat:Int)<(lo:Int)):=by omega
    by_cases hh:c<=hi
    ·have n2:¬ ((hi:Int)<(s[0].toNat:Int)):=by omega
     have hpt:p c=true:=by rw [hpc,decide_eq_true hl,decide_eq_true hh];rfl
     rw [hpt]
     clear hpc hpt hl hh hhd
     go_enter Tryd.func42,Tryd.ntmps42
     go_wp2_with fail
     refine (H1.out _).mono ?_
     rintro e w1 ⟨rfl,hm⟩
     go_wp2_with fail
     go_ret
     exact ⟨by simp,hm⟩
    ·have n2:((hi:Int)<(s[0].toNat:Int)):=by omega
     have hpt:p c=false:=by rw [hpc,decide_eq_false hh];simp
     rw [hpt]
     clear hpc hpt hl hh hhd
     go_enter Tryd.func42,Tryd.ntmps42
     go_wp2_with fail
     go_ret
     exact ⟨rfl,Mod.refl _ _⟩
   ·have n1:((s[0].toNat:Int)<(lo:Int)):=by omega
    have hpt:p c=false:=by rw [hpc,decide_eq_false hl];simp
    rw [hpt]
    clear hpc hpt hl hhd
    go_enter Tryd.func42,Tryd.ntmps42
    go_wp2_with fail
    go_ret
    exact ⟨rfl,Mod.refl _ _⟩
  ·have h32I:(32:Int)<(s.size:Int):=by omega
   have e:Va.wordB p (Cod.str s)=false:=by
    unfold Va.wordB
    rw [decide_eq_false (p:=(Cod.str s).length<=32) (by omega)]
    simp
   have E:=Lib.hid e
   clear e h1 hlen hem h0 hne h32
   go_enter Tryd.func42,Tryd.ntmps42
   go_wp2_with fail
   go_ret
   exact ⟨by rw [E.out];rfl,Mod.refl _ _⟩
def resW8:List (List UInt8):=[[114,101,108,97,116,105,111,110],[110,111,116],[110,117,109],[115,121,109],[109,111,100],[99,111,117,110,116],[115,117,109],[109,105,110],[109,97,120]]
theorem res_str (s:ByteArray):Va.resW.contains (Cod.str s)=resW8.contains s.toList:=by
 have h1:Va.resW=resW8.map (fun l=>l.map UInt8.toNat):=rfl
 have h2:Cod.str s=s.toList.map UInt8.toNat:=by rw [ByteArray.toList_eq];rfl
 rw [h1,h2,Bool.eq_iff_iff,List.contains_iff_mem,List.contains_iff_mem,List.mem_map]
 constructor
 ·rintro ⟨a,ha,he⟩
  have:a=s.toList:=by
   have:=congrArg (fun l=>l.map UInt8.ofNat) he
   simp only [Va.map_back] at this
   exact this
  exact this ▸ ha
 ·exact fun h=>⟨_,h,rfl⟩
set_option maxHeartbeats 1000000 in
theorem Name_any (s:ByteArray) (hs:s.size<=9223372036854775807) (w:World) :
  Calls Tryd.prog 18 #[.string s] w fun e w'=>e=.returned (.bool (Va.name (Cod.str s)))/\Mod [] w w':=by
 have h1:=fun w=>word_any s hs 97 122 Lx.small (fun c=>rfl) w
 have hn:Va.name (Cod.str s)=(!resW8.contains s.toList && Va.wordB Lx.small (Cod.str s)):=by unfold Va.name;rw [res_str]
 rw [hn]
 generalize Va.wordB Lx.small (Cod.str s)=b at *
 have H1:=Lib.hid h1
 clear h1 hn
 go_enter Tryd.func18,Tryd.ntmps18
 go_wp2_with (go_at_call 42;refine (H1.out _).mono ?_;rintro e w' ⟨rfl,hm⟩)
 all_goals (first | (exfalso;simp_all;done) | (go_ret;exact ⟨by congr 1;simp_all [resW8],by first | assumption | exact Mod.refl _ _⟩))
/-- a value as it is handed over -/
def valV (v:Va.Val):Array Value:=#[.int .i64 v.k,.int .i64 v.n,.string (Lx.ofS v.s)]
def chk (v:Va.Val):Int:=if Va.may v then 0 else 20
theorem check_any (v:Va.Val) (w:World) :
  Calls Tryd.prog 12 #[.agg (valV v)] w fun e w'=>e=.returned (.int .i64 (chk v))/\Mod [] w w':=by
 obtain ⟨k,n,s⟩:=v
 unfold valV
 have hsz:=ofS_size s
 have hem:(Lx.ofS s).toList.isEmpty=decide (s=[]):=by
  rw [toList_isEmpty,hsz]
  cases s <;> simp
 by_cases k1:k=1
 ·subst k1
  by_cases hs:s=[]
  ·have e1:(Lx.ofS s).toList.isEmpty=true:=by rw [hem,decide_eq_true hs]
   by_cases h1:-2147483647<=n
   ·by_cases h2:n<=2147483647
    ·have e:chk ⟨1,n,s⟩=0:=by unfold chk Va.may;rw [if_pos];simp [hs,h1,h2]
     have E:=Lib.hid e
     clear hem hs hsz e
     go_enter Tryd.func12,Tryd.ntmps12
     go_wp2_with fail
     go_ret
     exact ⟨by rw [E.out];rfl,(Mod.refl [] w).alloc _⟩
    ·have e:chk ⟨1,n,s⟩=20:=by unfold chk Va.may;rw [if_neg];simp [hs,h1,h2]
     have E:=Lib.hid e
     clear hem hs hsz e
     go_enter Tryd.func12,Tryd.ntmps12
     go_wp2_with fail
     go_ret
     exact ⟨by rw [E.out];rfl,(Mod.refl [] w).alloc _⟩
   ·have e:chk ⟨1,n,s⟩=20:=by unfold chk Va.may;rw [if_neg];simp [hs,h1]
    have E:=Lib.hid e
    clear hem hs hsz e
    go_enter Tryd.func12,Tryd.ntmps12
    go_wp2_with fail
    go_ret
    exact ⟨by rw [E.out];rfl,(Mod.refl [] w).alloc _⟩
  ·have e1:(Lx.ofS s).toList.isEmpty=false:=by rw [hem,decide_eq_false hs]
   have e:chk ⟨1,n,s⟩=20:=by unfold chk Va.may;rw [if_neg];simp [hs]
   have E:=Lib.hid e
   clear hem hs hsz e
   go_enter Tryd.func12,Tryd.ntmps12
   go_wp2_with fail
   go_ret
   exact ⟨by rw [E.out];rfl,(Mod.refl [] w).alloc _⟩
 ·have k1B:(k == 1)=false:=by rw [beq_eq_false_iff_ne];exact k1
  by_cases k2:k=2
  ·subst k2
   by_cases hn:n=0
   ·subst hn
    by_cases hl:s.length<=64
    ·have e:chk ⟨2,0,s⟩=0:=by unfold chk Va.may;rw [if_pos];simp [hl]
     have e2:((Lx.ofS s).size:Int)<=64:=by omega
     have E:=Lib.hid e
     clear hem hsz e hl
     go_enter Tryd.func12,Tryd.ntmps12
     go_wp2_with fail
     go_ret
     exact ⟨by rw [E.out];rfl,(Mod.refl [] w).alloc _⟩
    ·have e:chk ⟨2,0,s⟩=20:=by unfold chk Va.may;rw [if_neg];simp;omega
     have e2:¬ ((Lx.ofS s).size:Int)<=64:=by omega
     have E:=Lib.hid e
     clear hem hsz e hl
     go_enter Tryd.func12,Tryd.ntmps12
     go_wp2_with fail
     go_ret
     exact ⟨by rw [E.out];rfl,(Mod.refl [] w).alloc _⟩
   ·have nB:(n == 0)=false:=by rw [beq_eq_false_iff_ne];exact hn
    have e:chk ⟨2,n,s⟩=20:=by unfold chk Va.may;rw [if_neg];simp [hn]
    have E:=Lib.hid e
    clear hem hsz e
    go_enter Tryd.func12,Tryd.ntmps12
    go_wp2_with fail
    go_ret
    exact ⟨by rw [E.out];rfl,(Mod.refl [] w).alloc _⟩
  ·have k2B:(k == 2)=false:=by rw [beq_eq_false_iff_ne];exact k2
   have e:chk ⟨k,n,s⟩=20:=by unfold chk Va.may;rw [if_neg];simp [k1,k2]
   have E:=Lib.hid e
   clear hem hsz e
   go_enter Tryd.func12,Tryd.ntmps12
   go_wp2_with fail
   go_ret
   exact ⟨by rw [E.out];rfl,(Mod.refl [] w).alloc _⟩
end Go.Proofs.YtcalbbfkgdfidaaDoor
namespace Go.Proofs
open Go.Shelf
def Tryd.laysM171_ren:Go.Shelf.Ren:=⟨fun | 171=>47 | 243=>65 | 246=>76 | 283=>84 | 284=>85 | 285=>86 | 286=>87 | 129=>89 | 317=>88 | 318=>90 | 319=>91 | 320=>92 | 337=>93 | 338=>94 | n=>n,fun | 3=>3 | 9=>9 | 2=>2 | 4=>4 | 171=>123 | 0=>0 | 53=>77 | 37=>51 | 5=>5 | 173=>126 | 212=>134 | 51=>135 | 20=>20 | 213=>136 | 46=>99 | 232=>140 | 233=>141 | n=>n,fun | 17=>2 | 18=>3 | 19=>4 | n=>n⟩
theorem Tryd.laysM171:Go.Proofs.LaysM.n171 Tryd.prog Tryd.laysM171_ren:={
 mixed:=by kernel_rfl
 f129:=Tryd.func89.trans (congrArg some (by kernel_rfl))
 f171:=Tryd.func47.trans (congrArg some (by kernel_rfl))
 f243:=Tryd.func65.trans (congrArg some (by kernel_rfl))
 f246:=Tryd.func76.trans (congrArg some (by kernel_rfl))
 f283:=Tryd.func84.trans (congrArg some (by kernel_rfl))
 f284:=Tryd.func85.trans (congrArg some (by kernel_rfl))
 f285:=Tryd.func86.trans (congrArg some (by kernel_rfl))
 f286:=Tryd.func87.trans (congrArg some (by kernel_rfl))
 f317:=Tryd.func88.trans (congrArg some (by kernel_rfl))
 f318:=Tryd.func90.trans (congrArg some (by kernel_rfl))
 f319:=Tryd.func91.trans (congrArg some (by kernel_rfl))
 f320:=Tryd.func92.trans (congrArg some (by kernel_rfl))
 f337:=Tryd.func93.trans (congrArg some (by kernel_rfl))
 f338:=Tryd.func94.trans (congrArg some (by kernel_rfl))
 t0:=Tryd.underlying0
 a0:=Tryd.isAgg0
 z0:=Tryd.sizeOf0
 v0:=Tryd.zeroValue0
 t2:=Tryd.underlying2
 a2:=Tryd.isAgg2
 z2:=Tryd.sizeOf2
 v2:=Tryd.zeroValue2
 t3:=Tryd.underlying3
 a3:=Tryd.isAgg3
 z3:=Tryd.sizeOf3
 v3:=Tryd.zeroValue3
 t4:=Tryd.underlying4
 a4:=Tryd.isAgg4
 z4:=Tryd.sizeOf4
 v4:=Tryd.zeroValue4
 t5:=Tryd.underlying5
 a5:=Tryd.isAgg5
 z5:=Tryd.sizeOf5
 v5:=Tryd.zeroValue5
 t9:=Tryd.underlying9
 a9:=Tryd.isAgg9
 z9:=Tryd.sizeOf9
 v9:=Tryd.zeroValue9
 t20:=Tryd.underlying20
 a20:=Tryd.isAgg20
 z20:=Tryd.sizeOf20
 v20:=Tryd.zeroValue20
 t37:=Tryd.underlying51
 a37:=Tryd.isAgg51
 z37:=Tryd.sizeOf51
 v37:=Tryd.zeroValue51
 t46:=Tryd.underlying99
 a46:=Tryd.isAgg99
 z46:=Tryd.sizeOf99
 v46:=Tryd.zeroValue99
 t51:=Tryd.underlying135
 a51:=Tryd.isAgg135
 z51:=Tryd.sizeOf135
 v51:=Tryd.zeroValue135
 t53:=Tryd.underlying77
 a53:=Tryd.isAgg77
 z53:=Tryd.sizeOf77
 v53:=Tryd.zeroValue77
 t171:=Tryd.underlying123
 a171:=Tryd.isAgg123
 z171:=Tryd.sizeOf123
 v171:=Tryd.zeroValue123
 t173:=Tryd.underlying126
 a173:=Tryd.isAgg126
 z173:=Tryd.sizeOf126
 v173:=Tryd.zeroValue126
 t212:=Tryd.underlying134
 a212:=Tryd.isAgg134
 z212:=Tryd.sizeOf134
 v212:=Tryd.zeroValue134
 t213:=Tryd.underlying136
 a213:=Tryd.isAgg136
 z213:=Tryd.sizeOf136
 t232:=Tryd.underlying140
 a232:=Tryd.isAgg140
 z232:=Tryd.sizeOf140
 v232:=Tryd.zeroValue140
 t233:=Tryd.underlying141
 a233:=Tryd.isAgg141
 z233:=Tryd.sizeOf141
 v233:=Tryd.zeroValue141
 g17:=by kernel_rfl
 g18:=by kernel_rfl
 g19:=by kernel_rfl
 i0:=by kernel_rfl
 i2:=by kernel_rfl
 i3:=by kernel_rfl
 i4:=by kernel_rfl
 i5:=by kernel_rfl
 i9:=by kernel_rfl
 i20:=by kernel_rfl
 i37:=by kernel_rfl
 i46:=by kernel_rfl
 i51:=by kernel_rfl
 i53:=by kernel_rfl
 i171:=by kernel_rfl
 i173:=by kernel_rfl
 i212:=by kernel_rfl
 i232:=by kernel_rfl
 i233:=by kernel_rfl
 m17:=by kernel_rfl
 m18:=by kernel_rfl
 m19:=by kernel_rfl }
open Go.RowKit Go.Sort Go.Lib in
/-- strconv.Itoa: "Itoa is equivalent to FormatInt(int64(i), 10).": i's DECIMAL NUMERAL ('Lib.itoa': a '-' where i is negative, then the digits), FOR EVERY int. The world behind the call: the world before it, new blocks behind the heap (the library's 'var a [24]byte'), draws. (LAID: no walk: one application.) -/
theorem Tryd.strconv_Itoa (n : Int) (h0 : -9223372036854775808 ≤ n) (h1 : n ≤ 9223372036854775807) (w : World) (htab : Lib.TabIs Tryd.prog w "internal/strconv.uint64pow10" .u64 Lib.pow10Tab) :
  Calls Tryd.prog 47 #[.int .i64 n] w fun e w'=>e=.returned (.string ⟨(Lib.itoa n).toArray⟩)/\∃ k os,w'=grow (w.drewN k) os:=Any.strconv_Itoa Tryd.laysM171 n h0 h1 w htab
def Tryd.laysC245_ren:Go.Shelf.Ren:=⟨fun | 245=>50 | 279=>67 | 280=>68 | 281=>69 | 282=>70 | 316=>77 | 171=>47 | 205=>78 | 243=>65 | 246=>76 | 283=>84 | 284=>85 | 285=>86 | 286=>87 | 129=>89 | 317=>88 | 318=>90 | 319=>91 | 320=>92 | 337=>93 | 338=>94 | n=>n,fun | 9=>9 | 3=>3 | 75=>68 | 167=>108 | 4=>4 | 168=>111 | 210=>119 | 37=>51 | 0=>0 | 127=>128 | 145=>131 | 143=>129 | 2=>2 | 171=>123 | 53=>77 | 5=>5 | 173=>126 | 212=>134 | 51=>135 | 20=>20 | 213=>136 | 46=>99 | 232=>140 | 233=>141 | 80=>142 | n=>n,fun | 15=>0 | 16=>1 | 17=>2 | 18=>3 | 19=>4 | n=>n⟩
theorem Tryd.laysC245:Go.Proofs.LaysC.n245 Tryd.prog Tryd.laysC245_ren:={
 mixed:=by kernel_rfl
 f129:=Tryd.func89.trans (congrArg some (by kernel_rfl))
 f171:=Tryd.func47.trans (congrArg some (by kernel_rfl))
 f205:=Tryd.func78.trans (congrArg some (by kernel_rfl))
 f243:=Tryd.func65.trans (congrArg some (by kernel_rfl))
 f245:=Tryd.func50.trans (congrArg some (by kernel_rfl))
 f246:=Tryd.func76.trans (congrArg some (by kernel_rfl))
 f279:=Tryd.func67.trans (congrArg some (by kernel_rfl))
 f280:=Tryd.func68.trans (congrArg some (by kernel_rfl))
 f281:=Tryd.func69.trans (congrArg some (by kernel_rfl))
 f282:=Tryd.func70.trans (congrArg some (by kernel_rfl))
 f283:=Tryd.func84.trans (congrArg some (by kernel_rfl))
 f284:=Tryd.func85.trans (congrArg some (by kernel_rfl))
 f285:=Tryd.func86.trans (congrArg some (by kernel_rfl))
 f286:=Tryd.func87.trans (congrArg some (by kernel_rfl))
 f316:=Tryd.func77.trans (congrArg some (by kernel_rfl))
 f317:=Tryd.func88.trans (congrArg some (by kernel_rfl))
 f318:=Tryd.func90.trans (congrArg some (by kernel_rfl))
 f319:=Tryd.func91.trans (congrArg some (by kernel_rfl))
 f320:=Tryd.func92.trans (congrArg some (by kernel_rfl))
 f337:=Tryd.func93.trans (congrArg some (by kernel_rfl))
 f338:=Tryd.func94.trans (congrArg some (by kernel_rfl))
 t0:=Tryd.underlying0
 a0:=Tryd.isAgg0
 z0:=Tryd.sizeOf0
 v0:=Tryd.zeroValue0
 t2:=Tryd.underlying2
 a2:=Tryd.isAgg2
 z2:=Tryd.sizeOf2
 v2:=Tryd.zeroValue2
 t3:=Tryd.underlying3
 a3:=Tryd.isAgg3
 z3:=Tryd.sizeOf3
 v3:=Tryd.zeroValue3
 t4:=Tryd.underlying4
 a4:=Tryd.isAgg4
 z4:=Tryd.sizeOf4
 v4:=Tryd.zeroValue4
 t5:=Tryd.underlying5
 a5:=Tryd.isAgg5
 z5:=Tryd.sizeOf5
 v5:=Tryd.zeroValue5
 t9:=Tryd.underlying9
 a9:=Tryd.isAgg9
 z9:=Tryd.sizeOf9
 v9:=Tryd.zeroValue9
 t20:=Tryd.underlying20
 a20:=Tryd.isAgg20
 z20:=Tryd.sizeOf20
 v20:=Tryd.zeroValue20
 t37:=Tryd.underlying51
 a37:=Tryd.isAgg51
 z37:=Tryd.sizeOf51
 v37:=Tryd.zeroValue51
 t46:=Tryd.underlying99
 a46:=Tryd.isAgg99
 z46:=Tryd.sizeOf99
 v46:=Tryd.zeroValue99
 t51:=Tryd.underlying135
 a51:=Tryd.isAgg135
 z51:=Tryd.sizeOf135
 v51:=Tryd.zeroValue135
 t53:=Tryd.underlying77
 a53:=Tryd.isAgg77
 z53:=Tryd.sizeOf77
 v53:=Tryd.zeroValue77
 t75:=Tryd.underlying68
 a75:=Tryd.isAgg68
 z75:=Tryd.sizeOf68
 v75:=Tryd.zeroValue68
 t127:=Tryd.underlying128
 a127:=Tryd.isAgg128
 z127:=Tryd.sizeOf128
 v127:=Tryd.zeroValue128
 t143:=Tryd.underlying129
 a143:=Tryd.isAgg129
 z143:=Tryd.sizeOf129
 v143:=Tryd.zeroValue129
 t145:=Tryd.underlying131
 a145:=Tryd.isAgg131
 z145:=Tryd.sizeOf131
 v145:=Tryd.zeroValue131
 t167:=Tryd.underlying108
 a167:=Tryd.isAgg108
 z167:=Tryd.sizeOf108
 v167:=Tryd.zeroValue108
 t168:=Tryd.underlying111
 a168:=Tryd.isAgg111
 z168:=Tryd.sizeOf111
 v168:=Tryd.zeroValue111
 t171:=Tryd.underlying123
 a171:=Tryd.isAgg123
 z171:=Tryd.sizeOf123
 v171:=Tryd.zeroValue123
 t173:=Tryd.underlying126
 a173:=Tryd.isAgg126
 z173:=Tryd.sizeOf126
 v173:=Tryd.zeroValue126
 t210:=Tryd.underlying119
 a210:=Tryd.isAgg119
 z210:=Tryd.sizeOf119
 v210:=Tryd.zeroValue119
 t212:=Tryd.underlying134
 a212:=Tryd.isAgg134
 z212:=Tryd.sizeOf134
 v212:=Tryd.zeroValue134
 t213:=Tryd.underlying136
 a213:=Tryd.isAgg136
 z213:=Tryd.sizeOf136
 t232:=Tryd.underlying140
 a232:=Tryd.isAgg140
 z232:=Tryd.sizeOf140
 v232:=Tryd.zeroValue140
 t233:=Tryd.underlying141
 a233:=Tryd.isAgg141
 z233:=Tryd.sizeOf141
 v233:=Tryd.zeroValue141
 g15:=by kernel_rfl
 g16:=by kernel_rfl
 g17:=by kernel_rfl
 g18:=by kernel_rfl
 g19:=by kernel_rfl
 t80:=Tryd.underlying142
 a80:=Tryd.isAgg142
 z80:=Tryd.sizeOf142
 v80:=Tryd.zeroValue142
 i0:=by kernel_rfl
 i2:=by kernel_rfl
 i3:=by kernel_rfl
 i4:=by kernel_rfl
 i5:=by kernel_rfl
 i9:=by kernel_rfl
 i20:=by kernel_rfl
 i37:=by kernel_rfl
 i46:=by kernel_rfl
 i51:=by kernel_rfl
 i53:=by kernel_rfl
 i75:=by kernel_rfl
 i80:=by kernel_rfl
 i127:=by kernel_rfl
 i143:=by kernel_rfl
 i145:=by kernel_rfl
 i167:=by kernel_rfl
 i168:=by kernel_rfl
 i171:=by kernel_rfl
 i173:=by kernel_rfl
 i210:=by kernel_rfl
 i212:=by kernel_rfl
 i232:=by kernel_rfl
 i233:=by kernel_rfl
 m15:=by kernel_rfl
 m16:=by kernel_rfl
 m17:=by kernel_rfl
 m18:=by kernel_rfl
 m19:=by kernel_rfl
 c0:=by kernel_rfl
 c2:=by kernel_rfl
 c3:=by kernel_rfl
 c4:=by kernel_rfl
 c5:=by kernel_rfl
 c9:=by kernel_rfl
 c20:=by kernel_rfl
 c37:=by kernel_rfl
 c46:=by kernel_rfl
 c51:=by kernel_rfl
 c53:=by kernel_rfl
 c75:=by kernel_rfl
 c80:=by kernel_rfl
 c127:=by kernel_rfl
 c143:=by kernel_rfl
 c145:=by kernel_rfl
 c167:=by kernel_rfl
 c168:=by kernel_rfl
 c171:=by kernel_rfl
 c173:=by kernel_rfl
 c210:=by kernel_rfl
 c212:=by kernel_rfl
 c213:=by kernel_rfl
 c232:=by kernel_rfl
 c233:=by kernel_rfl }
open Go.RowKit in
/-- strconv.toError, at the inner package's ErrSyntax: 'syntaxError(fn, s)' as an error: A *NumError IN A NEW BLOCK. (LAID: no walk: one application.) -/
theorem Tryd.strconv_toError_syntax (fn s:ByteArray) (base bits:Int) (ev:Value) (w:World) (hlim:s.size<=281474976710656) (hv:w.cell? ⟨0,0,none⟩=some ev) (hev:ev=.nilIface\/∃ te pe,ev=.iface te pe) :
  Calls Tryd.prog 50 #[.string fn,.string s,.int .i64 base,.int .i64 bits,.iface 108 (.int .i64 2)] w fun e w'=>∃ N,e=.returned (.iface 111 (.pointer (some ⟨N,0,none⟩)))/\w.heap.size<=N/\w'.heap[N]?=some (.cells #[.string fn,.string s,ev] 119 (0,0))/\Below w.heap.size w w':=Any.strconv_toError_syntax Tryd.laysC245 fn s base bits ev w hlim hv hev
def Tryd.lays321_ren:Go.Shelf.Ren:=⟨fun | 321=>79 | n=>n,fun | 5=>5 | n=>n,fun | n=>n⟩
theorem Tryd.lays321:Go.Proofs.Lays.n321 Tryd.prog Tryd.lays321_ren:={
 mixed:=by kernel_rfl
 f321:=Tryd.func79.trans (congrArg some (by kernel_rfl))
 t5:=Tryd.underlying5
 a5:=Tryd.isAgg5
 z5:=Tryd.sizeOf5
 v5:=Tryd.zeroValue5 }
open Go.RowKit in
/-- internal/strconv.lower: 'c | ('x' - 'X')': the bit 32 set. The world is as it was. (LAID: no walk: one application.) -/
theorem Tryd.internal_strconv_lower (c:Int) (w:World) :
  Calls Tryd.prog 79 #[.int .u8 c] w fun e w'=>e=.returned (.int .u8 (bits .or .u8 c 32))/\w'=w:=Any.internal_strconv_lower Tryd.lays321 c w
def Tryd.laysC172_ren:Go.Shelf.Ren:=⟨fun | 172=>33 | 244=>49 | 245=>50 | 247=>66 | 279=>67 | 280=>68 | 281=>69 | 282=>70 | 287=>71 | 316=>77 | 171=>47 | 205=>78 | 321=>79 | 322=>80 | 243=>65 | 246=>76 | 283=>84 | 284=>85 | 285=>86 | 286=>87 | 129=>89 | 317=>88 | 318=>90 | 319=>91 | 320=>92 | 337=>93 | 338=>94 | n=>n,fun | 9=>9 | 3=>3 | 75=>68 | 76=>69 | 4=>4 | 5=>5 | 167=>108 | 37=>51 | 0=>0 | 85=>109 | 2=>2 | 168=>111 | 53=>77 | 175=>90 | 46=>99 | 210=>119 | 127=>128 | 145=>131 | 143=>129 | 21=>21 | 171=>123 | 173=>126 | 212=>134 | 51=>135 | 20=>20 | 213=>136 | 232=>140 | 233=>141 | 80=>142 | n=>n,fun | 15=>0 | 16=>1 | 17=>2 | 18=>3 | 19=>4 | n=>n⟩
theorem Tryd.laysC172:Go.Proofs.LaysC.n172 Tryd.prog Tryd.laysC172_ren:={
 mixed:=by kernel_rfl
 f129:=Tryd.func89.trans (congrArg some (by kernel_rfl))
 f171:=Tryd.func47.trans (congrArg some (by kernel_rfl))
 f172:=Tryd.func33.trans (congrArg some (by kernel_rfl))
 f205:=Tryd.func78.trans (congrArg some (by kernel_rfl))
 f243:=Tryd.func65.trans (congrArg some (by kernel_rfl))
 f244:=Tryd.func49.trans (congrArg some (by kernel_rfl))
 f245:=Tryd.func50.trans (congrArg some (by kernel_rfl))
 f246:=Tryd.func76.trans (congrArg some (by kernel_rfl))
 f247:=Tryd.func66.trans (congrArg some (by kernel_rfl))
 f279:=Tryd.func67.trans (congrArg some (by kernel_rfl))
 f280:=Tryd.func68.trans (congrArg some (by kernel_rfl))
 f281:=Tryd.func69.trans (congrArg some (by kernel_rfl))
 f282:=Tryd.func70.trans (congrArg some (by kernel_rfl))
 f283:=Tryd.func84.trans (congrArg some (by kernel_rfl))
 f284:=Tryd.func85.trans (congrArg some (by kernel_rfl))
 f285:=Tryd.func86.trans (congrArg some (by kernel_rfl))
 f286:=Tryd.func87.trans (congrArg some (by kernel_rfl))
 f287:=Tryd.func71.trans (congrArg some (by kernel_rfl))
 f316:=Tryd.func77.trans (congrArg some (by kernel_rfl))
 f317:=Tryd.func88.trans (congrArg some (by kernel_rfl))
 f318:=Tryd.func90.trans (congrArg some (by kernel_rfl))
 f319:=Tryd.func91.trans (congrArg some (by kernel_rfl))
 f320:=Tryd.func92.trans (congrArg some (by kernel_rfl))
 f321:=Tryd.func79.trans (congrArg some (by kernel_rfl))
 f322:=Tryd.func80.trans (congrArg some (by kernel_rfl))
 f337:=Tryd.func93.trans (congrArg some (by kernel_rfl))
 f338:=Tryd.func94.trans (congrArg some (by kernel_rfl))
 t0:=Tryd.underlying0
 a0:=Tryd.isAgg0
 z0:=Tryd.sizeOf0
 v0:=Tryd.zeroValue0
 t2:=Tryd.underlying2
 a2:=Tryd.isAgg2
 z2:=Tryd.sizeOf2
 v2:=Tryd.zeroValue2
 t3:=Tryd.underlying3
 a3:=Tryd.isAgg3
 z3:=Tryd.sizeOf3
 v3:=Tryd.zeroValue3
 t4:=Tryd.underlying4
 a4:=Tryd.isAgg4
 z4:=Tryd.sizeOf4
 v4:=Tryd.zeroValue4
 t5:=Tryd.underlying5
 a5:=Tryd.isAgg5
 z5:=Tryd.sizeOf5
 v5:=Tryd.zeroValue5
 t9:=Tryd.underlying9
 a9:=Tryd.isAgg9
 z9:=Tryd.sizeOf9
 v9:=Tryd.zeroValue9
 t20:=Tryd.underlying20
 a20:=Tryd.isAgg20
 z20:=Tryd.sizeOf20
 v20:=Tryd.zeroValue20
 t21:=Tryd.underlying21
 a21:=Tryd.isAgg21
 z21:=Tryd.sizeOf21
 v21:=Tryd.zeroValue21
 t37:=Tryd.underlying51
 a37:=Tryd.isAgg51
 z37:=Tryd.sizeOf51
 v37:=Tryd.zeroValue51
 t46:=Tryd.underlying99
 a46:=Tryd.isAgg99
 z46:=Tryd.sizeOf99
 v46:=Tryd.zeroValue99
 t51:=Tryd.underlying135
 a51:=Tryd.isAgg135
 z51:=Tryd.sizeOf135
 v51:=Tryd.zeroValue135
 t53:=Tryd.underlying77
 a53:=Tryd.isAgg77
 z53:=Tryd.sizeOf77
 v53:=Tryd.zeroValue77
 t75:=Tryd.underlying68
 a75:=Tryd.isAgg68
 z75:=Tryd.sizeOf68
 v75:=Tryd.zeroValue68
 t76:=Tryd.underlying69
 a76:=Tryd.isAgg69
 z76:=Tryd.sizeOf69
 v76:=Tryd.zeroValue69
 t85:=Tryd.underlying109
 a85:=Tryd.isAgg109
 z85:=Tryd.sizeOf109
 v85:=Tryd.zeroValue109
 t127:=Tryd.underlying128
 a127:=Tryd.isAgg128
 z127:=Tryd.sizeOf128
 v127:=Tryd.zeroValue128
 t143:=Tryd.underlying129
 a143:=Tryd.isAgg129
 z143:=Tryd.sizeOf129
 v143:=Tryd.zeroValue129
 t145:=Tryd.underlying131
 a145:=Tryd.isAgg131
 z145:=Tryd.sizeOf131
 v145:=Tryd.zeroValue131
 t167:=Tryd.underlying108
 a167:=Tryd.isAgg108
 z167:=Tryd.sizeOf108
 v167:=Tryd.zeroValue108
 t168:=Tryd.underlying111
 a168:=Tryd.isAgg111
 z168:=Tryd.sizeOf111
 v168:=Tryd.zeroValue111
 t171:=Tryd.underlying123
 a171:=Tryd.isAgg123
 z171:=Tryd.sizeOf123
 v171:=Tryd.zeroValue123
 t173:=Tryd.underlying126
 a173:=Tryd.isAgg126
 z173:=Tryd.sizeOf126
 v173:=Tryd.zeroValue126
 t175:=Tryd.underlying90
 a175:=Tryd.isAgg90
 z175:=Tryd.sizeOf90
 v175:=Tryd.zeroValue90
 t210:=Tryd.underlying119
 a210:=Tryd.isAgg119
 z210:=Tryd.sizeOf119
 v210:=Tryd.zeroValue119
 t212:=Tryd.underlying134
 a212:=Tryd.isAgg134
 z212:=Tryd.sizeOf134
 v212:=Tryd.zeroValue134
 t213:=Tryd.underlying136
 a213:=Tryd.isAgg136
 z213:=Tryd.sizeOf136
 t232:=Tryd.underlying140
 a232:=Tryd.isAgg140
 z232:=Tryd.sizeOf140
 v232:=Tryd.zeroValue140
 t233:=Tryd.underlying141
 a233:=Tryd.isAgg141
 z233:=Tryd.sizeOf141
 v233:=Tryd.zeroValue141
 g15:=by kernel_rfl
 g16:=by kernel_rfl
 g17:=by kernel_rfl
 g18:=by kernel_rfl
 g19:=by kernel_rfl
 t80:=Tryd.underlying142
 a80:=Tryd.isAgg142
 z80:=Tryd.sizeOf142
 v80:=Tryd.zeroValue142
 i0:=by kernel_rfl
 i2:=by kernel_rfl
 i3:=by kernel_rfl
 i4:=by kernel_rfl
 i5:=by kernel_rfl
 i9:=by kernel_rfl
 i20:=by kernel_rfl
 i21:=by kernel_rfl
 i37:=by kernel_rfl
 i46:=by kernel_rfl
 i51:=by kernel_rfl
 i53:=by kernel_rfl
 i75:=by kernel_rfl
 i76:=by kernel_rfl
 i80:=by kernel_rfl
 i85:=by kernel_rfl
 i127:=by kernel_rfl
 i143:=by kernel_rfl
 i145:=by kernel_rfl
 i167:=by kernel_rfl
 i168:=by kernel_rfl
 i171:=by kernel_rfl
 i173:=by kernel_rfl
 i175:=by kernel_rfl
 i210:=by kernel_rfl
 i212:=by kernel_rfl
 i232:=by kernel_rfl
 i233:=by kernel_rfl
 m15:=by kernel_rfl
 m16:=by kernel_rfl
 m17:=by kernel_rfl
 m18:=by kernel_rfl
 m19:=by kernel_rfl
 c0:=by kernel_rfl
 c2:=by kernel_rfl
 c3:=by kernel_rfl
 c4:=by kernel_rfl
 c5:=by kernel_rfl
 c9:=by kernel_rfl
 c20:=by kernel_rfl
 c21:=by kernel_rfl
 c37:=by kernel_rfl
 c46:=by kernel_rfl
 c51:=by kernel_rfl
 c53:=by kernel_rfl
 c75:=by kernel_rfl
 c76:=by kernel_rfl
 c80:=by kernel_rfl
 c85:=by kernel_rfl
 c127:=by kernel_rfl
 c143:=by kernel_rfl
 c145:=by kernel_rfl
 c167:=by kernel_rfl
 c168:=by kernel_rfl
 c171:=by kernel_rfl
 c173:=by kernel_rfl
 c175:=by kernel_rfl
 c210:=by kernel_rfl
 c212:=by kernel_rfl
 c213:=by kernel_rfl
 c232:=by kernel_rfl
 c233:=by kernel_rfl }
open Go.RowKit in
/-- strconv.Atoi, AT EVERY STRING THAT SPELLS AN int ('Lib.atoiAll .. = .ok v'; of whatever length: leading zeros count): v, AND NO ERROR. The world: as it was, or with the one new row that '[]byte(..)' lays. (LAID: no walk: one application.) -/
theorem Tryd.strconv_Atoi_ok (s:ByteArray) (hmax:s.size<=9223372036854775806) (v:Int) (h:Lib.atoiAll s.data.toList=.ok v) (w:World) :
  Calls Tryd.prog 33 #[.string s] w fun e w'=>e=.returned (.tuple #[.int .i64 v,.nilIface])/\(w'=w\/∃ t,w'=Lib.bytesWorld w 5 t):=Any.strconv_Atoi_ok Tryd.laysC172 s hmax v h w
open Go.RowKit in
theorem Tryd.strconv_Atoi_range_var (s : ByteArray) (hlim : s.size ≤ 281474976710656) (h : Lib.atoiAll s.data.toList = .range) (tp : TypeId) (p : Value) (w : World) (hvar : w.var? Tryd.prog "strconv.ErrRange" = some #[.iface tp p]) :
  Calls Tryd.prog 33 #[.string s] w fun e w'=>∃ N,e=.returned (.tuple #[.int .i64 (Lib.atoiSat s.data.toList),.iface 111 (.pointer (some ⟨N,0,none⟩))])/\w.heap.size<=N/\w'.heap[N]?=some (.cells #[.string ⟨#[65,116,111,105]⟩,.string s,.iface tp p] 119 (0,0))/\Below w.heap.size w w':=Any.strconv_Atoi_range_var Tryd.laysC172 s hlim h tp p w hvar
end Go.Proofs
namespace Go.Proofs.YtcalbbfkgdfidaaDoor
open Go.RowKit
set_option linter.unusedVariables false
set_option linter.unusedSimpArgs false
set_option maxRecDepth 100000
def lowF (c:Nat):Nat:=c ||| 32
theorem lower_any (c:Nat) (hc:c<256) (w:World) :
  Calls Tryd.prog 79 #[.int .u8 (c:Int)] w fun e w'=>e=.returned (.int .u8 (lowF c:Nat))/\w=w':=by
 refine (Tryd.internal_strconv_lower (c:Int) w).mono ?_
 rintro e w' ⟨rfl,rfl⟩
 refine ⟨ret_int ?_,rfl⟩
 have:∀ c:Fin 256,bits BinOp.or IntKind.u8 (c.1:Int) 32=(lowF c.1:Nat):=by decide +kernel
 exact this ⟨c,hc⟩
theorem lowF_lt (c:Nat) (hc:c<256):lowF c<256:=by
 have:∀ c:Fin 256,lowF c.1<256:=by decide +kernel
 exact this ⟨c,hc⟩
theorem hex_cases (c:Nat) (hc:c<256):(48<=c/\c<=57/\Lx.hexv c=some (c - 48))\/(¬ (48<=c/\c<=57)/\97<=lowF c/\lowF c<=102/\Lx.hexv c=some (lowF c - 87)) \/
  (¬ (48<=c/\c<=57)/\lowF c<97/\Lx.hexv c=none)\/(¬ (48<=c/\c<=57)/\103<=lowF c/\Lx.hexv c=none):=by
 have:∀ c:Fin 256,(48<=c.1/\c.1<=57/\Lx.hexv c.1=some (c.1 - 48))\/(¬ (48<=c.1/\c.1<=57)/\97<=lowF c.1/\lowF c.1<=102/\Lx.hexv c.1=some (lowF c.1 - 87)) \/
  (¬ (48<=c.1/\c.1<=57)/\lowF c.1<97/\Lx.hexv c.1=none)\/(¬ (48<=c.1/\c.1<=57)/\103<=lowF c.1/\Lx.hexv c.1=none):=by decide +kernel
 exact this ⟨c,hc⟩
def hexL (l:List Nat):Option Nat:=l.foldl (fun o c=>match o,Lx.hexv c with | some n,some d=>some (16 * n+d) | _,_=>none) (some 0)
def hexR:Option Nat->Value
 | some n=>.tuple #[.int .u64 (n:Nat),.nilIface]
 | none=>.tuple #[.int .u64 0,.iface 108 (.int .i64 2)]
theorem hexL_step (l:List Nat) (c:Nat):hexL (l++[c])=match hexL l,Lx.hexv c with | some n,some d=>some (16 * n+d) | _,_=>none:=by
 unfold hexL;rw [List.foldl_append];rfl
theorem hexL_none (l:List Nat) (k:Nat) (h:∀ n,hexL (l.take k)≠some n):hexL l=none:=by
 have key:∀ (r a:List Nat),hexL a=none->hexL (a++r)=none:=by
  intro r
  induction r with
  | nil=>intro a h;simpa using h
  | cons c r ih =>
   intro a h
   have:=ih (a++[c]) (by rw [hexL_step,h])
   simpa using this
 have h0:hexL (l.take k)=none:=by
  cases hx:hexL (l.take k) with
  | none=>rfl
  | some n=>exact absurd hx (h n)
 have:=key (l.drop k) _ h0
 rwa [List.take_append_drop] at this
theorem getD_lt' {l:List Nat} (h:∀ c∈l,c<256) (i:Nat):l.getD i 0<256:=by
 rcases Nat.lt_or_ge i l.length with hi | hi
 ·rw [List.getD_eq_getElem?_getD,List.getElem?_eq_getElem hi]
  exact h _ (List.getElem_mem hi)
 ·rw [List.getD_eq_getElem?_getD,List.getElem?_eq_none hi]
  decide
theorem bytes_read (w:World) (s:ByteArray) (cap:Nat) (fr:Nat × Nat) (k:Nat) (hk:k<s.size) :
  ((w.alloc (.cells (bytesRow s cap) 5 fr)).drew).cell? ⟨w.heap.size,k,none⟩=some (.int .u8 ((Cod.str s).getD k 0:Nat)):=by
 show (w.alloc (Obj.cells _ _ _)).cell? _=_
 rw [World.cell?_alloc_mark,bytesRow_at _ _ k hk,Lx.get_str _ _ hk]
 rfl
set_option maxHeartbeats 2000000 in
theorem parse_inner (t:ByteArray) (ht:t.size=2) (w:World) :
  Calls Tryd.prog 71 #[.string t,.int .i64 16,.int .i64 8] w fun e w'=>e=.returned (hexR (hexL (Cod.str t)))/\Mod [] w w':=by
 have hcv:=fun w s=>run_bytes_of_string (P:=Tryd.prog) w 9 51 5 s Tryd.underlying9 Tryd.underlying51 Tryd.underlying5
 have hem:t.toList.isEmpty=false:=by rw [toList_isEmpty,ht];rfl
 have hsz:=Lib.hid ht
 have ht1:t.size<=2:=by omega
 have ht2:2<=t.size:=by omega
 clear ht
 go_enter Tryd.func71,Tryd.ntmps71
 go_wp2_with fail
 have hbyte:Hid (∀ k,k<t.size->((w.alloc (Obj.cells (bytesRow t (grownCap w t.size 0 5)) 5 ((bytesRow t (grownCap w t.size 0 5)).size,(bytesRow t (grownCap w t.size 0 5)).size+1))).drew).cell? ⟨w.heap.size,k,none⟩=some (.int .u8 ((Cod.str t).getD k 0:Nat))):=Hxq (fun k hk=>bytes_read w t _ _ k hk)
 have hm0:Mod [] w ((w.alloc (Obj.cells (bytesRow t (grownCap w t.size 0 5)) 5 ((bytesRow t (grownCap w t.size 0 5)).size,(bytesRow t (grownCap w t.size 0 5)).size+1))).drew):=((Mod.refl [] w).alloc _).drew
 have hlt:=Cod.str_lt t
 have hll:=Cod.str_len t
 generalize hw2:((w.alloc (Obj.cells (bytesRow t (grownCap w t.size 0 5)) 5 ((bytesRow t (grownCap w t.size 0 5)).size,(bytesRow t (grownCap w t.size 0 5)).size+1))).drew)=w2 at *
 generalize grownCap w t.size 0 5=cap at *
 have HLL:=Lib.hid hll
 clear hcv hw2 hll
 obtain ⟨C,hC,hCe⟩:∃ C:Int,1000<=C/\C=1152921504606846976:=⟨_,by decide,rfl⟩
 rw [<-hCe]
 clear hCe
 go_loopw [12,13,101] (fun u a i wr=>∃ (k n:Nat),u=.bool false/\k<=t.size/\i=.int .i64 (k:Int)/\a=.int .u64 (n:Int)/\hexL ((Cod.str t).take k)=some n/\n<16 ^ k/\wr=w2) (fun _ _ i _=>2 - (intOf i).toNat)
 case atStart=>exact ⟨0,0,rfl,Nat.zero_le _,rfl,rfl,rfl,by decide,rfl⟩
 case round =>
  obtain ⟨k,n,rfl,hk,rfl,rfl,hx,hn,rfl⟩:=hrel
  by_cases hlk:k<t.size
  ·have hn1:n<=15:=by
    have:16 ^ k<=16 ^ 1:=Nat.pow_le_pow_right (by decide) (by omega)
    omega
   have hb:=hbyte.out k hlk
   have hc:=getD_lt' hlt k
   have hsn:=take_snoc (Cod.str t) 0 k (by rw [HLL.out];omega)
   have hxs:hexL ((Cod.str t).take (k+1))=match Lx.hexv ((Cod.str t).getD k 0) with | some d=>some (16 * n+d) | none=>none:=by
    rw [hsn,hexL_step,hx];cases Lx.hexv ((Cod.str t).getD k 0) <;> rfl
   have hall:(∀ n,hexL ((Cod.str t).take (k+1))≠some n)->hexL (Cod.str t)=none:=fun h=>hexL_none (Cod.str t) (k+1) h
   generalize (Cod.str t).getD k 0=c at *
   have h95:((c:Int) == 95)=decide (c=95):=by rw [Bool.eq_iff_iff];simp;omega
   rcases hex_cases c hc with ⟨h1,h2,hv⟩ | ⟨h1,h2,h3,hv⟩ | ⟨h1,h2,hv⟩ | ⟨h1,h2,hv⟩
   ·rw [hv] at hxs
    have h95:((c:Int) == 95)=false:=by rw [beq_eq_false_iff_ne];omega
    have HX:=Lib.hid hxs;have HN:=Lib.hid hn
    clear hxs hsn hall hv hx hn hlt hem
    go_wp2_with fail
    go_roundw
    case rel =>
     refine ⟨k+1,16 * n+(c - 48),rfl,by omega,by go_num,?_,HX.out,?_,trivial⟩
     ·congr 1;omega
     ·have:=HN.out;rw [Nat.pow_succ];omega
    case measure=>simp [intOf];omega
   ·rw [hv] at hxs
    have h95:¬ c=95:=by
     intro h
     subst h
     revert hv;decide
    have hl:=lowF_lt c hc
    have hd1:¬ ((48:Int)<=(c:Int)/\(c:Int)<=57):=by omega
    have hL:Hid (∀ w,Calls Tryd.prog 79 #[.int .u8 (c:Int)] w fun e w'=>e=.returned (.int .u8 (lowF c:Nat))/\w=w'):=Hxq (lower_any c hc)
    generalize lowF c=u at *
    have HX:=Lib.hid hxs;have HN:=Lib.hid hn
    clear hxs hsn hall hv hx hn hlt hem
    have hcs:(c:Int)<48\/(57<(c:Int)/\48<=(c:Int)):=by omega
    clear hd1 h1
    rcases hcs with hd1 | ⟨hd1,hd2⟩
    all_goals
     go_wp2_with fail
     refine (hL.out _).mono ?_
     rintro e w3 ⟨rfl,rfl⟩
     go_wp2_with fail
     refine (hL.out _).mono ?_
     rintro e w3 ⟨rfl,rfl⟩
     go_wp2_with fail
     refine (hL.out _).mono ?_
     rintro e w3 ⟨rfl,rfl⟩
     go_wp2_with fail
     go_roundw
     case rel =>
      refine ⟨k+1,16 * n+(u - 87),rfl,by omega,by go_num,?_,HX.out,?_,trivial⟩
      ·congr 1;omega
      ·have:=HN.out;rw [Nat.pow_succ];omega
     case measure=>simp [intOf];omega
   ·rw [hv] at hxs
    have hR:=Hxq (hall (by rw [hxs];simp))
    have hl:=lowF_lt c hc
    have hd1:¬ ((48:Int)<=(c:Int)/\(c:Int)<=57):=by omega
    have hL:Hid (∀ w,Calls Tryd.prog 79 #[.int .u8 (c:Int)] w fun e w'=>e=.returned (.int .u8 (lowF c:Nat))/\w=w'):=Hxq (lower_any c hc)
    generalize lowF c=u at *
    clear hxs hsn hall hv hx hn hlt hem
    have hcs:(c:Int)<48\/(57<(c:Int)/\48<=(c:Int)):=by omega
    clear hd1 h1
    have hb':=Lib.hid hb
    by_cases h95:c=95
    ·subst h95
     clear hcs
     go_wp2_with fail
     refine (hL.out _).mono ?_
     rintro e w3 ⟨rfl,rfl⟩
     go_wp2_with fail
     go_ret2
     exact ⟨by rw [hR.out];rfl,hm0⟩
    ·rcases hcs with hd1 | ⟨hd1,hd2⟩
     all_goals
      go_wp2_with fail
      refine (hL.out _).mono ?_
      rintro e w3 ⟨rfl,rfl⟩
      go_wp2_with fail
      go_ret2
      exact ⟨by rw [hR.out];rfl,hm0⟩
   ·rw [hv] at hxs
    have hR:=Hxq (hall (by rw [hxs];simp))
    have hl:=lowF_lt c hc
    have hd1:¬ ((48:Int)<=(c:Int)/\(c:Int)<=57):=by omega
    have hL:Hid (∀ w,Calls Tryd.prog 79 #[.int .u8 (c:Int)] w fun e w'=>e=.returned (.int .u8 (lowF c:Nat))/\w=w'):=Hxq (lower_any c hc)
    generalize lowF c=u at *
    clear hxs hsn hall hv hx hn hlt hem
    have hcs:(c:Int)<48\/(57<(c:Int)/\48<=(c:Int)):=by omega
    clear hd1 h1
    have hb':=Lib.hid hb
    rcases Nat.lt_or_ge 122 u with hu | hu
    ·by_cases h95:c=95
     ·subst h95
      clear hcs
      go_wp2_with fail
      refine (hL.out _).mono ?_
      rintro e w3 ⟨rfl,rfl⟩
      go_wp2_with fail
      refine (hL.out _).mono ?_
      rintro e w3 ⟨rfl,rfl⟩
      go_wp2_with fail
      go_ret2
      exact ⟨by rw [hR.out];rfl,hm0⟩
     ·rcases hcs with hd1 | ⟨hd1,hd2⟩
      all_goals
       go_wp2_with fail
       refine (hL.out _).mono ?_
       rintro e w3 ⟨rfl,rfl⟩
       go_wp2_with fail
       refine (hL.out _).mono ?_
       rintro e w3 ⟨rfl,rfl⟩
       go_wp2_with fail
       go_ret2
       exact ⟨by rw [hR.out];rfl,hm0⟩
    ·by_cases h95:c=95
     ·subst h95
      clear hcs
      go_wp2_with fail
      refine (hL.out _).mono ?_
      rintro e w3 ⟨rfl,rfl⟩
      go_wp2_with fail
      refine (hL.out _).mono ?_
      rintro e w3 ⟨rfl,rfl⟩
      go_wp2_with fail
      refine (hL.out _).mono ?_
      rintro e w3 ⟨rfl,rfl⟩
      go_wp2_with fail
      go_ret2
      exact ⟨by rw [hR.out];rfl,hm0⟩
     ·rcases hcs with hd1 | ⟨hd1,hd2⟩
      all_goals
       go_wp2_with fail
       refine (hL.out _).mono ?_
       rintro e w3 ⟨rfl,rfl⟩
       go_wp2_with fail
       refine (hL.out _).mono ?_
       rintro e w3 ⟨rfl,rfl⟩
       go_wp2_with fail
       refine (hL.out _).mono ?_
       rintro e w3 ⟨rfl,rfl⟩
       go_wp2_with fail
       go_ret2
       exact ⟨by rw [hR.out];rfl,hm0⟩
  ·have e:(Cod.str t).take k=Cod.str t:=by rw [List.take_of_length_le];rw [HLL.out];omega
   rw [e] at hx
   have HX:=Lib.hid hx
   clear hx hn hlt hem
   go_wp2_with fail
   go_ret2
   exact ⟨by rw [HX.out];rfl,hm0⟩
end Go.Proofs.YtcalbbfkgdfidaaDoor
