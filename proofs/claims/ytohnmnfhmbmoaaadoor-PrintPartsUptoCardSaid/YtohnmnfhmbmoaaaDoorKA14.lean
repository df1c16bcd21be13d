/- THE TEXTS MERGED: VaRef2 VaRefT1 VaRefT4 SyProg SyShown P5Fn P5Plain. -/
import Derived.Test.YtohnmnfhmbmoaaaDoorKA13
import Derived.Recover
import Derived.Defers
import Derived.Laws.Pointers
import Derived.Laws.EntriesVeiled
namespace Go.Proofs.YtohnmnfhmbmoaaaDoor
open Go.RowKit
set_option linter.unusedVariables false
set_option linter.unusedSimpArgs false
set_option maxRecDepth 100000
theorem name_ref (l:List Nat):Va.name l=(rword l && (Lx.small (l.headD 0) && !Va.resW.contains l)):=by
 unfold Va.name
 rw [wordB_eq Lx.small (fun c h=>by unfold Lx.goes;rw [h];rfl)]
 cases rword l <;> cases Lx.small (l.headD 0) <;> cases Va.resW.contains l <;> rfl
theorem var_ref (l:List Nat):Va.variable_ l=(rword l && Lx.capital (l.headD 0)):=by
 unfold Va.variable_
 rw [wordB_eq Lx.capital (fun c h=>by unfold Lx.goes;rw [h];cases Lx.small c <;> rfl)]
theorem rword_pos {s:ByteArray} (h:rword (Cod.str s)=true):0<s.size:=by
 unfold rword at h
 rw [Cod.str_len] at h
 simp only [Bool.and_eq_true,decide_eq_true_eq] at h
 omega
theorem vName_any (s:ByteArray) (hs:s.size<=9223372036854775806) (w:World) :
  Calls Tryd.prog 50 #[.string s] w fun e w'=>e=.returned (.bool (Va.name (Cod.str s)))/\w'=w:=by
 have h1:=fun w=>vword_any s hs w
 have h3:=fun w=>vReserved_any s w
 rw [name_ref,res_str]
 cases hw:rword (Cod.str s)
 ·rw [hw] at h1
  have H1:=Lib.hid h1
  clear h1 h3 hw
  rw [Bool.false_and]
  go_enter Tryd.func50,Tryd.ntmps50
  go_wp2_with fail
  refine (H1.out _).mono ?_
  rintro e w1 ⟨rfl,rfl⟩
  go_wp2_with fail
  go_ret
  exact ⟨rfl,rfl⟩
 ·have hp:=rword_pos hw
  obtain ⟨c,t,hct,h0,hc⟩:=str_cons hp
  rw [hw] at h1
  rw [hct,List.headD_cons,Bool.true_and]
  have H1:=Lib.hid h1;have H3:=Lib.hid h3
  have H2:=Hxq (fun w=>vsmall_any c _ rfl w)
  have hpI:(0:Int)<(s.size:Int):=by omega
  clear h1 h3 hct hw
  generalize Lx.small c=b at *
  generalize resW8.contains s.toList=r at *
  cases b
  ·rw [Bool.false_and]
   go_enter Tryd.func50,Tryd.ntmps50
   go_wp2_with fail
   refine (H1.out _).mono ?_
   rintro e w1 ⟨rfl,rfl⟩
   go_wp2_with fail
   refine (H2.out _).mono ?_
   rintro e w1 ⟨rfl,rfl⟩
   go_wp2_with fail
   go_ret
   exact ⟨rfl,rfl⟩
  ·rw [Bool.true_and]
   go_enter Tryd.func50,Tryd.ntmps50
   go_wp2_with fail
   refine (H1.out _).mono ?_
   rintro e w1 ⟨rfl,rfl⟩
   go_wp2_with fail
   refine (H2.out _).mono ?_
   rintro e w1 ⟨rfl,rfl⟩
   go_wp2_with fail
   refine (H3.out _).mono ?_
   rintro e w1 ⟨rfl,rfl⟩
   go_wp2_with fail
   go_ret
   exact ⟨rfl,rfl⟩
theorem vVariable_any (s:ByteArray) (hs:s.size<=9223372036854775806) (w:World) :
  Calls Tryd.prog 62 #[.string s] w fun e w'=>e=.returned (.bool (Va.variable_ (Cod.str s)))/\w'=w:=by
 have h1:=fun w=>vword_any s hs w
 rw [var_ref]
 cases hw:rword (Cod.str s)
 ·rw [hw] at h1
  have H1:=Lib.hid h1
  clear h1 hw
  rw [Bool.false_and]
  go_enter Tryd.func62,Tryd.ntmps62
  go_wp2_with fail
  refine (H1.out _).mono ?_
  rintro e w1 ⟨rfl,rfl⟩
  go_wp2_with fail
  go_ret
  exact ⟨rfl,rfl⟩
 ·have hp:=rword_pos hw
  obtain ⟨c,t,hct,h0,hc⟩:=str_cons hp
  rw [hw] at h1
  rw [hct,List.headD_cons,Bool.true_and]
  have H1:=Lib.hid h1
  have H2:=Hxq (fun w=>vcapital_any c _ rfl w)
  have hpI:(0:Int)<(s.size:Int):=by omega
  clear h1 hct hw
  generalize Lx.capital c=b at *
  go_enter Tryd.func62,Tryd.ntmps62
  go_wp2_with fail
  refine (H1.out _).mono ?_
  rintro e w1 ⟨rfl,rfl⟩
  go_wp2_with fail
  refine (H2.out _).mono ?_
  rintro e w1 ⟨rfl,rfl⟩
  go_wp2_with fail
  go_ret
  exact ⟨rfl,rfl⟩
theorem vcheck_any (v:Va.Val) (w:World) :
  Calls Tryd.prog 75 #[.agg (valV v)] w fun e w'=>e=.returned (.int .i64 (chk v))/\Mod [] w w':=by
 obtain ⟨k,n,s⟩:=v
 unfold valV
 have hsz:=ofS_size s
 have hem:(Lx.ofS s).toList.isEmpty=decide (s=[]):=by
  rw [toList_isEmpty,hsz]
  cases s <;> simp
 by_cases k1:k=1
 ·subst k1
  by_cases h1:-2147483647<=n
  ·by_cases h2:n<=2147483647
   ·by_cases hs:s=[]
    ·have e1:(Lx.ofS s).toList.isEmpty=true:=by rw [hem,decide_eq_true hs]
     have e:chk ⟨1,n,s⟩=0:=by unfold chk Va.may;rw [if_pos];simp [hs,h1,h2]
     have E:=Lib.hid e
     clear hem hsz e hs
     go_enter Tryd.func75,Tryd.ntmps75
     go_wp2_with fail
     go_ret
     exact ⟨by rw [E.out];rfl,(Mod.refl [] w).alloc _⟩
    ·have e1:(Lx.ofS s).toList.isEmpty=false:=by rw [hem,decide_eq_false hs]
     have e:chk ⟨1,n,s⟩=20:=by unfold chk Va.may;rw [if_neg];simp [hs]
     have E:=Lib.hid e
     clear hem hsz e hs
     go_enter Tryd.func75,Tryd.ntmps75
     go_wp2_with fail
     go_ret
     exact ⟨by rw [E.out];rfl,(Mod.refl [] w).alloc _⟩
   ·have h2N:=h2
    have e:chk ⟨1,n,s⟩=20:=by unfold chk Va.may;rw [if_neg];simp [h2]
    have E:=Lib.hid e
    clear hem hsz e
    go_enter Tryd.func75,Tryd.ntmps75
    go_wp2_with fail
    go_ret
    exact ⟨by rw [E.out];rfl,(Mod.refl [] w).alloc _⟩
  ·have h1N:=h1
   have e:chk ⟨1,n,s⟩=20:=by unfold chk Va.may;rw [if_neg];simp [h1]
   have E:=Lib.hid e
   clear hem hsz e
   go_enter Tryd.func75,Tryd.ntmps75
   go_wp2_with fail
   go_ret
   exact ⟨by rw [E.out];rfl,(Mod.refl [] w).alloc _⟩
 ·have k1B:(k == 1)=false:=by rw [beq_eq_false_iff_ne];exact k1
  by_cases k2:k=2
  ·subst k2
   by_cases hn:n=0
   ·subst hn
    by_cases hl:s.length<=64
    ·have e2:((Lx.ofS s).size:Int)<=64:=by omega
     have e:chk ⟨2,0,s⟩=0:=by unfold chk Va.may;rw [if_pos];simp [hl]
     have E:=Lib.hid e
     clear hem hsz e
     go_enter Tryd.func75,Tryd.ntmps75
     go_wp2_with fail
     go_ret
     exact ⟨by rw [E.out];rfl,(Mod.refl [] w).alloc _⟩
    ·have e2:¬ ((Lx.ofS s).size:Int)<=64:=by omega
     have e:chk ⟨2,0,s⟩=20:=by unfold chk Va.may;rw [if_neg];simp;omega
     have E:=Lib.hid e
     clear hem hsz e
     go_enter Tryd.func75,Tryd.ntmps75
     go_wp2_with fail
     go_ret
     exact ⟨by rw [E.out];rfl,(Mod.refl [] w).alloc _⟩
   ·have nB:(n == 0)=false:=by rw [beq_eq_false_iff_ne];exact hn
    have e:chk ⟨2,n,s⟩=20:=by unfold chk Va.may;rw [if_neg];simp [hn]
    have E:=Lib.hid e
    clear hem hsz e
    go_enter Tryd.func75,Tryd.ntmps75
    go_wp2_with fail
    go_ret
    exact ⟨by rw [E.out];rfl,(Mod.refl [] w).alloc _⟩
  ·have k2B:(k == 2)=false:=by rw [beq_eq_false_iff_ne];exact k2
   have e:chk ⟨k,n,s⟩=20:=by unfold chk Va.may;rw [if_neg];simp [k1,k2]
   have E:=Lib.hid e
   clear hem hsz e
   go_enter Tryd.func75,Tryd.ntmps75
   go_wp2_with fail
   go_ret
   exact ⟨by rw [E.out];rfl,(Mod.refl [] w).alloc _⟩
theorem str_app (a b:ByteArray):Cod.str (a++b)=Cod.str a++Cod.str b:=by
 unfold Cod.str
 rw [ByteArray.data_append]
 simp
theorem ofS_of {s:ByteArray} {l:List Nat} (h:Cod.str s=l):s=Lx.ofS l:=by rw [<-h,Lx.ofS_str]
theorem hex_any (n:Nat) (hn:n<16) (w:World) :
  Calls Tryd.prog 82 #[.int .u8 (n:Int)] w fun e w'=>∃ o,e=.returned (.string o)/\Cod.str o=[Va.hexd n]/\w'=w:=by
 have h0:(0:Int)<=(n:Int):=by omega
 have h1:(n:Int)<=(n:Int)+1:=by omega
 have h2:(n:Int)+1<=16:=by omega
 have h3:IntKind.u8.wrap ((n:Int)+1)=(n:Int)+1:=by simp [IntKind.wrap,IntKind.signed,IntKind.bits];omega
 have h4:((n:Int)+1) % 256=(n:Int)+1:=by omega
 go_enter Tryd.func82,Tryd.ntmps82
 go_wp2_with fail
 go_ret
 refine ⟨_,rfl,?_,rfl⟩
 have:∀ m:Fin 16,Cod.str (({ data:=#[48,49,50,51,52,53,54,55,56,57,65,66,67,68,69,70] }:ByteArray).extract m.val (m.val+1))=[Va.hexd m.val]:=by decide
 exact this ⟨n,hn⟩
set_option maxHeartbeats 4000000 in
theorem vQuoted_any (s:ByteArray) (hs:s.size<=1000) (w:World) :
  Calls Tryd.prog 77 #[.string s] w fun e w'=>e=.returned (.string (Lx.ofS (Va.quoted (Cod.str s))))/\w'=w:=by
 have hlb:=Cod.str_lt s
 have hll:=Cod.str_len s
 have HLB:=Lib.hid hlb;have HLL:=Lib.hid hll
 clear hlb hll
 go_enter Tryd.func77,Tryd.ntmps77
 go_wp2_with fail
 go_loopw [3,4] (fun vv iv wr=>∃ (o:ByteArray) (k:Nat),k<=s.size/\vv=.string o/\iv=.int .i64 (k:Nat)/\Cod.str o=34 :: ((Cod.str s).take k).flatMap Va.qb/\wr=w) (fun _ iv _=>s.size - (intOf iv).toNat)
 case atStart=>exact ⟨_,0,Nat.zero_le _,rfl,rfl,by rfl,rfl⟩
 case round =>
  obtain ⟨o,k,hk,rfl,rfl,ho,rfl⟩:=hrel
  have hos:o.size<=5000:=by
   have:=congrArg List.length ho
   have h2:=flat_len ((Cod.str s).take k)
   rw [Cod.str_len,List.length_cons] at this
   rw [List.length_take] at h2
   omega
  by_cases hlt:k<s.size
  ·have hkI:(k:Int)<(s.size:Int):=by omega
   have hk0:(0:Int)<=(k:Int):=by omega
   have hlk:k<(Cod.str s).length:=by rw [HLL.out];exact hlt
   have hby:s[k].toNat=(Cod.str s)[k]:=by
    have:=Lx.get_str s k hlt
    rw [<-this,List.getD_eq_getElem?_getD,List.getElem?_eq_getElem hlk];rfl
   have hc:(Cod.str s)[k]<256:=HLB.out _ (List.getElem_mem hlk)
   have hst:∀ (o2 l2:_),Cod.str o2=Cod.str o++l2->Va.qb (Cod.str s)[k]=l2->Cod.str o2=34 :: ((Cod.str s).take (k+1)).flatMap Va.qb:=fun o2 l2 h1 h2=>by
    rw [h1,ho,List.take_succ_eq_append_getElem hlk,List.flatMap_append]
    simp [h2]
   have hone:((Cod.str s).drop k).take 1=[(Cod.str s)[k]]:=by rw [List.drop_eq_getElem_cons hlk];rfl
   generalize (Cod.str s)[k]=c at *
   have HST:=Lib.hid hst
   clear hst ho
   by_cases c34:c=34
   ·subst c34
    go_wp2_with fail
    go_roundw
    case rel=>exact ⟨_,k+1,by omega,rfl,by go_num,HST.out _ [92,34] (str_app _ _) (by rfl),by trivial⟩
    case measure=>simp [intOf];omega
   ·have e1:((c:Int) == 34)=false:=by rw [beq_eq_false_iff_ne];omega
    by_cases c92:c=92
    ·subst c92
     go_wp2_with fail
     go_roundw
     case rel=>exact ⟨_,k+1,by omega,rfl,by go_num,HST.out _ [92,92] (str_app _ _) (by rfl),by trivial⟩
     case measure=>simp [intOf];omega
    ·have e2:((c:Int) == 92)=false:=by rw [beq_eq_false_iff_ne];omega
     by_cases c10:c=10
     ·subst c10
      go_wp2_with fail
      go_roundw
      case rel=>exact ⟨_,k+1,by omega,rfl,by go_num,HST.out _ [92,110] (str_app _ _) (by rfl),by trivial⟩
      case measure=>simp [intOf];omega
     ·have e3:((c:Int) == 10)=false:=by rw [beq_eq_false_iff_ne];omega
      by_cases c32:c<32
      ·have h5:(c:Int)<32:=by omega
       obtain ⟨a,ha⟩:∃ a:Nat,a=c / 16:=⟨_,rfl⟩
       obtain ⟨b,hb⟩:∃ b:Nat,b=c % 16:=⟨_,rfl⟩
       have hA:(c:Int) / 16=(a:Int):=by omega
       have hB:(c:Int) % 16=(b:Int):=by omega
       have hand:bits BinOp.and IntKind.u8 (c:Int) 15=(b:Int):=by rw [and15 c hc,hb]
       have HX:=Hxq (fun w=>hex_any a (by omega) w)
       have HY:=Hxq (fun w=>hex_any b (by omega) w)
       have HQ:Hid (Va.qb c=[92,120,Va.hexd a,Va.hexd b]):=Hxq (by unfold Va.qb;rw [if_neg (by omega),if_neg c10,if_pos (by omega),ha,hb])
       clear ha hb
       go_wp2_with fail
       refine (HX.out _).mono ?_
       rintro e w1 ⟨x,rfl,hx,rfl⟩
       have hxs:x.size=1:=by rw [<-Cod.str_len,hx];rfl
       have HXS:=Lib.hid hx
       clear hx
       go_wp2_with fail
       refine (HY.out _).mono ?_
       rintro e w1 ⟨y,rfl,hy,rfl⟩
       have hys:y.size=1:=by rw [<-Cod.str_len,hy];rfl
       have HYS:=Lib.hid hy
       clear hy
       go_wp2_with fail
       go_roundw
       case rel=>exact ⟨_,k+1,by omega,rfl,by go_num,HST.out _ [92,120,Va.hexd a,Va.hexd b] (by rw [str_app,str_app,str_app,HXS.out,HYS.out];simp;rfl) HQ.out,by trivial⟩
       case measure=>simp [intOf];omega
      ·by_cases c127:127<=c
       ·have h5:¬ (c:Int)<32:=by omega
        have h6:(c:Int) ≥ 127:=by omega
        obtain ⟨a,ha⟩:∃ a:Nat,a=c / 16:=⟨_,rfl⟩
        obtain ⟨b,hb⟩:∃ b:Nat,b=c % 16:=⟨_,rfl⟩
        have hA:(c:Int) / 16=(a:Int):=by omega
        have hB:(c:Int) % 16=(b:Int):=by omega
        have hand:bits BinOp.and IntKind.u8 (c:Int) 15=(b:Int):=by rw [and15 c hc,hb]
        have HX:=Hxq (fun w=>hex_any a (by omega) w)
        have HY:=Hxq (fun w=>hex_any b (by omega) w)
        have HQ:Hid (Va.qb c=[92,120,Va.hexd a,Va.hexd b]):=Hxq (by unfold Va.qb;rw [if_neg (by omega),if_neg c10,if_pos (by omega),ha,hb])
        clear ha hb
        go_wp2_with fail
        refine (HX.out _).mono ?_
        rintro e w1 ⟨x,rfl,hx,rfl⟩
        have hxs:x.size=1:=by rw [<-Cod.str_len,hx];rfl
        have HXS:=Lib.hid hx
        clear hx
        go_wp2_with fail
        refine (HY.out _).mono ?_
        rintro e w1 ⟨y,rfl,hy,rfl⟩
        have hys:y.size=1:=by rw [<-Cod.str_len,hy];rfl
        have HYS:=Lib.hid hy
        clear hy
        go_wp2_with fail
        go_roundw
        case rel=>exact ⟨_,k+1,by omega,rfl,by go_num,HST.out _ [92,120,Va.hexd a,Va.hexd b] (by rw [str_app,str_app,str_app,HXS.out,HYS.out];simp;rfl) HQ.out,by trivial⟩
        case measure=>simp [intOf];omega
       ·have h5:¬ (c:Int)<32:=by omega
        have h6:¬ (c:Int) ≥ 127:=by omega
        have HQ:Hid (Va.qb c=[c]):=Hxq (by unfold Va.qb;rw [if_neg (by omega),if_neg c10,if_neg (by omega)])
        have hk1:(k:Int)+1<=(s.size:Int):=by omega
        have hk2:(k:Int)<=(k:Int)+1:=by omega
        have hsl:Hid (Cod.str (s.extract k (k+1))=[c]):=Hxq (by rw [Lx.str_extract,show k+1 - k=1 by omega];exact hone)
        clear c32 c127
        go_wp2_with fail
        go_roundw
        case rel=>exact ⟨_,k+1,by omega,rfl,by go_num,HST.out _ [c] (by rw [str_app,hsl.out]) HQ.out,by trivial⟩
        case measure=>simp [intOf];omega
  ·obtain rfl:k=s.size:=by omega
   have hkI:¬ (s.size:Int)<(s.size:Int):=by omega
   have HE:Hid (Cod.str (o++{ data:=#[34] })=Va.quoted (Cod.str s)):=Hxq (by
    rw [str_app,ho,List.take_of_length_le (by rw [HLL.out];exact Nat.le_refl _)];rfl)
   clear ho
   go_wp2_with fail
   go_ret
   exact ⟨by rw [ofS_of HE.out];rfl,rfl⟩
theorem vText_any (v:Va.Val) (hv:v.Ok) (w:World) (hG:GlobV w) :
  Calls Tryd.prog 67 #[.agg (valV v)] w fun e w'=>e=.returned (txtV v)/\Mod [] w w':=by
 have h1:=fun w=>vcheck_any v w
 have hm0:=(Mod.refl [] w).alloc (Obj.cells (valV v) 31)
 have hB0:=heap_alloc_new w (Obj.cells (valV v) 31)
 unfold txtV
 cases hmv:Va.may v
 ·have e:chk v=20:=by unfold chk;rw [hmv];rfl
  rw [e] at h1 ⊢
  have H1:=Lib.hid h1
  clear h1 hmv e hB0
  unfold valV at *
  go_enter Tryd.func67,Tryd.ntmps67
  go_wp2_with fail
  refine (H1.out _).mono ?_
  rintro e w1 ⟨rfl,hm⟩
  have HM:=Hxq (hm0.trans hm (by simp))
  clear hm hm0
  go_wp2_with fail
  go_ret2
  exact ⟨rfl,HM.out⟩
 ·have e:chk v=0:=by unfold chk;rw [hmv];rfl
  rw [e] at h1 ⊢
  have hsl:=may_len hmv
  have hsz:(Lx.ofS v.s).size=v.s.length:=ofS_size _
  have hst:Cod.str (Lx.ofS v.s)=v.s:=Lx.str_ofS hv.byte
  have hi:=fun w hG=>itoa_any v.n hv.lo hv.hi w hG
  have hn:=fun w=>vName_any (Lx.ofS v.s) (by omega) w
  have hq:=fun w=>vQuoted_any (Lx.ofS v.s) (by omega) w
  rw [hst] at hn hq
  have hT1:v.k=1->Va.text v=Va.itoa v.n:=fun h=>by unfold Va.text;rw [if_pos h]
  have hT2:v.k≠1->Va.name v.s=true->Va.text v=v.s:=fun h h2=>by unfold Va.text;rw [if_neg h,if_pos h2]
  have hT3:v.k≠1->Va.name v.s=false->Va.text v=Va.quoted v.s:=fun h h2=>by unfold Va.text;rw [if_neg h];simp [h2]
  have H1:=Lib.hid h1;have HI:=Lib.hid hi;have HQ:=Lib.hid hq
  clear h1 hi hq hmv e hv hst hsz hsl
  unfold valV at *
  rw [if_pos rfl]
  by_cases k1:v.k=1
  ·have HT:=Hxq (hT1 k1)
   have kB:(v.k == 1)=true:=by rw [beq_iff_eq];exact k1
   clear hT1 hT2 hT3 k1 hn
   go_enter Tryd.func67,Tryd.ntmps67
   go_wp2_with fail
   refine (H1.out _).mono ?_
   rintro e w1 ⟨rfl,hm⟩
   have hB:=hm.at hB0 (by simp)
   have c0:w1.cell? ⟨w.heap.size,0,none⟩=some (.int .i64 v.k):=by simp [World.cell?,hB]
   have c1:w1.cell? ⟨w.heap.size,1,none⟩=some (.int .i64 v.n):=by simp [World.cell?,hB]
   have HM:=Hxq (hm0.trans hm (by simp))
   clear hm hm0 hB hB0
   go_wp2_with fail
   refine (HI.out _ (hG.past HM.out (by simp))).mono ?_
   rintro e w2 ⟨rfl,hm2⟩
   go_wp2_with fail
   go_ret2
   exact ⟨by rw [HT.out];rfl,HM.out.trans hm2 (by simp)⟩
  ·have kB:(v.k == 1)=false:=by rw [beq_eq_false_iff_ne];exact k1
   cases hnm:Va.name v.s
   ·have HT:=Hxq (hT3 k1 hnm)
    rw [hnm] at hn
    have HN:=Lib.hid hn
    clear hT1 hT2 hT3 k1 hn hnm
    go_enter Tryd.func67,Tryd.ntmps67
    go_wp2_with fail
    refine (H1.out _).mono ?_
    rintro e w1 ⟨rfl,hm⟩
    have hB:=hm.at hB0 (by simp)
    have c0:w1.cell? ⟨w.heap.size,0,none⟩=some (.int .i64 v.k):=by simp [World.cell?,hB]
    have c2:w1.cell? ⟨w.heap.size,2,none⟩=some (.string (Lx.ofS v.s)):=by simp [World.cell?,hB]
    have HM:=Hxq (hm0.trans hm (by simp))
    clear hm hm0 hB hB0
    go_wp2_with fail
    refine (HN.out _).mono ?_
    rintro e w2 ⟨rfl,rfl⟩
    go_wp2_with fail
    refine (HQ.out _).mono ?_
    rintro e w2 ⟨rfl,rfl⟩
    go_wp2_with fail
    go_ret2
    exact ⟨by rw [HT.out];rfl,HM.out⟩
   ·have HT:=Hxq (hT2 k1 hnm)
    rw [hnm] at hn
    have HN:=Lib.hid hn
    clear hT1 hT2 hT3 k1 hn hnm
    go_enter Tryd.func67,Tryd.ntmps67
    go_wp2_with fail
    refine (H1.out _).mono ?_
    rintro e w1 ⟨rfl,hm⟩
    have hB:=hm.at hB0 (by simp)
    have c0:w1.cell? ⟨w.heap.size,0,none⟩=some (.int .i64 v.k):=by simp [World.cell?,hB]
    have c2:w1.cell? ⟨w.heap.size,2,none⟩=some (.string (Lx.ofS v.s)):=by simp [World.cell?,hB]
    have HM:=Hxq (hm0.trans hm (by simp))
    clear hm hm0 hB hB0
    go_wp2_with fail
    refine (HN.out _).mono ?_
    rintro e w2 ⟨rfl,rfl⟩
    go_wp2_with fail
    go_ret2
    exact ⟨by rw [HT.out];rfl,HM.out⟩
abbrev RelU:=Pr.Rel × Value
abbrev RulU:=Pr.Rul × Value × Value
def RulB (F:Nat->Prop) (w:World) (p:RulU):Prop:=RowB F w 5 tmV p.1.head.terms p.2.1/\BB F w p.1.body p.2.2
theorem RulB.keep {F:Nat->Prop} {S:List Nat} {w w':World} {p:RulU} (h:RulB F w p) (hm:Mod S w w') (hS:∀ s∈S,¬ F s):RulB F w' p:=⟨h.1.keep hm hS,h.2.keep hm hS⟩
theorem RulB.mono {F F':Nat->Prop} {w:World} {p:RulU} (h:RulB F w p) (hF:∀ k,F k->k<w.heap.size->F' k):RulB F' w p:=⟨h.1.mono hF,h.2.mono hF⟩
section
variable {w0:World} {b pb:Nat} {rels:List RelU} {rus:List RulU} {W W':World} {va:Option Addr} {vc:Nat} {ua:Option Addr} {uc:Nat}
end
open Go.RowKit
set_option linter.unusedVariables false
set_option linter.unusedSimpArgs false
set_option maxRecDepth 100000
section
variable (w:World) (Z F C D:Array Value) (T U:TypeId)
theorem two_a:((w.alloc (.cells Z T)).alloc (.cells F U)).heap[w.heap.size]?=some (.cells Z T (0,0)):=((Mod.refl [] (w.alloc (.cells Z T))).alloc (.cells F U)).at (heap_alloc_new w _) (by simp)
theorem two_b:((w.alloc (.cells Z T)).alloc (.cells F U)).heap[w.heap.size+1]?=some (.cells F U (0,0)):=by
 have:=heap_alloc_new (w.alloc (.cells Z T)) (.cells F U)
 rw [show (w.alloc (.cells Z T)).heap.size=w.heap.size+1 by simp] at this
 exact this
end
namespace Sy
def sA:Pr.Ex:=.mk 4 (txt []) Va.zero 6 [.mk 1 (txt [89]) Va.zero 0 []]
def sB:Pr.Ex:=.mk 2 (txt []) ⟨1,-1,[]⟩ 0 []
def sL:Pr.Li:=.mk 3 at0 1 (.mk 1 (txt [88]) Va.zero 0 []) (.mk 4 (txt []) Va.zero 2 [sA,sB]) 0 (txt []) ex0 [] 1 1
end Sy
open Go.RowKit
set_option linter.unusedVariables false
set_option linter.unusedSimpArgs false
set_option maxRecDepth 100000
/-- a text of the reference: of what is well made, that text; else it is marked; at most n bytes -/
def TxV (o:Option (List Nat)) (n:Nat) (v:Value):Prop:=∃ (s:ByteArray) (b:Bool),v=.agg #[.string s,.bool b]/\s.size<=n/\(∀ t,o=some t->b=false/\s=Lx.ofS t)/\(o=none->b=true)
def TxR (o:Option (List Nat)) (n:Nat) (w:World) (e:Ending) (w':World):Prop:=∃ v,e=.returned v/\TxV o n v/\Mod [] w w'
/-- how much the reference's expression binds -/
def rbinds (e:Pr.Ex):Nat:=if e.k=4 then (if e.op=1\/e.op=2 then 1 else if e.op=3\/e.op=4\/e.op=5 then 2 else 3) else 4
theorem rbinds_any (e:Pr.Ex) (u:Value) (w:World):Calls Tryd.prog 53 #[.agg (exV e u)] w fun e' w'=>e'=.returned (.int .i64 (rbinds e:Nat))/\Mod [] w w':=by
 have HM:=Hxq ((Mod.refl [] w).alloc (Obj.cells (exV e u) 34))
 unfold exV at *
 by_cases h:e.k=4
 ·have hB:(e.k != 4)=false:=by rw [h];rfl
  by_cases ho:e.op=1\/e.op=2\/e.op=3\/e.op=4\/e.op=5
  ·obtain ⟨k,v,x,op,args⟩:=e
   simp only [Pr.Ex.k,Pr.Ex.op] at *
   subst h
   rcases ho with rfl | rfl | rfl | rfl | rfl
   all_goals (
    clear hB
    go_enter Tryd.func53,Tryd.ntmps53
    go_wp2_with fail
    go_ret
    exact ⟨rfl,HM.out⟩)
  ·have n1:(e.op == 1)=false:=by rw [beq_eq_false_iff_ne];omega
   have n2:(e.op == 2)=false:=by rw [beq_eq_false_iff_ne];omega
   have n3:(e.op == 3)=false:=by rw [beq_eq_false_iff_ne];omega
   have n4:(e.op == 4)=false:=by rw [beq_eq_false_iff_ne];omega
   have n5:(e.op == 5)=false:=by rw [beq_eq_false_iff_ne];omega
   have HE:Hid (rbinds e=3):=Hxq (by unfold rbinds;rw [if_pos h,if_neg (by omega),if_neg (by omega)])
   clear h ho
   go_enter Tryd.func53,Tryd.ntmps53
   go_wp2_with fail
   go_ret
   exact ⟨by rw [HE.out];rfl,HM.out⟩
 ·have hB:(e.k != 4)=true:=by rw [bne_iff_ne];exact h
  have HE:Hid (rbinds e=4):=Hxq (if_neg h)
  clear h
  go_enter Tryd.func53,Tryd.ntmps53
  go_wp2_with fail
  go_ret
  exact ⟨by rw [HE.out];rfl,HM.out⟩
/-- the printer's and the reference's, of what is well made -/
theorem rbinds_eq {e:Pr.Ex} (h:¬ (e.k=4/\Pr.strength e.op=0)):rbinds e=Pr.binds e:=by
 unfold rbinds Pr.binds
 by_cases hk:e.k=4
 ·rw [if_pos hk,if_pos hk]
  have h2:Pr.strength e.op≠0:=fun q=>h ⟨hk,q⟩
  unfold Pr.strength at h2 ⊢
  by_cases g1:e.op=1\/e.op=2
  ·rw [if_pos g1,if_pos g1]
  ·rw [if_neg g1] at h2 ⊢
   rw [if_neg g1]
   by_cases g2:e.op=3\/e.op=4\/e.op=5
   ·rw [if_pos g2,if_pos g2]
   ·rw [if_neg g2] at h2 ⊢
    rw [if_neg g2]
    by_cases g3:e.op=6
    ·rw [if_pos g3]
    ·rw [if_neg g3] at h2;exact absurd rfl h2
 ·rw [if_neg hk,if_neg hk]
theorem pE_bad {e:Pr.Ex} (h:e.k=4/\Pr.strength e.op=0) (k:Nat):Pr.pE k e=none:=by
 cases k with
 | zero=>rfl
 | succ k=>rw [Pr.pE_op _ _ h.1,if_neg (by omega)]
def rsign (op:Int):List Nat:=if op=1 then [32,43,32] else if op=2 then [32,45,32] else if op=3 then [32,42,32] else if op=4 then [32,47,32] else [32,109,111,100,32]
theorem rsign_any (op:Int) (w:World):Calls Tryd.prog 54 #[.int .i64 op] w fun e w'=>e=.returned (.string (Lx.ofS (rsign op)))/\w'=w:=by
 by_cases h:op=1\/op=2\/op=3\/op=4
 ·rcases h with rfl | rfl | rfl | rfl
  all_goals (
   go_enter Tryd.func54,Tryd.ntmps54
   go_wp2_with fail
   go_ret
   exact ⟨rfl,rfl⟩)
 ·have n1:(op == 1)=false:=by rw [beq_eq_false_iff_ne];omega
  have n2:(op == 2)=false:=by rw [beq_eq_false_iff_ne];omega
  have n3:(op == 3)=false:=by rw [beq_eq_false_iff_ne];omega
  have n4:(op == 4)=false:=by rw [beq_eq_false_iff_ne];omega
  have HE:Hid (rsign op=[32,109,111,100,32]):=Hxq (by unfold rsign;rw [if_neg (by omega),if_neg (by omega),if_neg (by omega),if_neg (by omega)])
  clear h
  go_enter Tryd.func54,Tryd.ntmps54
  go_wp2_with fail
  go_ret
  exact ⟨by rw [HE.out];rfl,rfl⟩
theorem rcompared_any (op:Int) (w:World):Calls Tryd.prog 48 #[.int .i64 op] w fun e w'=>e=.returned (.string (Lx.ofS (Pr.cmp op)))/\w'=w:=by
 by_cases h:op=1\/op=2\/op=3\/op=4\/op=5
 ·rcases h with rfl | rfl | rfl | rfl | rfl
  all_goals (
   go_enter Tryd.func48,Tryd.ntmps48
   go_wp2_with fail
   go_ret
   exact ⟨rfl,rfl⟩)
 ·have n1:(op == 1)=false:=by rw [beq_eq_false_iff_ne];omega
  have n2:(op == 2)=false:=by rw [beq_eq_false_iff_ne];omega
  have n3:(op == 3)=false:=by rw [beq_eq_false_iff_ne];omega
  have n4:(op == 4)=false:=by rw [beq_eq_false_iff_ne];omega
  have n5:(op == 5)=false:=by rw [beq_eq_false_iff_ne];omega
  have HE:Hid (Pr.cmp op=[32,62,61,32]):=Hxq (by unfold Pr.cmp;rw [if_neg (by omega),if_neg (by omega),if_neg (by omega),if_neg (by omega),if_neg (by omega)])
  clear h
  go_enter Tryd.func48,Tryd.ntmps48
  go_wp2_with fail
  go_ret
  exact ⟨by rw [HE.out];rfl,rfl⟩
theorem rcalled_any (f:Int) (w:World):Calls Tryd.prog 63 #[.int .i64 f] w fun e w'=>e=.returned (.string (Lx.ofS (Pr.word f)))/\w'=w:=by
 by_cases h:f=1\/f=2\/f=3
 ·rcases h with rfl | rfl | rfl
  all_goals (
   go_enter Tryd.func63,Tryd.ntmps63
   go_wp2_with fail
   go_ret
   exact ⟨rfl,rfl⟩)
 ·have n1:(f == 1)=false:=by rw [beq_eq_false_iff_ne];omega
  have n2:(f == 2)=false:=by rw [beq_eq_false_iff_ne];omega
  have n3:(f == 3)=false:=by rw [beq_eq_false_iff_ne];omega
  have HE:Hid (Pr.word f=[109,97,120]):=Hxq (by unfold Pr.word;rw [if_neg (by omega),if_neg (by omega),if_neg (by omega)])
  clear h
  go_enter Tryd.func63,Tryd.ntmps63
  go_wp2_with fail
  go_ret
  exact ⟨by rw [HE.out];rfl,rfl⟩
theorem rnoExpr_any (e:Pr.Ex) (a:Option Addr) (c:Nat) (w:World):Calls Tryd.prog 46 #[.agg (exV e (.slice a e.args.length c))] w fun e' w'=>e'=.returned (.bool (Pr.noExpr e))/\Mod [] w w':=by
 have hve:=fun W=>veq_run e.x W
 have hE:Pr.noExpr e=(decide (e.k=0) && (decide (e.v.size=0) && (decide (e.x=Va.zero) && (decide (e.op=0) && decide (e.args.length=0))))):=rfl
 have hem:=toList_isEmpty e.v
 have hl:((e.args.length:Int) == 0)=decide (e.args.length=0):=by rw [Bool.eq_iff_iff,beq_iff_eq,decide_eq_true_eq];omega
 rw [hE]
 clear hE
 generalize decide (e.x=Va.zero)=bx at *
 generalize decide (e.args.length=0)=bl at *
 unfold exV at *
 go_enter Tryd.func46,Tryd.ntmps46
 go_wp2_with fail
 all_goals go_ret
 all_goals exact ⟨ret_bool (by simp_all),(Mod.refl [] w).alloc _⟩
theorem vne_run (x:Va.Val) (W:World):(binOp .neq 31 (.agg #[.int .i64 x.k,.int .i64 x.n,.string (Lx.ofS x.s)]) (.agg #[.int .i64 0,.int .i64 0,.string ⟨#[]⟩])).run Tryd.prog W=.ok (.bool (!decide (x=Va.zero))) W:=by
 obtain ⟨k,n,s⟩:=x
 have hs:=ofS_nil s
 by_cases h1:k=0
 ·subst h1
  by_cases h2:n=0
  ·subst h2
   by_cases h3:s=[]
   ·subst h3
    rw [show decide ((⟨0,0,[]⟩:Va.Val)=Va.zero)=true from by decide]
    go_simp
   ·rw [decide_eq_false h3] at hs
    rw [decide_eq_false (fun e=>h3 (by injection e))]
    go_simp
  ·rw [decide_eq_false (fun e=>h2 (by injection e))]
   have h2B:(n == 0)=false:=by rw [beq_eq_false_iff_ne];exact h2
   go_simp
 ·rw [decide_eq_false (fun e=>h1 (by injection e))]
  have h1B:(k == 0)=false:=by rw [beq_eq_false_iff_ne];exact h1
  go_simp
def plO (k:Int) (s:ByteArray) (x:Va.Val):Option (List Nat) :=
 if k=1 then (if Va.variable_ (Cod.str s)=true/\x=Va.zero then some (Cod.str s) else none) else (if s.size=0/\Va.may x=true then some (Va.text x) else none)
set_option maxHeartbeats 2000000 in
theorem rplain_any (k:Int) (s:ByteArray) (x:Va.Val) (hx:x.Ok) (hs:s.size<=140737488000000) (w:World) (hG:GlobV w) :
  Calls Tryd.prog 51 #[.int .i64 k,.string s,.agg (valV x)] w (TxR (plO k s x) (s.size+300) w):=by
 have hne:=fun W=>vne_run x W
 have hm0:=((Mod.refl [] w).alloc (Obj.cells (valV x) 31)).alloc (Obj.cells #[.string ⟨#[]⟩,.bool false] 79)
 have HV:=Hxq (fun w=>vVariable_any s (by omega) w)
 have HT:=Hxq (fun w (h:GlobV w)=>vText_any x hx w h)
 have HG:=Hxq (hG.past hm0 (by simp))
 have hem:=toList_isEmpty s
 have e1:=two_b w (valV x) #[.string ⟨#[]⟩,.bool false] 31 79
 have e0:=two_a w (valV x) #[.string ⟨#[]⟩,.bool false] 31 79
 unfold valV at *
 by_cases h1:k=1
 ·have hB:(k == 1)=true:=by rw [beq_iff_eq];exact h1
  have HE:Hid (plO k s x=if Va.variable_ (Cod.str s)=true/\x=Va.zero then some (Cod.str s) else none):=Hxq (if_pos h1)
  clear h1
  go_enter Tryd.func51,Tryd.ntmps51
  go_upto_region 1 with fail
  generalize (w.alloc (Obj.cells _ 31)).alloc (Obj.cells _ 79)=w0 at *
  have M0:=Lib.hid hm0;have E0:=Lib.hid e0;have E1:=Lib.hid e1
  clear hm0 e0 e1
  go_wp2_with fail
  refine (HV.out w0).mono ?_
  rintro e w1 ⟨rfl,hww⟩
  subst hww
  have a0:=cell_at E0.out 0;have a1:=cell_at E0.out 1;have a2:=cell_at E0.out 2;have b0:=cell_at E1.out 0;have b1:=cell_at E1.out 1
  simp only [List.getElem?_toArray,List.getElem?_cons_zero,List.getElem?_cons_succ] at a0 a1 a2 b0 b1
  have fA:∀ j,w1.frozen? ⟨w.heap.size+1,j,none⟩=false:=fun j=>free_at E1.out j
  have hbz:x=Va.zero ↔ decide (x=Va.zero)=true:=by simp
  generalize decide (x=Va.zero)=bz at *
  have HBZ:=Lib.hid hbz
  clear hbz
  have hz1:=M0.out.size
  cases hv:Va.variable_ (Cod.str s)
  all_goals (
   rw [hv] at HE
   have HVV:=Lib.hid hv
   clear hv
   go_wp2_with fail)
  ·refine bodyPost_ret (results_cell_row rfl _ _ _ _ _ _ _ rfl (setCs_row (vs:=[.string s,.bool true]) E1.out rfl) Tryd.underlying79 rfl (by kernel_rfl)) rfl ⟨_,rfl,⟨s,true,rfl,by omega,fun t ht=>?_,fun _=>rfl⟩,M0.out.trans (setCs_mod (w.heap.size+1) [.string s,.bool true] 0 w1) (fun t ht=>.inr (by rw [Msq] at ht;omega))⟩
   rw [HE.out,if_neg (by simp)] at ht;cases ht
  ·refine bodyPost_ret (results_cell_row rfl _ _ _ _ _ _ _ rfl (setCs_row (vs:=[.string s,.bool (!bz)]) E1.out rfl) Tryd.underlying79 rfl (by kernel_rfl)) rfl ⟨_,rfl,⟨s,!bz,rfl,by omega,fun t ht=>?_,fun hn=>?_⟩,M0.out.trans (setCs_mod (w.heap.size+1) [.string s,.bool (!bz)] 0 w1) (fun t ht=>.inr (by rw [Msq] at ht;omega))⟩
   ·rw [HE.out] at ht
    split at ht
    ·rename_i h
     cases ht
     rw [HBZ.out.1 h.2]
     exact ⟨rfl,(Lx.ofS_str s).symm⟩
    ·cases ht
   ·rw [HE.out] at hn
    split at hn
    ·cases hn
    ·rename_i h
     cases bz with
     | true=>exact absurd ⟨trivial,HBZ.out.2 rfl⟩ h
     | false=>rfl
 ·have hB:(k == 1)=false:=by rw [beq_eq_false_iff_ne];exact h1
  have HE:Hid (plO k s x=if s.size=0/\Va.may x=true then some (Va.text x) else none):=Hxq (if_neg h1)
  have HL:=Hxq (fun (h:Va.may x=true)=>(Va.rguess_text hx.byte h).2.1)
  clear h1
  go_enter Tryd.func51,Tryd.ntmps51
  go_upto_region 1 with fail
  generalize (w.alloc (Obj.cells _ 31)).alloc (Obj.cells _ 79)=w0 at *
  have M0:=Lib.hid hm0;have E0:=Lib.hid e0;have E1:=Lib.hid e1
  clear hm0 e0 e1
  have a0:=cell_at E0.out 0;have a1:=cell_at E0.out 1;have a2:=cell_at E0.out 2
  simp only [List.getElem?_toArray,List.getElem?_cons_zero,List.getElem?_cons_succ] at a0 a1 a2
  go_wp2_with fail
  refine (HT.out w0 HG.out).mono ?_
  rintro e w1 ⟨rfl,m1⟩
  have E1:=Hxq (m1.at E1.out (by simp));have M1:=Hxq (M0.out.trans m1 (by simp))
  clear m1 a0 a1 a2
  have b0:=cell_at E1.out 0;have b1:=cell_at E1.out 1
  simp only [List.getElem?_toArray,List.getElem?_cons_zero,List.getElem?_cons_succ] at b0 b1
  have fA:∀ j,w1.frozen? ⟨w.heap.size+1,j,none⟩=false:=fun j=>free_at E1.out j
  have hz1:=M0.out.size
  unfold txtV chk
  cases hv:Va.may x
  all_goals (
   rw [hv] at HE HL
   have HVV:=Lib.hid hv
   clear hv)
  ·rw [if_neg (by decide),if_neg (by decide)]
   go_wp2_with fail
   refine bodyPost_ret (results_cell_row rfl _ _ _ _ _ _ _ rfl (setCs_row (vs:=[.string (Lx.ofS []),.bool true]) E1.out rfl) Tryd.underlying79 rfl (by kernel_rfl)) rfl ⟨_,rfl,⟨Lx.ofS [],true,rfl,Nat.zero_le _,fun t ht=>?_,fun _=>rfl⟩,M1.out.trans (setCs_mod (w.heap.size+1) [.string (Lx.ofS []),.bool true] 0 w1) (fun t ht=>.inr (by rw [Msq] at ht;omega))⟩
   rw [HE.out,if_neg (by simp)] at ht;cases ht
  ·rw [if_pos rfl,if_pos rfl]
   have hlt:=HL.out rfl
   have hszt:(Lx.ofS (Va.text x)).size=(Va.text x).length:=ofS_size _
   have HST:Hid ((Lx.ofS (Va.text x)).size<=s.size+300):=Hxq (by omega)
   clear hszt hlt
   have hbz:s.size=0 ↔ decide (s.size=0)=true:=by simp
   generalize decide (s.size=0)=bz at *
   have HBZ:=Lib.hid hbz
   clear hbz
   go_wp2_with fail
   refine bodyPost_ret (results_cell_row rfl _ _ _ _ _ _ _ rfl (setCs_row (vs:=[.string (Lx.ofS (Va.text x)),.bool (!bz)]) E1.out rfl) Tryd.underlying79 rfl (by kernel_rfl)) rfl ⟨_,rfl,⟨Lx.ofS (Va.text x),!bz,rfl,HST.out,fun t ht=>?_,fun hn=>?_⟩,M1.out.trans (setCs_mod (w.heap.size+1) [.string (Lx.ofS (Va.text x)),.bool (!bz)] 0 w1) (fun t ht=>.inr (by rw [Msq] at ht;omega))⟩
   ·rw [HE.out] at ht
    split at ht
    ·rename_i h
     cases ht
     rw [HBZ.out.1 h.1]
     exact ⟨rfl,rfl⟩
    ·cases ht
   ·rw [HE.out] at hn
    split at hn
    ·cases hn
    ·rename_i h
     cases bz with
     | true=>exact absurd ⟨HBZ.out.2 rfl,trivial⟩ h
     | false=>rfl
end Go.Proofs.YtohnmnfhmbmoaaaDoor
