/- THE TEXTS MERGED: RfNum RfPart RfQuo. -/
import Derived.Test.YtppigckioalhhaaGreatDoorRKS1
import Derived.Test.YtppigckioalhhaaGreatDoorRKS40
namespace Go.Proofs.YtppigckioalhhaaGreatDoorR
open Go.RowKit
set_option linter.unusedVariables false
set_option linter.unusedSimpArgs false
set_option maxRecDepth 100000
theorem num_step (l:List Nat) (c:Nat):Lx.numv (l++[c])=10 * Lx.numv l+(c - 48):=by
 unfold Lx.numv;rw [List.foldl_append];rfl
theorem num_lt:∀ (l:List Nat),(∀ c∈l,Lx.digit c=true)->Lx.numv l<10 ^ l.length:=by
 intro l
 have key:∀ (l:List Nat) (acc:Nat),(∀ c∈l,Lx.digit c=true)->l.foldl (fun a c=>10 * a+(c - 48)) acc<(acc+1) * 10 ^ l.length:=by
  intro l
  induction l with
  | nil=>intro acc _;simp
  | cons c r ih =>
   intro acc h
   have hc:=h c (by simp)
   simp only [Lx.digit,Bool.and_eq_true,decide_eq_true_eq] at hc
   have:=ih (10 * acc+(c - 48)) (fun x hx=>h x (by simp [hx]))
   rw [List.foldl_cons,List.length_cons,Nat.pow_succ]
   refine Nat.lt_of_lt_of_le this ?_
   rw [Nat.mul_comm (10 ^ r.length) 10,<-Nat.mul_assoc]
   exact Nat.mul_le_mul_right _ (by omega)
 intro h
 have:=key l 0 h
 simpa [Lx.numv] using this
theorem num_big {l:List Nat} (h0:l.headD 0≠48) (hd:∀ c∈l,Lx.digit c=true) (hl:10<l.length):2147483647<Lx.numv l:=by
 have key:∀ (l:List Nat) (acc:Nat),acc * 10 ^ l.length<=l.foldl (fun a c=>10 * a+(c - 48)) acc:=by
  intro l
  induction l with
  | nil=>intro acc;simp
  | cons c r ih =>
   intro acc
   have:=ih (10 * acc+(c - 48))
   rw [List.foldl_cons,List.length_cons,Nat.pow_succ]
   refine Nat.le_trans ?_ this
   rw [Nat.mul_comm (10 ^ r.length) 10,<-Nat.mul_assoc]
   exact Nat.mul_le_mul_right _ (by omega)
 cases l with
 | nil=>simp at hl
 | cons c r =>
  have hc:=hd c (by simp)
  simp only [Lx.digit,Bool.and_eq_true,decide_eq_true_eq] at hc
  simp at h0 hl
  have h1:=key r (c - 48)
  have h2:10 ^ 10<=10 ^ r.length:=Nat.pow_le_pow_right (by decide) (by omega)
  have h3:1 * 10 ^ 10<=(c - 48) * 10 ^ r.length:=Nat.mul_le_mul (by omega) h2
  have e:Lx.numv (c :: r)=r.foldl (fun a c=>10 * a+(c - 48)) (10 * 0+(c - 48)):=rfl
  rw [e,Nat.mul_zero,Nat.zero_add]
  have h4:(10:Nat) ^ 10=10000000000:=rfl
  omega
/-- what the reference's number answers of digits -/
def numZ (l:List Nat):Int:=if (1<l.length/\l.headD 0=48)\/2147483647<Lx.numv l then -1 else (Lx.numv l:Nat)
set_option maxHeartbeats 2000000 in
theorem rNumber_any (s:ByteArray) (hs:s.size<=65536) (h0:0<s.size) (hd:∀ c∈Cod.str s,Lx.digit c=true) (w:World) :
  Calls Tryz.prog 152 #[.string s] w fun e w'=>e=.returned (.int .i64 (numZ (Cod.str s)))/\w=w':=by
 have hc0:s[0].toNat=(Cod.str s).headD 0:=by
  rw [<-Lx.get_str s 0 h0]
  cases Cod.str s <;> rfl
 have hll:=Cod.str_len s
 by_cases hz:1<s.size/\(Cod.str s).headD 0=48
 ·have e:Hid (numZ (Cod.str s)=-1):=Hxq (by unfold numZ;rw [hll,if_pos (.inl hz)])
  have h1:(1:Int)<(s.size:Int):=by omega
  have p48:(s[0].toNat:Int)=48:=by rw [hc0,hz.2];rfl
  clear hz hc0 hll hd
  go_enter Tryz.func152,Tryz.ntmps152
  go_wp2_with fail
  go_ret
  exact ⟨by rw [e.out];rfl,rfl⟩
 ·by_cases h10:10<s.size
  ·have hne:(Cod.str s).headD 0≠48:=fun h=>hz ⟨by omega,h⟩
   have hbig:=num_big hne hd (by rw [hll];exact h10)
   have e:Hid (numZ (Cod.str s)=-1):=Hxq (by unfold numZ;rw [if_pos (.inr hbig)])
   have h1:(1:Int)<(s.size:Int):=by omega
   have h10I:(10:Int)<(s.size:Int):=by omega
   have p48:((s[0].toNat:Int) == 48)=false:=by rw [hc0,beq_eq_false_iff_ne];omega
   have a48:¬ (s[0].toNat:Int)=48:=by rw [hc0];omega
   clear hz hc0 hll hd hne hbig h10
   go_enter Tryz.func152,Tryz.ntmps152
   go_wp2_with fail
   go_ret
   exact ⟨by rw [e.out];rfl,rfl⟩
  ·have hcase:s.size<=1\/(1<s.size/\(Cod.str s).headD 0≠48):=by omega
   have h10I:(s.size:Int)<=10:=by omega
   have hlow:=fun k (hk:k<=s.size)=>num_lt ((Cod.str s).take k) (fun c hc=>hd c (List.mem_of_mem_take hc))
   have hpow:∀ k,k<=10->10 ^ k<=10000000000:=fun k hk=>Nat.le_trans (Nat.pow_le_pow_right (by decide) hk) (by decide)
   have hnum:∀ k,k<=s.size->Lx.numv ((Cod.str s).take k)<10000000000:=fun k hk=>by
    have h1:=hlow k hk
    rw [List.length_take,hll] at h1
    have h2:=hpow (min k s.size) (by omega)
    omega
   have hR:Hid (numZ (Cod.str s)=if 2147483647<Lx.numv (Cod.str s) then (-1:Int) else ((Lx.numv (Cod.str s):Nat):Int)):=Hxq (by
    unfold numZ
    rw [hll]
    by_cases hb:2147483647<Lx.numv (Cod.str s)
    ·rw [if_pos (.inr hb),if_pos hb]
    ·rw [if_neg (by rintro (h | h);exact hz h;exact hb h),if_neg hb])
   have hstep:Hid (∀ k (hk:k<s.size),Lx.numv ((Cod.str s).take (k+1))=10 * Lx.numv ((Cod.str s).take k)+(s[k].toNat - 48)/\48<=s[k].toNat/\s[k].toNat<=57):=Hxq (fun k hk=>by
    have h1:=take_snoc (Cod.str s) 0 k (by rw [hll];exact hk)
    rw [h1,num_step,Lx.get_str s k hk]
    have h2:=hd ((Cod.str s).getD k 0) (by
     rw [List.getD_eq_getElem?_getD,List.getElem?_eq_getElem (by rw [hll];exact hk)];exact List.getElem_mem _)
    rw [Lx.get_str s k hk] at h2
    simp only [Lx.digit,Bool.and_eq_true,decide_eq_true_eq] at h2
    exact ⟨rfl,h2⟩)
   have hfull:Hid ((Cod.str s).take s.size=Cod.str s):=Hxq (by rw [List.take_of_length_le (by rw [hll];exact Nat.le_refl _)])
   have HN:=Lib.hid hnum
   clear hz hlow hpow hd hll
   clear hnum
   rcases hcase with hc | ⟨hc,hc48⟩
   ·have hcI:(s.size:Int)<=1:=by omega
    clear hc0
    go_enter Tryz.func152,Tryz.ntmps152
    go_wp2_with fail
    go_loop [3,4] (fun a i=>∃ k:Nat,k<=s.size/\i=.int .i64 (k:Int)/\a=.int .i64 (Lx.numv ((Cod.str s).take k):Nat)) (fun _ i=>s.size - (intOf i).toNat)
    case atStart=>exact ⟨0,Nat.zero_le _,rfl,rfl⟩
    case round =>
     obtain ⟨k,hk,rfl,rfl⟩:=hrel
     have hb:=HN.out k hk
     by_cases hlt:k<s.size
     ·have hs1:=hstep.out k hlt
      obtain ⟨e1,e2,e3⟩:=hs1
      have E1:=Lib.hid e1
      clear e1
      generalize Lx.numv ((Cod.str s).take k)=v at *
      go_wp2_with fail
      go_round
      case rel =>
       refine ⟨k+1,by omega,by go_num,?_⟩
       rw [E1.out]
       congr 1
       omega
      case measure=>simp [intOf];omega
     ·obtain rfl:k=s.size:=by omega
      rw [hfull.out] at hb ⊢
      generalize Lx.numv (Cod.str s)=v at *
      by_cases hm:2147483647<v
      ·have hmI:(2147483647:Int)<(v:Int):=by omega
       have e:Hid (numZ (Cod.str s)=-1):=Hxq (by rw [hR.out,if_pos hm])
       clear hm
       go_wp2_with fail
       go_ret
       exact ⟨by rw [e.out];rfl,rfl⟩
      ·have hmI:(v:Int)<=2147483647:=by omega
       have e:Hid (numZ (Cod.str s)=(v:Nat)):=Hxq (by rw [hR.out,if_neg hm])
       clear hm
       go_wp2_with fail
       go_ret
       exact ⟨by rw [e.out];rfl,rfl⟩
   ·have p48:((s[0].toNat:Int) == 48)=false:=by rw [hc0,beq_eq_false_iff_ne];omega
    have a48:¬ (s[0].toNat:Int)=48:=by rw [hc0];omega
    have hcI:(1:Int)<(s.size:Int):=by omega
    clear hc0 hc48
    go_enter Tryz.func152,Tryz.ntmps152
    go_wp2_with fail
    go_loop [3,4] (fun a i=>∃ k:Nat,k<=s.size/\i=.int .i64 (k:Int)/\a=.int .i64 (Lx.numv ((Cod.str s).take k):Nat)) (fun _ i=>s.size - (intOf i).toNat)
    case atStart=>exact ⟨0,Nat.zero_le _,rfl,rfl⟩
    case round =>
     obtain ⟨k,hk,rfl,rfl⟩:=hrel
     have hb:=HN.out k hk
     by_cases hlt:k<s.size
     ·have hs1:=hstep.out k hlt
      obtain ⟨e1,e2,e3⟩:=hs1
      have E1:=Lib.hid e1
      clear e1
      generalize Lx.numv ((Cod.str s).take k)=v at *
      go_wp2_with fail
      go_round
      case rel =>
       refine ⟨k+1,by omega,by go_num,?_⟩
       rw [E1.out]
       congr 1
       omega
      case measure=>simp [intOf];omega
     ·obtain rfl:k=s.size:=by omega
      rw [hfull.out] at hb ⊢
      generalize Lx.numv (Cod.str s)=v at *
      by_cases hm:2147483647<v
      ·have hmI:(2147483647:Int)<(v:Int):=by omega
       have e:Hid (numZ (Cod.str s)=-1):=Hxq (by rw [hR.out,if_pos hm])
       clear hm
       go_wp2_with fail
       go_ret
       exact ⟨by rw [e.out];rfl,rfl⟩
      ·have hmI:(v:Int)<=2147483647:=by omega
       have e:Hid (numZ (Cod.str s)=(v:Nat)):=Hxq (by rw [hR.out,if_neg hm])
       clear hm
       go_wp2_with fail
       go_ret
       exact ⟨by rw [e.out];rfl,rfl⟩
def hexZ (o:Option Nat):Int:=match o with | some x=>(x:Int) | none=>-1
theorem rHex_any (c:Nat) (hc:c<256) (w:World) :
  Calls Tryz.prog 171 #[.int .u8 (c:Int)] w fun e w'=>e=.returned (.int .i64 (hexZ (Lx.hexv c)))/\w=w':=by
 have hI:(0:Int)<=(c:Int):=by omega
 have hI2:(c:Int)<256:=by omega
 by_cases h1:48<=c/\c<=57
 ·have e:Hid (hexZ (Lx.hexv c)=(c:Int) - 48):=Hxq (by unfold Lx.hexv hexZ;rw [if_pos h1];simp only;omega)
  have a1:(48:Int)<=(c:Int):=by omega
  have a2:(c:Int)<=57:=by omega
  clear h1
  go_enter Tryz.func171,Tryz.ntmps171
  go_wp2_with fail
  go_ret
  exact ⟨by rw [e.out];rfl,rfl⟩
 ·by_cases h2:97<=c/\c<=102
  ·have e:Hid (hexZ (Lx.hexv c)=(c:Int) - 97+10):=Hxq (by unfold Lx.hexv hexZ;rw [if_neg h1,if_pos h2];simp only;omega)
   have a1:(97:Int)<=(c:Int):=by omega
   have a2:(c:Int)<=102:=by omega
   clear h1 h2
   go_enter Tryz.func171,Tryz.ntmps171
   go_wp2_with fail
   go_ret
   exact ⟨by rw [e.out];rfl,rfl⟩
  ·by_cases h3:65<=c/\c<=70
   ·have e:Hid (hexZ (Lx.hexv c)=(c:Int) - 65+10):=Hxq (by unfold Lx.hexv hexZ;rw [if_neg h1,if_neg h2,if_pos h3];simp only;omega)
    have a1:(65:Int)<=(c:Int):=by omega
    have a2:(c:Int)<=70:=by omega
    clear h1 h2 h3
    go_enter Tryz.func171,Tryz.ntmps171
    go_wp2_with fail
    go_ret
    exact ⟨by rw [e.out];rfl,rfl⟩
   ·have e:Hid (hexZ (Lx.hexv c)=-1):=Hxq (by unfold Lx.hexv hexZ;rw [if_neg h1,if_neg h2,if_neg h3])
    have hc4:(c:Int)<48\/(57<(c:Int)/\(c:Int)<65)\/(70<(c:Int)/\(c:Int)<97)\/102<(c:Int):=by omega
    clear h1 h2 h3
    rcases hc4 with h | ⟨h,h'⟩ | ⟨h,h'⟩ | h
    all_goals
     go_enter Tryz.func171,Tryz.ntmps171
     go_wp2_with fail
     go_ret
     exact ⟨by rw [e.out];rfl,rfl⟩
theorem ones_iff (a:Nat):Lx.ones.contains a=true ↔ (a=40\/a=41\/a=123\/a=125\/a=44\/a=46\/a=58\/a=61\/a=60\/a=62\/a=43\/a=45\/a=42\/a=47\/a=95):=by simp [Lx.ones]
theorem two_lit (s:ByteArray) (a b:Nat) (r:List Nat) (hl:Cod.str s=a :: b :: r) (x y:UInt8):((s.extract 0 2).toList == [x,y])=(a == x.toNat && b == y.toNat):=by
 rw [ByteArray.toList_eq]
 have h:(s.extract 0 2).data.toList.map UInt8.toNat=[a,b]:=by
  have:=Lx.str_extract s 0 2
  rw [hl] at this
  simpa [Cod.str] using this
 match hd:(s.extract 0 2).data.toList,h with
 | [p,q],h =>
  simp at h
  obtain ⟨rfl,rfl⟩:=h
  rw [Bool.eq_iff_iff]
  simp [UInt8.toNat_inj]
theorem rMark_any (s:ByteArray) (h0:0<s.size) (hs:s.size<=9223372036854775807) (w:World) :
  Calls Tryz.prog 154 #[.string s] w fun e w'=>e=.returned (.int .i64 (Lx.mark (Cod.str s):Nat))/\w=w':=by
 have hll:=Cod.str_len s
 have hc0:s[0].toNat=(Cod.str s).headD 0:=by
  rw [<-Lx.get_str s 0 h0]
  cases Cod.str s <;> rfl
 cases hl:Cod.str s with
 | nil=>rw [hl] at hll;simp at hll;omega
 | cons a r =>
  rw [hl] at hc0 hll
  simp only [List.headD_cons] at hc0
  cases r with
  | nil =>
   have h1:(s.size:Int)<2:=by simp at hll;omega
   have hm:Lx.mark [a]=if Lx.ones.contains a then 1 else 0:=rfl
   have HM:=Lib.hid hm;have HC:=Lib.hid hc0
   clear hl hll hm hc0
   go_enter Tryz.func154,Tryz.ntmps154
   go_wp2_with fail
   all_goals go_ret
   all_goals refine ⟨ret_int ?_,rfl⟩
   all_goals rw [HM.out,<-HC.out]
   all_goals simp only [beq_iff_eq,beq_eq_false_iff_ne,ne_eq] at *
   all_goals first
    | (rw [if_pos ((ones_iff _).2 (by omega))];rfl)
    | (rw [if_neg (fun h=>by have:=(ones_iff _).1 h;omega)];rfl)
  | cons b r =>
   have h1:(2:Int)<=(s.size:Int):=by simp at hll;omega
   have hm:Lx.mark (a :: b :: r)=if Lx.two a b then 2 else if Lx.ones.contains a then 1 else 0:=rfl
   have t1:=two_lit s a b r hl 58 45
   have t2:=two_lit s a b r hl 33 61
   have t3:=two_lit s a b r hl 60 61
   have t4:=two_lit s a b r hl 62 61
   have h2:Lx.two a b=((a == 58 && b == 45) || ((a == 33 && b == 61) || ((a == 60 && b == 61) || (a == 62 && b == 61)))):=rfl
   rw [show UInt8.toNat 58=58 from rfl,show UInt8.toNat 45=45 from rfl] at t1
   rw [show UInt8.toNat 33=33 from rfl,show UInt8.toNat 61=61 from rfl] at t2
   rw [show UInt8.toNat 60=60 from rfl,show UInt8.toNat 61=61 from rfl] at t3
   rw [show UInt8.toNat 62=62 from rfl,show UInt8.toNat 61=61 from rfl] at t4
   generalize (a == 58 && b == 45)=b1 at *
   generalize (a == 33 && b == 61)=b2 at *
   generalize (a == 60 && b == 61)=b3 at *
   generalize (a == 62 && b == 61)=b4 at *
   have HM:=Lib.hid hm;have HC:=Lib.hid hc0;have H2:=Lib.hid h2
   clear hl hll hm hc0 h2
   by_cases hany:b1=true\/b2=true\/b3=true\/b4=true
   ·have e:Hid (Lx.mark (a :: b :: r)=2):=Hxq (by rw [HM.out,H2.out,if_pos];rcases hany with h | h | h | h <;> simp [h])
    have hcs:b1=true\/(b1=false/\b2=true)\/(b1=false/\b2=false/\b3=true)\/(b1=false/\b2=false/\b3=false/\b4=true):=by
     cases b1 <;> cases b2 <;> cases b3 <;> cases b4 <;> simp_all
    clear hany H2 HM
    rcases hcs with rfl | ⟨rfl,rfl⟩ | ⟨rfl,rfl,rfl⟩ | ⟨rfl,rfl,rfl,rfl⟩
    all_goals
     go_enter Tryz.func154,Tryz.ntmps154
     go_wp2_with fail
     go_ret
     exact ⟨by rw [e.out];rfl,rfl⟩
   ·have e:Hid (Lx.mark (a :: b :: r)=if Lx.ones.contains a then 1 else 0):=Hxq (by
     rw [HM.out,H2.out,if_neg]
     intro h
     apply hany
     simpa [Bool.or_eq_true] using h)
    have hcs:b1=false/\b2=false/\b3=false/\b4=false:=by
     cases b1 <;> cases b2 <;> cases b3 <;> cases b4 <;> simp_all
    clear hany H2 HM
    obtain ⟨rfl,rfl,rfl,rfl⟩:=hcs
    go_enter Tryz.func154,Tryz.ntmps154
    go_wp2_with fail
    all_goals go_ret
    all_goals refine ⟨ret_int ?_,rfl⟩
    all_goals rw [e.out,<-HC.out]
    all_goals simp only [beq_iff_eq,beq_eq_false_iff_ne,ne_eq] at *
    all_goals first
     | (rw [if_pos ((ones_iff _).2 (by omega))];rfl)
     | (rw [if_neg (fun h=>by have:=(ones_iff _).1 h;omega)];rfl)
def partV (l:List Nat):Nat × Nat :=
  match l with
  | []=>(0,0)
  | c :: r=>if c=34\/c=10 then (0,0) else if c=92 then (match Lx.esc r with | none=>(0,0) | some (b,m)=>(b,m+1)) else (c,1)
theorem tests {x c:Nat} (h:x=c):(∀ k:Nat,c=k->(x:Int)=(k:Int))/\(∀ k:Nat,c≠k->(¬ (x:Int)=(k:Int))/\((x:Int) == (k:Int))=false/\((x:Int) != (k:Int))=true):=by
  subst h
  refine ⟨fun k h=>by rw [h],fun k h=>⟨by omega,by rw [beq_eq_false_iff_ne];omega,by rw [bne_iff_ne];omega⟩⟩
def Part (l:List Nat) (w:World) (e:Ending) (w':World):Prop :=
  e=.returned (.tuple #[.int .u8 ((partV l).1:Nat),.int .i64 ((partV l).2:Nat)])/\w=w'
set_option maxHeartbeats 2000000 in
theorem rPart_any (s:ByteArray) (hs:s.size<=9223372036854775807) (w:World) :
    Calls Tryz.prog 165 #[.string s] w (Part (Cod.str s) w):=by
  have hll:=Cod.str_len s
  have hlt:=Cod.str_lt s
  cases hl:Cod.str s with
  | nil =>
    rw [hl] at hll
    have h0:(s.size:Int)=0:=by simp at hll;omega
    have h0B:((s.size:Int) == 0)=true:=by rw [beq_iff_eq];exact h0
    clear hll hl hlt h0
    go_enter Tryz.func165,Tryz.ntmps165
    go_wp2_with fail
    go_ret2
    exact ⟨rfl,rfl⟩
  | cons c r =>
    rw [hl] at hll
    have h0:0<s.size:=by rw [<-hll];simp
    have hzB:((s.size:Int) == 0)=false:=by rw [beq_eq_false_iff_ne];omega
    have hz:¬ (s.size:Int)=0:=by omega
    have hc0:s[0].toNat=c:=by rw [<-Lx.get_str s 0 h0,hl];rfl
    obtain ⟨hp,hn⟩:=tests hc0
    by_cases h34:c=34
    · have e:Hid (partV (c :: r)=(0,0)):=Hxq (by simp [partV,h34])
      have p:=hp 34 h34
      clear hll hl hlt hp hn hc0 h34
      go_enter Tryz.func165,Tryz.ntmps165
      go_wp2_with fail
      go_ret2
      exact ⟨by rw [e.out];rfl,rfl⟩
    · obtain ⟨a34,b34,d34⟩:=hn 34 h34
      by_cases h10:c=10
      · have e:Hid (partV (c :: r)=(0,0)):=Hxq (by simp [partV,h10])
        have p:=hp 10 h10
        clear hll hl hlt hp hn hc0 h34 h10
        go_enter Tryz.func165,Tryz.ntmps165
        go_wp2_with fail
        go_ret2
        exact ⟨by rw [e.out];rfl,rfl⟩
      · obtain ⟨a10,b10,d10⟩:=hn 10 h10
        by_cases h92:c=92
        · have p:=hp 92 h92
          subst h92
          cases r with
          | nil =>
            have e:Hid (partV [92]=(0,0)):=Lib.hid rfl
            have h1:(s.size:Int)<2:=by simp at hll;omega
            clear hll hl hlt hp hn hc0 h34 h10 a34 b34 d34 a10 b10 d10
            go_enter Tryz.func165,Tryz.ntmps165
            go_wp2_with fail
            go_ret2
            exact ⟨by rw [e.out];rfl,rfl⟩
          | cons d r =>
            have h1:1<s.size:=by rw [<-hll];simp
            have h1I:(2:Int)<=(s.size:Int):=by omega
            have hd0:s[1].toNat=d:=by rw [<-Lx.get_str s 1 h1,hl];rfl
            obtain ⟨hp1,hn1⟩:=tests hd0
            have hE:partV (92 :: d :: r)=match Lx.esc (d :: r) with | none=>(0,0) | some (b,m)=>(b,m+1):=rfl
            clear hp hn h34 h10 a34 b34 d34 a10 b10 d10
            by_cases k34:d=34
            · have e:Hid (partV (92 :: d :: r)=(34,2)):=Hxq (by rw [hE,k34];rfl)
              have p1:=hp1 34 k34
              clear hll hl hlt hp1 hn1 hc0 hd0 k34 hE
              go_enter Tryz.func165,Tryz.ntmps165
              go_wp2_with fail
              go_ret2
              exact ⟨by rw [e.out];rfl,rfl⟩
            · obtain ⟨a34,b34,d34⟩:=hn1 34 k34
              by_cases k92:d=92
              · have e:Hid (partV (92 :: d :: r)=(92,2)):=Hxq (by rw [hE,k92];rfl)
                have p1:=hp1 92 k92
                clear hll hl hlt hp1 hn1 hc0 hd0 k34 k92 hE
                go_enter Tryz.func165,Tryz.ntmps165
                go_wp2_with fail
                go_ret2
                exact ⟨by rw [e.out];rfl,rfl⟩
              · obtain ⟨a92,b92,d92⟩:=hn1 92 k92
                by_cases k110:d=110
                · have e:Hid (partV (92 :: d :: r)=(10,2)):=Hxq (by rw [hE,k110];rfl)
                  have p1:=hp1 110 k110
                  clear hll hl hlt hp1 hn1 hc0 hd0 k34 k92 k110 hE
                  go_enter Tryz.func165,Tryz.ntmps165
                  go_wp2_with fail
                  go_ret2
                  exact ⟨by rw [e.out];rfl,rfl⟩
                · obtain ⟨a110,b110,d110⟩:=hn1 110 k110
                  by_cases k120:d=120
                  · have p1:=hp1 120 k120
                    subst k120
                    rcases r with _ | ⟨x,_ | ⟨y,r⟩⟩
                    · have e:Hid (partV [92,120]=(0,0)):=Lib.hid rfl
                      have h4:(s.size:Int)<4:=by simp at hll;omega
                      clear hll hl hlt hp1 hn1 hc0 hd0 k34 k92 k110 hE a34 b34 d34 a92 b92 d92 a110 b110 d110
                      go_enter Tryz.func165,Tryz.ntmps165
                      go_wp2_with fail
                      go_ret2
                      exact ⟨by rw [e.out];rfl,rfl⟩
                    · have e:Hid (partV [92,120,x]=(0,0)):=Lib.hid rfl
                      have h4:(s.size:Int)<4:=by simp at hll;omega
                      clear hll hl hlt hp1 hn1 hc0 hd0 k34 k92 k110 hE a34 b34 d34 a92 b92 d92 a110 b110 d110
                      go_enter Tryz.func165,Tryz.ntmps165
                      go_wp2_with fail
                      go_ret2
                      exact ⟨by rw [e.out];rfl,rfl⟩
                    · have h4:(4:Int)<=(s.size:Int):=by simp at hll;omega
                      have h2':2<s.size:=by omega
                      have h3':3<s.size:=by omega
                      have hx0:s[2].toNat=x:=by rw [<-Lx.get_str s 2 h2',hl];rfl
                      have hy0:s[3].toNat=y:=by rw [<-Lx.get_str s 3 h3',hl];rfl
                      have kx:=fun w=>rHex_any x (hlt x (by rw [hl];simp)) w
                      have ky:=fun w=>rHex_any y (hlt y (by rw [hl];simp)) w
                      have hE2:Lx.esc (120 :: x :: y :: r)=match Lx.hexv x,Lx.hexv y with | some u,some v=>some (16 * u+v,3) | _,_=>none:=rfl
                      rw [<-hx0] at kx
                      rw [<-hy0] at ky
                      cases hvx:Lx.hexv x with
                      | none =>
                        rw [hx0,hvx] at kx
                        rw [<-hx0] at kx
                        have e:Hid (partV (92 :: 120 :: x :: y :: r)=(0,0)):=Hxq (by rw [hE,hE2,hvx])
                        have KX:=Lib.hid kx;have KY:=Lib.hid ky
                        clear hll hl hlt hp1 hn1 hc0 hd0 k34 k92 k110 hE a34 b34 d34 a92 b92 d92 a110 b110 d110 kx ky hx0 hy0 hE2 hvx
                        go_enter Tryz.func165,Tryz.ntmps165
                        go_wp2_with fail
                        refine (KX.out _).mono ?_
                        rintro e2 w2 ⟨rfl,rfl⟩
                        go_wp2_with fail
                        refine (KY.out _).mono ?_
                        rintro e2 w2 ⟨rfl,rfl⟩
                        unfold hexZ
                        go_wp2_with fail
                        all_goals go_ret2
                        all_goals exact ⟨by rw [e.out];rfl,rfl⟩
                      | some u =>
                        have hu:=Lx.hexv_lt hvx
                        rw [hx0,hvx] at kx
                        rw [<-hx0] at kx
                        cases hvy:Lx.hexv y with
                        | none =>
                          rw [hy0,hvy] at ky
                          rw [<-hy0] at ky
                          have e:Hid (partV (92 :: 120 :: x :: y :: r)=(0,0)):=Hxq (by rw [hE,hE2,hvx,hvy])
                          have KX:=Lib.hid kx;have KY:=Lib.hid ky
                          clear hll hl hlt hp1 hn1 hc0 hd0 k34 k92 k110 hE a34 b34 d34 a92 b92 d92 a110 b110 d110 kx ky hx0 hy0 hE2 hvx hvy
                          go_enter Tryz.func165,Tryz.ntmps165
                          go_wp2_with fail
                          refine (KX.out _).mono ?_
                          rintro e2 w2 ⟨rfl,rfl⟩
                          go_wp2_with fail
                          refine (KY.out _).mono ?_
                          rintro e2 w2 ⟨rfl,rfl⟩
                          unfold hexZ
                          go_wp2_with fail
                          go_ret2
                          exact ⟨by rw [e.out];rfl,rfl⟩
                        | some v =>
                          have hv:=Lx.hexv_lt hvy
                          rw [hy0,hvy] at ky
                          rw [<-hy0] at ky
                          have e:Hid (partV (92 :: 120 :: x :: y :: r)=(16 * u+v,4)):=Hxq (by rw [hE,hE2,hvx,hvy])
                          have KX:=Lib.hid kx;have KY:=Lib.hid ky
                          clear hll hl hlt hp1 hn1 hc0 hd0 k34 k92 k110 hE a34 b34 d34 a92 b92 d92 a110 b110 d110 kx ky hx0 hy0 hE2 hvx hvy
                          go_enter Tryz.func165,Tryz.ntmps165
                          go_wp2_with fail
                          refine (KX.out _).mono ?_
                          rintro e2 w2 ⟨rfl,rfl⟩
                          go_wp2_with fail
                          refine (KY.out _).mono ?_
                          rintro e2 w2 ⟨rfl,rfl⟩
                          unfold hexZ
                          go_wp2_with fail
                          go_ret2
                          exact ⟨by rw [e.out];go_num,rfl⟩
                  · obtain ⟨a120,b120,d120⟩:=hn1 120 k120
                    have e:Hid (partV (92 :: d :: r)=(0,0)):=Hxq (by rw [hE];simp [Lx.esc,k34,k92,k110,k120])
                    clear hll hl hlt hp1 hn1 hc0 hd0 k34 k92 k110 k120 hE
                    go_enter Tryz.func165,Tryz.ntmps165
                    go_wp2_with fail
                    all_goals first
                      | (go_ret2;exact ⟨by rw [e.out];rfl,rfl⟩)
                      | (exfalso;have hh:((s[1].toNat:Int) == 34)=true\/((s[1].toNat:Int) == 92)=true:=by assumption
                         rcases hh with hh | hh
                         · exact absurd (hh.symm.trans b34) (by decide)
                         · exact absurd (hh.symm.trans b92) (by decide))
        · obtain ⟨a92,b92,d92⟩:=hn 92 h92
          have e:Hid (partV (c :: r)=(c,1)):=Hxq (by simp [partV,h34,h10,h92])
          have HC:=Lib.hid hc0
          clear hll hl hlt hp hn hc0 h34 h10 h92
          go_enter Tryz.func165,Tryz.ntmps165
          go_wp2_with fail
          all_goals first
            | (go_ret2;exact ⟨by rw [e.out,<-HC.out];rfl,rfl⟩)
            | (exfalso;have hh:((s[0].toNat:Int) == 34)=true\/((s[0].toNat:Int) == 10)=true:=by assumption
               rcases hh with hh | hh
               · exact absurd (hh.symm.trans b34) (by decide)
               · exact absurd (hh.symm.trans b10) (by decide))
end Go.Proofs.YtppigckioalhhaaGreatDoorR
