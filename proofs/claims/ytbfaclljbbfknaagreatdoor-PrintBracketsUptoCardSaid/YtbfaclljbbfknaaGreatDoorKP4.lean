/- THE TEXTS MERGED: LxNum LxWord. -/
import Derived.Test.YtbfaclljbbfknaaGreatDoorKP3
import Derived.Lib.AtoiAll
namespace Go.Proofs.YtbfaclljbbfknaaGreatDoor
open Go.RowKit
set_option linter.unusedVariables false
set_option linter.unusedSimpArgs false
set_option maxRecDepth 100000
theorem parse_digits:∀ (l:List UInt8) (acc:Nat),(∀ c∈l,Lx.digit c.toNat=true) ->
  ((l.map UInt8.toNat).foldl (fun a c=>10 * a+(c - 48)) acc<18446744073709551616->Lib.parseUint10 acc l=.ok ((l.map UInt8.toNat).foldl (fun a c=>10 * a+(c - 48)) acc)) /\
  (18446744073709551616<=(l.map UInt8.toNat).foldl (fun a c=>10 * a+(c - 48)) acc->acc<18446744073709551616->Lib.parseUint10 acc l=.range) /\
  acc<=(l.map UInt8.toNat).foldl (fun a c=>10 * a+(c - 48)) acc
 | [],acc,_=>by
  refine ⟨fun _=>rfl,fun h1 h2=>?_,Nat.le_refl _⟩
  simp only [List.map_nil,List.foldl_nil] at h1
  omega
 | c :: r,acc,h=>by
  have hc:=h c (by simp)
  have ih:=parse_digits r (10 * acc+(c.toNat - 48)) (fun x hx=>h x (by simp [hx]))
  simp only [Lx.digit,Bool.and_eq_true,decide_eq_true_eq] at hc
  simp only [List.map_cons,List.foldl_cons]
  generalize List.foldl (fun a c=>10 * a+(c - 48)) (10 * acc+(c.toNat - 48)) (List.map UInt8.toNat r)=v at *
  obtain ⟨h1,h2,h3⟩:=ih
  have e:acc * 10+(c.toNat - 48)=10 * acc+(c.toNat - 48):=by omega
  refine ⟨fun hv=>?_,fun hv ha=>?_,by omega⟩
  ·rw [Lib.parseUint10,if_pos hc,if_neg (by omega),e,if_neg (by omega)]
   exact h1 hv
  ·rw [Lib.parseUint10,if_pos hc]
   split
   ·rfl
   ·rw [e]
    split
    ·rfl
    ·exact h2 hv (by omega)
theorem atoi_digits (l:List UInt8) (h0:l≠[]) (h:∀ c∈l,Lx.digit c.toNat=true) :
  (Lx.numv (l.map UInt8.toNat)<9223372036854775808->Lib.atoiAll l=.ok (Lx.numv (l.map UInt8.toNat):Nat)) /\
  (9223372036854775808<=Lx.numv (l.map UInt8.toNat)->Lib.atoiAll l=.range):=by
 have hp:=parse_digits l 0 h
 have hv:(l.map UInt8.toNat).foldl (fun a c=>10 * a+(c - 48)) 0=Lx.numv (l.map UInt8.toNat):=rfl
 rw [hv] at hp
 generalize Lx.numv (l.map UInt8.toNat)=v at *
 cases l with
 | nil=>simp at h0
 | cons c r =>
  have hc:=h c (by simp)
  simp only [Lx.digit,Bool.and_eq_true,decide_eq_true_eq] at hc
  have hs:¬ (c.toNat=43\/c.toNat=45):=by omega
  have hn:¬ c.toNat=45:=by omega
  have hm:Lib.parseMag (c :: r)=Lib.parseUint10 0 (c :: r):=by simp [Lib.parseMag]
  refine ⟨fun h1=>?_,fun h1=>?_⟩
  ·simp only [Lib.atoiAll,if_neg hs,hm,hp.1 (by omega)]
   rw [if_neg (by simp [hn];omega),if_neg (by simp [hn]),if_neg hn]
  ·rcases Nat.lt_or_ge v 18446744073709551616 with h2 | h2
   ·simp only [Lib.atoiAll,if_neg hs,hm,hp.1 h2]
    rw [if_pos ⟨hn,h1⟩]
   ·simp only [Lib.atoiAll,if_neg hs,hm,hp.2.1 h2 (by omega)]
def numR (l:List Nat):Lx.Rw :=
 if (1<Lx.run Lx.digit l/\l.headD 0=48)\/2147483647<Lx.numv (l.take (Lx.run Lx.digit l))\/Lx.run Lx.digit l<Lx.run Lx.goes l then .bad 31
 else .ok ⟨3,Lx.run Lx.digit l,1,Lx.numv (l.take (Lx.run Lx.digit l)),[]⟩
theorem run_all (p:Nat->Bool) (l:List Nat):∀ c∈l.take (Lx.run p l),p c=true:=by
 induction l with
 | nil=>simp
 | cons c r ih =>
  rw [Lx.run_cons]
  by_cases h:p c=true
  ·rw [if_pos h,List.take_succ_cons]
   intro x hx
   rcases List.mem_cons.1 hx with rfl | hx
   ·exact h
   ·exact ih x hx
  ·rw [if_neg h];simp
/-- strconv.Atoi of digits -/
theorem atoi_any (s:ByteArray) (hs:s.size<=65536) (h0:0<s.size) (hd:∀ c∈Cod.str s,Lx.digit c=true) (w:World) (hG:Glob w) :
  Calls Tryz.prog 102 #[.string s] w fun e w'=>((Lx.numv (Cod.str s)<9223372036854775808/\e=.returned (.tuple #[.int .i64 (Lx.numv (Cod.str s):Nat),.nilIface])) \/
   (9223372036854775808<=Lx.numv (Cod.str s)/\∃ n ty v,e=.returned (.tuple #[.int .i64 n,.iface ty v])))/\Mod [] w w':=by
 have hat:=atoi_digits s.data.toList (by
  intro h
  have:=congrArg List.length h
  rw [Array.length_toList] at this
  have e:s.data.size=s.size:=rfl
  rw [e] at this;simp only [List.length_nil] at this;omega) (fun c hc=>hd _ (List.mem_map.2 ⟨c,hc,rfl⟩))
 have e:s.data.toList.map UInt8.toNat=Cod.str s:=rfl
 rw [e] at hat
 rcases Nat.lt_or_ge (Lx.numv (Cod.str s)) 9223372036854775808 with hv | hv
 ·refine (Tryz.strconv_Atoi_ok s (by omega) _ (hat.1 hv) w).mono ?_
  rintro e w' ⟨rfl,hw⟩
  refine ⟨.inl ⟨hv,rfl⟩,?_⟩
  rcases hw with rfl | ⟨t,rfl⟩
  ·exact Mod.refl _ _
  ·exact Mod.of_below (Lib.bytesWorld_below _ _ _)
 ·obtain ⟨tp,p,T,fr,hr⟩:=hG.rng
  refine (Tryz.strconv_Atoi_range_var s (by omega) (hat.2 hv) tp p w (by
   have hg : Tryz.prog.globalNamed "strconv.ErrRange" = some 4 := by kernel_rfl
   simp [World.var?,hg,hr])).mono ?_
  rintro e w' ⟨N,rfl,-,-,hb⟩
  exact ⟨.inr ⟨hv,_,_,_,rfl⟩,Mod.of_below hb⟩
set_option maxHeartbeats 2000000 in
theorem number_any (s:ByteArray) (hs:s.size<=65536) (h0:0<s.size) (hd0:Lx.digit ((Cod.str s).headD 0)=true) (w:World) (hG:Glob w) :
  Calls Tryz.prog 95 #[.string s] w fun e w'=>e=.returned (rwV (Cod.str s) (numR (Cod.str s)))/\Mod [] w w':=by
 have hlb:=Cod.str_lt s
 have hsz:=Cod.str_len s
 have hc0:s[0].toNat=(Cod.str s).headD 0:=by
  rw [<-Lx.get_str s 0 h0]
  cases Cod.str s <;> rfl
 have hnd:1<=Lx.run Lx.digit (Cod.str s):=Lx.run_pos (by intro h;rw [h] at hsz;simp at hsz;omega) hd0
 have hnl:=Lx.run_le Lx.digit (Cod.str s)
 have hex:=extract_take s (Lx.run Lx.digit (Cod.str s))
 have hstr:Cod.str (s.extract 0 (Lx.run Lx.digit (Cod.str s)))=(Cod.str s).take (Lx.run Lx.digit (Cod.str s)):=by rw [Lx.str_extract];simp
 have hat:=fun w hG=>atoi_any (s.extract 0 (Lx.run Lx.digit (Cod.str s))) (by rw [ByteArray.size_extract];omega) (by rw [ByteArray.size_extract];omega) (by rw [hstr];exact run_all _ _) w hG
 rw [hstr] at hat
 have hdg:=len_digit s (by omega)
 have hrs:=len_rest s (by omega)
 have hR:numR (Cod.str s)=if (1<Lx.run Lx.digit (Cod.str s)/\(Cod.str s).headD 0=48)\/2147483647<Lx.numv ((Cod.str s).take (Lx.run Lx.digit (Cod.str s)))\/Lx.run Lx.digit (Cod.str s)<Lx.run Lx.goes (Cod.str s) then .bad 31
   else .ok ⟨3,Lx.run Lx.digit (Cod.str s),1,Lx.numv ((Cod.str s).take (Lx.run Lx.digit (Cod.str s))),[]⟩:=rfl
 have hgl:=Lx.run_le Lx.goes (Cod.str s)
 rw [hsz] at hgl hnl
 have hF:Hid (∀ n' v',rwV (Cod.str s) (.ok ⟨3,n',1,v',[]⟩)=.tuple #[.agg #[.int .i64 3,.string (Lx.ofS ((Cod.str s).take n')),.int .i64 1,.int .i64 (v':Nat),.string ⟨#[]⟩,.int .i64 0,.int .i64 0],.int .i64 0]):=Hxq (fun _ _=>rfl)
 generalize Lx.numv ((Cod.str s).take (Lx.run Lx.digit (Cod.str s)))=v at *
 generalize hn:Lx.run Lx.digit (Cod.str s)=n at *
 generalize Lx.run Lx.goes (Cod.str s)=m at *
 generalize (Cod.str s).headD 0=c at *
 have HAT:=Lib.hid hat;have HDG:=Lib.hid hdg;have HRS:=Lib.hid hrs;have HEX:=Lib.hid hex;have HR:=Lib.hid hR;have HC:=Lib.hid hc0
 clear hat hdg hrs hex hR hn hstr hlb hsz hd0 hc0
 have hB0:(w.alloc (Obj.cells (tokC zeroT) 93)).heap[w.heap.size]?=some (.cells (tokC zeroT) 93 (0,0)):=heap_alloc_new w _
 have hm0:Mod [] w (w.alloc (Obj.cells (tokC zeroT) 93)):=(Mod.refl [] w).alloc _
 have hz:(w.alloc (Obj.cells (tokC zeroT) 93))=w.alloc (Obj.cells #[Value.int IntKind.i64 0,Value.string ⟨#[]⟩,Value.int IntKind.i64 0,Value.int IntKind.i64 0,Value.string ⟨#[]⟩,Value.int IntKind.i64 0,Value.int IntKind.i64 0] 93):=rfl
 rw [hz] at hB0 hm0
 have HB:=Lib.hid hB0;have HM:=Lib.hid hm0
 clear hz hB0 hm0
 go_enter Tryz.func95,Tryz.ntmps95
 go_wp2_with fail
 refine (HDG.out _).mono ?_
 rintro e w2 ⟨rfl,hm2⟩
 have hB2:=hm2.at HB.out (by simp)
 have hm2':=HM.out.trans hm2 (by simp)
 have hG2:=hG.past hm2' (by simp)
 clear hm2
 go_wp2_with fail
 refine (HAT.out _ hG2).mono ?_
 rintro e w3 ⟨hres,hm3⟩
 have hB3:=hm3.at hB2 (by simp)
 have hm3':=hm2'.trans hm3 (by simp)
 obtain ⟨q0,q1,q2,q3,q4,q5,q6⟩:=tok_cells hB3
 have fz:∀ j,w3.frozen? ⟨w.heap.size,j,none⟩=false:=fun j=>by simp [World.frozen?,hB3]
 clear hm3 hm2' hB2 hG2
 rcases hres with ⟨hv,rfl⟩ | ⟨hv,x,ty,y,rfl⟩
 ·by_cases hmax:2147483647<v
  ·have e:Hid (numR (Cod.str s)=.bad 31):=Hxq (by rw [HR.out,if_pos (.inr (.inl hmax))])
   have hmI:(2147483647:Int)<(v:Int):=by omega
   clear hv hmax
   go_wp2_with fail
   exact bodyPost_ret (res_tok rfl _ _ _ _ _ _ _ rfl rfl (store_tok hB3 _ _ _ _ _ _ _) rfl) rfl ⟨by rw [e.out];rfl,mod_tok hm3' (.inr (Nat.le_refl _)) _ _ _ _ _ _ _⟩
  ·have hmI:(v:Int)<=2147483647:=by omega
   have hend:∀ (w4:World),Mod [] w3 w4->∀ j,w4.frozen? ⟨w.heap.size,j,none⟩=false:=fun w4 hm j=>by
    have:=hm.at hB3 (by simp)
    simp [World.frozen?,this]
   have HEND:=Lib.hid hend
   clear hend hv
   by_cases hn1:1<n
   ·have hn1I:(1:Int)<(n:Int):=by omega
    by_cases hc:c=48
    ·have e:Hid (numR (Cod.str s)=.bad 31):=Hxq (by rw [HR.out,if_pos (.inl ⟨hn1,hc⟩)])
     have hcI:(s[0].toNat:Int)=48:=by rw [HC.out,hc];rfl
     clear hc hmax
     go_wp2_with fail
     exact bodyPost_ret (res_tok rfl _ _ _ _ _ _ _ rfl rfl (store_tok hB3 _ _ _ _ _ _ _) rfl) rfl ⟨by rw [e.out];rfl,mod_tok hm3' (.inr (Nat.le_refl _)) _ _ _ _ _ _ _⟩
    ·have hcI:¬ (s[0].toNat:Int)=48:=by rw [HC.out];omega
     have hcB:((s[0].toNat:Int) == 48)=false:=by rw [beq_eq_false_iff_ne];exact hcI
     by_cases hmn:n<m
     ·have e:Hid (numR (Cod.str s)=.bad 31):=Hxq (by rw [HR.out,if_pos (.inr (.inr hmn))])
      have hmnI:(n:Int)<(m:Int):=by omega
      clear hmn hmax
      go_wp2_with fail
      refine (HRS.out _).mono ?_
      rintro e4 w4 ⟨rfl,hm4⟩
      have hB4:=hm4.at hB3 (by simp)
      have fz4:=HEND.out w4 hm4
      have hm4':=hm3'.trans hm4 (by simp)
      obtain ⟨q0,q1,q2,q3,q4,q5,q6⟩:=tok_cells hB4
      clear hm4
      go_wp2_with fail
      exact bodyPost_ret (res_tok rfl _ _ _ _ _ _ _ rfl rfl (store_tok hB4 _ _ _ _ _ _ _) rfl) rfl ⟨by rw [e.out];rfl,mod_tok hm4' (.inr (Nat.le_refl _)) _ _ _ _ _ _ _⟩
     ·have e:Hid (numR (Cod.str s)=.ok ⟨3,n,1,v,[]⟩):=Hxq (by rw [HR.out,if_neg (by rintro (h | h | h);exact hc h.2;exact hmax h;exact hmn h)])
      have hmnI:(m:Int)<=(n:Int):=by omega
      have hnI:(n:Int)<=(s.size:Int):=by omega
      clear hmn hmax
      go_wp2_with fail
      refine (HRS.out _).mono ?_
      rintro e4 w4 ⟨rfl,hm4⟩
      have hB4:=hm4.at hB3 (by simp)
      have fz4:=HEND.out w4 hm4
      have hm4':=hm3'.trans hm4 (by simp)
      obtain ⟨q0,q1,q2,q3,q4,q5,q6⟩:=tok_cells hB4
      clear hm4
      go_wp2_with fail
      rw [HEX.out]
      exact bodyPost_ret (res_tok rfl _ _ _ _ _ _ _ rfl rfl (store_tok hB4 _ _ _ _ _ _ _) rfl) rfl ⟨by rw [e.out,hF.out];rfl,mod_tok hm4' (.inr (Nat.le_refl _)) _ _ _ _ _ _ _⟩
   ·have hn1I:(n:Int)<=1:=by omega
    by_cases hmn:n<m
    ·have e:Hid (numR (Cod.str s)=.bad 31):=Hxq (by rw [HR.out,if_pos (.inr (.inr hmn))])
     have hmnI:(n:Int)<(m:Int):=by omega
     clear hmn hmax
     go_wp2_with fail
     refine (HRS.out _).mono ?_
     rintro e4 w4 ⟨rfl,hm4⟩
     have hB4:=hm4.at hB3 (by simp)
     have fz4:=HEND.out w4 hm4
     have hm4':=hm3'.trans hm4 (by simp)
     obtain ⟨q0,q1,q2,q3,q4,q5,q6⟩:=tok_cells hB4
     clear hm4
     go_wp2_with fail
     exact bodyPost_ret (res_tok rfl _ _ _ _ _ _ _ rfl rfl (store_tok hB4 _ _ _ _ _ _ _) rfl) rfl ⟨by rw [e.out];rfl,mod_tok hm4' (.inr (Nat.le_refl _)) _ _ _ _ _ _ _⟩
    ·have e:Hid (numR (Cod.str s)=.ok ⟨3,n,1,v,[]⟩):=Hxq (by rw [HR.out,if_neg (by rintro (h | h | h);exact hn1 h.1;exact hmax h;exact hmn h)])
     have hmnI:(m:Int)<=(n:Int):=by omega
     have hnI:(n:Int)<=(s.size:Int):=by omega
     clear hmn hmax
     go_wp2_with fail
     refine (HRS.out _).mono ?_
     rintro e4 w4 ⟨rfl,hm4⟩
     have hB4:=hm4.at hB3 (by simp)
     have fz4:=HEND.out w4 hm4
     have hm4':=hm3'.trans hm4 (by simp)
     obtain ⟨q0,q1,q2,q3,q4,q5,q6⟩:=tok_cells hB4
     clear hm4
     go_wp2_with fail
     rw [HEX.out]
     exact bodyPost_ret (res_tok rfl _ _ _ _ _ _ _ rfl rfl (store_tok hB4 _ _ _ _ _ _ _) rfl) rfl ⟨by rw [e.out,hF.out];rfl,mod_tok hm4' (.inr (Nat.le_refl _)) _ _ _ _ _ _ _⟩
 ·have e:Hid (numR (Cod.str s)=.bad 31):=Hxq (by rw [HR.out,if_pos (.inr (.inl (by omega)))])
  clear hv
  go_wp2_with fail
  exact bodyPost_ret (res_tok rfl _ _ _ _ _ _ _ rfl rfl (store_tok hB3 _ _ _ _ _ _ _) rfl) rfl ⟨by rw [e.out];rfl,mod_tok hm3' (.inr (Nat.le_refl _)) _ _ _ _ _ _ _⟩
theorem find_ones (a:Nat) (t:List Nat):∀ xs:List Nat,(xs.map fun x=>[x]).find? (fun m=>m.isPrefixOf (a :: t))=if xs.contains a then some [a] else none
 | []=>by simp
 | x :: r=>by
  rw [List.map_cons,List.find?_cons]
  by_cases h:x=a
  ·subst h;simp [List.isPrefixOf]
  ·have:([x]:List Nat).isPrefixOf (a :: t)=false:=by simp [List.isPrefixOf,h]
   rw [this,find_ones a t r]
   have h2:(x :: r).contains a=r.contains a:=by
    rw [List.contains_cons]
    simp [Ne.symm h]
   rw [h2]
theorem mark_split:markL=[[58,45],[33,61],[60,61],[62,61]]++Lx.ones.map fun x=>[x]:=rfl
theorem find_mark (l:List Nat):markL.find? (fun m=>m.isPrefixOf l)=if Lx.mark l=0 then none else some (l.take (Lx.mark l)):=by
 rw [mark_split,List.find?_append]
 match l with
 | []=>simp [List.isPrefixOf,Lx.mark,Lx.ones]
 | [a] =>
  rw [find_ones]
  have hm:Lx.mark [a]=if Lx.ones.contains a then 1 else 0:=rfl
  have:[[58,45],[33,61],[60,61],[62,61]].find? (fun m=>m.isPrefixOf [a])=none:=by simp [List.isPrefixOf]
  rw [this]
  by_cases h:Lx.ones.contains a=true
  ·rw [if_pos h] at hm ⊢;rw [hm];simp
  ·rw [if_neg h] at hm ⊢;rw [hm];simp
 | a :: b :: r =>
  rw [find_ones]
  have hm:Lx.mark (a :: b :: r)=if Lx.two a b then 2 else if Lx.ones.contains a then 1 else 0:=rfl
  have:[[58,45],[33,61],[60,61],[62,61]].find? (fun m=>m.isPrefixOf (a :: b :: r))=if Lx.two a b then some [a,b] else none:=by
   simp only [List.find?_cons,List.isPrefixOf,List.find?_nil,Bool.and_true,Lx.two]
   by_cases h1:a=58
   ·subst h1;by_cases h5:b=45
    ·subst h5;rfl
    ·have g:(45 == b)=false:=beq_eq_false_iff_ne.2 (Ne.symm h5)
     simp [g,h5]
   ·by_cases h2:a=33
    ·subst h2;by_cases h5:b=61
     ·subst h5;rfl
     ·have g:(61 == b)=false:=beq_eq_false_iff_ne.2 (Ne.symm h5)
      simp [g,h5]
    ·by_cases h3:a=60
     ·subst h3;by_cases h5:b=61
      ·subst h5;rfl
      ·have g:(61 == b)=false:=beq_eq_false_iff_ne.2 (Ne.symm h5)
       simp [g,h5]
     ·by_cases h4:a=62
      ·subst h4;by_cases h5:b=61
       ·subst h5;rfl
       ·have g:(61 == b)=false:=beq_eq_false_iff_ne.2 (Ne.symm h5)
        simp [g,h5]
      ·have g1:(58 == a)=false:=beq_eq_false_iff_ne.2 (Ne.symm h1)
       have g2:(33 == a)=false:=beq_eq_false_iff_ne.2 (Ne.symm h2)
       have g3:(60 == a)=false:=beq_eq_false_iff_ne.2 (Ne.symm h3)
       have g4:(62 == a)=false:=beq_eq_false_iff_ne.2 (Ne.symm h4)
       simp [g1,g2,g3,g4,h1,h2,h3,h4]
  rw [this]
  by_cases h:Lx.two a b=true
  ·rw [if_pos h] at hm ⊢;rw [hm];simp
  ·rw [if_neg h] at hm ⊢
   by_cases h:Lx.ones.contains a=true
   ·rw [if_pos h] at hm ⊢;rw [hm];simp
   ·rw [if_neg h] at hm ⊢;rw [hm];simp
theorem prefix_str (s p:ByteArray):Lib.hasPrefix s.data.toList p.data.toList=(Cod.str p).isPrefixOf (Cod.str s):=by
 unfold Lib.hasPrefix Cod.str
 generalize s.data.toList=a
 generalize p.data.toList=b
 induction b generalizing a with
 | nil=>simp [List.isPrefixOf]
 | cons x r ih =>
  cases a with
  | nil=>simp [List.isPrefixOf]
  | cons y t =>
   simp only [List.isPrefixOf,List.map_cons,ih]
   congr 1
   rw [Bool.eq_iff_iff,beq_iff_eq,beq_iff_eq]
   exact ⟨fun h=>by rw [h],fun h=>UInt8.toNat_inj.1 h⟩
theorem mark_index (k:Nat) (hk:k<19) (w:World):(Instr.index 157 (.agg (markL.map fun l=>Value.string (Lx.ofS l)).toArray) (.int .i64 (k:Int))).run Tryz.prog w=.ok (.string (Lx.ofS (markL.getD k []))) w:=by
 have h:k=0\/k=1\/k=2\/k=3\/k=4\/k=5\/k=6\/k=7\/k=8\/k=9\/k=10\/k=11\/k=12\/k=13\/k=14\/k=15\/k=16\/k=17\/k=18:=by omega
 rcases h with rfl | rfl | rfl | rfl | rfl | rfl | rfl | rfl | rfl | rfl | rfl | rfl | rfl | rfl | rfl | rfl | rfl | rfl | rfl <;> rfl
theorem mark_lt (k:Nat):∀ c∈markL.getD k [],c<256:=by
 rcases Nat.lt_or_ge k 19 with h | h
 ·have:∀ k:Fin 19,∀ c∈markL.getD k.1 [],c<256:=by decide
  exact this ⟨k,h⟩
 ·have:markL.getD k []=[]:=by rw [List.getD_eq_getElem?_getD,List.getElem?_eq_none (by simpa [markL] using h)];rfl
  rw [this];simp
theorem small_nat (c:Nat):smallI (c:Int)=Lx.small c:=by unfold smallI Lx.small;rw [Bool.eq_iff_iff];simp;omega
theorem capital_nat (c:Nat):capitalI (c:Int)=Lx.capital c:=by unfold capitalI Lx.capital;rw [Bool.eq_iff_iff];simp;omega
theorem digit_nat (c:Nat):digitI (c:Int)=Lx.digit c:=by unfold digitI Lx.digit;rw [Bool.eq_iff_iff];simp;omega
def markR (l:List Nat):Lx.Rw:=if Lx.mark l=0 then .bad 30 else .ok ⟨5,Lx.mark l,0,0,[]⟩
theorem word_name {l:List Nat} (h:(Lx.small (l.headD 0) || Lx.capital (l.headD 0))=true):Lx.word l=if 32<Lx.run Lx.goes l then .bad 33 else .ok ⟨if Lx.capital (l.headD 0) then 2 else 1,Lx.run Lx.goes l,0,0,[]⟩:=by
 unfold Lx.word;rw [if_pos h]
theorem word_num {l:List Nat} (h:(Lx.small (l.headD 0) || Lx.capital (l.headD 0))=false) (hd:Lx.digit (l.headD 0)=true):Lx.word l=numR l:=by
 unfold Lx.word numR;rw [if_neg (by rw [h];decide),if_pos hd]
theorem word_quo {l:List Nat} (h:(Lx.small (l.headD 0) || Lx.capital (l.headD 0))=false) (hd:Lx.digit (l.headD 0)=false) (hq:l.headD 0=34):Lx.word l=quoR l:=by
 unfold Lx.word quoR;rw [if_neg (by rw [h];decide),if_neg (by rw [hd];decide),if_pos hq];cases Lx.quo l <;> rfl
theorem word_mark {l:List Nat} (h:(Lx.small (l.headD 0) || Lx.capital (l.headD 0))=false) (hd:Lx.digit (l.headD 0)=false) (hq:l.headD 0≠34):Lx.word l=markR l:=by
 unfold Lx.word markR;rw [if_neg (by rw [h];decide),if_neg (by rw [hd];decide),if_neg hq]
set_option maxHeartbeats 4000000 in
theorem word_any (s:ByteArray) (hs:s.size<=65536) (h0:0<s.size) (w:World) (hG:Glob w) :
  Calls Tryz.prog 73 #[.string s] w fun e w'=>e=.returned (rwV (Cod.str s) (Lx.word (Cod.str s)))/\Mod [] w w':=by
 have hsz:=Cod.str_len s
 have hc0:s[0].toNat=(Cod.str s).headD 0:=by
  rw [<-Lx.get_str s 0 h0]
  cases Cod.str s <;> rfl
 have hn0:Cod.str s≠[]:=by intro h;rw [h] at hsz;simp at hsz;omega
 have hB0:(w.alloc (Obj.cells (tokC zeroT) 93)).heap[w.heap.size]?=some (.cells (tokC zeroT) 93 (0,0)):=heap_alloc_new w _
 have hm0:Mod [] w (w.alloc (Obj.cells (tokC zeroT) 93)):=(Mod.refl [] w).alloc _
 have hz:(w.alloc (Obj.cells (tokC zeroT) 93))=w.alloc (Obj.cells #[Value.int IntKind.i64 0,Value.string ⟨#[]⟩,Value.int IntKind.i64 0,Value.int IntKind.i64 0,Value.string ⟨#[]⟩,Value.int IntKind.i64 0,Value.int IntKind.i64 0] 93):=rfl
 rw [hz] at hB0 hm0
 have HB:=Lib.hid hB0;have HM:=Lib.hid hm0
 clear hz hB0 hm0
 have hc256:=s[0].toNat_lt
 have hsm:∀ b,Lx.small ((Cod.str s).headD 0)=b->∀ w,Calls Tryz.prog 91 #[.int .i32 (s[0].toNat:Int)] w fun e w'=>e=.returned (.bool b)/\w=w' :=
  fun b hb w=>isSmall_any _ b (by rw [small_nat,hc0];exact hb) w
 have hcp:∀ b,Lx.capital ((Cod.str s).headD 0)=b->∀ w,Calls Tryz.prog 92 #[.int .i32 (s[0].toNat:Int)] w fun e w'=>e=.returned (.bool b)/\w=w' :=
  fun b hb w=>isCapital_any _ b (by rw [capital_nat,hc0];exact hb) w
 have hdg:∀ b,Lx.digit ((Cod.str s).headD 0)=b->∀ w,Calls Tryz.prog 94 #[.int .i32 (s[0].toNat:Int)] w fun e w'=>e=.returned (.bool b)/\w=w' :=
  fun b hb w=>isDigit_any _ b (by rw [digit_nat,hc0];exact hb) w
 have hrs:=len_rest s (by omega)
 have hgl:=Lx.run_le Lx.goes (Cod.str s)
 rw [hsz] at hgl
 have hex:=extract_take s (Lx.run Lx.goes (Cod.str s))
 cases b1:Lx.small ((Cod.str s).headD 0)
 ·cases b2:Lx.capital ((Cod.str s).headD 0)
  ·have hb12:(Lx.small ((Cod.str s).headD 0) || Lx.capital ((Cod.str s).headD 0))=false:=by rw [b1,b2];rfl
   have H1:=Hxq (hsm _ b1);have H2:=Hxq (hcp _ b2)
   cases b3:Lx.digit ((Cod.str s).headD 0)
   ·have H3:=Hxq (hdg _ b3)
    by_cases h34:(Cod.str s).headD 0=34
    ·have hWd:=word_quo hb12 b3 h34
     have hcal:=fun w hG=>quoted_any s hs w hG
     have p34:((s[0].toNat:Int) == 34)=true:=by rw [hc0,h34];rfl
     clear hsm hcp hdg hrs hex b1 b2 b3 hb12 hn0 hsz hc0 h34
     cases hnr:quoR (Cod.str s) with
     | bad x =>
      rw [hnr] at hcal hWd
      have HC:=Lib.hid hcal;have HW:=Lib.hid hWd
      clear hcal hWd hnr
      go_enter Tryz.func73,Tryz.ntmps73
      go_wp2_with fail
      refine (H1.out _).mono ?_
      rintro e2 w2 ⟨rfl,rfl⟩
      go_wp2_with fail
      refine (H2.out _).mono ?_
      rintro e2 w2 ⟨rfl,rfl⟩
      go_wp2_with fail
      refine (H3.out _).mono ?_
      rintro e2 w2 ⟨rfl,rfl⟩
      go_wp2_with fail
      refine (HC.out _ (hG.past HM.out (by simp))).mono ?_
      rintro e2 w2 ⟨rfl,hm2⟩
      have hB2:=hm2.at HB.out (by simp)
      have hm2':=HM.out.trans hm2 (by simp)
      obtain ⟨q0,q1,q2,q3,q4,q5,q6⟩:=tok_cells hB2
      have fz:∀ j,w2.frozen? ⟨w.heap.size,j,none⟩=false:=fun j=>by simp [World.frozen?,hB2]
      rw [rwV,tokC]
      go_wp2_with fail
      exact bodyPost_ret (res_tok rfl _ _ _ _ _ _ _ rfl rfl (store_tok hB2 _ _ _ _ _ _ _) rfl) rfl ⟨by rw [HW.out];rfl,mod_tok hm2' (.inr (Nat.le_refl _)) _ _ _ _ _ _ _⟩
     | ok x =>
      rw [hnr] at hcal hWd
      have HC:=Lib.hid hcal;have HW:=Lib.hid hWd
      clear hcal hWd hnr
      go_enter Tryz.func73,Tryz.ntmps73
      go_wp2_with fail
      refine (H1.out _).mono ?_
      rintro e2 w2 ⟨rfl,rfl⟩
      go_wp2_with fail
      refine (H2.out _).mono ?_
      rintro e2 w2 ⟨rfl,rfl⟩
      go_wp2_with fail
      refine (H3.out _).mono ?_
      rintro e2 w2 ⟨rfl,rfl⟩
      go_wp2_with fail
      refine (HC.out _ (hG.past HM.out (by simp))).mono ?_
      rintro e2 w2 ⟨rfl,hm2⟩
      have hB2:=hm2.at HB.out (by simp)
      have hm2':=HM.out.trans hm2 (by simp)
      obtain ⟨q0,q1,q2,q3,q4,q5,q6⟩:=tok_cells hB2
      have fz:∀ j,w2.frozen? ⟨w.heap.size,j,none⟩=false:=fun j=>by simp [World.frozen?,hB2]
      rw [rwV,tokC]
      go_wp2_with fail
      exact bodyPost_ret (res_tok rfl _ _ _ _ _ _ _ rfl rfl (store_tok hB2 _ _ _ _ _ _ _) rfl) rfl ⟨by rw [HW.out];rfl,mod_tok hm2' (.inr (Nat.le_refl _)) _ _ _ _ _ _ _⟩
    ·have hWd:=word_mark hb12 b3 h34
     have p34:((s[0].toNat:Int) == 34)=false:=by rw [hc0,beq_eq_false_iff_ne];omega
     have HW:=Lib.hid hWd
     obtain ⟨T,fr,hmk⟩:=hG.marks
     have hpf:=fun p w=>Tryz.strings_HasPrefix s p w
     have HP:=Lib.hid hpf
     have HI:=Lib.hid mark_index
     have hmk1:=HM.out.at hmk (by simp)
     have hm1:=HM.out
     have hB1:=HB.out
     clear hsm hcp hdg hrs hex b1 b2 b3 hb12 hn0 hsz hc0 h34 hWd hpf hmk
     go_enter Tryz.func73,Tryz.ntmps73
     go_wp2_with fail
     refine (H1.out _).mono ?_
     rintro e2 w2 ⟨rfl,rfl⟩
     go_wp2_with fail
     refine (H2.out _).mono ?_
     rintro e2 w2 ⟨rfl,rfl⟩
     go_wp2_with fail
     refine (H3.out _).mono ?_
     rintro e2 w2 ⟨rfl,rfl⟩
     generalize (w.alloc (Obj.cells #[Value.int IntKind.i64 0,Value.string ⟨#[]⟩,Value.int IntKind.i64 0,Value.int IntKind.i64 0,Value.string ⟨#[]⟩,Value.int IntKind.i64 0,Value.int IntKind.i64 0] 93))=w1 at *
     go_wp2_with (refine wpList_load_row rfl 157 _ rfl 0 rfl T _ fr _ hmk1 Tryz.underlying157 rfl (by kernel_rfl) ?_)
     have q:=tok_cells hB1
     have fz:∀ j,w1.frozen? ⟨w.heap.size,j,none⟩=false:=fun j=>by simp [World.frozen?,hB1]
     obtain ⟨A,hA⟩:∃ A,A=(markL.map fun l=>Value.string (Lx.ofS l)).toArray:=⟨_,rfl⟩
     have HI2:Hid (∀ (k:Nat),k<19->∀ w,(Instr.index 157 (.agg A) (.int .i64 (k:Int))).run Tryz.prog w=.ok (.string (Lx.ofS (markL.getD k []))) w):=Hxq (by rw [hA];exact HI.out)
     rw [<-hA]
     clear hA HI hmk1
     go_loopw [46] (fun i wr=>∃ (k:Nat),k<=19/\i=.int .i64 (k:Int)/\(markL.drop k).find? (fun m=>m.isPrefixOf (Cod.str s))=markL.find? (fun m=>m.isPrefixOf (Cod.str s))/\wr=w1) (fun i _=>19 - (intOf i).toNat)
     case atStart=>exact ⟨0,by omega,rfl,rfl,rfl⟩
     case round =>
      obtain ⟨k,hk,rfl,hfind,rfl⟩:=hrel
      obtain ⟨q0,q1,q2,q3,q4,q5,q6⟩:=q
      by_cases hlt:k<19
      ·have hix:=HI2.out k hlt wr
       have hd:markL.drop k=markL.getD k [] :: markL.drop (k+1):=by
        rw [List.drop_eq_getElem_cons (by simpa [markL] using hlt),List.getD_eq_getElem?_getD,List.getElem?_eq_getElem (by simpa [markL] using hlt)];rfl
       have hml:=mark_lt k
       have hpx:=HP.out (Lx.ofS (markL.getD k [])) wr
       rw [prefix_str,Lx.str_ofS hml] at hpx
       rw [hd,List.find?_cons,find_mark] at hfind
       generalize markL.getD k []=m at *
       cases hb:m.isPrefixOf (Cod.str s)
       ·rw [hb] at hpx hfind
        simp only at hfind
        rw [<-find_mark] at hfind
        have HF:=Lib.hid hfind
        have HPX:=Lib.hid hpx
        clear hfind hpx hb hd hml
        go_wp2_with fail
        refine HPX.out.mono ?_
        rintro e2 w2 ⟨rfl,rfl⟩
        go_wp2_with fail
        go_roundw
        case rel=>exact ⟨k+1,by omega,by go_num,HF.out,trivial⟩
        case measure=>simp [intOf];omega
       ·rw [hb] at hpx hfind
        simp only at hfind
        have e:Hid (markR (Cod.str s)=.ok ⟨5,Lx.mark (Cod.str s),0,0,[]⟩/\m=(Cod.str s).take (Lx.mark (Cod.str s))):=Hxq (by
         unfold markR
         by_cases h0:Lx.mark (Cod.str s)=0
         ·rw [if_pos h0] at hfind;cases hfind
         ·rw [if_neg h0] at hfind ⊢
          exact ⟨rfl,by simpa using hfind⟩)
        have HPX:=Lib.hid hpx
        clear hfind hpx hb hd hml
        go_wp2_with fail
        refine HPX.out.mono ?_
        rintro e2 w2 ⟨rfl,rfl⟩
        go_wp2_with fail
        rw [e.out.2]
        exact bodyPost_ret (res_tok rfl _ _ _ _ _ _ _ rfl rfl (store_tok hB1 _ _ _ _ _ _ _) rfl) rfl ⟨by rw [HW.out,e.out.1];rfl,mod_tok hm1 (.inr (Nat.le_refl _)) _ _ _ _ _ _ _⟩
      ·obtain rfl:k=19:=by omega
       have e:Hid (markR (Cod.str s)=.bad 30):=Hxq (by
        rw [find_mark] at hfind
        unfold markR
        by_cases h0:Lx.mark (Cod.str s)=0
        ·rw [if_pos h0]
        ·rw [if_neg h0] at hfind
         rw [show markL.drop 19=[] from rfl] at hfind
         cases hfind)
       clear hfind
       go_wp2_with fail
       exact bodyPost_ret (res_tok rfl _ _ _ _ _ _ _ rfl rfl (store_tok hB1 _ _ _ _ _ _ _) rfl) rfl ⟨by rw [HW.out,e.out];rfl,mod_tok hm1 (.inr (Nat.le_refl _)) _ _ _ _ _ _ _⟩
   ·have H3:=Hxq (hdg _ b3)
    have hWd:=word_num hb12 b3
    have hcal:=fun w hG=>number_any s hs h0 b3 w hG
    clear hsm hcp hdg hrs hex b1 b2 b3 hb12 hn0 hsz hc0
    cases hnr:numR (Cod.str s) with
    | bad x =>
     rw [hnr] at hcal hWd
     have HC:=Lib.hid hcal;have HW:=Lib.hid hWd
     clear hcal hWd hnr
     go_enter Tryz.func73,Tryz.ntmps73
     go_wp2_with fail
     refine (H1.out _).mono ?_
     rintro e2 w2 ⟨rfl,rfl⟩
     go_wp2_with fail
     refine (H2.out _).mono ?_
     rintro e2 w2 ⟨rfl,rfl⟩
     go_wp2_with fail
     refine (H3.out _).mono ?_
     rintro e2 w2 ⟨rfl,rfl⟩
     go_wp2_with fail
     refine (HC.out _ (hG.past HM.out (by simp))).mono ?_
     rintro e2 w2 ⟨rfl,hm2⟩
     have hB2:=hm2.at HB.out (by simp)
     have hm2':=HM.out.trans hm2 (by simp)
     obtain ⟨q0,q1,q2,q3,q4,q5,q6⟩:=tok_cells hB2
     have fz:∀ j,w2.frozen? ⟨w.heap.size,j,none⟩=false:=fun j=>by simp [World.frozen?,hB2]
     rw [rwV,tokC]
     go_wp2_with fail
     exact bodyPost_ret (res_tok rfl _ _ _ _ _ _ _ rfl rfl (store_tok hB2 _ _ _ _ _ _ _) rfl) rfl ⟨by rw [HW.out];rfl,mod_tok hm2' (.inr (Nat.le_refl _)) _ _ _ _ _ _ _⟩
    | ok x =>
     rw [hnr] at hcal hWd
     have HC:=Lib.hid hcal;have HW:=Lib.hid hWd
     clear hcal hWd hnr
     go_enter Tryz.func73,Tryz.ntmps73
     go_wp2_with fail
     refine (H1.out _).mono ?_
     rintro e2 w2 ⟨rfl,rfl⟩
     go_wp2_with fail
     refine (H2.out _).mono ?_
     rintro e2 w2 ⟨rfl,rfl⟩
     go_wp2_with fail
     refine (H3.out _).mono ?_
     rintro e2 w2 ⟨rfl,rfl⟩
     go_wp2_with fail
     refine (HC.out _ (hG.past HM.out (by simp))).mono ?_
     rintro e2 w2 ⟨rfl,hm2⟩
     have hB2:=hm2.at HB.out (by simp)
     have hm2':=HM.out.trans hm2 (by simp)
     obtain ⟨q0,q1,q2,q3,q4,q5,q6⟩:=tok_cells hB2
     have fz:∀ j,w2.frozen? ⟨w.heap.size,j,none⟩=false:=fun j=>by simp [World.frozen?,hB2]
     rw [rwV,tokC]
     go_wp2_with fail
     exact bodyPost_ret (res_tok rfl _ _ _ _ _ _ _ rfl rfl (store_tok hB2 _ _ _ _ _ _ _) rfl) rfl ⟨by rw [HW.out];rfl,mod_tok hm2' (.inr (Nat.le_refl _)) _ _ _ _ _ _ _⟩
  ·have hW:=word_name (l:=Cod.str s) (by rw [b2];simp)
   rw [b2] at hW
   have H1:=Hxq (hsm _ b1);have H2:=Hxq (hcp _ b2)
   generalize Lx.run Lx.goes (Cod.str s)=n at *
   have HW:=Lib.hid hW;have HR:=Lib.hid hrs;have HEX:=Lib.hid hex
   clear hsm hcp hdg hrs hex b1 b2 hW hn0 hsz hc0
   by_cases hn:32<n
   ·have hnI:(32:Int)<(n:Int):=by omega
    have e:Hid (Lx.word (Cod.str s)=.bad 33):=Hxq (by rw [HW.out,if_pos hn])
    clear hn
    go_enter Tryz.func73,Tryz.ntmps73
    go_wp2_with fail
    refine (H1.out _).mono ?_
    rintro e2 w2 ⟨rfl,rfl⟩
    go_wp2_with fail
    refine (H2.out _).mono ?_
    rintro e2 w2 ⟨rfl,rfl⟩
    go_wp2_with fail
    refine (HR.out _).mono ?_
    rintro e2 w2 ⟨rfl,hm2⟩
    have hB2:=hm2.at HB.out (by simp)
    have hm2':=HM.out.trans hm2 (by simp)
    obtain ⟨q0,q1,q2,q3,q4,q5,q6⟩:=tok_cells hB2
    have fz:∀ j,w2.frozen? ⟨w.heap.size,j,none⟩=false:=fun j=>by simp [World.frozen?,hB2]
    go_wp2_with fail
    exact bodyPost_ret (res_tok rfl _ _ _ _ _ _ _ rfl rfl (store_tok hB2 _ _ _ _ _ _ _) rfl) rfl ⟨by rw [e.out];rfl,mod_tok hm2' (.inr (Nat.le_refl _)) _ _ _ _ _ _ _⟩
   ·have hnI:(n:Int)<=32:=by omega
    have hnS:(n:Int)<=(s.size:Int):=by omega
    have e:Hid (Lx.word (Cod.str s)=.ok ⟨2,n,0,0,[]⟩):=Hxq (by rw [HW.out,if_neg hn];rfl)
    clear hn
    go_enter Tryz.func73,Tryz.ntmps73
    go_wp2_with fail
    refine (H1.out _).mono ?_
    rintro e2 w2 ⟨rfl,rfl⟩
    go_wp2_with fail
    refine (H2.out _).mono ?_
    rintro e2 w2 ⟨rfl,rfl⟩
    go_wp2_with fail
    refine (HR.out _).mono ?_
    rintro e2 w2 ⟨rfl,hm2⟩
    have hB2:=hm2.at HB.out (by simp)
    have hm2':=HM.out.trans hm2 (by simp)
    obtain ⟨q0,q1,q2,q3,q4,q5,q6⟩:=tok_cells hB2
    have fz:∀ j,w2.frozen? ⟨w.heap.size,j,none⟩=false:=fun j=>by simp [World.frozen?,hB2]
    go_wp2_with fail
    refine (H2.out _).mono ?_
    rintro e2 w3 ⟨rfl,rfl⟩
    go_wp2_with fail
    rw [HEX.out]
    exact bodyPost_ret (res_tok rfl _ _ _ _ _ _ _ rfl rfl (store_tok hB2 _ _ _ _ _ _ _) rfl) rfl ⟨by rw [e.out];rfl,mod_tok hm2' (.inr (Nat.le_refl _)) _ _ _ _ _ _ _⟩
 ·have b2:Lx.capital ((Cod.str s).headD 0)=false:=by
   unfold Lx.small at b1;unfold Lx.capital
   rw [<-Bool.not_eq_true]
   simp at b1 ⊢;omega
  have hW:=word_name (l:=Cod.str s) (by rw [b1];simp)
  rw [b2] at hW
  have H1:=Hxq (hsm _ b1);have H2:=Hxq (hcp _ b2)
  generalize Lx.run Lx.goes (Cod.str s)=n at *
  have HW:=Lib.hid hW;have HR:=Lib.hid hrs;have HEX:=Lib.hid hex
  clear hsm hcp hdg hrs hex b1 b2 hW hn0 hsz hc0
  by_cases hn:32<n
  ·have hnI:(32:Int)<(n:Int):=by omega
   have e:Hid (Lx.word (Cod.str s)=.bad 33):=Hxq (by rw [HW.out,if_pos hn])
   clear hn
   go_enter Tryz.func73,Tryz.ntmps73
   go_wp2_with fail
   refine (H1.out _).mono ?_
   rintro e2 w2 ⟨rfl,rfl⟩
   go_wp2_with fail
   refine (HR.out _).mono ?_
   rintro e2 w2 ⟨rfl,hm2⟩
   have hB2:=hm2.at HB.out (by simp)
   have hm2':=HM.out.trans hm2 (by simp)
   obtain ⟨q0,q1,q2,q3,q4,q5,q6⟩:=tok_cells hB2
   have fz:∀ j,w2.frozen? ⟨w.heap.size,j,none⟩=false:=fun j=>by simp [World.frozen?,hB2]
   go_wp2_with fail
   exact bodyPost_ret (res_tok rfl _ _ _ _ _ _ _ rfl rfl (store_tok hB2 _ _ _ _ _ _ _) rfl) rfl ⟨by rw [e.out];rfl,mod_tok hm2' (.inr (Nat.le_refl _)) _ _ _ _ _ _ _⟩
  ·have hnI:(n:Int)<=32:=by omega
   have hnS:(n:Int)<=(s.size:Int):=by omega
   have e:Hid (Lx.word (Cod.str s)=.ok ⟨1,n,0,0,[]⟩):=Hxq (by rw [HW.out,if_neg hn];rfl)
   clear hn
   go_enter Tryz.func73,Tryz.ntmps73
   go_wp2_with fail
   refine (H1.out _).mono ?_
   rintro e2 w2 ⟨rfl,rfl⟩
   go_wp2_with fail
   refine (HR.out _).mono ?_
   rintro e2 w2 ⟨rfl,hm2⟩
   have hB2:=hm2.at HB.out (by simp)
   have hm2':=HM.out.trans hm2 (by simp)
   obtain ⟨q0,q1,q2,q3,q4,q5,q6⟩:=tok_cells hB2
   have fz:∀ j,w2.frozen? ⟨w.heap.size,j,none⟩=false:=fun j=>by simp [World.frozen?,hB2]
   go_wp2_with fail
   refine (H2.out _).mono ?_
   rintro e2 w3 ⟨rfl,rfl⟩
   go_wp2_with fail
   rw [HEX.out]
   exact bodyPost_ret (res_tok rfl _ _ _ _ _ _ _ rfl rfl (store_tok hB2 _ _ _ _ _ _ _) rfl) rfl ⟨by rw [e.out];rfl,mod_tok hm2' (.inr (Nat.le_refl _)) _ _ _ _ _ _ _⟩
end Go.Proofs.YtbfaclljbbfknaaGreatDoor
