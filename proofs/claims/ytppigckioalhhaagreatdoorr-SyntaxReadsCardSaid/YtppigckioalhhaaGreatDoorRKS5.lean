/- THE TEXTS MERGED: LxNum. -/
import Derived.Test.YtppigckioalhhaaGreatDoorRKS1
import Derived.Test.YtppigckioalhhaaGreatDoorRKS4
import Derived.Lib.AtoiAll
namespace Go.Proofs.YtppigckioalhhaaGreatDoorR
open Go.RowKit
set_option linter.unusedVariables false
set_option linter.unusedSimpArgs false
set_option maxRecDepth 100000
theorem parse_digits:∀ (l:List UInt8) (acc:Nat),(∀ c∈l,Lx.digit c.toNat=true) ->
  ((l.map UInt8.toNat).foldl (fun a c=>10 * a+(c - 48)) acc<18446744073709551616->Lib.parseUint10 acc l=.ok ((l.map UInt8.toNat).foldl (fun a c=>10 * a+(c - 48)) acc)) /\
  (18446744073709551616<=(l.map UInt8.toNat).foldl (fun a c=>10 * a+(c - 48)) acc->acc<18446744073709551616->Lib.parseUint10 acc l=.range) /\
  acc<=(l.map UInt8.toNat).foldl (fun a c=>10 * a+(c - 48)) acc
 | [],acc,_=>by
  refine ⟨fun _=>rfl,fun h1 h2=>?_,Nat.le_refl _⟩
  simp only [List.map_nil,List.foldl_nil] at h1
  omega
 | c :: r,acc,h=>by
  have hc:=h c (by simp)
  have ih:=parse_digits r (10 * acc+(c.toNat - 48)) (fun x hx=>h x (by simp [hx]))
  simp only [Lx.digit,Bool.and_eq_true,decide_eq_true_eq] at hc
  simp only [List.map_cons,List.foldl_cons]
  generalize List.foldl (fun a c=>10 * a+(c - 48)) (10 * acc+(c.toNat - 48)) (List.map UInt8.toNat r)=v at *
  obtain ⟨h1,h2,h3⟩:=ih
  have e:acc * 10+(c.toNat - 48)=10 * acc+(c.toNat - 48):=by omega
  refine ⟨fun hv=>?_,fun hv ha=>?_,by omega⟩
  ·rw [Lib.parseUint10,if_pos hc,if_neg (by omega),e,if_neg (by omega)]
   exact h1 hv
  ·rw [Lib.parseUint10,if_pos hc]
   split
   ·rfl
   ·rw [e]
    split
    ·rfl
    ·exact h2 hv (by omega)
theorem atoi_digits (l:List UInt8) (h0:l≠[]) (h:∀ c∈l,Lx.digit c.toNat=true) :
  (Lx.numv (l.map UInt8.toNat)<9223372036854775808->Lib.atoiAll l=.ok (Lx.numv (l.map UInt8.toNat):Nat)) /\
  (9223372036854775808<=Lx.numv (l.map UInt8.toNat)->Lib.atoiAll l=.range):=by
 have hp:=parse_digits l 0 h
 have hv:(l.map UInt8.toNat).foldl (fun a c=>10 * a+(c - 48)) 0=Lx.numv (l.map UInt8.toNat):=rfl
 rw [hv] at hp
 generalize Lx.numv (l.map UInt8.toNat)=v at *
 cases l with
 | nil=>simp at h0
 | cons c r =>
  have hc:=h c (by simp)
  simp only [Lx.digit,Bool.and_eq_true,decide_eq_true_eq] at hc
  have hs:¬ (c.toNat=43\/c.toNat=45):=by omega
  have hn:¬ c.toNat=45:=by omega
  have hm:Lib.parseMag (c :: r)=Lib.parseUint10 0 (c :: r):=by simp [Lib.parseMag]
  refine ⟨fun h1=>?_,fun h1=>?_⟩
  ·simp only [Lib.atoiAll,if_neg hs,hm,hp.1 (by omega)]
   rw [if_neg (by simp [hn];omega),if_neg (by simp [hn]),if_neg hn]
  ·rcases Nat.lt_or_ge v 18446744073709551616 with h2 | h2
   ·simp only [Lib.atoiAll,if_neg hs,hm,hp.1 h2]
    rw [if_pos ⟨hn,h1⟩]
   ·simp only [Lib.atoiAll,if_neg hs,hm,hp.2.1 h2 (by omega)]
def numR (l:List Nat):Lx.Rw :=
 if (1<Lx.run Lx.digit l/\l.headD 0=48)\/2147483647<Lx.numv (l.take (Lx.run Lx.digit l))\/Lx.run Lx.digit l<Lx.run Lx.goes l then .bad 31
 else .ok ⟨3,Lx.run Lx.digit l,1,Lx.numv (l.take (Lx.run Lx.digit l)),[]⟩
theorem run_all (p:Nat->Bool) (l:List Nat):∀ c∈l.take (Lx.run p l),p c=true:=by
 induction l with
 | nil=>simp
 | cons c r ih =>
  rw [Lx.run_cons]
  by_cases h:p c=true
  ·rw [if_pos h,List.take_succ_cons]
   intro x hx
   rcases List.mem_cons.1 hx with rfl | hx
   ·exact h
   ·exact ih x hx
  ·rw [if_neg h];simp
/-- strconv.Atoi of digits -/
theorem atoi_any (s:ByteArray) (hs:s.size<=65536) (h0:0<s.size) (hd:∀ c∈Cod.str s,Lx.digit c=true) (w:World) (hG:Glob w) :
  Calls Tryz.prog 133 #[.string s] w fun e w'=>((Lx.numv (Cod.str s)<9223372036854775808/\e=.returned (.tuple #[.int .i64 (Lx.numv (Cod.str s):Nat),.nilIface])) \/
   (9223372036854775808<=Lx.numv (Cod.str s)/\∃ n ty v,e=.returned (.tuple #[.int .i64 n,.iface ty v])))/\Mod [] w w':=by
 have hat:=atoi_digits s.data.toList (by
  intro h
  have:=congrArg List.length h
  rw [Array.length_toList] at this
  have e:s.data.size=s.size:=rfl
  rw [e] at this;simp only [List.length_nil] at this;omega) (fun c hc=>hd _ (List.mem_map.2 ⟨c,hc,rfl⟩))
 have e:s.data.toList.map UInt8.toNat=Cod.str s:=rfl
 rw [e] at hat
 rcases Nat.lt_or_ge (Lx.numv (Cod.str s)) 9223372036854775808 with hv | hv
 ·refine (Tryz.strconv_Atoi_ok s (by omega) _ (hat.1 hv) w).mono ?_
  rintro e w' ⟨rfl,hw⟩
  refine ⟨.inl ⟨hv,rfl⟩,?_⟩
  rcases hw with rfl | ⟨t,rfl⟩
  ·exact Mod.refl _ _
  ·exact Mod.of_below (Lib.bytesWorld_below _ _ _)
 ·obtain ⟨tp,p,T,fr,hr⟩:=hG.rng
  refine (Tryz.strconv_Atoi_range_var s (by omega) (hat.2 hv) tp p w (by
   have hg : Tryz.prog.globalNamed "strconv.ErrRange" = some 3 := by kernel_rfl
   simp [World.var?,hg,hr])).mono ?_
  rintro e w' ⟨N,rfl,-,-,hb⟩
  exact ⟨.inr ⟨hv,_,_,_,rfl⟩,Mod.of_below hb⟩
set_option maxHeartbeats 2000000 in
theorem number_any (s:ByteArray) (hs:s.size<=65536) (h0:0<s.size) (hd0:Lx.digit ((Cod.str s).headD 0)=true) (w:World) (hG:Glob w) :
  Calls Tryz.prog 120 #[.string s] w fun e w'=>e=.returned (rwV (Cod.str s) (numR (Cod.str s)))/\Mod [] w w':=by
 have hlb:=Cod.str_lt s
 have hsz:=Cod.str_len s
 have hc0:s[0].toNat=(Cod.str s).headD 0:=by
  rw [<-Lx.get_str s 0 h0]
  cases Cod.str s <;> rfl
 have hnd:1<=Lx.run Lx.digit (Cod.str s):=Lx.run_pos (by intro h;rw [h] at hsz;simp at hsz;omega) hd0
 have hnl:=Lx.run_le Lx.digit (Cod.str s)
 have hex:=extract_take s (Lx.run Lx.digit (Cod.str s))
 have hstr:Cod.str (s.extract 0 (Lx.run Lx.digit (Cod.str s)))=(Cod.str s).take (Lx.run Lx.digit (Cod.str s)):=by rw [Lx.str_extract];simp
 have hat:=fun w hG=>atoi_any (s.extract 0 (Lx.run Lx.digit (Cod.str s))) (by rw [ByteArray.size_extract];omega) (by rw [ByteArray.size_extract];omega) (by rw [hstr];exact run_all _ _) w hG
 rw [hstr] at hat
 have hdg:=len_digit s (by omega)
 have hrs:=len_rest s (by omega)
 have hR:numR (Cod.str s)=if (1<Lx.run Lx.digit (Cod.str s)/\(Cod.str s).headD 0=48)\/2147483647<Lx.numv ((Cod.str s).take (Lx.run Lx.digit (Cod.str s)))\/Lx.run Lx.digit (Cod.str s)<Lx.run Lx.goes (Cod.str s) then .bad 31
   else .ok ⟨3,Lx.run Lx.digit (Cod.str s),1,Lx.numv ((Cod.str s).take (Lx.run Lx.digit (Cod.str s))),[]⟩:=rfl
 have hgl:=Lx.run_le Lx.goes (Cod.str s)
 rw [hsz] at hgl hnl
 have hF:Hid (∀ n' v',rwV (Cod.str s) (.ok ⟨3,n',1,v',[]⟩)=.tuple #[.agg #[.int .i64 3,.string (Lx.ofS ((Cod.str s).take n')),.int .i64 1,.int .i64 (v':Nat),.string ⟨#[]⟩,.int .i64 0,.int .i64 0],.int .i64 0]):=Hxq (fun _ _=>rfl)
 generalize Lx.numv ((Cod.str s).take (Lx.run Lx.digit (Cod.str s)))=v at *
 generalize hn:Lx.run Lx.digit (Cod.str s)=n at *
 generalize Lx.run Lx.goes (Cod.str s)=m at *
 generalize (Cod.str s).headD 0=c at *
 have HAT:=Lib.hid hat;have HDG:=Lib.hid hdg;have HRS:=Lib.hid hrs;have HEX:=Lib.hid hex;have HR:=Lib.hid hR;have HC:=Lib.hid hc0
 clear hat hdg hrs hex hR hn hstr hlb hsz hd0 hc0
 have hB0:(w.alloc (Obj.cells (tokC zeroT) 74)).heap[w.heap.size]?=some (.cells (tokC zeroT) 74 (0,0)):=heap_alloc_new w _
 have hm0:Mod [] w (w.alloc (Obj.cells (tokC zeroT) 74)):=(Mod.refl [] w).alloc _
 have hz:(w.alloc (Obj.cells (tokC zeroT) 74))=w.alloc (Obj.cells #[Value.int IntKind.i64 0,Value.string ⟨#[]⟩,Value.int IntKind.i64 0,Value.int IntKind.i64 0,Value.string ⟨#[]⟩,Value.int IntKind.i64 0,Value.int IntKind.i64 0] 74):=rfl
 rw [hz] at hB0 hm0
 have HB:=Lib.hid hB0;have HM:=Lib.hid hm0
 clear hz hB0 hm0
 go_enter Tryz.func120,Tryz.ntmps120
 go_wp2_with fail
 refine (HDG.out _).mono ?_
 rintro e w2 ⟨rfl,hm2⟩
 have hB2:=hm2.at HB.out (by simp)
 have hm2':=HM.out.trans hm2 (by simp)
 have hG2:=hG.past hm2' (by simp)
 clear hm2
 go_wp2_with fail
 refine (HAT.out _ hG2).mono ?_
 rintro e w3 ⟨hres,hm3⟩
 have hB3:=hm3.at hB2 (by simp)
 have hm3':=hm2'.trans hm3 (by simp)
 obtain ⟨q0,q1,q2,q3,q4,q5,q6⟩:=tok_cells hB3
 have fz:∀ j,w3.frozen? ⟨w.heap.size,j,none⟩=false:=fun j=>by simp [World.frozen?,hB3]
 clear hm3 hm2' hB2 hG2
 rcases hres with ⟨hv,rfl⟩ | ⟨hv,x,ty,y,rfl⟩
 ·by_cases hmax:2147483647<v
  ·have e:Hid (numR (Cod.str s)=.bad 31):=Hxq (by rw [HR.out,if_pos (.inr (.inl hmax))])
   have hmI:(2147483647:Int)<(v:Int):=by omega
   clear hv hmax
   go_wp2_with fail
   exact bodyPost_ret (res_tok rfl _ _ _ _ _ _ _ rfl rfl (store_tok hB3 _ _ _ _ _ _ _) rfl) rfl ⟨by rw [e.out];rfl,mod_tok hm3' (.inr (Nat.le_refl _)) _ _ _ _ _ _ _⟩
  ·have hmI:(v:Int)<=2147483647:=by omega
   have hend:∀ (w4:World),Mod [] w3 w4->∀ j,w4.frozen? ⟨w.heap.size,j,none⟩=false:=fun w4 hm j=>by
    have:=hm.at hB3 (by simp)
    simp [World.frozen?,this]
   have HEND:=Lib.hid hend
   clear hend hv
   by_cases hn1:1<n
   ·have hn1I:(1:Int)<(n:Int):=by omega
    by_cases hc:c=48
    ·have e:Hid (numR (Cod.str s)=.bad 31):=Hxq (by rw [HR.out,if_pos (.inl ⟨hn1,hc⟩)])
     have hcI:(s[0].toNat:Int)=48:=by rw [HC.out,hc];rfl
     clear hc hmax
     go_wp2_with fail
     exact bodyPost_ret (res_tok rfl _ _ _ _ _ _ _ rfl rfl (store_tok hB3 _ _ _ _ _ _ _) rfl) rfl ⟨by rw [e.out];rfl,mod_tok hm3' (.inr (Nat.le_refl _)) _ _ _ _ _ _ _⟩
    ·have hcI:¬ (s[0].toNat:Int)=48:=by rw [HC.out];omega
     have hcB:((s[0].toNat:Int) == 48)=false:=by rw [beq_eq_false_iff_ne];exact hcI
     by_cases hmn:n<m
     ·have e:Hid (numR (Cod.str s)=.bad 31):=Hxq (by rw [HR.out,if_pos (.inr (.inr hmn))])
      have hmnI:(n:Int)<(m:Int):=by omega
      clear hmn hmax
      go_wp2_with fail
      refine (HRS.out _).mono ?_
      rintro e4 w4 ⟨rfl,hm4⟩
      have hB4:=hm4.at hB3 (by simp)
      have fz4:=HEND.out w4 hm4
      have hm4':=hm3'.trans hm4 (by simp)
      obtain ⟨q0,q1,q2,q3,q4,q5,q6⟩:=tok_cells hB4
      clear hm4
      go_wp2_with fail
      exact bodyPost_ret (res_tok rfl _ _ _ _ _ _ _ rfl rfl (store_tok hB4 _ _ _ _ _ _ _) rfl) rfl ⟨by rw [e.out];rfl,mod_tok hm4' (.inr (Nat.le_refl _)) _ _ _ _ _ _ _⟩
     ·have e:Hid (numR (Cod.str s)=.ok ⟨3,n,1,v,[]⟩):=Hxq (by rw [HR.out,if_neg (by rintro (h | h | h);exact hc h.2;exact hmax h;exact hmn h)])
      have hmnI:(m:Int)<=(n:Int):=by omega
      have hnI:(n:Int)<=(s.size:Int):=by omega
      clear hmn hmax
      go_wp2_with fail
      refine (HRS.out _).mono ?_
      rintro e4 w4 ⟨rfl,hm4⟩
      have hB4:=hm4.at hB3 (by simp)
      have fz4:=HEND.out w4 hm4
      have hm4':=hm3'.trans hm4 (by simp)
      obtain ⟨q0,q1,q2,q3,q4,q5,q6⟩:=tok_cells hB4
      clear hm4
      go_wp2_with fail
      rw [HEX.out]
      exact bodyPost_ret (res_tok rfl _ _ _ _ _ _ _ rfl rfl (store_tok hB4 _ _ _ _ _ _ _) rfl) rfl ⟨by rw [e.out,hF.out];rfl,mod_tok hm4' (.inr (Nat.le_refl _)) _ _ _ _ _ _ _⟩
   ·have hn1I:(n:Int)<=1:=by omega
    by_cases hmn:n<m
    ·have e:Hid (numR (Cod.str s)=.bad 31):=Hxq (by rw [HR.out,if_pos (.inr (.inr hmn))])
     have hmnI:(n:Int)<(m:Int):=by omega
     clear hmn hmax
     go_wp2_with fail
     refine (HRS.out _).mono ?_
     rintro e4 w4 ⟨rfl,hm4⟩
     have hB4:=hm4.at hB3 (by simp)
     have fz4:=HEND.out w4 hm4
     have hm4':=hm3'.trans hm4 (by simp)
     obtain ⟨q0,q1,q2,q3,q4,q5,q6⟩:=tok_cells hB4
     clear hm4
     go_wp2_with fail
     exact bodyPost_ret (res_tok rfl _ _ _ _ _ _ _ rfl rfl (store_tok hB4 _ _ _ _ _ _ _) rfl) rfl ⟨by rw [e.out];rfl,mod_tok hm4' (.inr (Nat.le_refl _)) _ _ _ _ _ _ _⟩
    ·have e:Hid (numR (Cod.str s)=.ok ⟨3,n,1,v,[]⟩):=Hxq (by rw [HR.out,if_neg (by rintro (h | h | h);exact hn1 h.1;exact hmax h;exact hmn h)])
     have hmnI:(m:Int)<=(n:Int):=by omega
     have hnI:(n:Int)<=(s.size:Int):=by omega
     clear hmn hmax
     go_wp2_with fail
     refine (HRS.out _).mono ?_
     rintro e4 w4 ⟨rfl,hm4⟩
     have hB4:=hm4.at hB3 (by simp)
     have fz4:=HEND.out w4 hm4
     have hm4':=hm3'.trans hm4 (by simp)
     obtain ⟨q0,q1,q2,q3,q4,q5,q6⟩:=tok_cells hB4
     clear hm4
     go_wp2_with fail
     rw [HEX.out]
     exact bodyPost_ret (res_tok rfl _ _ _ _ _ _ _ rfl rfl (store_tok hB4 _ _ _ _ _ _ _) rfl) rfl ⟨by rw [e.out,hF.out];rfl,mod_tok hm4' (.inr (Nat.le_refl _)) _ _ _ _ _ _ _⟩
 ·have e:Hid (numR (Cod.str s)=.bad 31):=Hxq (by rw [HR.out,if_pos (.inr (.inl (by omega)))])
  clear hv
  go_wp2_with fail
  exact bodyPost_ret (res_tok rfl _ _ _ _ _ _ _ rfl rfl (store_tok hB3 _ _ _ _ _ _ _) rfl) rfl ⟨by rw [e.out];rfl,mod_tok hm3' (.inr (Nat.le_refl _)) _ _ _ _ _ _ _⟩
end Go.Proofs.YtppigckioalhhaaGreatDoorR
