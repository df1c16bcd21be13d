/- THE TEXTS MERGED: RfQuo RfQuo2 RfWord. -/
import Derived.Test.YtppigckioalhhaaGreatDoorRKT1
import Derived.Test.YtppigckioalhhaaGreatDoorRKT30
namespace Go.Proofs.YtppigckioalhhaaGreatDoorR
open Go.RowKit
set_option linter.unusedVariables false
set_option linter.unusedSimpArgs false
set_option maxRecDepth 100000
def partV (l:List Nat):Nat × Nat :=
  match l with
  | []=>(0,0)
  | c :: r=>if c=34\/c=10 then (0,0) else if c=92 then (match Lx.esc r with | none=>(0,0) | some (b,m)=>(b,m+1)) else (c,1)
theorem tests {x c:Nat} (h:x=c):(∀ k:Nat,c=k->(x:Int)=(k:Int))/\(∀ k:Nat,c≠k->(¬ (x:Int)=(k:Int))/\((x:Int) == (k:Int))=false/\((x:Int) != (k:Int))=true):=by
  subst h
  refine ⟨fun k h=>by rw [h],fun k h=>⟨by omega,by rw [beq_eq_false_iff_ne];omega,by rw [bne_iff_ne];omega⟩⟩
def Part (l:List Nat) (w:World) (e:Ending) (w':World):Prop :=
  e=.returned (.tuple #[.int .u8 ((partV l).1:Nat),.int .i64 ((partV l).2:Nat)])/\w=w'
set_option maxHeartbeats 2000000 in
theorem rPart_any (s:ByteArray) (hs:s.size<=9223372036854775807) (w:World) :
    Calls Tryz.prog 165 #[.string s] w (Part (Cod.str s) w):=by
  have hll:=Cod.str_len s
  have hlt:=Cod.str_lt s
  cases hl:Cod.str s with
  | nil =>
    rw [hl] at hll
    have h0:(s.size:Int)=0:=by simp at hll;omega
    have h0B:((s.size:Int) == 0)=true:=by rw [beq_iff_eq];exact h0
    clear hll hl hlt h0
    go_enter Tryz.func165,Tryz.ntmps165
    go_wp2_with fail
    go_ret2
    exact ⟨rfl,rfl⟩
  | cons c r =>
    rw [hl] at hll
    have h0:0<s.size:=by rw [<-hll];simp
    have hzB:((s.size:Int) == 0)=false:=by rw [beq_eq_false_iff_ne];omega
    have hz:¬ (s.size:Int)=0:=by omega
    have hc0:s[0].toNat=c:=by rw [<-Lx.get_str s 0 h0,hl];rfl
    obtain ⟨hp,hn⟩:=tests hc0
    by_cases h34:c=34
    · have e:Hid (partV (c :: r)=(0,0)):=Hxq (by simp [partV,h34])
      have p:=hp 34 h34
      clear hll hl hlt hp hn hc0 h34
      go_enter Tryz.func165,Tryz.ntmps165
      go_wp2_with fail
      go_ret2
      exact ⟨by rw [e.out];rfl,rfl⟩
    · obtain ⟨a34,b34,d34⟩:=hn 34 h34
      by_cases h10:c=10
      · have e:Hid (partV (c :: r)=(0,0)):=Hxq (by simp [partV,h10])
        have p:=hp 10 h10
        clear hll hl hlt hp hn hc0 h34 h10
        go_enter Tryz.func165,Tryz.ntmps165
        go_wp2_with fail
        go_ret2
        exact ⟨by rw [e.out];rfl,rfl⟩
      · obtain ⟨a10,b10,d10⟩:=hn 10 h10
        by_cases h92:c=92
        · have p:=hp 92 h92
          subst h92
          cases r with
          | nil =>
            have e:Hid (partV [92]=(0,0)):=Lib.hid rfl
            have h1:(s.size:Int)<2:=by simp at hll;omega
            clear hll hl hlt hp hn hc0 h34 h10 a34 b34 d34 a10 b10 d10
            go_enter Tryz.func165,Tryz.ntmps165
            go_wp2_with fail
            go_ret2
            exact ⟨by rw [e.out];rfl,rfl⟩
          | cons d r =>
            have h1:1<s.size:=by rw [<-hll];simp
            have h1I:(2:Int)<=(s.size:Int):=by omega
            have hd0:s[1].toNat=d:=by rw [<-Lx.get_str s 1 h1,hl];rfl
            obtain ⟨hp1,hn1⟩:=tests hd0
            have hE:partV (92 :: d :: r)=match Lx.esc (d :: r) with | none=>(0,0) | some (b,m)=>(b,m+1):=rfl
            clear hp hn h34 h10 a34 b34 d34 a10 b10 d10
            by_cases k34:d=34
            · have e:Hid (partV (92 :: d :: r)=(34,2)):=Hxq (by rw [hE,k34];rfl)
              have p1:=hp1 34 k34
              clear hll hl hlt hp1 hn1 hc0 hd0 k34 hE
              go_enter Tryz.func165,Tryz.ntmps165
              go_wp2_with fail
              go_ret2
              exact ⟨by rw [e.out];rfl,rfl⟩
            · obtain ⟨a34,b34,d34⟩:=hn1 34 k34
              by_cases k92:d=92
              · have e:Hid (partV (92 :: d :: r)=(92,2)):=Hxq (by rw [hE,k92];rfl)
                have p1:=hp1 92 k92
                clear hll hl hlt hp1 hn1 hc0 hd0 k34 k92 hE
                go_enter Tryz.func165,Tryz.ntmps165
                go_wp2_with fail
                go_ret2
                exact ⟨by rw [e.out];rfl,rfl⟩
              · obtain ⟨a92,b92,d92⟩:=hn1 92 k92
                by_cases k110:d=110
                · have e:Hid (partV (92 :: d :: r)=(10,2)):=Hxq (by rw [hE,k110];rfl)
                  have p1:=hp1 110 k110
                  clear hll hl hlt hp1 hn1 hc0 hd0 k34 k92 k110 hE
                  go_enter Tryz.func165,Tryz.ntmps165
                  go_wp2_with fail
                  go_ret2
                  exact ⟨by rw [e.out];rfl,rfl⟩
                · obtain ⟨a110,b110,d110⟩:=hn1 110 k110
                  by_cases k120:d=120
                  · have p1:=hp1 120 k120
                    subst k120
                    rcases r with _ | ⟨x,_ | ⟨y,r⟩⟩
                    · have e:Hid (partV [92,120]=(0,0)):=Lib.hid rfl
                      have h4:(s.size:Int)<4:=by simp at hll;omega
                      clear hll hl hlt hp1 hn1 hc0 hd0 k34 k92 k110 hE a34 b34 d34 a92 b92 d92 a110 b110 d110
                      go_enter Tryz.func165,Tryz.ntmps165
                      go_wp2_with fail
                      go_ret2
                      exact ⟨by rw [e.out];rfl,rfl⟩
                    · have e:Hid (partV [92,120,x]=(0,0)):=Lib.hid rfl
                      have h4:(s.size:Int)<4:=by simp at hll;omega
                      clear hll hl hlt hp1 hn1 hc0 hd0 k34 k92 k110 hE a34 b34 d34 a92 b92 d92 a110 b110 d110
                      go_enter Tryz.func165,Tryz.ntmps165
                      go_wp2_with fail
                      go_ret2
                      exact ⟨by rw [e.out];rfl,rfl⟩
                    · have h4:(4:Int)<=(s.size:Int):=by simp at hll;omega
                      have h2':2<s.size:=by omega
                      have h3':3<s.size:=by omega
                      have hx0:s[2].toNat=x:=by rw [<-Lx.get_str s 2 h2',hl];rfl
                      have hy0:s[3].toNat=y:=by rw [<-Lx.get_str s 3 h3',hl];rfl
                      have kx:=fun w=>rHex_any x (hlt x (by rw [hl];simp)) w
                      have ky:=fun w=>rHex_any y (hlt y (by rw [hl];simp)) w
                      have hE2:Lx.esc (120 :: x :: y :: r)=match Lx.hexv x,Lx.hexv y with | some u,some v=>some (16 * u+v,3) | _,_=>none:=rfl
                      rw [<-hx0] at kx
                      rw [<-hy0] at ky
                      cases hvx:Lx.hexv x with
                      | none =>
                        rw [hx0,hvx] at kx
                        rw [<-hx0] at kx
                        have e:Hid (partV (92 :: 120 :: x :: y :: r)=(0,0)):=Hxq (by rw [hE,hE2,hvx])
                        have KX:=Lib.hid kx;have KY:=Lib.hid ky
                        clear hll hl hlt hp1 hn1 hc0 hd0 k34 k92 k110 hE a34 b34 d34 a92 b92 d92 a110 b110 d110 kx ky hx0 hy0 hE2 hvx
                        go_enter Tryz.func165,Tryz.ntmps165
                        go_wp2_with fail
                        refine (KX.out _).mono ?_
                        rintro e2 w2 ⟨rfl,rfl⟩
                        go_wp2_with fail
                        refine (KY.out _).mono ?_
                        rintro e2 w2 ⟨rfl,rfl⟩
                        unfold hexZ
                        go_wp2_with fail
                        all_goals go_ret2
                        all_goals exact ⟨by rw [e.out];rfl,rfl⟩
                      | some u =>
                        have hu:=Lx.hexv_lt hvx
                        rw [hx0,hvx] at kx
                        rw [<-hx0] at kx
                        cases hvy:Lx.hexv y with
                        | none =>
                          rw [hy0,hvy] at ky
                          rw [<-hy0] at ky
                          have e:Hid (partV (92 :: 120 :: x :: y :: r)=(0,0)):=Hxq (by rw [hE,hE2,hvx,hvy])
                          have KX:=Lib.hid kx;have KY:=Lib.hid ky
                          clear hll hl hlt hp1 hn1 hc0 hd0 k34 k92 k110 hE a34 b34 d34 a92 b92 d92 a110 b110 d110 kx ky hx0 hy0 hE2 hvx hvy
                          go_enter Tryz.func165,Tryz.ntmps165
                          go_wp2_with fail
                          refine (KX.out _).mono ?_
                          rintro e2 w2 ⟨rfl,rfl⟩
                          go_wp2_with fail
                          refine (KY.out _).mono ?_
                          rintro e2 w2 ⟨rfl,rfl⟩
                          unfold hexZ
                          go_wp2_with fail
                          go_ret2
                          exact ⟨by rw [e.out];rfl,rfl⟩
                        | some v =>
                          have hv:=Lx.hexv_lt hvy
                          rw [hy0,hvy] at ky
                          rw [<-hy0] at ky
                          have e:Hid (partV (92 :: 120 :: x :: y :: r)=(16 * u+v,4)):=Hxq (by rw [hE,hE2,hvx,hvy])
                          have KX:=Lib.hid kx;have KY:=Lib.hid ky
                          clear hll hl hlt hp1 hn1 hc0 hd0 k34 k92 k110 hE a34 b34 d34 a92 b92 d92 a110 b110 d110 kx ky hx0 hy0 hE2 hvx hvy
                          go_enter Tryz.func165,Tryz.ntmps165
                          go_wp2_with fail
                          refine (KX.out _).mono ?_
                          rintro e2 w2 ⟨rfl,rfl⟩
                          go_wp2_with fail
                          refine (KY.out _).mono ?_
                          rintro e2 w2 ⟨rfl,rfl⟩
                          unfold hexZ
                          go_wp2_with fail
                          go_ret2
                          exact ⟨by rw [e.out];go_num,rfl⟩
                  · obtain ⟨a120,b120,d120⟩:=hn1 120 k120
                    have e:Hid (partV (92 :: d :: r)=(0,0)):=Hxq (by rw [hE];simp [Lx.esc,k34,k92,k110,k120])
                    clear hll hl hlt hp1 hn1 hc0 hd0 k34 k92 k110 k120 hE
                    go_enter Tryz.func165,Tryz.ntmps165
                    go_wp2_with fail
                    all_goals first
                      | (go_ret2;exact ⟨by rw [e.out];rfl,rfl⟩)
                      | (exfalso;have hh:((s[1].toNat:Int) == 34)=true\/((s[1].toNat:Int) == 92)=true:=by assumption
                         rcases hh with hh | hh
                         · exact absurd (hh.symm.trans b34) (by decide)
                         · exact absurd (hh.symm.trans b92) (by decide))
        · obtain ⟨a92,b92,d92⟩:=hn 92 h92
          have e:Hid (partV (c :: r)=(c,1)):=Hxq (by simp [partV,h34,h10,h92])
          have HC:=Lib.hid hc0
          clear hll hl hlt hp hn hc0 h34 h10 h92
          go_enter Tryz.func165,Tryz.ntmps165
          go_wp2_with fail
          all_goals first
            | (go_ret2;exact ⟨by rw [e.out,<-HC.out];rfl,rfl⟩)
            | (exfalso;have hh:((s[0].toNat:Int) == 34)=true\/((s[0].toNat:Int) == 10)=true:=by assumption
               rcases hh with hh | hh
               · exact absurd (hh.symm.trans b34) (by decide)
               · exact absurd (hh.symm.trans b10) (by decide))
def quoV (l:List Nat):Value:=match Lx.quo l with | none=>.tuple #[.string (Lx.ofS []),.int .i64 0] | some (sym,n)=>.tuple #[.string (Lx.ofS sym),.int .i64 (n:Nat)]
theorem quo_step {k:Nat} {c:Nat} {r acc:List Nat} {i:Nat} (h34:c≠34):Lx.quoF (k+1) (c :: r) acc i=if (partV (c :: r)).2=0 then none else Lx.quoF k ((c :: r).drop (partV (c :: r)).2) (acc++[(partV (c :: r)).1]) (i+(partV (c :: r)).2):=by
 rw [Lx.quoF,if_neg h34]
 by_cases h10:c=10
 ·have e:partV (c :: r)=(0,0):=by simp [partV,h10]
  rw [if_pos h10,e];rfl
 ·rw [if_neg h10]
  by_cases h92:c=92
  ·have e:partV (c :: r)=match Lx.esc r with | none=>(0,0) | some (b,m)=>(b,m+1):=by
    simp [partV,h34,h10,h92]
    all_goals (cases Lx.esc r <;> rfl)
   rw [if_pos h92,e]
   cases hx:Lx.esc r with
   | none=>rfl
   | some bm =>
    obtain ⟨b,m⟩:=bm
    simp only
    rw [if_neg (by omega),List.drop_succ_cons,show i+1+m=i+(m+1) by omega]
  ·have e:partV (c :: r)=(c,1):=by simp [partV,h34,h10,h92]
   rw [if_neg h92,e];rfl
theorem part_len {c:Nat} {r:List Nat} (hb:∀ x∈c :: r,x<256):(partV (c :: r)).2<=r.length+1/\(partV (c :: r)).1<256:=by
 unfold partV
 simp only
 split
 ·simp
 ·split
  ·cases hx:Lx.esc r with
   | none=>simp
   | some bm =>
    obtain ⟨b,m⟩:=bm
    have:=Lx.esc_len (fun x hx=>hb x (by simp [hx])) hx
    simp only
    omega
  ·exact ⟨by simp,hb c (by simp)⟩
set_option maxHeartbeats 4000000 in
theorem rQuoted_any (s:ByteArray) (hs:s.size<=65536) (w:World) :
  Calls Tryz.prog 153 #[.string s] w fun e w'=>e=.returned (quoV (Cod.str s))/\Mod [] w w':=by
 obtain ⟨i0,hinf,hz0,hz1,hz2⟩:=info_parts Tryz.infoU8
 have hlt:=Cod.str_lt s
 have hsz:=Cod.str_len s
 obtain ⟨l,hl⟩:∃ l,l=Cod.str s:=⟨_,rfl⟩
 rw [<-hl] at hlt hsz ⊢
 have HL:=Lib.hid hl
 have HSZ:=Lib.hid hsz
 have HLT:=Lib.hid hlt
 clear hl hsz hlt
 go_enter Tryz.func153,Tryz.ntmps153
 go_wp2_with fail
 go_loopw [4,5] (fun bv iv wr=>∃ (i f vc:Nat) (va:Option Addr) (acc:List Nat),1<=i/\i<=l.length+1/\iv=.int .i64 (i:Int)/\bv=.slice va acc.length vc/\wr.ownsRow 0 5 1 (.slice va acc.length vc) acc.length (toCells acc) /\
   (∀ c∈acc,c<256)/\acc.length<=i/\l.length<=f+i/\Lx.quoF f (l.drop i) acc i=Lx.quo l/\(∀ k∈fp (.slice va acc.length vc),w.heap.size<=k)/\Mod [] w wr)
  (fun _ iv _=>l.length+1 - (intOf iv).toNat)
 case atStart =>
  exact ⟨1,l.length,0,none,[],Nat.le_refl _,by omega,rfl,rfl,World.ownsRow_nil _ _ _ _,by simp,by simp,by omega,rfl,by simp [fp],Mod.refl _ _⟩
 case round =>
  obtain ⟨i,f,vc,va,acc,hi1,hi2,rfl,rfl,hown,hab,hai,hf,hq,hfp,hmr⟩:=hrel
  have hsz:=HSZ.out
  by_cases hi:i<l.length
  ·obtain ⟨c,r,hd⟩:∃ c r,l.drop i=c :: r:=⟨_,_,List.drop_eq_getElem_cons hi⟩
   have his:i<s.size:=by omega
   have hc0:s[i].toNat=c:=by
    rw [<-Lx.get_str s i his,<-HL.out,List.getD_eq_getElem?_getD,<-List.head?_drop,hd];rfl
   obtain ⟨k,rfl⟩:∃ k,f=k+1:=⟨f - 1,by omega⟩
   obtain ⟨hp,hn⟩:=tests hc0
   by_cases h34:c=34
   ·have p34:=hp 34 h34
    rw [hd,Lx.quoF,if_pos h34] at hq
    have hiI:(i:Int)<(s.size:Int):=by omega
    have hi0:(0:Int)<=(i:Int):=by omega
    by_cases hlong:64<acc.length
    ·rw [if_pos hlong] at hq
     have e:Hid (quoV l=.tuple #[.string (Lx.ofS []),.int .i64 0]):=Hxq (by unfold quoV;rw [<-hq])
     have hlI:(64:Int)<(acc.length:Int):=by omega
     clear hq hp hn hc0 hd h34
     go_wp2_with fail
     go_ret2
     exact ⟨by rw [e.out];rfl,hmr⟩
    ·rw [if_neg hlong] at hq
     have e:Hid (quoV l=.tuple #[.string (Lx.ofS acc),.int .i64 ((i+1:Nat):Int)]):=Hxq (by unfold quoV;rw [<-hq])
     have hlI:(acc.length:Int)<=64:=by omega
     have hcv:=conv_reads (reads_own hown hab (by omega))
     clear hq hp hn hc0 hd h34
     go_wp2_with fail
     go_ret2
     exact ⟨by rw [e.out];rfl,hmr⟩
   ·obtain ⟨a34,b34,d34⟩:=hn 34 h34
    have hrb:∀ x∈c :: r,x<256:=fun x hx=>HLT.out x (by rw [<-hd] at hx;exact List.mem_of_mem_drop hx)
    obtain ⟨hpl,hpb⟩:=part_len hrb
    have hrl:r.length+1=l.length - i:=by
     have:=congrArg List.length hd
     rw [List.length_drop] at this
     simp at this;omega
    have hsx:Cod.str (s.extract i s.size)=c :: r:=by
     rw [Lx.str_extract,<-HL.out,hd,List.take_of_length_le (by simp;omega)]
    have hcall:=fun w=>rPart_any (s.extract i s.size) (by rw [ByteArray.size_extract];omega) w
    rw [hsx] at hcall
    rw [hd,quo_step h34] at hq
    have hdd:(c :: r).drop (partV (c :: r)).2=l.drop (i+(partV (c :: r)).2):=by rw [<-hd,List.drop_drop]
    rw [hdd] at hq
    have hPC:∀ w,Calls Tryz.prog 165 #[.string (s.extract i s.size)] w fun e w'=>e=.returned (.tuple #[.int .u8 ((partV (c :: r)).1:Nat),.int .i64 ((partV (c :: r)).2:Nat)])/\w=w':=hcall
    generalize partV (c :: r)=pv at *
    obtain ⟨b,n⟩:=pv
    simp only at hq hpl hpb hPC
    have hiI:(i:Int)<(s.size:Int):=by omega
    have HPC:=Lib.hid hPC
    have hfF:=Lib.hid hf
    clear hcall hp hn hc0 hd h34 hsx hrb hdd hPC hf
    by_cases hn0:n=0
    ·rw [if_pos hn0] at hq
     have e:Hid (quoV l=.tuple #[.string (Lx.ofS []),.int .i64 0]):=Hxq (by unfold quoV;rw [<-hq])
     have hnB:((n:Int) == 0)=true:=by rw [hn0];rfl
     clear hq hn0
     go_wp2_with fail
     refine (HPC.out _).mono ?_
     rintro e2 w2 ⟨rfl,rfl⟩
     go_wp2_with fail
     go_ret2
     exact ⟨by rw [e.out];rfl,hmr⟩
    ·rw [if_neg hn0] at hq
     have hnB:((n:Int) == 0)=false:=by rw [beq_eq_false_iff_ne];omega
     have HQ:=Lib.hid hq
     have hone:=reads_one wr b hpb
     clear hq
     go_wp2_with (first | (go_at_call 165;refine (HPC.out _).mono ?_;rintro e2 w2 ⟨rfl,rfl⟩) | (at_builtin;refine wpList_append_src _ rfl _ _ 189 189 rfl 5 i0 (.int .u8 0) 1 1 Tryz.underlying189 hinf hz0 hz1 hz2 rfl (.slice va acc.length vc) acc.length (toCells acc) rfl (hown.alloc _) _ 1 [.int .u8 (b:Nat)] rfl (src_reads hone) (by unfold maxLen;omega) (by omega) ?_))
     intro v' w3 hown3 hm3 hf3 hn3
     obtain ⟨va3,vc3,rfl⟩:=owns_slice hown3
     have hm3':Mod [] w w3:=(hmr.alloc _).trans hm3 (fun t ht=>.inr (by have:=hfp t ht;omega))
     have hlen:acc.length+1=(acc++[b]).length:=by simp
     have hcl:toCells acc++[.int .u8 (b:Nat)]=toCells (acc++[b]):=by simp [toCells]
     have hszr:=hmr.size
     have hf3':∀ k∈fp (.slice va3 (acc.length+1) vc3),w.heap.size<=k:=fun k hk=>by
      rcases hf3 k hk with h | h
      ·exact hfp k h
      ·first | omega | (simp at h;omega)
     rw [hcl] at hown3
     have hab3:∀ c∈acc++[b],c<256:=fun c hc=>by
      rcases List.mem_append.1 hc with h | h
      ·exact hab c h
      ·simp at h;omega
     have HREL:Hid (w3.ownsRow 0 5 1 (.slice va3 (acc++[b]).length vc3) (acc++[b]).length (toCells (acc++[b]))/\(∀ k∈fp (.slice va3 (acc++[b]).length vc3),w.heap.size<=k)):=Hxq (by rw [<-hlen];exact ⟨hown3,hf3'⟩)
     clear hn3 hf3 hm3 hown3 hone hcl hf3' hown
     go_wp2_with fail
     go_roundw
     case rel =>
      have:=hfF.out
      refine ⟨i+n,k,vc3,va3,acc++[b],by omega,by omega,by go_num,by rw [<-hlen],HREL.out.1,hab3,by rw [<-hlen];omega,by omega,HQ.out,HREL.out.2,hm3'⟩
     case measure=>simp [intOf];omega
  ·have hiI:(s.size:Int)<=(i:Int):=by omega
   have e:Hid (quoV l=.tuple #[.string (Lx.ofS []),.int .i64 0]):=Hxq (by
    rw [List.drop_eq_nil_of_le (by omega)] at hq
    unfold quoV
    rw [<-hq]
    cases f <;> rfl)
   clear hq
   go_wp2_with fail
   go_ret2
   exact ⟨by rw [e.out];rfl,hmr⟩
theorem res_tok3 {fn:Func} {p u v:Tmp} (h:fn.results=#[.cell p 74,.tmp u,.tmp v]) (tmps:Array Value) (w:World) (b:Nat) (cs:Array Value) (T:TypeId) (fr:Nat × Nat) (x y:Value)
  (hp:tmps.getD p undef=.pointer (some ⟨b,0,none⟩)) (hx:tmps.getD u undef=x) (hy:tmps.getD v undef=y) (hg:w.heap[b]?=some (.cells cs T fr)) (hc:cs.size=7) :
  (results fn tmps).run Tryz.prog w=.ok (.tuple #[.agg cs,x,y]) w:=by
 have hl:=run_loadVar_row (P:=Tryz.prog) w b T 74 cs fr _ hg Tryz.underlying74 rfl (by rw [Tryz.sizeTok,hc])
 have hp':tmps[p]?.getD undef=.pointer (some ⟨b,0,none⟩):=by simpa using hp
 have hx':tmps[u]?.getD undef=x:=by simpa using hx
 have hy':tmps[v]?.getD undef=y:=by simpa using hy
 simp [results,h,hp',hx',hy',asAddr,hl]
/-- what the reference's word answers -/
def RW (l:List Nat) (w:World) (e:Ending) (w':World):Prop :=
 (match Lx.word l with
  | .ok x=>e=.returned (.tuple #[.agg (tokC (wdT l x)),.int .i64 (x.n:Nat),.int .i64 0])
  | .bad er=>∃ t:Lx.Tok,e=.returned (.tuple #[.agg (tokC t),.int .i64 0,.int .i64 (er:Nat)]))/\Mod [] w w'
theorem RW.ok {l:List Nat} {w w':World} {e:Ending} {x:Lx.Wd} (h:Lx.word l=.ok x) (he:e=.returned (.tuple #[.agg (tokC (wdT l x)),.int .i64 (x.n:Nat),.int .i64 0])) (hm:Mod [] w w'):RW l w e w':=by
 unfold RW;rw [h];exact ⟨he,hm⟩
theorem RW.bad {l:List Nat} {w w':World} {e:Ending} {er:Nat} {cs:Array Value} (h:Lx.word l=.bad er) (he:e=.returned (.tuple #[.agg cs,.int .i64 0,.int .i64 (er:Nat)])) (hm:Mod [] w w') (h7:∃ t,cs=tokC t:=by first | exact ⟨⟨0,[],0,0,[],0,0⟩,rfl⟩ | exact ⟨⟨0,[],1,0,[],0,0⟩,rfl⟩ | exact ⟨⟨0,[],2,0,[],0,0⟩,rfl⟩ | exact ⟨⟨5,[],0,0,[],0,0⟩,rfl⟩ | exact ⟨⟨5,[],1,0,[],0,0⟩,rfl⟩ | exact ⟨⟨5,[],2,0,[],0,0⟩,rfl⟩ | exact ⟨⟨3,[],0,0,[],0,0⟩,rfl⟩ | exact ⟨⟨3,[],1,0,[],0,0⟩,rfl⟩ | exact ⟨⟨3,[],2,0,[],0,0⟩,rfl⟩ | exact ⟨⟨4,[],0,0,[],0,0⟩,rfl⟩ | exact ⟨⟨4,[],1,0,[],0,0⟩,rfl⟩ | exact ⟨⟨4,[],2,0,[],0,0⟩,rfl⟩ | exact ⟨⟨2,[],0,0,[],0,0⟩,rfl⟩ | exact ⟨⟨2,[],1,0,[],0,0⟩,rfl⟩ | exact ⟨⟨2,[],2,0,[],0,0⟩,rfl⟩ | exact ⟨⟨1,[],0,0,[],0,0⟩,rfl⟩ | exact ⟨⟨1,[],1,0,[],0,0⟩,rfl⟩ | exact ⟨⟨1,[],2,0,[],0,0⟩,rfl⟩):RW l w e w':=by
 unfold RW;rw [h];obtain ⟨t,rfl⟩:=h7;exact ⟨⟨t,he⟩,hm⟩
theorem two_at (w:World) (o1 o2:Obj):((w.alloc o1).alloc o2).heap[w.heap.size]?=some o1:=((Mod.refl [] _).alloc o2).at (heap_alloc_new w o1) (by simp)
theorem two_mod (w:World) (o1 o2:Obj):Mod [] w ((w.alloc o1).alloc o2):=((Mod.refl [] w).alloc o1).alloc o2
set_option maxHeartbeats 4000000 in
theorem rWord_any (s:ByteArray) (hs:s.size<=65536) (h0:0<s.size) (w:World) :
  Calls Tryz.prog 138 #[.string s] w (RW (Cod.str s) w):=by
 have hsz:=Cod.str_len s
 have hc0:s[0].toNat=(Cod.str s).headD 0:=by
  rw [<-Lx.get_str s 0 h0]
  cases Cod.str s <;> rfl
 have hn0:Cod.str s≠[]:=by intro h;rw [h] at hsz;simp at hsz;omega
 have hsm:∀ b,Lx.small ((Cod.str s).headD 0)=b->∀ w,Calls Tryz.prog 148 #[.int .u8 (s[0].toNat:Int)] w fun e w'=>e=.returned (.bool b)/\w=w' :=
  fun b hb w=>rSmall_any _ b (by rw [small_nat,hc0];exact hb) w
 have hcp:∀ b,Lx.capital ((Cod.str s).headD 0)=b->∀ w,Calls Tryz.prog 149 #[.int .u8 (s[0].toNat:Int)] w fun e w'=>e=.returned (.bool b)/\w=w' :=
  fun b hb w=>rCapital_any _ b (by rw [capital_nat,hc0];exact hb) w
 have hdg:∀ b,Lx.digit ((Cod.str s).headD 0)=b->∀ w,Calls Tryz.prog 150 #[.int .u8 (s[0].toNat:Int)] w fun e w'=>e=.returned (.bool b)/\w=w' :=
  fun b hb w=>rDigit_any _ b (by rw [digit_nat,hc0];exact hb) w
 have hrg:=rRun_any s (by omega) false
 have hrd:=rRun_any s (by omega) true
 simp only [runP,if_true,Bool.false_eq_true,if_false] at hrg hrd
 have hgl:=Lx.run_le Lx.goes (Cod.str s)
 have hdl:=Lx.run_le Lx.digit (Cod.str s)
 rw [hsz] at hgl hdl
 have hexg:=extract_take s (Lx.run Lx.goes (Cod.str s))
 have hexd:=extract_take s (Lx.run Lx.digit (Cod.str s))
 have HS:=Lib.hid hsm;have HCp:=Lib.hid hcp;have HD:=Lib.hid hdg
 clear hsm hcp hdg
 cases b1:Lx.small ((Cod.str s).headD 0)
 ·cases b2:Lx.capital ((Cod.str s).headD 0)
  ·have hb12:(Lx.small ((Cod.str s).headD 0) || Lx.capital ((Cod.str s).headD 0))=false:=by rw [b1,b2];rfl
   have H1:=Hxq (HS.out _ b1);have H2:=Hxq (HCp.out _ b2)
   cases b3:Lx.digit ((Cod.str s).headD 0)
   ·have H3:=Hxq (HD.out _ b3)
    by_cases h34:(Cod.str s).headD 0=34
    ·have hW:=word_quo hb12 b3 h34
     have p34:((s[0].toNat:Int) == 34)=true:=by rw [hc0,h34];rfl
     have hq:=rQuoted_any s hs
     have hb:=Cod.str_lt s
     cases hqq:Lx.quo (Cod.str s) with
     | none =>
      have e:Hid (Lx.word (Cod.str s)=.bad 32):=Hxq (by rw [hW];unfold quoR;rw [hqq])
      have hv:quoV (Cod.str s)=.tuple #[.string (Lx.ofS []),.int .i64 0]:=by unfold quoV;rw [hqq]
      rw [hv] at hq
      have HQ:=Lib.hid hq
      clear hrg hrd hexg hexd b1 b2 b3 hW hn0 hsz hc0 HS HCp HD hdl hgl hq hb hqq hv h34 hb12
      go_enter Tryz.func138,Tryz.ntmps138
      go_wp2_with fail
      refine (H1.out _).mono ?_
      rintro e2 w2 ⟨rfl,rfl⟩
      go_wp2_with fail
      refine (H2.out _).mono ?_
      rintro e2 w2 ⟨rfl,rfl⟩
      go_wp2_with fail
      refine (H3.out _).mono ?_
      rintro e2 w2 ⟨rfl,rfl⟩
      go_wp2_with fail
      refine (HQ.out _).mono ?_
      rintro e2 w2 ⟨rfl,hm2⟩
      have hB2:=hm2.at (two_at w _ _) (by simp)
      have hT2:=hm2.at (show ((w.alloc (Obj.cells (tokC zeroT) 74)).alloc (Obj.cells (tokC ⟨5,[],0,0,[],0,0⟩) 74)).heap[w.heap.size+1]?=_ from alloc_at _ (by simp)) (by simp)
      have hm2':=(two_mod w _ _).trans hm2 (by simp)
      obtain ⟨q0,q1,q2,q3,q4,q5,q6⟩:=tok_cells (t:=zeroT) hB2
      obtain ⟨t0,t1,t2,t3,t4,t5,t6⟩:=tok_cells hT2
      have fz:∀ j,w2.frozen? ⟨w.heap.size,j,none⟩=false:=fun j=>by simp [World.frozen?,hB2]
      have ft:∀ j,w2.frozen? ⟨w.heap.size+1,j,none⟩=false:=fun j=>by simp [World.frozen?,hT2]
      go_wp2_with fail
      exact bodyPost_ret (res_tok3 rfl _ _ _ _ _ _ _ _ rfl rfl rfl (store_tok hB2 _ _ _ _ _ _ _) rfl) rfl (RW.bad e.out rfl (mod_tok hm2' (.inr (Nat.le_refl _)) _ _ _ _ _ _ _))
     | some sn =>
      obtain ⟨sym,n⟩:=sn
      obtain ⟨hn1,hn2,-⟩:=Lx.quo_len hb hqq
      have e:Hid (Lx.word (Cod.str s)=.ok ⟨4,n,2,0,sym⟩):=Hxq (by rw [hW];unfold quoR;rw [hqq])
      have hv:quoV (Cod.str s)=.tuple #[.string (Lx.ofS sym),.int .i64 (n:Nat)]:=by unfold quoV;rw [hqq]
      rw [hv] at hq
      have HQ:=Lib.hid hq
      have hnB:((n:Int) == 0)=false:=by rw [beq_eq_false_iff_ne];omega
      have hnS:(n:Int)<=(s.size:Int):=by omega
      have HEX:=Hxq (extract_take s n)
      clear hrg hrd hexg hexd b1 b2 b3 hW hn0 hsz hc0 HS HCp HD hdl hgl hq hb hqq hv h34 hb12
      go_enter Tryz.func138,Tryz.ntmps138
      go_wp2_with fail
      refine (H1.out _).mono ?_
      rintro e2 w2 ⟨rfl,rfl⟩
      go_wp2_with fail
      refine (H2.out _).mono ?_
      rintro e2 w2 ⟨rfl,rfl⟩
      go_wp2_with fail
      refine (H3.out _).mono ?_
      rintro e2 w2 ⟨rfl,rfl⟩
      go_wp2_with fail
      refine (HQ.out _).mono ?_
      rintro e2 w2 ⟨rfl,hm2⟩
      have hB2:=hm2.at (two_at w _ _) (by simp)
      have hT2:=hm2.at (show ((w.alloc (Obj.cells (tokC zeroT) 74)).alloc (Obj.cells (tokC ⟨5,[],0,0,[],0,0⟩) 74)).heap[w.heap.size+1]?=_ from alloc_at _ (by simp)) (by simp)
      have hm2':=(two_mod w _ _).trans hm2 (by simp)
      obtain ⟨q0,q1,q2,q3,q4,q5,q6⟩:=tok_cells (t:=zeroT) hB2
      obtain ⟨t0,t1,t2,t3,t4,t5,t6⟩:=tok_cells hT2
      have fz:∀ j,w2.frozen? ⟨w.heap.size,j,none⟩=false:=fun j=>by simp [World.frozen?,hB2]
      have ft:∀ j,w2.frozen? ⟨w.heap.size+1,j,none⟩=false:=fun j=>by simp [World.frozen?,hT2]
      go_wp2_with fail
      rw [HEX.out]
      have hm5:=(((((Mod.refl [w.heap.size+1] w2).setCell (p:=⟨w.heap.size+1,0,none⟩) (by simp) (Value.int IntKind.i64 4)).setCell (p:=⟨w.heap.size+1,2,none⟩) (by simp) (Value.int IntKind.i64 2)).setCell (p:=⟨w.heap.size+1,3,none⟩) (by simp) (Value.int IntKind.i64 0)).setCell (p:=⟨w.heap.size+1,4,none⟩) (by simp) (Value.string (Lx.ofS sym))).setCell (p:=⟨w.heap.size+1,1,none⟩) (by simp) (Value.string (Lx.ofS (List.take n (Cod.str s))))
      have hB5:=hm5.at hB2 (by simp)
      have hm5':=hm2'.trans hm5 (fun t ht=>.inr (by simp at ht;omega))
      clear q0 q1 q2 q3 q4 q5 q6 t0 t1 t2 t3 t4 t5 t6 fz ft
      generalize (((((w2.setCell { block:=w.heap.size+1,off:=0 } (Value.int IntKind.i64 4)).setCell { block:=w.heap.size+1,off:=2 } (Value.int IntKind.i64 2)).setCell { block:=w.heap.size+1,off:=3 } (Value.int IntKind.i64 0)).setCell { block:=w.heap.size+1,off:=4 } (Value.string (Lx.ofS sym))).setCell { block:=w.heap.size+1,off:=1 } (Value.string (Lx.ofS (List.take n (Cod.str s)))))=w5 at *
      exact bodyPost_ret (res_tok3 rfl _ _ _ _ _ _ _ _ rfl rfl rfl (store_tok hB5 _ _ _ _ _ _ _) rfl) rfl (RW.ok e.out rfl (mod_tok hm5' (.inr (Nat.le_refl _)) _ _ _ _ _ _ _))
    ·have hW:=word_mark hb12 b3 h34
     have p34:((s[0].toNat:Int) == 34)=false:=by rw [hc0,beq_eq_false_iff_ne];omega
     have hmk:=rMark_any s h0 (by omega)
     have hml:=Lx.mark_le (Cod.str s)
     rw [hsz] at hml
     have hexm:=extract_take s (Lx.mark (Cod.str s))
     unfold markR at hW
     generalize Lx.mark (Cod.str s)=n at *
     have HM:=Lib.hid hmk;have HW:=Lib.hid hW;have HEX:=Lib.hid hexm
     have hnS:(n:Int)<=(s.size:Int):=by omega
     clear hrg hrd hexg hexd b1 b2 b3 hW hn0 hsz hc0 HS HCp HD hdl hgl h34 hb12 hmk hml hexm
     by_cases hz:n=0
     ·have e:Hid (Lx.word (Cod.str s)=.bad 30):=Hxq (by rw [HW.out,if_pos hz])
      have hnB:((n:Int) == 0)=true:=by rw [hz];rfl
      clear hz
      go_enter Tryz.func138,Tryz.ntmps138
      go_wp2_with fail
      refine (H1.out _).mono ?_
      rintro e2 w2 ⟨rfl,rfl⟩
      go_wp2_with fail
      refine (H2.out _).mono ?_
      rintro e2 w2 ⟨rfl,rfl⟩
      go_wp2_with fail
      refine (H3.out _).mono ?_
      rintro e2 w2 ⟨rfl,rfl⟩
      go_wp2_with fail
      refine (HM.out _).mono ?_
      rintro e2 w2 ⟨rfl,rfl⟩
      go_wp2_with fail
      exact bodyPost_ret (res_tok3 rfl _ _ _ _ _ _ _ _ rfl rfl rfl (two_at w _ _) rfl) rfl (RW.bad e.out rfl (two_mod w _ _))
     ·have e:Hid (Lx.word (Cod.str s)=.ok ⟨5,n,0,0,[]⟩):=Hxq (by rw [HW.out,if_neg hz])
      have hnB:((n:Int) == 0)=false:=by rw [beq_eq_false_iff_ne];omega
      clear hz
      go_enter Tryz.func138,Tryz.ntmps138
      go_wp2_with fail
      refine (H1.out _).mono ?_
      rintro e2 w2 ⟨rfl,rfl⟩
      go_wp2_with fail
      refine (H2.out _).mono ?_
      rintro e2 w2 ⟨rfl,rfl⟩
      go_wp2_with fail
      refine (H3.out _).mono ?_
      rintro e2 w2 ⟨rfl,rfl⟩
      go_wp2_with fail
      refine (HM.out _).mono ?_
      rintro e2 w2 ⟨rfl,rfl⟩
      go_wp2_with fail
      rw [HEX.out]
      exact bodyPost_ret (res_tok3 rfl _ _ _ _ _ _ _ _ rfl rfl rfl (two_at w _ _) rfl) rfl (RW.ok e.out rfl (two_mod w _ _))
   ·have hW:=word_num hb12 b3
    have H3:=Hxq (HD.out _ b3)
    have hnd:1<=Lx.run Lx.digit (Cod.str s):=Lx.run_pos hn0 b3
    have hstr:Cod.str (s.extract 0 (Lx.run Lx.digit (Cod.str s)))=(Cod.str s).take (Lx.run Lx.digit (Cod.str s)):=by rw [Lx.str_extract];simp
    have hnb:=rNumber_any (s.extract 0 (Lx.run Lx.digit (Cod.str s))) (by rw [ByteArray.size_extract];omega) (by rw [ByteArray.size_extract];omega) (by rw [hstr];exact run_all _ _)
    rw [hstr] at hnb
    have hzv:numZ ((Cod.str s).take (Lx.run Lx.digit (Cod.str s)))=if (1<Lx.run Lx.digit (Cod.str s)/\(Cod.str s).headD 0=48)\/2147483647<Lx.numv ((Cod.str s).take (Lx.run Lx.digit (Cod.str s))) then -1 else ((Lx.numv ((Cod.str s).take (Lx.run Lx.digit (Cod.str s))):Nat):Int):=by
     unfold numZ
     rw [List.length_take,hsz,Nat.min_eq_left hdl]
     have:((Cod.str s).take (Lx.run Lx.digit (Cod.str s))).headD 0=(Cod.str s).headD 0:=by
      obtain ⟨k,hk⟩:∃ k,Lx.run Lx.digit (Cod.str s)=k+1:=⟨_,(Nat.sub_add_cancel hnd).symm⟩
      rw [hk]
      cases Cod.str s <;> rfl
     rw [this]
    unfold numR at hW
    generalize Lx.numv ((Cod.str s).take (Lx.run Lx.digit (Cod.str s)))=v at *
    generalize numZ ((Cod.str s).take (Lx.run Lx.digit (Cod.str s)))=z at *
    generalize Lx.run Lx.digit (Cod.str s)=n at *
    generalize Lx.run Lx.goes (Cod.str s)=m at *
    have HW:=Lib.hid hW;have HZ:=Lib.hid hzv;have HRG:=Lib.hid hrg;have HRD:=Lib.hid hrd;have HN:=Lib.hid hnb;have HEX:=Lib.hid hexd
    have hnS:(n:Int)<=(s.size:Int):=by omega
    by_cases hbad:(1<n/\(Cod.str s).headD 0=48)\/2147483647<v
    ·have hz1:z=-1:=by rw [hzv,if_pos hbad]
     have e:Hid (Lx.word (Cod.str s)=.bad 31):=Hxq (by rw [HW.out,if_pos];rcases hbad with h | h;exact .inl h;exact .inr (.inl h))
     subst hz1
     clear hrg hrd hexg hexd b1 b2 b3 hW hn0 hsz hc0 HS HCp HD hdl hgl hb12 hstr hnb hzv hbad
     go_enter Tryz.func138,Tryz.ntmps138
     go_wp2_with fail
     refine (H1.out _).mono ?_
     rintro e2 w2 ⟨rfl,rfl⟩
     go_wp2_with fail
     refine (H2.out _).mono ?_
     rintro e2 w2 ⟨rfl,rfl⟩
     go_wp2_with fail
     refine (H3.out _).mono ?_
     rintro e2 w2 ⟨rfl,rfl⟩
     go_wp2_with fail
     refine (HRD.out _).mono ?_
     rintro e2 w2 ⟨rfl,rfl⟩
     go_wp2_with fail
     refine (HRG.out _).mono ?_
     rintro e2 w2 ⟨rfl,rfl⟩
     go_wp2_with fail
     refine (HN.out _).mono ?_
     rintro e2 w2 ⟨rfl,rfl⟩
     go_wp2_with fail
     exact bodyPost_ret (res_tok3 rfl _ _ _ _ _ _ _ _ rfl rfl rfl (two_at w _ _) rfl) rfl (RW.bad e.out rfl (two_mod w _ _))
    ·have hz1:z=(v:Nat):=by rw [hzv,if_neg hbad]
     subst hz1
     by_cases hmn:n<m
     ·have e:Hid (Lx.word (Cod.str s)=.bad 31):=Hxq (by rw [HW.out,if_pos (.inr (.inr hmn))])
      have hmnI:(n:Int)<(m:Int):=by omega
      clear hrg hrd hexg hexd b1 b2 b3 hW hn0 hsz hc0 HS HCp HD hdl hgl hb12 hstr hnb hzv hbad hmn
      go_enter Tryz.func138,Tryz.ntmps138
      go_wp2_with fail
      refine (H1.out _).mono ?_
      rintro e2 w2 ⟨rfl,rfl⟩
      go_wp2_with fail
      refine (H2.out _).mono ?_
      rintro e2 w2 ⟨rfl,rfl⟩
      go_wp2_with fail
      refine (H3.out _).mono ?_
      rintro e2 w2 ⟨rfl,rfl⟩
      go_wp2_with fail
      refine (HRD.out _).mono ?_
      rintro e2 w2 ⟨rfl,rfl⟩
      go_wp2_with fail
      refine (HRG.out _).mono ?_
      rintro e2 w2 ⟨rfl,rfl⟩
      go_wp2_with fail
      refine (HN.out _).mono ?_
      rintro e2 w2 ⟨rfl,rfl⟩
      go_wp2_with fail
      exact bodyPost_ret (res_tok3 rfl _ _ _ _ _ _ _ _ rfl rfl rfl (two_at w _ _) rfl) rfl (RW.bad e.out rfl (two_mod w _ _))
     ·have e:Hid (Lx.word (Cod.str s)=.ok ⟨3,n,1,v,[]⟩):=Hxq (by
       rw [HW.out,if_neg]
       rintro (h | h | h)
       ·exact hbad (.inl h)
       ·exact hbad (.inr h)
       ·exact hmn h)
      have hmnI:(m:Int)<=(n:Int):=by omega
      clear hrg hrd hexg hexd b1 b2 b3 hW hn0 hsz hc0 HS HCp HD hdl hgl hb12 hstr hnb hzv hbad hmn
      go_enter Tryz.func138,Tryz.ntmps138
      go_wp2_with fail
      refine (H1.out _).mono ?_
      rintro e2 w2 ⟨rfl,rfl⟩
      go_wp2_with fail
      refine (H2.out _).mono ?_
      rintro e2 w2 ⟨rfl,rfl⟩
      go_wp2_with fail
      refine (H3.out _).mono ?_
      rintro e2 w2 ⟨rfl,rfl⟩
      go_wp2_with fail
      refine (HRD.out _).mono ?_
      rintro e2 w2 ⟨rfl,rfl⟩
      go_wp2_with fail
      refine (HRG.out _).mono ?_
      rintro e2 w2 ⟨rfl,rfl⟩
      go_wp2_with fail
      refine (HN.out _).mono ?_
      rintro e2 w2 ⟨rfl,rfl⟩
      go_wp2_with fail
      rw [HEX.out]
      exact bodyPost_ret (res_tok3 rfl _ _ _ _ _ _ _ _ rfl rfl rfl (two_at w _ _) rfl) rfl (RW.ok e.out rfl (two_mod w _ _))
  ·have b3:Lx.digit ((Cod.str s).headD 0)=false:=by
    unfold Lx.capital at b2;unfold Lx.digit
    rw [<-Bool.not_eq_true]
    simp at b2 ⊢;omega
   have hW:=word_name (l:=Cod.str s) (by rw [b2];simp)
   rw [b2] at hW
   have H1:=Hxq (HS.out _ b1);have H2:=Hxq (HCp.out _ b2);have H3:=Hxq (HD.out _ b3)
   generalize Lx.run Lx.goes (Cod.str s)=n at *
   have HW:=Lib.hid hW;have HR:=Lib.hid hrg;have HEX:=Lib.hid hexg
   clear hrg hrd hexg hexd b1 b2 b3 hW hn0 hsz hc0 HS HCp HD hdl
   by_cases hn:32<n
   ·have hnI:(32:Int)<(n:Int):=by omega
    have e:Hid (Lx.word (Cod.str s)=.bad 33):=Hxq (by rw [HW.out,if_pos hn])
    clear hn
    go_enter Tryz.func138,Tryz.ntmps138
    go_wp2_with fail
    refine (H1.out _).mono ?_
    rintro e2 w2 ⟨rfl,rfl⟩
    go_wp2_with fail
    refine (H2.out _).mono ?_
    rintro e2 w2 ⟨rfl,rfl⟩
    go_wp2_with fail
    refine (H3.out _).mono ?_
    rintro e2 w2 ⟨rfl,rfl⟩
    go_wp2_with fail
    refine (HR.out _).mono ?_
    rintro e2 w2 ⟨rfl,rfl⟩
    go_wp2_with fail
    exact bodyPost_ret (res_tok3 rfl _ _ _ _ _ _ _ _ rfl rfl rfl (two_at w _ _) rfl) rfl (RW.bad e.out rfl (two_mod w _ _))
   ·have hnI:(n:Int)<=32:=by omega
    have hnS:(n:Int)<=(s.size:Int):=by omega
    have e:Hid (Lx.word (Cod.str s)=.ok ⟨2,n,0,0,[]⟩):=Hxq (by rw [HW.out,if_neg hn];rfl)
    clear hn
    go_enter Tryz.func138,Tryz.ntmps138
    go_wp2_with fail
    refine (H1.out _).mono ?_
    rintro e2 w2 ⟨rfl,rfl⟩
    go_wp2_with fail
    refine (H2.out _).mono ?_
    rintro e2 w2 ⟨rfl,rfl⟩
    go_wp2_with fail
    refine (H3.out _).mono ?_
    rintro e2 w2 ⟨rfl,rfl⟩
    go_wp2_with fail
    refine (HR.out _).mono ?_
    rintro e2 w2 ⟨rfl,rfl⟩
    go_wp2_with fail
    rw [HEX.out]
    exact bodyPost_ret (res_tok3 rfl _ _ _ _ _ _ _ _ rfl rfl rfl (two_at w _ _) rfl) rfl (RW.ok e.out rfl (two_mod w _ _))
 ·have b2:Lx.capital ((Cod.str s).headD 0)=false:=by
   unfold Lx.small at b1;unfold Lx.capital
   rw [<-Bool.not_eq_true]
   simp at b1 ⊢;omega
  have b3:Lx.digit ((Cod.str s).headD 0)=false:=by
   unfold Lx.small at b1;unfold Lx.digit
   rw [<-Bool.not_eq_true]
   simp at b1 ⊢;omega
  have hW:=word_name (l:=Cod.str s) (by rw [b1];simp)
  rw [b2] at hW
  have H1:=Hxq (HS.out _ b1);have H2:=Hxq (HCp.out _ b2);have H3:=Hxq (HD.out _ b3)
  generalize Lx.run Lx.goes (Cod.str s)=n at *
  have HW:=Lib.hid hW;have HR:=Lib.hid hrg;have HEX:=Lib.hid hexg
  clear hrg hrd hexg hexd b1 b2 b3 hW hn0 hsz hc0 HS HCp HD hdl
  by_cases hn:32<n
  ·have hnI:(32:Int)<(n:Int):=by omega
   have e:Hid (Lx.word (Cod.str s)=.bad 33):=Hxq (by rw [HW.out,if_pos hn])
   clear hn
   go_enter Tryz.func138,Tryz.ntmps138
   go_wp2_with fail
   refine (H1.out _).mono ?_
   rintro e2 w2 ⟨rfl,rfl⟩
   go_wp2_with fail
   refine (H2.out _).mono ?_
   rintro e2 w2 ⟨rfl,rfl⟩
   go_wp2_with fail
   refine (H3.out _).mono ?_
   rintro e2 w2 ⟨rfl,rfl⟩
   go_wp2_with fail
   refine (HR.out _).mono ?_
   rintro e2 w2 ⟨rfl,rfl⟩
   go_wp2_with fail
   exact bodyPost_ret (res_tok3 rfl _ _ _ _ _ _ _ _ rfl rfl rfl (two_at w _ _) rfl) rfl (RW.bad e.out rfl (two_mod w _ _))
  ·have hnI:(n:Int)<=32:=by omega
   have hnS:(n:Int)<=(s.size:Int):=by omega
   have e:Hid (Lx.word (Cod.str s)=.ok ⟨1,n,0,0,[]⟩):=Hxq (by rw [HW.out,if_neg hn];rfl)
   clear hn
   go_enter Tryz.func138,Tryz.ntmps138
   go_wp2_with fail
   refine (H1.out _).mono ?_
   rintro e2 w2 ⟨rfl,rfl⟩
   go_wp2_with fail
   refine (H2.out _).mono ?_
   rintro e2 w2 ⟨rfl,rfl⟩
   go_wp2_with fail
   refine (H3.out _).mono ?_
   rintro e2 w2 ⟨rfl,rfl⟩
   go_wp2_with fail
   refine (HR.out _).mono ?_
   rintro e2 w2 ⟨rfl,rfl⟩
   go_wp2_with fail
   rw [HEX.out]
   exact bodyPost_ret (res_tok3 rfl _ _ _ _ _ _ _ _ rfl rfl rfl (two_at w _ _) rfl) rfl (RW.ok e.out rfl (two_mod w _ _))
end Go.Proofs.YtppigckioalhhaaGreatDoorR
