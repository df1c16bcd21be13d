/- THE TEXTS MERGED: LxHex LxEsc Bytes LxQuo. -/
import Derived.Test.YtbfaclljbbfknaaGreatDoorKP2
namespace Go.Proofs.YtbfaclljbbfknaaGreatDoor
open Go.RowKit
set_option linter.unusedVariables false
set_option linter.unusedSimpArgs false
set_option maxRecDepth 100000
def lowF (c:Nat):Nat:=c ||| 32
theorem lower_any (c:Nat) (hc:c<256) (w:World) :
  Calls Tryz.prog 132 #[.int .u8 (c:Int)] w fun e w'=>e=.returned (.int .u8 (lowF c:Nat))/\w=w':=by
 refine (Tryz.internal_strconv_lower (c:Int) w).mono ?_
 rintro e w' ⟨rfl,rfl⟩
 refine ⟨ret_int ?_,rfl⟩
 have:∀ c:Fin 256,bits BinOp.or IntKind.u8 (c.1:Int) 32=(lowF c.1:Nat):=by decide +kernel
 exact this ⟨c,hc⟩
theorem lowF_lt (c:Nat) (hc:c<256):lowF c<256:=by
 have:∀ c:Fin 256,lowF c.1<256:=by decide +kernel
 exact this ⟨c,hc⟩
theorem hex_cases (c:Nat) (hc:c<256):(48<=c/\c<=57/\Lx.hexv c=some (c - 48))\/(¬ (48<=c/\c<=57)/\97<=lowF c/\lowF c<=102/\Lx.hexv c=some (lowF c - 87)) \/
  (¬ (48<=c/\c<=57)/\lowF c<97/\Lx.hexv c=none)\/(¬ (48<=c/\c<=57)/\103<=lowF c/\Lx.hexv c=none):=by
 have:∀ c:Fin 256,(48<=c.1/\c.1<=57/\Lx.hexv c.1=some (c.1 - 48))\/(¬ (48<=c.1/\c.1<=57)/\97<=lowF c.1/\lowF c.1<=102/\Lx.hexv c.1=some (lowF c.1 - 87)) \/
  (¬ (48<=c.1/\c.1<=57)/\lowF c.1<97/\Lx.hexv c.1=none)\/(¬ (48<=c.1/\c.1<=57)/\103<=lowF c.1/\Lx.hexv c.1=none):=by decide +kernel
 exact this ⟨c,hc⟩
def hexL (l:List Nat):Option Nat:=l.foldl (fun o c=>match o,Lx.hexv c with | some n,some d=>some (16 * n+d) | _,_=>none) (some 0)
def hexR:Option Nat->Value
 | some n=>.tuple #[.int .u64 (n:Nat),.nilIface]
 | none=>.tuple #[.int .u64 0,.iface 176 (.int .i64 2)]
theorem hexL_step (l:List Nat) (c:Nat):hexL (l++[c])=match hexL l,Lx.hexv c with | some n,some d=>some (16 * n+d) | _,_=>none:=by
 unfold hexL;rw [List.foldl_append];rfl
theorem hexL_none (l:List Nat) (k:Nat) (h:∀ n,hexL (l.take k)≠some n):hexL l=none:=by
 have key:∀ (r a:List Nat),hexL a=none->hexL (a++r)=none:=by
  intro r
  induction r with
  | nil=>intro a h;simpa using h
  | cons c r ih =>
   intro a h
   have:=ih (a++[c]) (by rw [hexL_step,h])
   simpa using this
 have h0:hexL (l.take k)=none:=by
  cases hx:hexL (l.take k) with
  | none=>rfl
  | some n=>exact absurd hx (h n)
 have:=key (l.drop k) _ h0
 rwa [List.take_append_drop] at this
theorem getD_lt' {l:List Nat} (h:∀ c∈l,c<256) (i:Nat):l.getD i 0<256:=by
 rcases Nat.lt_or_ge i l.length with hi | hi
 ·rw [List.getD_eq_getElem?_getD,List.getElem?_eq_getElem hi]
  exact h _ (List.getElem_mem hi)
 ·rw [List.getD_eq_getElem?_getD,List.getElem?_eq_none hi]
  decide
theorem bytes_read (w:World) (s:ByteArray) (cap:Nat) (fr:Nat × Nat) (k:Nat) (hk:k<s.size) :
  ((w.alloc (.cells (bytesRow s cap) 5 fr)).drew).cell? ⟨w.heap.size,k,none⟩=some (.int .u8 ((Cod.str s).getD k 0:Nat)):=by
 show (w.alloc (Obj.cells _ _ _)).cell? _=_
 rw [World.cell?_alloc_mark,bytesRow_at _ _ k hk,Lx.get_str _ _ hk]
 rfl
set_option maxHeartbeats 2000000 in
theorem parse_inner (t:ByteArray) (ht:t.size=2) (w:World) :
  Calls Tryz.prog 124 #[.string t,.int .i64 16,.int .i64 8] w fun e w'=>e=.returned (hexR (hexL (Cod.str t)))/\Mod [] w w':=by
 have hcv:=fun w s=>run_bytes_of_string (P:=Tryz.prog) w 9 64 5 s Tryz.underlying9 Tryz.underlying64 Tryz.underlying5
 have hem:t.toList.isEmpty=false:=by rw [toList_isEmpty,ht];rfl
 have hsz:=Lib.hid ht
 have ht1:t.size<=2:=by omega
 have ht2:2<=t.size:=by omega
 clear ht
 go_enter Tryz.func124,Tryz.ntmps124
 go_wp2_with fail
 have hbyte:Hid (∀ k,k<t.size->((w.alloc (Obj.cells (bytesRow t (grownCap w t.size 0 5)) 5 ((bytesRow t (grownCap w t.size 0 5)).size,(bytesRow t (grownCap w t.size 0 5)).size+1))).drew).cell? ⟨w.heap.size,k,none⟩=some (.int .u8 ((Cod.str t).getD k 0:Nat))):=Hxq (fun k hk=>bytes_read w t _ _ k hk)
 have hm0:Mod [] w ((w.alloc (Obj.cells (bytesRow t (grownCap w t.size 0 5)) 5 ((bytesRow t (grownCap w t.size 0 5)).size,(bytesRow t (grownCap w t.size 0 5)).size+1))).drew):=((Mod.refl [] w).alloc _).drew
 have hlt:=Cod.str_lt t
 have hll:=Cod.str_len t
 generalize hw2:((w.alloc (Obj.cells (bytesRow t (grownCap w t.size 0 5)) 5 ((bytesRow t (grownCap w t.size 0 5)).size,(bytesRow t (grownCap w t.size 0 5)).size+1))).drew)=w2 at *
 generalize grownCap w t.size 0 5=cap at *
 have HLL:=Lib.hid hll
 clear hcv hw2 hll
 obtain ⟨C,hC,hCe⟩:∃ C:Int,1000<=C/\C=1152921504606846976:=⟨_,by decide,rfl⟩
 rw [<-hCe]
 clear hCe
 go_loopw [12,13,101] (fun u a i wr=>∃ (k n:Nat),u=.bool false/\k<=t.size/\i=.int .i64 (k:Int)/\a=.int .u64 (n:Int)/\hexL ((Cod.str t).take k)=some n/\n<16 ^ k/\wr=w2) (fun _ _ i _=>2 - (intOf i).toNat)
 case atStart=>exact ⟨0,0,rfl,Nat.zero_le _,rfl,rfl,rfl,by decide,rfl⟩
 case round =>
  obtain ⟨k,n,rfl,hk,rfl,rfl,hx,hn,rfl⟩:=hrel
  by_cases hlk:k<t.size
  ·have hn1:n<=15:=by
    have:16 ^ k<=16 ^ 1:=Nat.pow_le_pow_right (by decide) (by omega)
    omega
   have hb:=hbyte.out k hlk
   have hc:=getD_lt' hlt k
   have hsn:=take_snoc (Cod.str t) 0 k (by rw [HLL.out];omega)
   have hxs:hexL ((Cod.str t).take (k+1))=match Lx.hexv ((Cod.str t).getD k 0) with | some d=>some (16 * n+d) | none=>none:=by
    rw [hsn,hexL_step,hx];cases Lx.hexv ((Cod.str t).getD k 0) <;> rfl
   have hall:(∀ n,hexL ((Cod.str t).take (k+1))≠some n)->hexL (Cod.str t)=none:=fun h=>hexL_none (Cod.str t) (k+1) h
   generalize (Cod.str t).getD k 0=c at *
   have h95:((c:Int) == 95)=decide (c=95):=by rw [Bool.eq_iff_iff];simp;omega
   rcases hex_cases c hc with ⟨h1,h2,hv⟩ | ⟨h1,h2,h3,hv⟩ | ⟨h1,h2,hv⟩ | ⟨h1,h2,hv⟩
   ·rw [hv] at hxs
    have h95:((c:Int) == 95)=false:=by rw [beq_eq_false_iff_ne];omega
    have HX:=Lib.hid hxs;have HN:=Lib.hid hn
    clear hxs hsn hall hv hx hn hlt hem
    go_wp2_with fail
    go_roundw
    case rel =>
     refine ⟨k+1,16 * n+(c - 48),rfl,by omega,by go_num,?_,HX.out,?_,trivial⟩
     ·congr 1;omega
     ·have:=HN.out;rw [Nat.pow_succ];omega
    case measure=>simp [intOf];omega
   ·rw [hv] at hxs
    have h95:¬ c=95:=by
     intro h
     subst h
     revert hv;decide
    have hl:=lowF_lt c hc
    have hd1:¬ ((48:Int)<=(c:Int)/\(c:Int)<=57):=by omega
    have hL:Hid (∀ w,Calls Tryz.prog 132 #[.int .u8 (c:Int)] w fun e w'=>e=.returned (.int .u8 (lowF c:Nat))/\w=w'):=Hxq (lower_any c hc)
    generalize lowF c=u at *
    have HX:=Lib.hid hxs;have HN:=Lib.hid hn
    clear hxs hsn hall hv hx hn hlt hem
    have hcs:(c:Int)<48\/(57<(c:Int)/\48<=(c:Int)):=by omega
    clear hd1 h1
    rcases hcs with hd1 | ⟨hd1,hd2⟩
    all_goals
     go_wp2_with fail
     refine (hL.out _).mono ?_
     rintro e w3 ⟨rfl,rfl⟩
     go_wp2_with fail
     refine (hL.out _).mono ?_
     rintro e w3 ⟨rfl,rfl⟩
     go_wp2_with fail
     refine (hL.out _).mono ?_
     rintro e w3 ⟨rfl,rfl⟩
     go_wp2_with fail
     go_roundw
     case rel =>
      refine ⟨k+1,16 * n+(u - 87),rfl,by omega,by go_num,?_,HX.out,?_,trivial⟩
      ·congr 1;omega
      ·have:=HN.out;rw [Nat.pow_succ];omega
     case measure=>simp [intOf];omega
   ·rw [hv] at hxs
    have hR:=Hxq (hall (by rw [hxs];simp))
    have hl:=lowF_lt c hc
    have hd1:¬ ((48:Int)<=(c:Int)/\(c:Int)<=57):=by omega
    have hL:Hid (∀ w,Calls Tryz.prog 132 #[.int .u8 (c:Int)] w fun e w'=>e=.returned (.int .u8 (lowF c:Nat))/\w=w'):=Hxq (lower_any c hc)
    generalize lowF c=u at *
    clear hxs hsn hall hv hx hn hlt hem
    have hcs:(c:Int)<48\/(57<(c:Int)/\48<=(c:Int)):=by omega
    clear hd1 h1
    have hb':=Lib.hid hb
    by_cases h95:c=95
    ·subst h95
     clear hcs
     go_wp2_with fail
     refine (hL.out _).mono ?_
     rintro e w3 ⟨rfl,rfl⟩
     go_wp2_with fail
     go_ret2
     exact ⟨by rw [hR.out];rfl,hm0⟩
    ·rcases hcs with hd1 | ⟨hd1,hd2⟩
     all_goals
      go_wp2_with fail
      refine (hL.out _).mono ?_
      rintro e w3 ⟨rfl,rfl⟩
      go_wp2_with fail
      go_ret2
      exact ⟨by rw [hR.out];rfl,hm0⟩
   ·rw [hv] at hxs
    have hR:=Hxq (hall (by rw [hxs];simp))
    have hl:=lowF_lt c hc
    have hd1:¬ ((48:Int)<=(c:Int)/\(c:Int)<=57):=by omega
    have hL:Hid (∀ w,Calls Tryz.prog 132 #[.int .u8 (c:Int)] w fun e w'=>e=.returned (.int .u8 (lowF c:Nat))/\w=w'):=Hxq (lower_any c hc)
    generalize lowF c=u at *
    clear hxs hsn hall hv hx hn hlt hem
    have hcs:(c:Int)<48\/(57<(c:Int)/\48<=(c:Int)):=by omega
    clear hd1 h1
    have hb':=Lib.hid hb
    rcases Nat.lt_or_ge 122 u with hu | hu
    ·by_cases h95:c=95
     ·subst h95
      clear hcs
      go_wp2_with fail
      refine (hL.out _).mono ?_
      rintro e w3 ⟨rfl,rfl⟩
      go_wp2_with fail
      refine (hL.out _).mono ?_
      rintro e w3 ⟨rfl,rfl⟩
      go_wp2_with fail
      go_ret2
      exact ⟨by rw [hR.out];rfl,hm0⟩
     ·rcases hcs with hd1 | ⟨hd1,hd2⟩
      all_goals
       go_wp2_with fail
       refine (hL.out _).mono ?_
       rintro e w3 ⟨rfl,rfl⟩
       go_wp2_with fail
       refine (hL.out _).mono ?_
       rintro e w3 ⟨rfl,rfl⟩
       go_wp2_with fail
       go_ret2
       exact ⟨by rw [hR.out];rfl,hm0⟩
    ·by_cases h95:c=95
     ·subst h95
      clear hcs
      go_wp2_with fail
      refine (hL.out _).mono ?_
      rintro e w3 ⟨rfl,rfl⟩
      go_wp2_with fail
      refine (hL.out _).mono ?_
      rintro e w3 ⟨rfl,rfl⟩
      go_wp2_with fail
      refine (hL.out _).mono ?_
      rintro e w3 ⟨rfl,rfl⟩
      go_wp2_with fail
      go_ret2
      exact ⟨by rw [hR.out];rfl,hm0⟩
     ·rcases hcs with hd1 | ⟨hd1,hd2⟩
      all_goals
       go_wp2_with fail
       refine (hL.out _).mono ?_
       rintro e w3 ⟨rfl,rfl⟩
       go_wp2_with fail
       refine (hL.out _).mono ?_
       rintro e w3 ⟨rfl,rfl⟩
       go_wp2_with fail
       refine (hL.out _).mono ?_
       rintro e w3 ⟨rfl,rfl⟩
       go_wp2_with fail
       go_ret2
       exact ⟨by rw [hR.out];rfl,hm0⟩
  ·have e:(Cod.str t).take k=Cod.str t:=by rw [List.take_of_length_le];rw [HLL.out];omega
   rw [e] at hx
   have HX:=Lib.hid hx
   clear hx hn hlt hem
   go_wp2_with fail
   go_ret2
   exact ⟨by rw [HX.out];rfl,hm0⟩
/-- the package-level variables that these walks read -/
def markL:List (List Nat):=[[58,45],[33,61],[60,61],[62,61],[40],[41],[123],[125],[44],[46],[58],[61],[60],[62],[43],[45],[42],[47],[95]]
structure Glob (w:World):Prop where
  marks:∃ T fr,w.heap[0]?=some (.cells (markL.map fun l=>Value.string (Lx.ofS l)).toArray T fr)
  syn:∃ tp p T fr,w.heap[3]?=some (.cells #[.iface tp p] T fr)
  rng:∃ tp p T fr,w.heap[4]?=some (.cells #[.iface tp p] T fr)
theorem Glob.keep {S:List Nat} {w w':World} (h:Glob w) (hm:Mod S w w') (hS:∀ t∈S,5<=t):Glob w':=by
  obtain ⟨⟨T0,f0,h0⟩,⟨t1,p1,T1,f1,h1⟩,⟨t2,p2,T2,f2,h2⟩⟩:=h
  refine ⟨⟨T0,f0,hm.at h0 ?_⟩,⟨t1,p1,T1,f1,hm.at h1 ?_⟩,⟨t2,p2,T2,f2,hm.at h2 ?_⟩⟩
  all_goals
    intro hb
    have:=hS _ hb
    omega
theorem Glob.size {w:World} (h:Glob w):5<=w.heap.size:=by
  obtain ⟨t2,p2,T2,f2,h2⟩:=h.rng
  have:=lt_of_block h2
  omega
theorem Glob.past {S:List Nat} {w w':World} (h:Glob w) (hm:Mod S w w') (hS:∀ t∈S,w.heap.size<=t):Glob w' :=
  h.keep hm (fun t ht=>by have:=hS t ht;have:=h.size;omega)
theorem parse_outer (t:ByteArray) (ht:t.size=2) (w:World) (hG:Glob w) :
    Calls Tryz.prog 112 #[.string t,.int .i64 16,.int .i64 8] w fun e w'=>(match hexL (Cod.str t) with
      | some n=>e=.returned (.tuple #[.int .u64 (n:Nat),.nilIface])
      | none=>∃ ty v,e=.returned (.tuple #[.int .u64 0,.iface ty v]))/\Mod [] w w':=by
  cases hx:hexL (Cod.str t) with
  | some n =>
    have hin:=parse_inner t ht w
    rw [hx] at hin
    have HI:=Lib.hid hin
    clear hin hx
    go_enter Tryz.func112,Tryz.ntmps112
    go_wp2_with fail
    refine HI.out.mono ?_
    rintro e w2 ⟨rfl,hm2⟩
    unfold hexR
    go_wp2_with fail
    go_ret2
    exact ⟨rfl,hm2⟩
  | none =>
    have hin:=parse_inner t ht w
    rw [hx] at hin
    have HI:=Lib.hid hin
    obtain ⟨tp,p,T,fr,hs⟩:=hG.syn
    have hs1:w.cell? ⟨3,0,none⟩=some (.iface tp p):=by simp [World.cell?,hs]
    have HS:=Lib.hid hs1
    have hts:t.size<=281474976710656:=by omega
    clear hin hx hs hs1 hG
    go_enter Tryz.func112,Tryz.ntmps112
    go_wp2_with fail
    refine HI.out.mono ?_
    rintro e w2 ⟨rfl,hm2⟩
    have hs2:=hm2.cell HS.out (by simp)
    unfold hexR
    go_wp2_with fail
    refine (Tryz.strconv_toError_syntax _ t 16 8 _ _ hts hs2 (.inr ⟨_,_,rfl⟩)).mono ?_
    rintro e w3 ⟨N,rfl,-,-,hb3⟩
    go_wp2_with fail
    go_ret2
    exact ⟨⟨_,_,rfl⟩,hm2.trans (Mod.of_below hb3) (by simp)⟩
def escV (l:List Nat):Nat × Nat:=match Lx.esc l with | some (b,m)=>(b,m) | none=>(0,0)
set_option maxHeartbeats 1000000 in
theorem escape_any (s:ByteArray) (hs:s.size<=65536) (w:World) (hG:Glob w) :
    Calls Tryz.prog 103 #[.string s] w fun e w'=>e=.returned (.tuple #[.int .u8 ((escV (Cod.str s)).1:Nat),.int .i64 ((escV (Cod.str s)).2:Nat)])/\Mod [] w w':=by
  have hlt:=Cod.str_lt s
  have hsz:=Cod.str_len s
  cases hl:Cod.str s with
  | nil =>
    rw [hl] at hsz
    have hem:s.toList.isEmpty=true:=by rw [toList_isEmpty,<-hsz];rfl
    clear hsz hl hlt
    go_enter Tryz.func103,Tryz.ntmps103
    go_wp2_with fail
    go_ret2
    exact ⟨rfl,Mod.refl _ _⟩
  | cons c r =>
    rw [hl] at hsz
    have h0:0<s.size:=by rw [<-hsz];simp
    have hem:s.toList.isEmpty=false:=by rw [toList_isEmpty,<-hsz];rfl
    have hc0:s[0].toNat=c:=by rw [<-Lx.get_str s 0 h0,hl];rfl
    have hc:c<256:=hlt c (by rw [hl];simp)
    have hp:∀ k:Nat,c=k->(s[0].toNat:Int)=(k:Int):=fun k h=>by rw [hc0,h]
    have hn:∀ k:Nat,c≠k->(¬ (s[0].toNat:Int)=(k:Int))/\((s[0].toNat:Int) == (k:Int))=false/\((s[0].toNat:Int) != (k:Int))=true:=fun k h=>by
      rw [hc0]
      refine ⟨by omega,by rw [beq_eq_false_iff_ne];omega,by rw [bne_iff_ne];omega⟩
    by_cases h34:c=34
    · have e:Hid (escV (c :: r)=(c,1)):=Hxq (by simp [escV,Lx.esc,h34])
      have p34:=hp 34 h34
      subst h34
      clear hsz hl hlt hp hn hc0
      go_enter Tryz.func103,Tryz.ntmps103
      go_wp2_with fail
      go_ret2
      rw [e.out]
      exact ⟨rfl,Mod.refl _ _⟩
    · by_cases h92:c=92
      · have e:Hid (escV (c :: r)=(c,1)):=Hxq (by simp [escV,Lx.esc,h92])
        obtain ⟨a34,b34,d34⟩:=hn 34 h34
        have p92:=hp 92 h92
        subst h92
        clear hsz hl hlt hp hn hc0 h34
        go_enter Tryz.func103,Tryz.ntmps103
        go_wp2_with fail
        go_ret2
        rw [e.out]
        exact ⟨rfl,Mod.refl _ _⟩
      · by_cases h110:c=110
        · have e:Hid (escV (c :: r)=(10,1)):=Hxq (by simp [escV,Lx.esc,h110])
          obtain ⟨a34,b34,d34⟩:=hn 34 h34
          obtain ⟨a92,b92,d92⟩:=hn 92 h92
          have p110:=hp 110 h110
          subst h110
          clear hsz hl hlt hp hn hc0 h34 h92
          go_enter Tryz.func103,Tryz.ntmps103
          go_wp2_with fail
          go_ret2
          rw [e.out]
          exact ⟨rfl,Mod.refl _ _⟩
        · by_cases h120:c=120
          · subst h120
            have p120:=hp 120 rfl
            rcases r with _ | ⟨a,_ | ⟨b,r⟩⟩
            · have e:Hid (escV [120]=(0,0)):=Lib.hid rfl
              have h3:s.size<3:=by rw [<-hsz];simp
              clear hsz hl hlt hp hn hc0 h34 h92 h110
              go_enter Tryz.func103,Tryz.ntmps103
              go_wp2_with fail
              go_ret2
              rw [e.out]
              exact ⟨rfl,Mod.refl _ _⟩
            · have e:Hid (escV [120,a]=(0,0)):=Lib.hid rfl
              have h3:s.size<3:=by rw [<-hsz];simp
              clear hsz hl hlt hp hn hc0 h34 h92 h110
              go_enter Tryz.func103,Tryz.ntmps103
              go_wp2_with fail
              go_ret2
              rw [e.out]
              exact ⟨rfl,Mod.refl _ _⟩
            · have h3:3<=s.size:=by rw [<-hsz];simp
              have hx:Cod.str (s.extract 1 3)=[a,b]:=by rw [Lx.str_extract,hl];simp
              have hex:=parse_outer (s.extract 1 3) (by rw [ByteArray.size_extract];omega) w hG
              rw [hx] at hex
              have hh:hexL [a,b]=match Lx.hexv a,Lx.hexv b with | some x,some y=>some (16 * x+y) | _,_=>none:=by
                unfold hexL
                cases h1:Lx.hexv a <;> cases h2:Lx.hexv b <;> simp [h1,h2]
              cases hy:hexL [a,b] with
              | none =>
                have e:Hid (escV (120 :: a :: b :: r)=(0,0)):=Hxq (by
                  rw [hy] at hh
                  cases h1:Lx.hexv a <;> cases h2:Lx.hexv b <;> simp [h1,h2] at hh <;> simp [escV,Lx.esc,h1,h2])
                rw [hy] at hex
                have HE:=Lib.hid hex
                clear hsz hl hlt hp hn hc0 h34 h92 h110 hx hex hh hy
                go_enter Tryz.func103,Tryz.ntmps103
                go_wp2_with fail
                refine HE.out.mono ?_
                rintro e w2 ⟨⟨ty,v,rfl⟩,hm2⟩
                go_wp2_with fail
                go_ret2
                rw [e.out]
                exact ⟨rfl,hm2⟩
              | some n =>
                have hn2:n<256:=by
                  rw [hy] at hh
                  cases h1:Lx.hexv a with
                  | none=>simp [h1] at hh
                  | some x =>
                    cases h2:Lx.hexv b with
                    | none=>simp [h1,h2] at hh
                    | some y =>
                      have:=Lx.hexv_lt h1
                      have:=Lx.hexv_lt h2
                      simp [h1,h2] at hh
                      omega
                have e:Hid (escV (120 :: a :: b :: r)=(n,3)):=Hxq (by
                  rw [hy] at hh
                  cases h1:Lx.hexv a <;> cases h2:Lx.hexv b <;> simp [h1,h2] at hh <;> simp [escV,Lx.esc,h1,h2,hh])
                rw [hy] at hex
                have HE:=Lib.hid hex
                clear hsz hl hlt hp hn hc0 h34 h92 h110 hx hex hh hy
                go_enter Tryz.func103,Tryz.ntmps103
                go_wp2_with fail
                refine HE.out.mono ?_
                rintro e w2 ⟨rfl,hm2⟩
                go_wp2_with fail
                go_ret2
                rw [e.out]
                exact ⟨rfl,hm2⟩
          · have e:Hid (escV (c :: r)=(0,0)):=Hxq (by simp [escV,Lx.esc,h34,h92,h110,h120])
            obtain ⟨a34,b34,d34⟩:=hn 34 h34
            obtain ⟨a92,b92,d92⟩:=hn 92 h92
            obtain ⟨a110,b110,d110⟩:=hn 110 h110
            obtain ⟨a120,b120,d120⟩:=hn 120 h120
            clear hsz hl hlt hp hn hc0 h34 h92 h110 h120
            go_enter Tryz.func103,Tryz.ntmps103
            go_wp2_with fail
            all_goals first
              | (go_ret2;rw [e.out];exact ⟨rfl,Mod.refl _ _⟩)
              | (exfalso;have hh:((s[0].toNat:Int) == 34)=true\/((s[0].toNat:Int) == 92)=true:=by assumption
                 rcases hh with hh | hh
                 · exact absurd (hh.symm.trans b34) (by decide)
                 · exact absurd (hh.symm.trans b92) (by decide))
/-- the slice v reads as the bytes l -/
def Reads (w:World) (v:Value) (l:List Nat):Prop :=
  (∀ c∈l,c<256)/\l.length<=140737488355328 /\
  ((∃ x c,v=.slice x 0 c/\l=[]) \/
   ∃ b off cap,v=.slice (some ⟨b,off,none⟩) l.length cap/\∀ i,i<l.length->w.cell? ⟨b,off+i,none⟩=some (.int .u8 (l.getD i 0:Nat)))
def toCells (l:List Nat):List Value:=l.map fun (c:Nat)=>Value.int .u8 (c:Int)
theorem toCells_len (l:List Nat):(toCells l).length=l.length:=by simp [toCells]
theorem toCells_append (l k:List Nat):toCells (l++k)=toCells l++toCells k:=by simp [toCells]
theorem toCells_one (l:List Nat):∀ u∈toCells l,u.oneCell'=true:=by
  intro u hu
  obtain ⟨_,_,rfl⟩:=List.mem_map.1 hu
  rfl
theorem toCells_get (l:List Nat) (i:Nat) (h:i<l.length):(toCells l)[i]?=some (.int .u8 (l.getD i 0:Nat)):=by
  simp [toCells,List.getD_eq_getElem?_getD,List.getElem?_eq_getElem h]
theorem Tryz.infoU8:(Tryz.prog.info? 5).map (fun i=>(i.zero,i.size,i.bytes))=some (some (.int .u8 0),1,1):=by kernel_rfl
theorem addr_add (b o j:Nat):(⟨b,o,none⟩:Addr).add j=⟨b,o+j,none⟩:=by
  unfold Addr.add;split <;> simp_all
theorem src_reads {w:World} {v:Value} {l:List Nat} (h:Reads w v l):Src Tryz.prog 1 64 v l.length (toCells l) w:=by
  obtain ⟨hb,hl,⟨x,c,rfl,rfl⟩ | ⟨b,off,cap,rfl,hc⟩⟩:=h
  · cases x with
    | none=>exact Src.ofNil (size:=1) w Tryz.underlying64 c
    | some a=>exact Src.ofSlice w Tryz.underlying64 a 0 c [] rfl (by simp) (by simp)
  · refine Src.ofSlice w Tryz.underlying64 _ _ _ _ (by rw [toCells_len,Nat.mul_one]) (fun j u hu=>?_) (toCells_one l)
    have hj:j<l.length:=by
      have:=List.getElem?_eq_some_iff.1 hu
      obtain ⟨h,_⟩:=this
      rwa [toCells_len] at h
    rw [toCells_get l j hj] at hu
    cases hu
    rw [addr_add]
    exact hc j hj
theorem reads_own {w:World} {v:Value} {l:List Nat} (h:w.ownsRow 0 5 1 v l.length (toCells l)) (hb:∀ c∈l,c<256) (hl:l.length<=140737488355328):Reads w v l:=by
  refine ⟨hb,hl,?_⟩
  rcases h.2 with ⟨rfl,hn⟩ | ⟨g,cap,cur,rfl,h1,h2,h3,h4,h5,h6⟩
  · exact .inl ⟨_,_,rfl,List.eq_nil_of_length_eq_zero hn⟩
  · refine .inr ⟨g,0,cap,rfl,fun i hi=>?_⟩
    have:=h.cells (g:=g) rfl i _ (toCells_get l i hi)
    rwa [addr_add] at this
theorem conv_reads {w:World} {v:Value} {l:List Nat} (h:Reads w v l):(convert 64 9 v).run Tryz.prog w=.ok (.string (Lx.ofS l)) w:=by
  obtain ⟨hb,hl,⟨x,c,rfl,rfl⟩ | ⟨b,off,cap,rfl,hc⟩⟩:=h
  · cases x with
    | none=>exact run_convert_bytes_nil w _ _ Tryz.underlying64 Tryz.underlying5 0 c _ Tryz.underlying9
    | some a =>
      rw [run_convert_bytes_string w _ _ _ _ _ _ Tryz.underlying64 Tryz.underlying5 Tryz.underlying9,run_bytesToString w a 0 c [] (run_loadCells_list w a [] (by simp))]
      rfl
  · have:=run_convert_bytes_arg (P:=Tryz.prog) w _ _ Tryz.underlying64 Tryz.underlying5 b off l.length cap (l.map fun (n:Nat)=>(n:Int)) (by simp) (fun i hi=>by
      rw [hc i hi]
      congr 2
      simp [List.getD_eq_getElem?_getD,List.getElem?_eq_getElem hi]) _ Tryz.underlying9
    rw [this]
    congr 2
    simp [strOfNums,Lx.ofS,List.map_map,Function.comp_def]
theorem fp_lt {w:World} {base:Nat} {e:TypeId} {size:Nat} {v:Value} {n:Nat} {xs:List Value} (h:w.ownsRow base e size v n xs):∀ k∈fp v,k<w.heap.size:=by
  intro k hk
  rcases h.2 with ⟨rfl,_⟩ | ⟨g,cap,cur,rfl,hb,hg,_⟩
  · simp [fp] at hk
  · simp [fp] at hk
    subst hk
    exact lt_of_block hg
theorem Reads.past {S:List Nat} {w w':World} {v:Value} {l:List Nat} (h:Reads w v l) (hm:Mod S w w') (hS:∀ t∈S,w.heap.size<=t):Reads w' v l:=by
  obtain ⟨h1,h2,h3 | ⟨b,off,cap,rfl,hc⟩⟩:=h
  · exact ⟨h1,h2,.inl h3⟩
  · refine ⟨h1,h2,.inr ⟨b,off,cap,rfl,fun i hi=>hm.cell (hc i hi) (fun hb=>?_)⟩⟩
    have:=hS _ hb
    have:=World.block_lt_of_cell? w _ (hc i hi)
    simp at *
    omega
theorem reads_one (w:World) (c:Nat) (hc:c<256):Reads (w.alloc (.cells #[.int .u8 (c:Int)] 5)) (.slice (some ⟨w.heap.size,0,none⟩) 1 1) [c]:=by
  refine ⟨by simpa using hc,by simp,.inr ⟨_,_,_,rfl,fun i hi=>?_⟩⟩
  obtain rfl:i=0:=by simp at hi;omega
  exact cell_of_one (heap_alloc_new w _)
/-- a word's cells -/
def tokC (t:Lx.Tok):Array Value:=#[.int .i64 (t.kind:Nat),.string (Lx.ofS t.text),.int .i64 (t.vk:Nat),.int .i64 (t.num:Nat),.string (Lx.ofS t.sym),.int .i64 (t.line:Nat),.int .i64 (t.col:Nat)]
def zeroT:Lx.Tok:=⟨0,[],0,0,[],0,0⟩
def wdT (s:List Nat) (w:Lx.Wd):Lx.Tok:=⟨w.kind,s.take w.n,w.vk,w.num,w.sym,0,0⟩
/-- what word answers -/
def rwV (s:List Nat):Lx.Rw->Value
 | .ok w=>.tuple #[.agg (tokC (wdT s w)),.int .i64 0]
 | .bad e=>.tuple #[.agg (tokC zeroT),.int .i64 (e:Nat)]
def quoR (s:List Nat):Lx.Rw:=match Lx.quo s with | none=>.bad 32 | some (sym,n)=>.ok ⟨4,n,2,0,sym⟩
theorem extract_take (s:ByteArray) (n:Nat):s.extract 0 n=Lx.ofS ((Cod.str s).take n):=by
 rw [<-Lx.ofS_str (s.extract 0 n),Lx.str_extract];simp
theorem tok_cells {w:World} {b:Nat} {t:Lx.Tok} {T:TypeId} {fr:Nat × Nat} (h:w.heap[b]?=some (.cells (tokC t) T fr)) :
  w.cell? ⟨b,0,none⟩=some (.int .i64 (t.kind:Nat))/\w.cell? ⟨b,1,none⟩=some (.string (Lx.ofS t.text))/\w.cell? ⟨b,2,none⟩=some (.int .i64 (t.vk:Nat))/\w.cell? ⟨b,3,none⟩=some (.int .i64 (t.num:Nat)) /\
  w.cell? ⟨b,4,none⟩=some (.string (Lx.ofS t.sym))/\w.cell? ⟨b,5,none⟩=some (.int .i64 (t.line:Nat))/\w.cell? ⟨b,6,none⟩=some (.int .i64 (t.col:Nat)):=by
 simp [World.cell?,h,tokC]
theorem Tryz.sizeTok:(Tryz.prog.info? 93).map (·.size)=some 7:=by kernel_rfl
theorem res_tok {fn:Func} {p u:Tmp} (h:fn.results=#[.cell p 93,.tmp u]) (tmps:Array Value) (w:World) (b:Nat) (cs:Array Value) (T:TypeId) (fr:Nat × Nat) (x:Value)
  (hp:tmps.getD p undef=.pointer (some ⟨b,0,none⟩)) (hx:tmps.getD u undef=x) (hg:w.heap[b]?=some (.cells cs T fr)) (hc:cs.size=7) :
  (results fn tmps).run Tryz.prog w=.ok (.tuple #[.agg cs,x]) w:=by
 have hl:=run_loadVar_row (P:=Tryz.prog) w b T 93 cs fr _ hg Tryz.underlying93 rfl (by rw [Tryz.sizeTok,hc])
 rw [results_cell_tmp h,hp,hx]
 simp [asAddr,hl]
theorem st_list (a0 a1 a2 a3 a4 a5 a6 v0 v1 v2 v3 v4 v5 v6:Value):((((((((#[a0,a1,a2,a3,a4,a5,a6]:Array Value).setIfInBounds 0 v0).setIfInBounds 1 v1).setIfInBounds 2 v2).setIfInBounds 3 v3).setIfInBounds 4 v4).setIfInBounds 5 v5).setIfInBounds 6 v6)=#[v0,v1,v2,v3,v4,v5,v6]:=by
 simp only [List.setIfInBounds_toArray,List.set_cons_zero,List.set_cons_succ]
theorem store_tok {w:World} {b:Nat} {a0 a1 a2 a3 a4 a5 a6:Value} {T:TypeId} {fr:Nat × Nat} (h:w.heap[b]?=some (.cells #[a0,a1,a2,a3,a4,a5,a6] T fr)) (v0 v1 v2 v3 v4 v5 v6:Value) :
  (((((((w.setCell ⟨b,0,none⟩ v0).setCell ⟨b,1,none⟩ v1).setCell ⟨b,2,none⟩ v2).setCell ⟨b,3,none⟩ v3).setCell ⟨b,4,none⟩ v4).setCell ⟨b,5,none⟩ v5).setCell ⟨b,6,none⟩ v6).heap[b]?=some (.cells #[v0,v1,v2,v3,v4,v5,v6] T fr):=by
 have h1:=setCell_at h 0 v0
 generalize w.setCell ⟨b,0,none⟩ v0=w1 at *
 have h2:=setCell_at h1 1 v1
 generalize w1.setCell ⟨b,1,none⟩ v1=w2 at *
 have h3:=setCell_at h2 2 v2
 generalize w2.setCell ⟨b,2,none⟩ v2=w3 at *
 have h4:=setCell_at h3 3 v3
 generalize w3.setCell ⟨b,3,none⟩ v3=w4 at *
 have h5:=setCell_at h4 4 v4
 generalize w4.setCell ⟨b,4,none⟩ v4=w5 at *
 have h6:=setCell_at h5 5 v5
 generalize w5.setCell ⟨b,5,none⟩ v5=w6 at *
 have h7:=setCell_at h6 6 v6
 rw [h7,st_list]
theorem drew_at {X:World} {b:Nat} {o:Option Obj} (h:X.heap[b]?=o):X.drew.heap[b]?=o:=h
theorem store_tokD {w:World} {b:Nat} {a0 a1 a2 a3 a4 a5 a6:Value} {T:TypeId} {fr:Nat × Nat} (h:w.heap[b]?=some (.cells #[a0,a1,a2,a3,a4,a5,a6] T fr)) (v0 v1 v2 v3 v4 v5 v6:Value) :
  ((((((((w.setCell ⟨b,0,none⟩ v0).setCell ⟨b,1,none⟩ v1).setCell ⟨b,2,none⟩ v2).setCell ⟨b,3,none⟩ v3).setCell ⟨b,4,none⟩ v4).setCell ⟨b,5,none⟩ v5).setCell ⟨b,6,none⟩ v6).drew).heap[b]?=some (.cells #[v0,v1,v2,v3,v4,v5,v6] T fr) :=
 drew_at (store_tok h v0 v1 v2 v3 v4 v5 v6)
theorem mod_tok {S:List Nat} {w0 w:World} {b:Nat} (h:Mod S w0 w) (hb:b∈S\/w0.heap.size<=b) (v0 v1 v2 v3 v4 v5 v6:Value) :
  Mod S w0 (((((((w.setCell ⟨b,0,none⟩ v0).setCell ⟨b,1,none⟩ v1).setCell ⟨b,2,none⟩ v2).setCell ⟨b,3,none⟩ v3).setCell ⟨b,4,none⟩ v4).setCell ⟨b,5,none⟩ v5).setCell ⟨b,6,none⟩ v6) :=
 ((((((h.setCell hb _).setCell hb _).setCell hb _).setCell hb _).setCell hb _).setCell hb _).setCell hb _
set_option maxHeartbeats 2000000 in
theorem quoted_any (s:ByteArray) (hs:s.size<=65536) (w:World) (hG:Glob w) :
  Calls Tryz.prog 96 #[.string s] w fun e w'=>e=.returned (rwV (Cod.str s) (quoR (Cod.str s)))/\Mod [] w w':=by
 obtain ⟨i0,hinf,hz0,hz1,hz2⟩:=info_parts Tryz.infoU8
 have hlt:=Cod.str_lt s
 have hsz:=Cod.str_len s
 obtain ⟨l,hl⟩:∃ l,l=Cod.str s:=⟨_,rfl⟩
 rw [<-hl] at hlt hsz ⊢
 have HL:=Lib.hid hl
 have HSZ:=Lib.hid hsz
 have HLT:=Lib.hid hlt
 clear hl hsz hlt
 go_enter Tryz.func96,Tryz.ntmps96
 go_wp2_with fail
 have hB0:(w.alloc (Obj.cells (tokC zeroT) 93)).heap[w.heap.size]?=some (.cells (tokC zeroT) 93 (0,0)):=heap_alloc_new w _
 go_loopw [4,5] (fun bv iv wr=>∃ (i f vc:Nat) (va:Option Addr) (acc:List Nat),1<=i/\i<=l.length+1/\iv=.int .i64 (i:Int)/\bv=.slice va acc.length vc/\wr.ownsRow 0 5 1 (.slice va acc.length vc) acc.length (toCells acc) /\
   (∀ c∈acc,c<256)/\acc.length<=i/\l.length<=f+i/\Lx.quoF f (l.drop i) acc i=Lx.quo l/\wr.heap[w.heap.size]?=some (.cells (tokC zeroT) 93 (0,0))/\(∀ k∈fp (.slice va acc.length vc),w.heap.size<k)/\Mod [] w wr)
  (fun _ iv _=>l.length+1 - (intOf iv).toNat)
 case atStart =>
  exact ⟨1,l.length,0,none,[],Nat.le_refl _,by omega,rfl,rfl,World.ownsRow_nil _ _ _ _,by simp,by simp,by omega,rfl,hB0,by simp [fp],(Mod.refl _ _).alloc _⟩
 case round =>
  obtain ⟨i,f,vc,va,acc,hi1,hi2,rfl,rfl,hown,hab,hai,hf,hq,hBr,hfp,hmr⟩:=hrel
  clear hB0
  have hsz:=HSZ.out
  obtain ⟨q0,q1,q2,q3,q4,q5,q6⟩:=tok_cells hBr
  have fz:∀ j,wr.frozen? ⟨w.heap.size,j,none⟩=false:=fun j=>by simp [World.frozen?,hBr]
  by_cases hi:i<l.length
  ·obtain ⟨c,r,hd⟩:∃ c r,l.drop i=c :: r:=⟨_,_,List.drop_eq_getElem_cons hi⟩
   have his:i<s.size:=by omega
   have hc0:s[i].toNat=c:=by
    rw [<-Lx.get_str s i his,<-HL.out,List.getD_eq_getElem?_getD,<-List.head?_drop,hd];rfl
   have hc:c<256:=by rw [<-hc0];exact (s[i]).toNat_lt
   obtain ⟨k,rfl⟩:∃ k,f=k+1:=⟨f - 1,by omega⟩
   have hr:r=l.drop (i+1):=by rw [<-List.drop_drop,hd];rfl
   rw [hd] at hq
   have hp:∀ k:Nat,c=k->(s[i].toNat:Int)=(k:Int):=fun k h=>by rw [hc0,h]
   have hn:∀ k:Nat,c≠k->(¬ (s[i].toNat:Int)=(k:Int))/\((s[i].toNat:Int) == (k:Int))=false/\((s[i].toNat:Int) != (k:Int))=true:=fun k h=>by
    rw [hc0]
    refine ⟨by omega,by rw [beq_eq_false_iff_ne];omega,by rw [bne_iff_ne];omega⟩
   by_cases h34:c=34
   ·have p34:=hp 34 h34
    by_cases hlong:64<acc.length
    ·have e:Hid (quoR l=.bad 32):=Hxq (by
      unfold quoR;rw [<-hq,Lx.quoF,if_pos h34,if_pos hlong])
     have hlI:(64:Int)<(acc.length:Int):=by omega
     have HQ:=Lib.hid hq
     clear hp hn hc0 hd hq h34 hr
     go_wp2_with fail
     exact bodyPost_ret (res_tok rfl _ _ _ _ _ _ _ rfl rfl (store_tok hBr _ _ _ _ _ _ _) rfl) rfl ⟨by rw [e.out];rfl,mod_tok hmr (.inr (Nat.le_refl _)) _ _ _ _ _ _ _⟩
    ·have e:Hid (quoR l=.ok ⟨4,i+1,2,0,acc⟩):=Hxq (by
      unfold quoR;rw [<-hq,Lx.quoF,if_pos h34,if_neg hlong])
     have hlI:(acc.length:Int)<=64:=by omega
     have hrd:Reads wr (.slice va acc.length vc) acc:=reads_own hown hab (by omega)
     have hcv:=conv_reads hrd
     have hcv2:(convert 64 9 (.slice va acc.length vc)).run Tryz.prog wr.drew=.ok (.string (Lx.ofS acc)) wr.drew:=conv_reads (w:=wr.drew) hrd
     have hsl:(i:Int)+1<=(s.size:Int):=by omega
     have HQ:=Lib.hid hq
     clear hp hn hc0 hd hq h34 hr hrd
     go_wp2_with fail
     go_region
     go_wp2_with fail
     rw [extract_take s (i+1),<-HL.out]
     exact bodyPost_ret (res_tok rfl _ _ _ _ _ _ _ rfl rfl (store_tokD hBr _ _ _ _ _ _ _) rfl) rfl ⟨by rw [e.out];rfl,(mod_tok hmr (.inr (Nat.le_refl _)) _ _ _ _ _ _ _).drew⟩
   ·obtain ⟨a34,b34,d34⟩:=hn 34 h34
    by_cases h10:c=10
    ·have p10:=hp 10 h10
     have e:Hid (quoR l=.bad 32):=Hxq (by
      unfold quoR;rw [<-hq,Lx.quoF,if_neg h34,if_pos h10])
     have HQ:=Lib.hid hq
     clear hp hn hc0 hd hq h34 hr h10
     go_wp2_with fail
     exact bodyPost_ret (res_tok rfl _ _ _ _ _ _ _ rfl rfl (store_tok hBr _ _ _ _ _ _ _) rfl) rfl ⟨by rw [e.out];rfl,mod_tok hmr (.inr (Nat.le_refl _)) _ _ _ _ _ _ _⟩
    ·obtain ⟨a10,b10,d10⟩:=hn 10 h10
     by_cases h92:c=92
     ·have p92:=hp 92 h92
      have hsx:Cod.str (s.extract (i+1) s.size)=r:=by
       rw [Lx.str_extract,<-HL.out,hr,List.take_of_length_le (by rw [List.length_drop];omega)]
      have hesc:=fun w hG=>escape_any (s.extract (i+1) s.size) (by rw [ByteArray.size_extract];omega) w hG
      rw [hsx] at hesc
      have hrl:r.length=l.length - (i+1):=by rw [hr,List.length_drop]
      have hrb:∀ c∈r,c<256:=fun c hc=>HLT.out c (by rw [hr] at hc;exact List.mem_of_mem_drop hc)
      have hGr:=hG.past hmr (by simp)
      have hsl:(i:Int)+1<=(s.size:Int):=by omega
      cases hx:Lx.esc r with
      | none =>
       have hv:escV r=(0,0):=by simp [escV,hx]
       rw [hv] at hesc
       have e:Hid (quoR l=.bad 32):=Hxq (by
        unfold quoR;rw [<-hq,Lx.quoF,if_neg h34,if_neg h10,if_pos h92,hx])
       have HE:=Lib.hid hesc
       clear hp hn hc0 hd hq h34 hr h10 h92 hx hv hesc hsx hrl hrb
       go_wp2_with fail
       refine (HE.out _ hGr).mono ?_
       rintro e2 w2 ⟨rfl,hm2⟩
       have hB2:=hm2.at hBr (by simp)
       have hm2':=hmr.trans hm2 (by simp)
       have fz2:∀ j,w2.frozen? ⟨w.heap.size,j,none⟩=false:=fun j=>by simp [World.frozen?,hB2]
       obtain ⟨q0,q1,q2,q3,q4,q5,q6⟩:=tok_cells hB2
       go_wp2_with fail
       exact bodyPost_ret (res_tok rfl _ _ _ _ _ _ _ rfl rfl (store_tok hB2 _ _ _ _ _ _ _) rfl) rfl ⟨by rw [e.out];rfl,mod_tok hm2' (.inr (Nat.le_refl _)) _ _ _ _ _ _ _⟩
      | some bm =>
       obtain ⟨b,m⟩:=bm
       have hv:escV r=(b,m):=by simp [escV,hx]
       obtain ⟨hm1,hml,hb256⟩:=Lx.esc_len hrb hx
       rw [hv] at hesc
       have hqn:Hid (Lx.quoF k (l.drop (i+m+1)) (acc++[b]) (i+m+1)=Lx.quo l):=Hxq (by
        rw [<-hq,Lx.quoF,if_neg h34,if_neg h10,if_pos h92,hx]
        simp only
        rw [hr,List.drop_drop,show i+1+m=i+m+1 by omega])
       have hmz:((m:Int) == 0)=false:=by rw [beq_eq_false_iff_ne];omega
       have HE:=Lib.hid hesc
       have HF:=Lib.hid hf
       clear hp hn hc0 hd hq h34 hr h10 h92 hx hv hesc hsx hrb
       go_wp2_with fail
       refine (HE.out _ hGr).mono ?_
       rintro e2 w2 ⟨rfl,hm2⟩
       have hB2:=hm2.at hBr (by simp)
       have hm2':=hmr.trans hm2 (by simp)
       have hown2:=hm2.owns hown (by simp)
       have hs2:=hm2'.size
       have hone:=reads_one w2 b hb256
       go_wp2_with (at_builtin;refine wpList_append_src _ rfl _ _ 64 64 rfl 5 i0 (.int .u8 0) 1 1 Tryz.underlying64 hinf hz0 hz1 hz2 rfl (.slice va acc.length vc) acc.length (toCells acc) rfl (hown2.alloc _) _ 1 [.int .u8 (b:Nat)] rfl (src_reads hone) (by unfold maxLen;omega) (by omega) ?_)
       intro v' w3 hown3 hm3 hf3 hn3
       obtain ⟨va3,vc3,rfl⟩:=owns_slice hown3
       have hB3:w3.heap[w.heap.size]?=some (.cells (tokC zeroT) 93 (0,0)):=hm3.at (((Mod.refl [] w2).alloc _).at hB2 (by simp)) (fun hb=>by have:=hfp _ hb;omega)
       have hm3':Mod [] w w3:=(hm2'.alloc _).trans hm3 (fun t ht=>.inr (by have:=hfp t ht;omega))
       have hlen:acc.length+1=(acc++[b]).length:=by simp
       have hcl:toCells acc++[.int .u8 (b:Nat)]=toCells (acc++[b]):=by simp [toCells]
       have hf3':∀ k∈fp (.slice va3 (acc.length+1) vc3),w.heap.size<k:=fun k hk=>by
        rcases hf3 k hk with h | h
        ·exact hfp k h
        ·have:=lt_of_block hB2;first | omega | (simp at h;omega)
       rw [hcl] at hown3
       have hab3:∀ c∈acc++[b],c<256:=fun c hc=>by
        rcases List.mem_append.1 hc with h | h
        ·exact hab c h
        ·simp at h;omega
       have HREL:Hid (w3.ownsRow 0 5 1 (.slice va3 (acc++[b]).length vc3) (acc++[b]).length (toCells (acc++[b]))/\(∀ k∈fp (.slice va3 (acc++[b]).length vc3),w.heap.size<k)):=Hxq (by rw [<-hlen];exact ⟨hown3,hf3'⟩)
       clear hn3 hf3 hm3 hown3 hown2 hone hcl hm2 hf3' hown
       go_wp2_with fail
       go_roundw
       case rel =>
        have:=HF.out
        refine ⟨i+m+1,k,vc3,va3,acc++[b],by omega,by omega,by go_num,by rw [<-hlen],HREL.out.1,hab3,by rw [<-hlen];omega,by omega,hqn.out,hB3,HREL.out.2,hm3'⟩
       case measure=>simp [intOf];omega
     ·obtain ⟨a92,b92,d92⟩:=hn 92 h92
      have hqn:Hid (Lx.quoF k (l.drop (i+1)) (acc++[c]) (i+1)=Lx.quo l):=Hxq (by
       rw [<-hq,Lx.quoF,if_neg h34,if_neg h10,if_neg h92,hr])
      have HF:=Lib.hid hf
      have HC:=Lib.hid hc0
      have hone:=reads_one wr c hc
      clear hp hn hd hq h34 hr h10 h92 hf
      rw [<-HC.out] at hone
      have HO:=Lib.hid hone
      clear hc0 hone
      go_wp2_with (at_builtin;refine wpList_append_src _ rfl _ _ 64 64 rfl 5 i0 (.int .u8 0) 1 1 Tryz.underlying64 hinf hz0 hz1 hz2 rfl (.slice va acc.length vc) acc.length (toCells acc) rfl (hown.alloc _) _ 1 [.int .u8 (s[i].toNat:Nat)] rfl (src_reads HO.out) (by unfold maxLen;omega) (by omega) ?_)
      intro v' w3 hown3 hm3 hf3 hn3
      obtain ⟨va3,vc3,rfl⟩:=owns_slice hown3
      have hB3:w3.heap[w.heap.size]?=some (.cells (tokC zeroT) 93 (0,0)):=hm3.at (((Mod.refl [] wr).alloc _).at hBr (by simp)) (fun hb=>by have:=hfp _ hb;omega)
      have hm3':Mod [] w w3:=(hmr.alloc _).trans hm3 (fun t ht=>.inr (by have:=hfp t ht;omega))
      have hlen:acc.length+1=(acc++[c]).length:=by simp
      have hcl:toCells acc++[.int .u8 (s[i].toNat:Nat)]=toCells (acc++[c]):=by rw [HC.out];simp [toCells]
      have hf3':∀ k∈fp (.slice va3 (acc.length+1) vc3),w.heap.size<k:=fun k hk=>by
       rcases hf3 k hk with h | h
       ·exact hfp k h
       ·have:=lt_of_block hBr;first | omega | (simp at h;omega)
      rw [hcl] at hown3
      have hab3:∀ x∈acc++[c],x<256:=fun x hx=>by
       rcases List.mem_append.1 hx with h | h
       ·exact hab x h
       ·simp at h;omega
      have HREL:Hid (w3.ownsRow 0 5 1 (.slice va3 (acc++[c]).length vc3) (acc++[c]).length (toCells (acc++[c]))/\(∀ k∈fp (.slice va3 (acc++[c]).length vc3),w.heap.size<k)):=Hxq (by rw [<-hlen];exact ⟨hown3,hf3'⟩)
      clear hn3 hf3 hm3 hown3 hcl hf3' hown
      go_wp2_with fail
      go_roundw
      case rel =>
       have:=HF.out
       refine ⟨i+1,k,vc3,va3,acc++[c],by omega,by omega,by go_num,by rw [<-hlen],HREL.out.1,hab3,by rw [<-hlen];omega,by omega,hqn.out,hB3,HREL.out.2,hm3'⟩
      case measure=>simp [intOf];omega
  ·have e:Hid (quoR l=.bad 32):=Hxq (by
    unfold quoR
    rw [<-hq,List.drop_eq_nil_of_le (by omega)]
    cases f <;> rfl)
   clear hq
   go_wp2_with fail
   exact bodyPost_ret (res_tok rfl _ _ _ _ _ _ _ rfl rfl (store_tok hBr _ _ _ _ _ _ _) rfl) rfl ⟨by rw [e.out];rfl,mod_tok hmr (.inr (Nat.le_refl _)) _ _ _ _ _ _ _⟩
end Go.Proofs.YtbfaclljbbfknaaGreatDoor
