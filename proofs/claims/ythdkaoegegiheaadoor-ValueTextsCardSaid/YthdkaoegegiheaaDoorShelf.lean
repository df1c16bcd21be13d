/- THE LIBRARY's CONTRACTS AT THIS DUMP, in plain words, as the kit's own tools write them. -/
import Derived.Shelf.Strings.Builder1
import Derived.Shelf.Strings.Builder2
import Derived.Shelf.Strings.OnBuilder
import Derived.Shelf.Small.Strs
import Derived.Shelf.Strconv.Atoi
import Derived.Shelf.Strconv.Itoa0
import Derived.Shelf.Strconv.Itoa1
import Derived.Shelf.LaysM
import Derived.Shelf.Strconv.Itoa2
import Derived.Shelf.Strconv.Itoa3
import Derived.Shelf.Strconv.AtoiErrFast
import Derived.Shelf.Strconv.ParseIntEmpty
import Derived.Shelf.Strconv.AtoiFail
import Derived.Shelf.Strconv.Clone
import Derived.Shelf.Strconv.SyntaxError
import Derived.Shelf.LaysC
import Derived.Shelf.Strconv.ToError
import Derived.Shelf.Strconv.Lower
import Derived.Shelf.Strconv.ParseUint10
import Derived.Shelf.Strconv.ParseUint10Empty
import Derived.Shelf.Strconv.ParseUint10Any
import Derived.Shelf.Strconv.ParseInt10
import Derived.Shelf.Strconv.AtoiLong
import Derived.Shelf.Strconv.AtoiInnerAll
import Derived.Shelf.Strconv.RangeError
import Derived.Shelf.Strconv.ToErrorRange
import Derived.Shelf.Strconv.AtoiAll
import Derived.Shelf.Strconv.ErrVarAll
import Derived.Ground.MpProg
import Derived.Shelf.Pu.ParseUintPublic10
import Derived.Shelf.Pu.ErrVarParseUint
import Derived.Test.YthdkaoegegiheaaDoorProg
namespace Go.Proofs
open Go.Shelf
def Tryd.lays156_ren : Go.Shelf.Ren := ⟨fun | 156 => 79 | 165 => 121 | 166 => 122 | 169 => 123 | 240 => 146 | 241 => 147 | 276 => 158 | 277 => 159 | n => n, fun | 31 => 114 | 9 => 9 | 3 => 3 | 4 => 4 | 0 => 0 | 20 => 20 | 72 => 156 | 76 => 89 | 70 => 154 | 37 => 64 | 75 => 88 | 127 => 186 | 164 => 199 | 5 => 5 | 80 => 158 | n => n, fun | n => n⟩
theorem Tryd.lays156 : Go.Proofs.Lays.n156 Tryd.prog Tryd.lays156_ren := {
  mixed := by kernel_rfl
  f156 := Tryd.func79.trans (congrArg some (by kernel_rfl))
  f165 := Tryd.func121.trans (congrArg some (by kernel_rfl))
  f166 := Tryd.func122.trans (congrArg some (by kernel_rfl))
  f169 := Tryd.func123.trans (congrArg some (by kernel_rfl))
  f240 := Tryd.func146.trans (congrArg some (by kernel_rfl))
  f241 := Tryd.func147.trans (congrArg some (by kernel_rfl))
  f276 := Tryd.func158.trans (congrArg some (by kernel_rfl))
  f277 := Tryd.func159.trans (congrArg some (by kernel_rfl))
  t0 := Tryd.underlying0
  a0 := Tryd.isAgg0
  z0 := Tryd.sizeOf0
  v0 := Tryd.zeroValue0
  t3 := Tryd.underlying3
  a3 := Tryd.isAgg3
  z3 := Tryd.sizeOf3
  v3 := Tryd.zeroValue3
  t4 := Tryd.underlying4
  a4 := Tryd.isAgg4
  z4 := Tryd.sizeOf4
  v4 := Tryd.zeroValue4
  t9 := Tryd.underlying9
  a9 := Tryd.isAgg9
  z9 := Tryd.sizeOf9
  v9 := Tryd.zeroValue9
  t20 := Tryd.underlying20
  a20 := Tryd.isAgg20
  z20 := Tryd.sizeOf20
  v20 := Tryd.zeroValue20
  t31 := Tryd.underlying114
  a31 := Tryd.isAgg114
  z31 := Tryd.sizeOf114
  v31 := Tryd.zeroValue114
  t37 := Tryd.underlying64
  a37 := Tryd.isAgg64
  z37 := Tryd.sizeOf64
  v37 := Tryd.zeroValue64
  t70 := Tryd.underlying154
  a70 := Tryd.isAgg154
  z70 := Tryd.sizeOf154
  v70 := Tryd.zeroValue154
  t72 := Tryd.underlying156
  a72 := Tryd.isAgg156
  z72 := Tryd.sizeOf156
  v72 := Tryd.zeroValue156
  t75 := Tryd.underlying88
  a75 := Tryd.isAgg88
  z75 := Tryd.sizeOf88
  v75 := Tryd.zeroValue88
  t76 := Tryd.underlying89
  a76 := Tryd.isAgg89
  z76 := Tryd.sizeOf89
  v76 := Tryd.zeroValue89
  t127 := Tryd.underlying186
  a127 := Tryd.isAgg186
  z127 := Tryd.sizeOf186
  v127 := Tryd.zeroValue186
  t164 := Tryd.underlying199
  a164 := Tryd.isAgg199
  z164 := Tryd.sizeOf199
  v164 := Tryd.zeroValue199 }
theorem Tryd.Builder_Extra_156 : Builder.Extra Tryd.prog Tryd.lays156_ren := {
  sizeBuilder := by kernel_rfl
  liesBuilder := by kernel_rfl
  t5 := Tryd.underlying5
  a5 := Tryd.isAgg5
  z5 := Tryd.sizeOf5
  v5 := Tryd.zeroValue5
  infoByte := by kernel_rfl
  cellsByte := by kernel_rfl
  sizeByte := by kernel_rfl
  neB5 := by decide }
open Go.RowKit in
/-- No element: the empty string; the world is as it was. (Whatever the slice's address and capacity: a nil slice too.) (LAID: no walk: one application.) -/
theorem Tryd.strings_Join_none (a : Option Addr) (c : Nat) (sep : ByteArray) (w : World) :
    Calls Tryd.prog 79 #[.slice a 0 c, .string sep] w fun e w' => e = .returned (.string ⟨#[]⟩) ∧ w' = w := Any.strings_Join_none Tryd.lays156 Tryd.Builder_Extra_156 a c sep w
open Go.RowKit in
/-- strings.Join: "Join concatenates the elements of its first argument to create a single string. The separator string sep is placed between elements in the resulting string.": HOWEVER MANY ELEMENTS. Below the heap's end the world is as it was. (LAID: no walk: one application.) -/
theorem Tryd.strings_Join (bk o c : Nat) (xs : List ByteArray) (sep : ByteArray) (w : World) (hcells : ∀ (j : Nat) x, xs[j]? = some x → w.cell? ⟨bk, o + j, none⟩ = some (.string x)) (hbk : bk < w.heap.size) (hN : xs.length ≤ 140737488355328) (hcap : xs.length ≤ c) (hlen : (Lib.join (xs.map (·.data.toList)) sep.data.toList).length ≤ 140737488355328) :
    Calls Tryd.prog 79 #[.slice (some ⟨bk, o, none⟩) xs.length c, .string sep] w fun e w' => e = .returned (.string ⟨(Lib.join (xs.map (·.data.toList)) sep.data.toList).toArray⟩) ∧ Below w.heap.size w w' := Any.strings_Join Tryd.lays156 Tryd.Builder_Extra_156 bk o c xs sep w hcells hbk hN hcap hlen
def Tryd.lays106_ren : Go.Shelf.Ren := ⟨fun | 106 => 65 | 213 => 118 | 265 => 144 | n => n, fun | 9 => 9 | 3 => 3 | n => n, fun | n => n⟩
theorem Tryd.lays106 : Go.Proofs.Lays.n106 Tryd.prog Tryd.lays106_ren := {
  mixed := by kernel_rfl
  f106 := Tryd.func65.trans (congrArg some (by kernel_rfl))
  f213 := Tryd.func118.trans (congrArg some (by kernel_rfl))
  f265 := Tryd.func144.trans (congrArg some (by kernel_rfl))
  t3 := Tryd.underlying3
  a3 := Tryd.isAgg3
  z3 := Tryd.sizeOf3
  v3 := Tryd.zeroValue3
  t9 := Tryd.underlying9
  a9 := Tryd.isAgg9
  z9 := Tryd.sizeOf9
  v9 := Tryd.zeroValue9 }
open Go.RowKit in
/-- strings.Compare: "Compare returns an integer comparing two strings lexicographically. The result will be 0 if a == b, -1 if a < b, and +1 if a > b.": IT RETURNS 'Lib.compareBytes a b'; the world is as it was. (LAID: no walk: one application.) -/
theorem Tryd.strings_Compare (a b : ByteArray) (w : World) :
    Calls Tryd.prog 65 #[.string a, .string b] w fun e w' => e = .returned (.int .i64 (Lib.compareBytes a.data.toList b.data.toList)) ∧ w' = w := Any.strings_Compare Tryd.lays106 a b w
def Tryd.laysM171_ren : Go.Shelf.Ren := ⟨fun | 171 => 80 | 243 => 124 | 246 => 148 | 283 => 160 | 284 => 161 | 285 => 162 | 286 => 163 | 129 => 167 | 317 => 166 | 318 => 168 | 319 => 169 | 320 => 170 | 337 => 173 | 338 => 174 | n => n, fun | 3 => 3 | 9 => 9 | 2 => 2 | 4 => 4 | 171 => 201 | 0 => 0 | 53 => 121 | 37 => 64 | 5 => 5 | 173 => 204 | 212 => 211 | 51 => 212 | 20 => 20 | 213 => 213 | 46 => 160 | 232 => 216 | 233 => 217 | n => n, fun | 17 => 3 | 18 => 4 | 19 => 5 | n => n⟩
theorem Tryd.laysM171 : Go.Proofs.LaysM.n171 Tryd.prog Tryd.laysM171_ren := {
  mixed := by kernel_rfl
  f129 := Tryd.func167.trans (congrArg some (by kernel_rfl))
  f171 := Tryd.func80.trans (congrArg some (by kernel_rfl))
  f243 := Tryd.func124.trans (congrArg some (by kernel_rfl))
  f246 := Tryd.func148.trans (congrArg some (by kernel_rfl))
  f283 := Tryd.func160.trans (congrArg some (by kernel_rfl))
  f284 := Tryd.func161.trans (congrArg some (by kernel_rfl))
  f285 := Tryd.func162.trans (congrArg some (by kernel_rfl))
  f286 := Tryd.func163.trans (congrArg some (by kernel_rfl))
  f317 := Tryd.func166.trans (congrArg some (by kernel_rfl))
  f318 := Tryd.func168.trans (congrArg some (by kernel_rfl))
  f319 := Tryd.func169.trans (congrArg some (by kernel_rfl))
  f320 := Tryd.func170.trans (congrArg some (by kernel_rfl))
  f337 := Tryd.func173.trans (congrArg some (by kernel_rfl))
  f338 := Tryd.func174.trans (congrArg some (by kernel_rfl))
  t0 := Tryd.underlying0
  a0 := Tryd.isAgg0
  z0 := Tryd.sizeOf0
  v0 := Tryd.zeroValue0
  t2 := Tryd.underlying2
  a2 := Tryd.isAgg2
  z2 := Tryd.sizeOf2
  v2 := Tryd.zeroValue2
  t3 := Tryd.underlying3
  a3 := Tryd.isAgg3
  z3 := Tryd.sizeOf3
  v3 := Tryd.zeroValue3
  t4 := Tryd.underlying4
  a4 := Tryd.isAgg4
  z4 := Tryd.sizeOf4
  v4 := Tryd.zeroValue4
  t5 := Tryd.underlying5
  a5 := Tryd.isAgg5
  z5 := Tryd.sizeOf5
  v5 := Tryd.zeroValue5
  t9 := Tryd.underlying9
  a9 := Tryd.isAgg9
  z9 := Tryd.sizeOf9
  v9 := Tryd.zeroValue9
  t20 := Tryd.underlying20
  a20 := Tryd.isAgg20
  z20 := Tryd.sizeOf20
  v20 := Tryd.zeroValue20
  t37 := Tryd.underlying64
  a37 := Tryd.isAgg64
  z37 := Tryd.sizeOf64
  v37 := Tryd.zeroValue64
  t46 := Tryd.underlying160
  a46 := Tryd.isAgg160
  z46 := Tryd.sizeOf160
  v46 := Tryd.zeroValue160
  t51 := Tryd.underlying212
  a51 := Tryd.isAgg212
  z51 := Tryd.sizeOf212
  v51 := Tryd.zeroValue212
  t53 := Tryd.underlying121
  a53 := Tryd.isAgg121
  z53 := Tryd.sizeOf121
  v53 := Tryd.zeroValue121
  t171 := Tryd.underlying201
  a171 := Tryd.isAgg201
  z171 := Tryd.sizeOf201
  v171 := Tryd.zeroValue201
  t173 := Tryd.underlying204
  a173 := Tryd.isAgg204
  z173 := Tryd.sizeOf204
  v173 := Tryd.zeroValue204
  t212 := Tryd.underlying211
  a212 := Tryd.isAgg211
  z212 := Tryd.sizeOf211
  v212 := Tryd.zeroValue211
  t213 := Tryd.underlying213
  a213 := Tryd.isAgg213
  z213 := Tryd.sizeOf213
  t232 := Tryd.underlying216
  a232 := Tryd.isAgg216
  z232 := Tryd.sizeOf216
  v232 := Tryd.zeroValue216
  t233 := Tryd.underlying217
  a233 := Tryd.isAgg217
  z233 := Tryd.sizeOf217
  v233 := Tryd.zeroValue217
  g17 := by kernel_rfl
  g18 := by kernel_rfl
  g19 := by kernel_rfl
  i0 := by kernel_rfl
  i2 := by kernel_rfl
  i3 := by kernel_rfl
  i4 := by kernel_rfl
  i5 := by kernel_rfl
  i9 := by kernel_rfl
  i20 := by kernel_rfl
  i37 := by kernel_rfl
  i46 := by kernel_rfl
  i51 := by kernel_rfl
  i53 := by kernel_rfl
  i171 := by kernel_rfl
  i173 := by kernel_rfl
  i212 := by kernel_rfl
  i232 := by kernel_rfl
  i233 := by kernel_rfl
  m17 := by kernel_rfl
  m18 := by kernel_rfl
  m19 := by kernel_rfl }
open Go.RowKit Go.Sort Go.Lib in
/-- strconv.Itoa: "Itoa is equivalent to FormatInt(int64(i), 10).": i's DECIMAL NUMERAL ('Lib.itoa': a '-' where i is negative, then the digits), FOR EVERY int. The world behind the call: the world before it, new blocks behind the heap (the library's 'var a [24]byte'), draws. (LAID: no walk: one application.) -/
theorem Tryd.strconv_Itoa (n : Int) (h0 : -9223372036854775808 ≤ n) (h1 : n ≤ 9223372036854775807) (w : World) (htab : Lib.TabIs Tryd.prog w "internal/strconv.uint64pow10" .u64 Lib.pow10Tab) :
    Calls Tryd.prog 80 #[.int .i64 n] w fun e w' => e = .returned (.string ⟨(Lib.itoa n).toArray⟩) ∧ ∃ k os, w' = grow (w.drewN k) os := Any.strconv_Itoa Tryd.laysM171 n h0 h1 w htab
def Tryd.laysC245_ren : Go.Shelf.Ren := ⟨fun | 245 => 111 | 279 => 137 | 280 => 138 | 281 => 139 | 282 => 140 | 316 => 153 | 171 => 80 | 205 => 154 | 243 => 124 | 246 => 148 | 283 => 160 | 284 => 161 | 285 => 162 | 286 => 163 | 129 => 167 | 317 => 166 | 318 => 168 | 319 => 169 | 320 => 170 | 337 => 173 | 338 => 174 | n => n, fun | 9 => 9 | 3 => 3 | 75 => 88 | 167 => 177 | 4 => 4 | 168 => 180 | 210 => 195 | 37 => 64 | 0 => 0 | 127 => 186 | 145 => 208 | 143 => 206 | 2 => 2 | 171 => 201 | 53 => 121 | 5 => 5 | 173 => 204 | 212 => 211 | 51 => 212 | 20 => 20 | 213 => 213 | 46 => 160 | 232 => 216 | 233 => 217 | 80 => 158 | n => n, fun | 15 => 1 | 16 => 2 | 17 => 3 | 18 => 4 | 19 => 5 | n => n⟩
theorem Tryd.laysC245 : Go.Proofs.LaysC.n245 Tryd.prog Tryd.laysC245_ren := {
  mixed := by kernel_rfl
  f129 := Tryd.func167.trans (congrArg some (by kernel_rfl))
  f171 := Tryd.func80.trans (congrArg some (by kernel_rfl))
  f205 := Tryd.func154.trans (congrArg some (by kernel_rfl))
  f243 := Tryd.func124.trans (congrArg some (by kernel_rfl))
  f245 := Tryd.func111.trans (congrArg some (by kernel_rfl))
  f246 := Tryd.func148.trans (congrArg some (by kernel_rfl))
  f279 := Tryd.func137.trans (congrArg some (by kernel_rfl))
  f280 := Tryd.func138.trans (congrArg some (by kernel_rfl))
  f281 := Tryd.func139.trans (congrArg some (by kernel_rfl))
  f282 := Tryd.func140.trans (congrArg some (by kernel_rfl))
  f283 := Tryd.func160.trans (congrArg some (by kernel_rfl))
  f284 := Tryd.func161.trans (congrArg some (by kernel_rfl))
  f285 := Tryd.func162.trans (congrArg some (by kernel_rfl))
  f286 := Tryd.func163.trans (congrArg some (by kernel_rfl))
  f316 := Tryd.func153.trans (congrArg some (by kernel_rfl))
  f317 := Tryd.func166.trans (congrArg some (by kernel_rfl))
  f318 := Tryd.func168.trans (congrArg some (by kernel_rfl))
  f319 := Tryd.func169.trans (congrArg some (by kernel_rfl))
  f320 := Tryd.func170.trans (congrArg some (by kernel_rfl))
  f337 := Tryd.func173.trans (congrArg some (by kernel_rfl))
  f338 := Tryd.func174.trans (congrArg some (by kernel_rfl))
  t0 := Tryd.underlying0
  a0 := Tryd.isAgg0
  z0 := Tryd.sizeOf0
  v0 := Tryd.zeroValue0
  t2 := Tryd.underlying2
  a2 := Tryd.isAgg2
  z2 := Tryd.sizeOf2
  v2 := Tryd.zeroValue2
  t3 := Tryd.underlying3
  a3 := Tryd.isAgg3
  z3 := Tryd.sizeOf3
  v3 := Tryd.zeroValue3
  t4 := Tryd.underlying4
  a4 := Tryd.isAgg4
  z4 := Tryd.sizeOf4
  v4 := Tryd.zeroValue4
  t5 := Tryd.underlying5
  a5 := Tryd.isAgg5
  z5 := Tryd.sizeOf5
  v5 := Tryd.zeroValue5
  t9 := Tryd.underlying9
  a9 := Tryd.isAgg9
  z9 := Tryd.sizeOf9
  v9 := Tryd.zeroValue9
  t20 := Tryd.underlying20
  a20 := Tryd.isAgg20
  z20 := Tryd.sizeOf20
  v20 := Tryd.zeroValue20
  t37 := Tryd.underlying64
  a37 := Tryd.isAgg64
  z37 := Tryd.sizeOf64
  v37 := Tryd.zeroValue64
  t46 := Tryd.underlying160
  a46 := Tryd.isAgg160
  z46 := Tryd.sizeOf160
  v46 := Tryd.zeroValue160
  t51 := Tryd.underlying212
  a51 := Tryd.isAgg212
  z51 := Tryd.sizeOf212
  v51 := Tryd.zeroValue212
  t53 := Tryd.underlying121
  a53 := Tryd.isAgg121
  z53 := Tryd.sizeOf121
  v53 := Tryd.zeroValue121
  t75 := Tryd.underlying88
  a75 := Tryd.isAgg88
  z75 := Tryd.sizeOf88
  v75 := Tryd.zeroValue88
  t127 := Tryd.underlying186
  a127 := Tryd.isAgg186
  z127 := Tryd.sizeOf186
  v127 := Tryd.zeroValue186
  t143 := Tryd.underlying206
  a143 := Tryd.isAgg206
  z143 := Tryd.sizeOf206
  v143 := Tryd.zeroValue206
  t145 := Tryd.underlying208
  a145 := Tryd.isAgg208
  z145 := Tryd.sizeOf208
  v145 := Tryd.zeroValue208
  t167 := Tryd.underlying177
  a167 := Tryd.isAgg177
  z167 := Tryd.sizeOf177
  v167 := Tryd.zeroValue177
  t168 := Tryd.underlying180
  a168 := Tryd.isAgg180
  z168 := Tryd.sizeOf180
  v168 := Tryd.zeroValue180
  t171 := Tryd.underlying201
  a171 := Tryd.isAgg201
  z171 := Tryd.sizeOf201
  v171 := Tryd.zeroValue201
  t173 := Tryd.underlying204
  a173 := Tryd.isAgg204
  z173 := Tryd.sizeOf204
  v173 := Tryd.zeroValue204
  t210 := Tryd.underlying195
  a210 := Tryd.isAgg195
  z210 := Tryd.sizeOf195
  v210 := Tryd.zeroValue195
  t212 := Tryd.underlying211
  a212 := Tryd.isAgg211
  z212 := Tryd.sizeOf211
  v212 := Tryd.zeroValue211
  t213 := Tryd.underlying213
  a213 := Tryd.isAgg213
  z213 := Tryd.sizeOf213
  t232 := Tryd.underlying216
  a232 := Tryd.isAgg216
  z232 := Tryd.sizeOf216
  v232 := Tryd.zeroValue216
  t233 := Tryd.underlying217
  a233 := Tryd.isAgg217
  z233 := Tryd.sizeOf217
  v233 := Tryd.zeroValue217
  g15 := by kernel_rfl
  g16 := by kernel_rfl
  g17 := by kernel_rfl
  g18 := by kernel_rfl
  g19 := by kernel_rfl
  t80 := Tryd.underlying158
  a80 := Tryd.isAgg158
  z80 := Tryd.sizeOf158
  v80 := Tryd.zeroValue158
  i0 := by kernel_rfl
  i2 := by kernel_rfl
  i3 := by kernel_rfl
  i4 := by kernel_rfl
  i5 := by kernel_rfl
  i9 := by kernel_rfl
  i20 := by kernel_rfl
  i37 := by kernel_rfl
  i46 := by kernel_rfl
  i51 := by kernel_rfl
  i53 := by kernel_rfl
  i75 := by kernel_rfl
  i80 := by kernel_rfl
  i127 := by kernel_rfl
  i143 := by kernel_rfl
  i145 := by kernel_rfl
  i167 := by kernel_rfl
  i168 := by kernel_rfl
  i171 := by kernel_rfl
  i173 := by kernel_rfl
  i210 := by kernel_rfl
  i212 := by kernel_rfl
  i232 := by kernel_rfl
  i233 := by kernel_rfl
  m15 := by kernel_rfl
  m16 := by kernel_rfl
  m17 := by kernel_rfl
  m18 := by kernel_rfl
  m19 := by kernel_rfl
  c0 := by kernel_rfl
  c2 := by kernel_rfl
  c3 := by kernel_rfl
  c4 := by kernel_rfl
  c5 := by kernel_rfl
  c9 := by kernel_rfl
  c20 := by kernel_rfl
  c37 := by kernel_rfl
  c46 := by kernel_rfl
  c51 := by kernel_rfl
  c53 := by kernel_rfl
  c75 := by kernel_rfl
  c80 := by kernel_rfl
  c127 := by kernel_rfl
  c143 := by kernel_rfl
  c145 := by kernel_rfl
  c167 := by kernel_rfl
  c168 := by kernel_rfl
  c171 := by kernel_rfl
  c173 := by kernel_rfl
  c210 := by kernel_rfl
  c212 := by kernel_rfl
  c213 := by kernel_rfl
  c232 := by kernel_rfl
  c233 := by kernel_rfl }
open Go.RowKit in
/-- strconv.toError, at the inner package's ErrSyntax: 'syntaxError(fn, s)' as an error: A *NumError IN A NEW BLOCK. (LAID: no walk: one application.) -/
theorem Tryd.strconv_toError_syntax (fn s : ByteArray) (base bits : Int) (ev : Value) (w : World) (hlim : s.size ≤ 281474976710656) (hv : w.cell? ⟨1, 0, none⟩ = some ev) (hev : ev = .nilIface ∨ ∃ te pe, ev = .iface te pe) :
    Calls Tryd.prog 111 #[.string fn, .string s, .int .i64 base, .int .i64 bits, .iface 177 (.int .i64 2)] w fun e w' => ∃ N, e = .returned (.iface 180 (.pointer (some ⟨N, 0, none⟩))) ∧ w.heap.size ≤ N ∧ w'.heap[N]? = some (.cells #[.string fn, .string s, ev] 195 (0, 0)) ∧ Below w.heap.size w w' := Any.strconv_toError_syntax Tryd.laysC245 fn s base bits ev w hlim hv hev
def Tryd.lays321_ren : Go.Shelf.Ren := ⟨fun | 321 => 155 | n => n, fun | 5 => 5 | n => n, fun | n => n⟩
theorem Tryd.lays321 : Go.Proofs.Lays.n321 Tryd.prog Tryd.lays321_ren := {
  mixed := by kernel_rfl
  f321 := Tryd.func155.trans (congrArg some (by kernel_rfl))
  t5 := Tryd.underlying5
  a5 := Tryd.isAgg5
  z5 := Tryd.sizeOf5
  v5 := Tryd.zeroValue5 }
open Go.RowKit in
/-- internal/strconv.lower: 'c | ('x' - 'X')': the bit 32 set. The world is as it was. (LAID: no walk: one application.) -/
theorem Tryd.internal_strconv_lower (c : Int) (w : World) :
    Calls Tryd.prog 155 #[.int .u8 c] w fun e w' => e = .returned (.int .u8 (bits .or .u8 c 32)) ∧ w' = w := Any.internal_strconv_lower Tryd.lays321 c w
def Tryd.laysC172_ren : Go.Shelf.Ren := ⟨fun | 172 => 54 | 244 => 110 | 245 => 111 | 247 => 136 | 279 => 137 | 280 => 138 | 281 => 139 | 282 => 140 | 287 => 141 | 316 => 153 | 171 => 80 | 205 => 154 | 321 => 155 | 322 => 156 | 243 => 124 | 246 => 148 | 283 => 160 | 284 => 161 | 285 => 162 | 286 => 163 | 129 => 167 | 317 => 166 | 318 => 168 | 319 => 169 | 320 => 170 | 337 => 173 | 338 => 174 | n => n, fun | 9 => 9 | 3 => 3 | 75 => 88 | 76 => 89 | 4 => 4 | 5 => 5 | 167 => 177 | 37 => 64 | 0 => 0 | 85 => 178 | 2 => 2 | 168 => 180 | 53 => 121 | 175 => 142 | 46 => 160 | 210 => 195 | 127 => 186 | 145 => 208 | 143 => 206 | 21 => 21 | 171 => 201 | 173 => 204 | 212 => 211 | 51 => 212 | 20 => 20 | 213 => 213 | 232 => 216 | 233 => 217 | 80 => 158 | n => n, fun | 15 => 1 | 16 => 2 | 17 => 3 | 18 => 4 | 19 => 5 | n => n⟩
theorem Tryd.laysC172 : Go.Proofs.LaysC.n172 Tryd.prog Tryd.laysC172_ren := {
  mixed := by kernel_rfl
  f129 := Tryd.func167.trans (congrArg some (by kernel_rfl))
  f171 := Tryd.func80.trans (congrArg some (by kernel_rfl))
  f172 := Tryd.func54.trans (congrArg some (by kernel_rfl))
  f205 := Tryd.func154.trans (congrArg some (by kernel_rfl))
  f243 := Tryd.func124.trans (congrArg some (by kernel_rfl))
  f244 := Tryd.func110.trans (congrArg some (by kernel_rfl))
  f245 := Tryd.func111.trans (congrArg some (by kernel_rfl))
  f246 := Tryd.func148.trans (congrArg some (by kernel_rfl))
  f247 := Tryd.func136.trans (congrArg some (by kernel_rfl))
  f279 := Tryd.func137.trans (congrArg some (by kernel_rfl))
  f280 := Tryd.func138.trans (congrArg some (by kernel_rfl))
  f281 := Tryd.func139.trans (congrArg some (by kernel_rfl))
  f282 := Tryd.func140.trans (congrArg some (by kernel_rfl))
  f283 := Tryd.func160.trans (congrArg some (by kernel_rfl))
  f284 := Tryd.func161.trans (congrArg some (by kernel_rfl))
  f285 := Tryd.func162.trans (congrArg some (by kernel_rfl))
  f286 := Tryd.func163.trans (congrArg some (by kernel_rfl))
  f287 := Tryd.func141.trans (congrArg some (by kernel_rfl))
  f316 := Tryd.func153.trans (congrArg some (by kernel_rfl))
  f317 := Tryd.func166.trans (congrArg some (by kernel_rfl))
  f318 := Tryd.func168.trans (congrArg some (by kernel_rfl))
  f319 := Tryd.func169.trans (congrArg some (by kernel_rfl))
  f320 := Tryd.func170.trans (congrArg some (by kernel_rfl))
  f321 := Tryd.func155.trans (congrArg some (by kernel_rfl))
  f322 := Tryd.func156.trans (congrArg some (by kernel_rfl))
  f337 := Tryd.func173.trans (congrArg some (by kernel_rfl))
  f338 := Tryd.func174.trans (congrArg some (by kernel_rfl))
  t0 := Tryd.underlying0
  a0 := Tryd.isAgg0
  z0 := Tryd.sizeOf0
  v0 := Tryd.zeroValue0
  t2 := Tryd.underlying2
  a2 := Tryd.isAgg2
  z2 := Tryd.sizeOf2
  v2 := Tryd.zeroValue2
  t3 := Tryd.underlying3
  a3 := Tryd.isAgg3
  z3 := Tryd.sizeOf3
  v3 := Tryd.zeroValue3
  t4 := Tryd.underlying4
  a4 := Tryd.isAgg4
  z4 := Tryd.sizeOf4
  v4 := Tryd.zeroValue4
  t5 := Tryd.underlying5
  a5 := Tryd.isAgg5
  z5 := Tryd.sizeOf5
  v5 := Tryd.zeroValue5
  t9 := Tryd.underlying9
  a9 := Tryd.isAgg9
  z9 := Tryd.sizeOf9
  v9 := Tryd.zeroValue9
  t20 := Tryd.underlying20
  a20 := Tryd.isAgg20
  z20 := Tryd.sizeOf20
  v20 := Tryd.zeroValue20
  t21 := Tryd.underlying21
  a21 := Tryd.isAgg21
  z21 := Tryd.sizeOf21
  v21 := Tryd.zeroValue21
  t37 := Tryd.underlying64
  a37 := Tryd.isAgg64
  z37 := Tryd.sizeOf64
  v37 := Tryd.zeroValue64
  t46 := Tryd.underlying160
  a46 := Tryd.isAgg160
  z46 := Tryd.sizeOf160
  v46 := Tryd.zeroValue160
  t51 := Tryd.underlying212
  a51 := Tryd.isAgg212
  z51 := Tryd.sizeOf212
  v51 := Tryd.zeroValue212
  t53 := Tryd.underlying121
  a53 := Tryd.isAgg121
  z53 := Tryd.sizeOf121
  v53 := Tryd.zeroValue121
  t75 := Tryd.underlying88
  a75 := Tryd.isAgg88
  z75 := Tryd.sizeOf88
  v75 := Tryd.zeroValue88
  t76 := Tryd.underlying89
  a76 := Tryd.isAgg89
  z76 := Tryd.sizeOf89
  v76 := Tryd.zeroValue89
  t85 := Tryd.underlying178
  a85 := Tryd.isAgg178
  z85 := Tryd.sizeOf178
  v85 := Tryd.zeroValue178
  t127 := Tryd.underlying186
  a127 := Tryd.isAgg186
  z127 := Tryd.sizeOf186
  v127 := Tryd.zeroValue186
  t143 := Tryd.underlying206
  a143 := Tryd.isAgg206
  z143 := Tryd.sizeOf206
  v143 := Tryd.zeroValue206
  t145 := Tryd.underlying208
  a145 := Tryd.isAgg208
  z145 := Tryd.sizeOf208
  v145 := Tryd.zeroValue208
  t167 := Tryd.underlying177
  a167 := Tryd.isAgg177
  z167 := Tryd.sizeOf177
  v167 := Tryd.zeroValue177
  t168 := Tryd.underlying180
  a168 := Tryd.isAgg180
  z168 := Tryd.sizeOf180
  v168 := Tryd.zeroValue180
  t171 := Tryd.underlying201
  a171 := Tryd.isAgg201
  z171 := Tryd.sizeOf201
  v171 := Tryd.zeroValue201
  t173 := Tryd.underlying204
  a173 := Tryd.isAgg204
  z173 := Tryd.sizeOf204
  v173 := Tryd.zeroValue204
  t175 := Tryd.underlying142
  a175 := Tryd.isAgg142
  z175 := Tryd.sizeOf142
  v175 := Tryd.zeroValue142
  t210 := Tryd.underlying195
  a210 := Tryd.isAgg195
  z210 := Tryd.sizeOf195
  v210 := Tryd.zeroValue195
  t212 := Tryd.underlying211
  a212 := Tryd.isAgg211
  z212 := Tryd.sizeOf211
  v212 := Tryd.zeroValue211
  t213 := Tryd.underlying213
  a213 := Tryd.isAgg213
  z213 := Tryd.sizeOf213
  t232 := Tryd.underlying216
  a232 := Tryd.isAgg216
  z232 := Tryd.sizeOf216
  v232 := Tryd.zeroValue216
  t233 := Tryd.underlying217
  a233 := Tryd.isAgg217
  z233 := Tryd.sizeOf217
  v233 := Tryd.zeroValue217
  g15 := by kernel_rfl
  g16 := by kernel_rfl
  g17 := by kernel_rfl
  g18 := by kernel_rfl
  g19 := by kernel_rfl
  t80 := Tryd.underlying158
  a80 := Tryd.isAgg158
  z80 := Tryd.sizeOf158
  v80 := Tryd.zeroValue158
  i0 := by kernel_rfl
  i2 := by kernel_rfl
  i3 := by kernel_rfl
  i4 := by kernel_rfl
  i5 := by kernel_rfl
  i9 := by kernel_rfl
  i20 := by kernel_rfl
  i21 := by kernel_rfl
  i37 := by kernel_rfl
  i46 := by kernel_rfl
  i51 := by kernel_rfl
  i53 := by kernel_rfl
  i75 := by kernel_rfl
  i76 := by kernel_rfl
  i80 := by kernel_rfl
  i85 := by kernel_rfl
  i127 := by kernel_rfl
  i143 := by kernel_rfl
  i145 := by kernel_rfl
  i167 := by kernel_rfl
  i168 := by kernel_rfl
  i171 := by kernel_rfl
  i173 := by kernel_rfl
  i175 := by kernel_rfl
  i210 := by kernel_rfl
  i212 := by kernel_rfl
  i232 := by kernel_rfl
  i233 := by kernel_rfl
  m15 := by kernel_rfl
  m16 := by kernel_rfl
  m17 := by kernel_rfl
  m18 := by kernel_rfl
  m19 := by kernel_rfl
  c0 := by kernel_rfl
  c2 := by kernel_rfl
  c3 := by kernel_rfl
  c4 := by kernel_rfl
  c5 := by kernel_rfl
  c9 := by kernel_rfl
  c20 := by kernel_rfl
  c21 := by kernel_rfl
  c37 := by kernel_rfl
  c46 := by kernel_rfl
  c51 := by kernel_rfl
  c53 := by kernel_rfl
  c75 := by kernel_rfl
  c76 := by kernel_rfl
  c80 := by kernel_rfl
  c85 := by kernel_rfl
  c127 := by kernel_rfl
  c143 := by kernel_rfl
  c145 := by kernel_rfl
  c167 := by kernel_rfl
  c168 := by kernel_rfl
  c171 := by kernel_rfl
  c173 := by kernel_rfl
  c175 := by kernel_rfl
  c210 := by kernel_rfl
  c212 := by kernel_rfl
  c213 := by kernel_rfl
  c232 := by kernel_rfl
  c233 := by kernel_rfl }
open Go.RowKit in
/-- strconv.Atoi, AT EVERY STRING THAT SPELLS AN int ('Lib.atoiAll .. = .ok v'; of whatever length: leading zeros count): v, AND NO ERROR. The world: as it was, or with the one new row that '[]byte(..)' lays. (LAID: no walk: one application.) -/
theorem Tryd.strconv_Atoi_ok (s : ByteArray) (hmax : s.size ≤ 9223372036854775806) (v : Int) (h : Lib.atoiAll s.data.toList = .ok v) (w : World) :
    Calls Tryd.prog 54 #[.string s] w fun e w' => e = .returned (.tuple #[.int .i64 v, .nilIface]) ∧ (w' = w ∨ ∃ t, w' = Lib.bytesWorld w 5 t) := Any.strconv_Atoi_ok Tryd.laysC172 s hmax v h w
open Go.RowKit in
theorem Tryd.strconv_Atoi_range_var (s : ByteArray) (hlim : s.size ≤ 281474976710656) (h : Lib.atoiAll s.data.toList = .range) (tp : TypeId) (p : Value) (w : World) (hvar : w.var? Tryd.prog "strconv.ErrRange" = some #[.iface tp p]) :
    Calls Tryd.prog 54 #[.string s] w fun e w' => ∃ N, e = .returned (.tuple #[.int .i64 (Lib.atoiSat s.data.toList), .iface 180 (.pointer (some ⟨N, 0, none⟩))]) ∧ w.heap.size ≤ N ∧ w'.heap[N]? = some (.cells #[.string ⟨#[65, 116, 111, 105]⟩, .string s, .iface tp p] 195 (0, 0)) ∧ Below w.heap.size w w' := Any.strconv_Atoi_range_var Tryd.laysC172 s hlim h tp p w hvar
end Go.Proofs

