/- THE TEXTS MERGED: Shelf VaHex. -/
import Derived.Test.YtdablillhbfgkaaDoorKT2
import Derived.Shelf.Strconv.Atoi
import Derived.Shelf.Strconv.Itoa0
import Derived.Shelf.Strconv.Itoa1
import Derived.Shelf.LaysM
import Derived.Shelf.Strconv.Itoa2
import Derived.Shelf.Strconv.Itoa3
import Derived.Shelf.Strconv.AtoiErrFast
import Derived.Shelf.Strconv.ParseIntEmpty
import Derived.Shelf.Strconv.AtoiFail
import Derived.Shelf.Strconv.Clone
import Derived.Shelf.Strconv.SyntaxError
import Derived.Shelf.LaysC
import Derived.Shelf.Strconv.ToError
import Derived.Shelf.Strconv.Lower
import Derived.Shelf.Strconv.ParseUint10
import Derived.Shelf.Strconv.ParseUint10Empty
import Derived.Shelf.Strconv.ParseUint10Any
import Derived.Shelf.Strconv.ParseInt10
import Derived.Shelf.Strconv.AtoiLong
import Derived.Shelf.Strconv.AtoiInnerAll
import Derived.Shelf.Strconv.RangeError
import Derived.Shelf.Strconv.ToErrorRange
import Derived.Shelf.Strconv.AtoiAll
import Derived.Shelf.Strconv.ErrVarAll
import Derived.Ground.MpProg
import Derived.Shelf.Pu.ParseUintPublic10
import Derived.Shelf.Pu.ErrVarParseUint
import Derived.Test.YtdablillhbfgkaaDoorProg
namespace Go.Proofs
open Go.Shelf
def Tryd.laysM171_ren:Go.Shelf.Ren:=⟨fun | 171=>66 | 243=>85 | 246=>96 | 283=>104 | 284=>105 | 285=>106 | 286=>107 | 129=>109 | 317=>108 | 318=>110 | 319=>111 | 320=>112 | 337=>113 | 338=>114 | n=>n,fun | 3=>3 | 9=>9 | 2=>2 | 4=>4 | 171=>161 | 0=>0 | 53=>108 | 37=>68 | 5=>5 | 173=>164 | 212=>172 | 51=>173 | 20=>20 | 213=>174 | 46=>136 | 232=>178 | 233=>179 | n=>n,fun | 17=>2 | 18=>3 | 19=>4 | n=>n⟩
theorem Tryd.laysM171:Go.Proofs.LaysM.n171 Tryd.prog Tryd.laysM171_ren:={
 mixed:=by kernel_rfl
 f129:=Tryd.func109.trans (congrArg some (by kernel_rfl))
 f171:=Tryd.func66.trans (congrArg some (by kernel_rfl))
 f243:=Tryd.func85.trans (congrArg some (by kernel_rfl))
 f246:=Tryd.func96.trans (congrArg some (by kernel_rfl))
 f283:=Tryd.func104.trans (congrArg some (by kernel_rfl))
 f284:=Tryd.func105.trans (congrArg some (by kernel_rfl))
 f285:=Tryd.func106.trans (congrArg some (by kernel_rfl))
 f286:=Tryd.func107.trans (congrArg some (by kernel_rfl))
 f317:=Tryd.func108.trans (congrArg some (by kernel_rfl))
 f318:=Tryd.func110.trans (congrArg some (by kernel_rfl))
 f319:=Tryd.func111.trans (congrArg some (by kernel_rfl))
 f320:=Tryd.func112.trans (congrArg some (by kernel_rfl))
 f337:=Tryd.func113.trans (congrArg some (by kernel_rfl))
 f338:=Tryd.func114.trans (congrArg some (by kernel_rfl))
 t0:=Tryd.underlying0
 a0:=Tryd.isAgg0
 z0:=Tryd.sizeOf0
 v0:=Tryd.zeroValue0
 t2:=Tryd.underlying2
 a2:=Tryd.isAgg2
 z2:=Tryd.sizeOf2
 v2:=Tryd.zeroValue2
 t3:=Tryd.underlying3
 a3:=Tryd.isAgg3
 z3:=Tryd.sizeOf3
 v3:=Tryd.zeroValue3
 t4:=Tryd.underlying4
 a4:=Tryd.isAgg4
 z4:=Tryd.sizeOf4
 v4:=Tryd.zeroValue4
 t5:=Tryd.underlying5
 a5:=Tryd.isAgg5
 z5:=Tryd.sizeOf5
 v5:=Tryd.zeroValue5
 t9:=Tryd.underlying9
 a9:=Tryd.isAgg9
 z9:=Tryd.sizeOf9
 v9:=Tryd.zeroValue9
 t20:=Tryd.underlying20
 a20:=Tryd.isAgg20
 z20:=Tryd.sizeOf20
 v20:=Tryd.zeroValue20
 t37:=Tryd.underlying68
 a37:=Tryd.isAgg68
 z37:=Tryd.sizeOf68
 v37:=Tryd.zeroValue68
 t46:=Tryd.underlying136
 a46:=Tryd.isAgg136
 z46:=Tryd.sizeOf136
 v46:=Tryd.zeroValue136
 t51:=Tryd.underlying173
 a51:=Tryd.isAgg173
 z51:=Tryd.sizeOf173
 v51:=Tryd.zeroValue173
 t53:=Tryd.underlying108
 a53:=Tryd.isAgg108
 z53:=Tryd.sizeOf108
 v53:=Tryd.zeroValue108
 t171:=Tryd.underlying161
 a171:=Tryd.isAgg161
 z171:=Tryd.sizeOf161
 v171:=Tryd.zeroValue161
 t173:=Tryd.underlying164
 a173:=Tryd.isAgg164
 z173:=Tryd.sizeOf164
 v173:=Tryd.zeroValue164
 t212:=Tryd.underlying172
 a212:=Tryd.isAgg172
 z212:=Tryd.sizeOf172
 v212:=Tryd.zeroValue172
 t213:=Tryd.underlying174
 a213:=Tryd.isAgg174
 z213:=Tryd.sizeOf174
 t232:=Tryd.underlying178
 a232:=Tryd.isAgg178
 z232:=Tryd.sizeOf178
 v232:=Tryd.zeroValue178
 t233:=Tryd.underlying179
 a233:=Tryd.isAgg179
 z233:=Tryd.sizeOf179
 v233:=Tryd.zeroValue179
 g17:=by kernel_rfl
 g18:=by kernel_rfl
 g19:=by kernel_rfl
 i0:=by kernel_rfl
 i2:=by kernel_rfl
 i3:=by kernel_rfl
 i4:=by kernel_rfl
 i5:=by kernel_rfl
 i9:=by kernel_rfl
 i20:=by kernel_rfl
 i37:=by kernel_rfl
 i46:=by kernel_rfl
 i51:=by kernel_rfl
 i53:=by kernel_rfl
 i171:=by kernel_rfl
 i173:=by kernel_rfl
 i212:=by kernel_rfl
 i232:=by kernel_rfl
 i233:=by kernel_rfl
 m17:=by kernel_rfl
 m18:=by kernel_rfl
 m19:=by kernel_rfl }
open Go.RowKit Go.Sort Go.Lib in
/-- strconv.Itoa: "Itoa is equivalent to FormatInt(int64(i), 10).": i's DECIMAL NUMERAL ('Lib.itoa': a '-' where i is negative, then the digits), FOR EVERY int. The world behind the call: the world before it, new blocks behind the heap (the library's 'var a [24]byte'), draws. (LAID: no walk: one application.) -/
theorem Tryd.strconv_Itoa (n : Int) (h0 : -9223372036854775808 ≤ n) (h1 : n ≤ 9223372036854775807) (w : World) (htab : Lib.TabIs Tryd.prog w "internal/strconv.uint64pow10" .u64 Lib.pow10Tab) :
  Calls Tryd.prog 66 #[.int .i64 n] w fun e w'=>e=.returned (.string ⟨(Lib.itoa n).toArray⟩)/\∃ k os,w'=grow (w.drewN k) os:=Any.strconv_Itoa Tryd.laysM171 n h0 h1 w htab
def Tryd.laysC245_ren:Go.Shelf.Ren:=⟨fun | 245=>69 | 279=>87 | 280=>88 | 281=>89 | 282=>90 | 316=>97 | 171=>66 | 205=>98 | 243=>85 | 246=>96 | 283=>104 | 284=>105 | 285=>106 | 286=>107 | 129=>109 | 317=>108 | 318=>110 | 319=>111 | 320=>112 | 337=>113 | 338=>114 | n=>n,fun | 9=>9 | 3=>3 | 75=>99 | 167=>146 | 4=>4 | 168=>149 | 210=>157 | 37=>68 | 0=>0 | 127=>166 | 145=>169 | 143=>167 | 2=>2 | 171=>161 | 53=>108 | 5=>5 | 173=>164 | 212=>172 | 51=>173 | 20=>20 | 213=>174 | 46=>136 | 232=>178 | 233=>179 | 80=>180 | n=>n,fun | 15=>0 | 16=>1 | 17=>2 | 18=>3 | 19=>4 | n=>n⟩
theorem Tryd.laysC245:Go.Proofs.LaysC.n245 Tryd.prog Tryd.laysC245_ren:={
 mixed:=by kernel_rfl
 f129:=Tryd.func109.trans (congrArg some (by kernel_rfl))
 f171:=Tryd.func66.trans (congrArg some (by kernel_rfl))
 f205:=Tryd.func98.trans (congrArg some (by kernel_rfl))
 f243:=Tryd.func85.trans (congrArg some (by kernel_rfl))
 f245:=Tryd.func69.trans (congrArg some (by kernel_rfl))
 f246:=Tryd.func96.trans (congrArg some (by kernel_rfl))
 f279:=Tryd.func87.trans (congrArg some (by kernel_rfl))
 f280:=Tryd.func88.trans (congrArg some (by kernel_rfl))
 f281:=Tryd.func89.trans (congrArg some (by kernel_rfl))
 f282:=Tryd.func90.trans (congrArg some (by kernel_rfl))
 f283:=Tryd.func104.trans (congrArg some (by kernel_rfl))
 f284:=Tryd.func105.trans (congrArg some (by kernel_rfl))
 f285:=Tryd.func106.trans (congrArg some (by kernel_rfl))
 f286:=Tryd.func107.trans (congrArg some (by kernel_rfl))
 f316:=Tryd.func97.trans (congrArg some (by kernel_rfl))
 f317:=Tryd.func108.trans (congrArg some (by kernel_rfl))
 f318:=Tryd.func110.trans (congrArg some (by kernel_rfl))
 f319:=Tryd.func111.trans (congrArg some (by kernel_rfl))
 f320:=Tryd.func112.trans (congrArg some (by kernel_rfl))
 f337:=Tryd.func113.trans (congrArg some (by kernel_rfl))
 f338:=Tryd.func114.trans (congrArg some (by kernel_rfl))
 t0:=Tryd.underlying0
 a0:=Tryd.isAgg0
 z0:=Tryd.sizeOf0
 v0:=Tryd.zeroValue0
 t2:=Tryd.underlying2
 a2:=Tryd.isAgg2
 z2:=Tryd.sizeOf2
 v2:=Tryd.zeroValue2
 t3:=Tryd.underlying3
 a3:=Tryd.isAgg3
 z3:=Tryd.sizeOf3
 v3:=Tryd.zeroValue3
 t4:=Tryd.underlying4
 a4:=Tryd.isAgg4
 z4:=Tryd.sizeOf4
 v4:=Tryd.zeroValue4
 t5:=Tryd.underlying5
 a5:=Tryd.isAgg5
 z5:=Tryd.sizeOf5
 v5:=Tryd.zeroValue5
 t9:=Tryd.underlying9
 a9:=Tryd.isAgg9
 z9:=Tryd.sizeOf9
 v9:=Tryd.zeroValue9
 t20:=Tryd.underlying20
 a20:=Tryd.isAgg20
 z20:=Tryd.sizeOf20
 v20:=Tryd.zeroValue20
 t37:=Tryd.underlying68
 a37:=Tryd.isAgg68
 z37:=Tryd.sizeOf68
 v37:=Tryd.zeroValue68
 t46:=Tryd.underlying136
 a46:=Tryd.isAgg136
 z46:=Tryd.sizeOf136
 v46:=Tryd.zeroValue136
 t51:=Tryd.underlying173
 a51:=Tryd.isAgg173
 z51:=Tryd.sizeOf173
 v51:=Tryd.zeroValue173
 t53:=Tryd.underlying108
 a53:=Tryd.isAgg108
 z53:=Tryd.sizeOf108
 v53:=Tryd.zeroValue108
 t75:=Tryd.underlying99
 a75:=Tryd.isAgg99
 z75:=Tryd.sizeOf99
 v75:=Tryd.zeroValue99
 t127:=Tryd.underlying166
 a127:=Tryd.isAgg166
 z127:=Tryd.sizeOf166
 v127:=Tryd.zeroValue166
 t143:=Tryd.underlying167
 a143:=Tryd.isAgg167
 z143:=Tryd.sizeOf167
 v143:=Tryd.zeroValue167
 t145:=Tryd.underlying169
 a145:=Tryd.isAgg169
 z145:=Tryd.sizeOf169
 v145:=Tryd.zeroValue169
 t167:=Tryd.underlying146
 a167:=Tryd.isAgg146
 z167:=Tryd.sizeOf146
 v167:=Tryd.zeroValue146
 t168:=Tryd.underlying149
 a168:=Tryd.isAgg149
 z168:=Tryd.sizeOf149
 v168:=Tryd.zeroValue149
 t171:=Tryd.underlying161
 a171:=Tryd.isAgg161
 z171:=Tryd.sizeOf161
 v171:=Tryd.zeroValue161
 t173:=Tryd.underlying164
 a173:=Tryd.isAgg164
 z173:=Tryd.sizeOf164
 v173:=Tryd.zeroValue164
 t210:=Tryd.underlying157
 a210:=Tryd.isAgg157
 z210:=Tryd.sizeOf157
 v210:=Tryd.zeroValue157
 t212:=Tryd.underlying172
 a212:=Tryd.isAgg172
 z212:=Tryd.sizeOf172
 v212:=Tryd.zeroValue172
 t213:=Tryd.underlying174
 a213:=Tryd.isAgg174
 z213:=Tryd.sizeOf174
 t232:=Tryd.underlying178
 a232:=Tryd.isAgg178
 z232:=Tryd.sizeOf178
 v232:=Tryd.zeroValue178
 t233:=Tryd.underlying179
 a233:=Tryd.isAgg179
 z233:=Tryd.sizeOf179
 v233:=Tryd.zeroValue179
 g15:=by kernel_rfl
 g16:=by kernel_rfl
 g17:=by kernel_rfl
 g18:=by kernel_rfl
 g19:=by kernel_rfl
 t80:=Tryd.underlying180
 a80:=Tryd.isAgg180
 z80:=Tryd.sizeOf180
 v80:=Tryd.zeroValue180
 i0:=by kernel_rfl
 i2:=by kernel_rfl
 i3:=by kernel_rfl
 i4:=by kernel_rfl
 i5:=by kernel_rfl
 i9:=by kernel_rfl
 i20:=by kernel_rfl
 i37:=by kernel_rfl
 i46:=by kernel_rfl
 i51:=by kernel_rfl
 i53:=by kernel_rfl
 i75:=by kernel_rfl
 i80:=by kernel_rfl
 i127:=by kernel_rfl
 i143:=by kernel_rfl
 i145:=by kernel_rfl
 i167:=by kernel_rfl
 i168:=by kernel_rfl
 i171:=by kernel_rfl
 i173:=by kernel_rfl
 i210:=by kernel_rfl
 i212:=by kernel_rfl
 i232:=by kernel_rfl
 i233:=by kernel_rfl
 m15:=by kernel_rfl
 m16:=by kernel_rfl
 m17:=by kernel_rfl
 m18:=by kernel_rfl
 m19:=by kernel_rfl
 c0:=by kernel_rfl
 c2:=by kernel_rfl
 c3:=by kernel_rfl
 c4:=by kernel_rfl
 c5:=by kernel_rfl
 c9:=by kernel_rfl
 c20:=by kernel_rfl
 c37:=by kernel_rfl
 c46:=by kernel_rfl
 c51:=by kernel_rfl
 c53:=by kernel_rfl
 c75:=by kernel_rfl
 c80:=by kernel_rfl
 c127:=by kernel_rfl
 c143:=by kernel_rfl
 c145:=by kernel_rfl
 c167:=by kernel_rfl
 c168:=by kernel_rfl
 c171:=by kernel_rfl
 c173:=by kernel_rfl
 c210:=by kernel_rfl
 c212:=by kernel_rfl
 c213:=by kernel_rfl
 c232:=by kernel_rfl
 c233:=by kernel_rfl }
open Go.RowKit in
/-- strconv.toError, at the inner package's ErrSyntax: 'syntaxError(fn, s)' as an error: A *NumError IN A NEW BLOCK. (LAID: no walk: one application.) -/
theorem Tryd.strconv_toError_syntax (fn s:ByteArray) (base bits:Int) (ev:Value) (w:World) (hlim:s.size<=281474976710656) (hv:w.cell? ⟨0,0,none⟩=some ev) (hev:ev=.nilIface\/∃ te pe,ev=.iface te pe) :
  Calls Tryd.prog 69 #[.string fn,.string s,.int .i64 base,.int .i64 bits,.iface 146 (.int .i64 2)] w fun e w'=>∃ N,e=.returned (.iface 149 (.pointer (some ⟨N,0,none⟩)))/\w.heap.size<=N/\w'.heap[N]?=some (.cells #[.string fn,.string s,ev] 157 (0,0))/\Below w.heap.size w w':=Any.strconv_toError_syntax Tryd.laysC245 fn s base bits ev w hlim hv hev
def Tryd.lays321_ren:Go.Shelf.Ren:=⟨fun | 321=>99 | n=>n,fun | 5=>5 | n=>n,fun | n=>n⟩
theorem Tryd.lays321:Go.Proofs.Lays.n321 Tryd.prog Tryd.lays321_ren:={
 mixed:=by kernel_rfl
 f321:=Tryd.func99.trans (congrArg some (by kernel_rfl))
 t5:=Tryd.underlying5
 a5:=Tryd.isAgg5
 z5:=Tryd.sizeOf5
 v5:=Tryd.zeroValue5 }
open Go.RowKit in
/-- internal/strconv.lower: 'c | ('x' - 'X')': the bit 32 set. The world is as it was. (LAID: no walk: one application.) -/
theorem Tryd.internal_strconv_lower (c:Int) (w:World) :
  Calls Tryd.prog 99 #[.int .u8 c] w fun e w'=>e=.returned (.int .u8 (bits .or .u8 c 32))/\w'=w:=Any.internal_strconv_lower Tryd.lays321 c w
def Tryd.laysC172_ren:Go.Shelf.Ren:=⟨fun | 172=>50 | 244=>68 | 245=>69 | 247=>86 | 279=>87 | 280=>88 | 281=>89 | 282=>90 | 287=>91 | 316=>97 | 171=>66 | 205=>98 | 321=>99 | 322=>100 | 243=>85 | 246=>96 | 283=>104 | 284=>105 | 285=>106 | 286=>107 | 129=>109 | 317=>108 | 318=>110 | 319=>111 | 320=>112 | 337=>113 | 338=>114 | n=>n,fun | 9=>9 | 3=>3 | 75=>99 | 76=>100 | 4=>4 | 5=>5 | 167=>146 | 37=>68 | 0=>0 | 85=>147 | 2=>2 | 168=>149 | 53=>108 | 175=>127 | 46=>136 | 210=>157 | 127=>166 | 145=>169 | 143=>167 | 21=>21 | 171=>161 | 173=>164 | 212=>172 | 51=>173 | 20=>20 | 213=>174 | 232=>178 | 233=>179 | 80=>180 | n=>n,fun | 15=>0 | 16=>1 | 17=>2 | 18=>3 | 19=>4 | n=>n⟩
theorem Tryd.laysC172:Go.Proofs.LaysC.n172 Tryd.prog Tryd.laysC172_ren:={
 mixed:=by kernel_rfl
 f129:=Tryd.func109.trans (congrArg some (by kernel_rfl))
 f171:=Tryd.func66.trans (congrArg some (by kernel_rfl))
 f172:=Tryd.func50.trans (congrArg some (by kernel_rfl))
 f205:=Tryd.func98.trans (congrArg some (by kernel_rfl))
 f243:=Tryd.func85.trans (congrArg some (by kernel_rfl))
 f244:=Tryd.func68.trans (congrArg some (by kernel_rfl))
 f245:=Tryd.func69.trans (congrArg some (by kernel_rfl))
 f246:=Tryd.func96.trans (congrArg some (by kernel_rfl))
 f247:=Tryd.func86.trans (congrArg some (by kernel_rfl))
 f279:=Tryd.func87.trans (congrArg some (by kernel_rfl))
 f280:=Tryd.func88.trans (congrArg some (by kernel_rfl))
 f281:=Tryd.func89.trans (congrArg some (by kernel_rfl))
 f282:=Tryd.func90.trans (congrArg some (by kernel_rfl))
 f283:=Tryd.func104.trans (congrArg some (by kernel_rfl))
 f284:=Tryd.func105.trans (congrArg some (by kernel_rfl))
 f285:=Tryd.func106.trans (congrArg some (by kernel_rfl))
 f286:=Tryd.func107.trans (congrArg some (by kernel_rfl))
 f287:=Tryd.func91.trans (congrArg some (by kernel_rfl))
 f316:=Tryd.func97.trans (congrArg some (by kernel_rfl))
 f317:=Tryd.func108.trans (congrArg some (by kernel_rfl))
 f318:=Tryd.func110.trans (congrArg some (by kernel_rfl))
 f319:=Tryd.func111.trans (congrArg some (by kernel_rfl))
 f320:=Tryd.func112.trans (congrArg some (by kernel_rfl))
 f321:=Tryd.func99.trans (congrArg some (by kernel_rfl))
 f322:=Tryd.func100.trans (congrArg some (by kernel_rfl))
 f337:=Tryd.func113.trans (congrArg some (by kernel_rfl))
 f338:=Tryd.func114.trans (congrArg some (by kernel_rfl))
 t0:=Tryd.underlying0
 a0:=Tryd.isAgg0
 z0:=Tryd.sizeOf0
 v0:=Tryd.zeroValue0
 t2:=Tryd.underlying2
 a2:=Tryd.isAgg2
 z2:=Tryd.sizeOf2
 v2:=Tryd.zeroValue2
 t3:=Tryd.underlying3
 a3:=Tryd.isAgg3
 z3:=Tryd.sizeOf3
 v3:=Tryd.zeroValue3
 t4:=Tryd.underlying4
 a4:=Tryd.isAgg4
 z4:=Tryd.sizeOf4
 v4:=Tryd.zeroValue4
 t5:=Tryd.underlying5
 a5:=Tryd.isAgg5
 z5:=Tryd.sizeOf5
 v5:=Tryd.zeroValue5
 t9:=Tryd.underlying9
 a9:=Tryd.isAgg9
 z9:=Tryd.sizeOf9
 v9:=Tryd.zeroValue9
 t20:=Tryd.underlying20
 a20:=Tryd.isAgg20
 z20:=Tryd.sizeOf20
 v20:=Tryd.zeroValue20
 t21:=Tryd.underlying21
 a21:=Tryd.isAgg21
 z21:=Tryd.sizeOf21
 v21:=Tryd.zeroValue21
 t37:=Tryd.underlying68
 a37:=Tryd.isAgg68
 z37:=Tryd.sizeOf68
 v37:=Tryd.zeroValue68
 t46:=Tryd.underlying136
 a46:=Tryd.isAgg136
 z46:=Tryd.sizeOf136
 v46:=Tryd.zeroValue136
 t51:=Tryd.underlying173
 a51:=Tryd.isAgg173
 z51:=Tryd.sizeOf173
 v51:=Tryd.zeroValue173
 t53:=Tryd.underlying108
 a53:=Tryd.isAgg108
 z53:=Tryd.sizeOf108
 v53:=Tryd.zeroValue108
 t75:=Tryd.underlying99
 a75:=Tryd.isAgg99
 z75:=Tryd.sizeOf99
 v75:=Tryd.zeroValue99
 t76:=Tryd.underlying100
 a76:=Tryd.isAgg100
 z76:=Tryd.sizeOf100
 v76:=Tryd.zeroValue100
 t85:=Tryd.underlying147
 a85:=Tryd.isAgg147
 z85:=Tryd.sizeOf147
 v85:=Tryd.zeroValue147
 t127:=Tryd.underlying166
 a127:=Tryd.isAgg166
 z127:=Tryd.sizeOf166
 v127:=Tryd.zeroValue166
 t143:=Tryd.underlying167
 a143:=Tryd.isAgg167
 z143:=Tryd.sizeOf167
 v143:=Tryd.zeroValue167
 t145:=Tryd.underlying169
 a145:=Tryd.isAgg169
 z145:=Tryd.sizeOf169
 v145:=Tryd.zeroValue169
 t167:=Tryd.underlying146
 a167:=Tryd.isAgg146
 z167:=Tryd.sizeOf146
 v167:=Tryd.zeroValue146
 t168:=Tryd.underlying149
 a168:=Tryd.isAgg149
 z168:=Tryd.sizeOf149
 v168:=Tryd.zeroValue149
 t171:=Tryd.underlying161
 a171:=Tryd.isAgg161
 z171:=Tryd.sizeOf161
 v171:=Tryd.zeroValue161
 t173:=Tryd.underlying164
 a173:=Tryd.isAgg164
 z173:=Tryd.sizeOf164
 v173:=Tryd.zeroValue164
 t175:=Tryd.underlying127
 a175:=Tryd.isAgg127
 z175:=Tryd.sizeOf127
 v175:=Tryd.zeroValue127
 t210:=Tryd.underlying157
 a210:=Tryd.isAgg157
 z210:=Tryd.sizeOf157
 v210:=Tryd.zeroValue157
 t212:=Tryd.underlying172
 a212:=Tryd.isAgg172
 z212:=Tryd.sizeOf172
 v212:=Tryd.zeroValue172
 t213:=Tryd.underlying174
 a213:=Tryd.isAgg174
 z213:=Tryd.sizeOf174
 t232:=Tryd.underlying178
 a232:=Tryd.isAgg178
 z232:=Tryd.sizeOf178
 v232:=Tryd.zeroValue178
 t233:=Tryd.underlying179
 a233:=Tryd.isAgg179
 z233:=Tryd.sizeOf179
 v233:=Tryd.zeroValue179
 g15:=by kernel_rfl
 g16:=by kernel_rfl
 g17:=by kernel_rfl
 g18:=by kernel_rfl
 g19:=by kernel_rfl
 t80:=Tryd.underlying180
 a80:=Tryd.isAgg180
 z80:=Tryd.sizeOf180
 v80:=Tryd.zeroValue180
 i0:=by kernel_rfl
 i2:=by kernel_rfl
 i3:=by kernel_rfl
 i4:=by kernel_rfl
 i5:=by kernel_rfl
 i9:=by kernel_rfl
 i20:=by kernel_rfl
 i21:=by kernel_rfl
 i37:=by kernel_rfl
 i46:=by kernel_rfl
 i51:=by kernel_rfl
 i53:=by kernel_rfl
 i75:=by kernel_rfl
 i76:=by kernel_rfl
 i80:=by kernel_rfl
 i85:=by kernel_rfl
 i127:=by kernel_rfl
 i143:=by kernel_rfl
 i145:=by kernel_rfl
 i167:=by kernel_rfl
 i168:=by kernel_rfl
 i171:=by kernel_rfl
 i173:=by kernel_rfl
 i175:=by kernel_rfl
 i210:=by kernel_rfl
 i212:=by kernel_rfl
 i232:=by kernel_rfl
 i233:=by kernel_rfl
 m15:=by kernel_rfl
 m16:=by kernel_rfl
 m17:=by kernel_rfl
 m18:=by kernel_rfl
 m19:=by kernel_rfl
 c0:=by kernel_rfl
 c2:=by kernel_rfl
 c3:=by kernel_rfl
 c4:=by kernel_rfl
 c5:=by kernel_rfl
 c9:=by kernel_rfl
 c20:=by kernel_rfl
 c21:=by kernel_rfl
 c37:=by kernel_rfl
 c46:=by kernel_rfl
 c51:=by kernel_rfl
 c53:=by kernel_rfl
 c75:=by kernel_rfl
 c76:=by kernel_rfl
 c80:=by kernel_rfl
 c85:=by kernel_rfl
 c127:=by kernel_rfl
 c143:=by kernel_rfl
 c145:=by kernel_rfl
 c167:=by kernel_rfl
 c168:=by kernel_rfl
 c171:=by kernel_rfl
 c173:=by kernel_rfl
 c175:=by kernel_rfl
 c210:=by kernel_rfl
 c212:=by kernel_rfl
 c213:=by kernel_rfl
 c232:=by kernel_rfl
 c233:=by kernel_rfl }
open Go.RowKit in
/-- strconv.Atoi, AT EVERY STRING THAT SPELLS AN int ('Lib.atoiAll .. = .ok v'; of whatever length: leading zeros count): v, AND NO ERROR. The world: as it was, or with the one new row that '[]byte(..)' lays. (LAID: no walk: one application.) -/
theorem Tryd.strconv_Atoi_ok (s:ByteArray) (hmax:s.size<=9223372036854775806) (v:Int) (h:Lib.atoiAll s.data.toList=.ok v) (w:World) :
  Calls Tryd.prog 50 #[.string s] w fun e w'=>e=.returned (.tuple #[.int .i64 v,.nilIface])/\(w'=w\/∃ t,w'=Lib.bytesWorld w 5 t):=Any.strconv_Atoi_ok Tryd.laysC172 s hmax v h w
open Go.RowKit in
theorem Tryd.strconv_Atoi_range_var (s : ByteArray) (hlim : s.size ≤ 281474976710656) (h : Lib.atoiAll s.data.toList = .range) (tp : TypeId) (p : Value) (w : World) (hvar : w.var? Tryd.prog "strconv.ErrRange" = some #[.iface tp p]) :
  Calls Tryd.prog 50 #[.string s] w fun e w'=>∃ N,e=.returned (.tuple #[.int .i64 (Lib.atoiSat s.data.toList),.iface 149 (.pointer (some ⟨N,0,none⟩))])/\w.heap.size<=N/\w'.heap[N]?=some (.cells #[.string ⟨#[65,116,111,105]⟩,.string s,.iface tp p] 157 (0,0))/\Below w.heap.size w w':=Any.strconv_Atoi_range_var Tryd.laysC172 s hlim h tp p w hvar
end Go.Proofs
namespace Go.Proofs.YtdablillhbfgkaaDoor
open Go.RowKit
set_option linter.unusedVariables false
set_option linter.unusedSimpArgs false
set_option maxRecDepth 100000
def lowF (c:Nat):Nat:=c ||| 32
theorem lower_any (c:Nat) (hc:c<256) (w:World) :
  Calls Tryd.prog 99 #[.int .u8 (c:Int)] w fun e w'=>e=.returned (.int .u8 (lowF c:Nat))/\w=w':=by
 refine (Tryd.internal_strconv_lower (c:Int) w).mono ?_
 rintro e w' ⟨rfl,rfl⟩
 refine ⟨ret_int ?_,rfl⟩
 have:∀ c:Fin 256,bits BinOp.or IntKind.u8 (c.1:Int) 32=(lowF c.1:Nat):=by decide +kernel
 exact this ⟨c,hc⟩
theorem lowF_lt (c:Nat) (hc:c<256):lowF c<256:=by
 have:∀ c:Fin 256,lowF c.1<256:=by decide +kernel
 exact this ⟨c,hc⟩
theorem hex_cases (c:Nat) (hc:c<256):(48<=c/\c<=57/\Lx.hexv c=some (c - 48))\/(¬ (48<=c/\c<=57)/\97<=lowF c/\lowF c<=102/\Lx.hexv c=some (lowF c - 87)) \/
  (¬ (48<=c/\c<=57)/\lowF c<97/\Lx.hexv c=none)\/(¬ (48<=c/\c<=57)/\103<=lowF c/\Lx.hexv c=none):=by
 have:∀ c:Fin 256,(48<=c.1/\c.1<=57/\Lx.hexv c.1=some (c.1 - 48))\/(¬ (48<=c.1/\c.1<=57)/\97<=lowF c.1/\lowF c.1<=102/\Lx.hexv c.1=some (lowF c.1 - 87)) \/
  (¬ (48<=c.1/\c.1<=57)/\lowF c.1<97/\Lx.hexv c.1=none)\/(¬ (48<=c.1/\c.1<=57)/\103<=lowF c.1/\Lx.hexv c.1=none):=by decide +kernel
 exact this ⟨c,hc⟩
def hexL (l:List Nat):Option Nat:=l.foldl (fun o c=>match o,Lx.hexv c with | some n,some d=>some (16 * n+d) | _,_=>none) (some 0)
def hexR:Option Nat->Value
 | some n=>.tuple #[.int .u64 (n:Nat),.nilIface]
 | none=>.tuple #[.int .u64 0,.iface 146 (.int .i64 2)]
theorem hexL_step (l:List Nat) (c:Nat):hexL (l++[c])=match hexL l,Lx.hexv c with | some n,some d=>some (16 * n+d) | _,_=>none:=by
 unfold hexL;rw [List.foldl_append];rfl
theorem hexL_none (l:List Nat) (k:Nat) (h:∀ n,hexL (l.take k)≠some n):hexL l=none:=by
 have key:∀ (r a:List Nat),hexL a=none->hexL (a++r)=none:=by
  intro r
  induction r with
  | nil=>intro a h;simpa using h
  | cons c r ih =>
   intro a h
   have:=ih (a++[c]) (by rw [hexL_step,h])
   simpa using this
 have h0:hexL (l.take k)=none:=by
  cases hx:hexL (l.take k) with
  | none=>rfl
  | some n=>exact absurd hx (h n)
 have:=key (l.drop k) _ h0
 rwa [List.take_append_drop] at this
theorem getD_lt' {l:List Nat} (h:∀ c∈l,c<256) (i:Nat):l.getD i 0<256:=by
 rcases Nat.lt_or_ge i l.length with hi | hi
 ·rw [List.getD_eq_getElem?_getD,List.getElem?_eq_getElem hi]
  exact h _ (List.getElem_mem hi)
 ·rw [List.getD_eq_getElem?_getD,List.getElem?_eq_none hi]
  decide
theorem bytes_read (w:World) (s:ByteArray) (cap:Nat) (fr:Nat × Nat) (k:Nat) (hk:k<s.size) :
  ((w.alloc (.cells (bytesRow s cap) 5 fr)).drew).cell? ⟨w.heap.size,k,none⟩=some (.int .u8 ((Cod.str s).getD k 0:Nat)):=by
 show (w.alloc (Obj.cells _ _ _)).cell? _=_
 rw [World.cell?_alloc_mark,bytesRow_at _ _ k hk,Lx.get_str _ _ hk]
 rfl
set_option maxHeartbeats 2000000 in
theorem parse_inner (t:ByteArray) (ht:t.size=2) (w:World) :
  Calls Tryd.prog 91 #[.string t,.int .i64 16,.int .i64 8] w fun e w'=>e=.returned (hexR (hexL (Cod.str t)))/\Mod [] w w':=by
 have hcv:=fun w s=>run_bytes_of_string (P:=Tryd.prog) w 9 68 5 s Tryd.underlying9 Tryd.underlying68 Tryd.underlying5
 have hem:t.toList.isEmpty=false:=by rw [toList_isEmpty,ht];rfl
 have hsz:=Lib.hid ht
 have ht1:t.size<=2:=by omega
 have ht2:2<=t.size:=by omega
 clear ht
 go_enter Tryd.func91,Tryd.ntmps91
 go_wp2_with fail
 have hbyte:Hid (∀ k,k<t.size->((w.alloc (Obj.cells (bytesRow t (grownCap w t.size 0 5)) 5 ((bytesRow t (grownCap w t.size 0 5)).size,(bytesRow t (grownCap w t.size 0 5)).size+1))).drew).cell? ⟨w.heap.size,k,none⟩=some (.int .u8 ((Cod.str t).getD k 0:Nat))):=Hxq (fun k hk=>bytes_read w t _ _ k hk)
 have hm0:Mod [] w ((w.alloc (Obj.cells (bytesRow t (grownCap w t.size 0 5)) 5 ((bytesRow t (grownCap w t.size 0 5)).size,(bytesRow t (grownCap w t.size 0 5)).size+1))).drew):=((Mod.refl [] w).alloc _).drew
 have hlt:=Cod.str_lt t
 have hll:=Cod.str_len t
 generalize hw2:((w.alloc (Obj.cells (bytesRow t (grownCap w t.size 0 5)) 5 ((bytesRow t (grownCap w t.size 0 5)).size,(bytesRow t (grownCap w t.size 0 5)).size+1))).drew)=w2 at *
 generalize grownCap w t.size 0 5=cap at *
 have HLL:=Lib.hid hll
 clear hcv hw2 hll
 obtain ⟨C,hC,hCe⟩:∃ C:Int,1000<=C/\C=1152921504606846976:=⟨_,by decide,rfl⟩
 rw [<-hCe]
 clear hCe
 go_loopw [12,13,101] (fun u a i wr=>∃ (k n:Nat),u=.bool false/\k<=t.size/\i=.int .i64 (k:Int)/\a=.int .u64 (n:Int)/\hexL ((Cod.str t).take k)=some n/\n<16 ^ k/\wr=w2) (fun _ _ i _=>2 - (intOf i).toNat)
 case atStart=>exact ⟨0,0,rfl,Nat.zero_le _,rfl,rfl,rfl,by decide,rfl⟩
 case round =>
  obtain ⟨k,n,rfl,hk,rfl,rfl,hx,hn,rfl⟩:=hrel
  by_cases hlk:k<t.size
  ·have hn1:n<=15:=by
    have:16 ^ k<=16 ^ 1:=Nat.pow_le_pow_right (by decide) (by omega)
    omega
   have hb:=hbyte.out k hlk
   have hc:=getD_lt' hlt k
   have hsn:=take_snoc (Cod.str t) 0 k (by rw [HLL.out];omega)
   have hxs:hexL ((Cod.str t).take (k+1))=match Lx.hexv ((Cod.str t).getD k 0) with | some d=>some (16 * n+d) | none=>none:=by
    rw [hsn,hexL_step,hx];cases Lx.hexv ((Cod.str t).getD k 0) <;> rfl
   have hall:(∀ n,hexL ((Cod.str t).take (k+1))≠some n)->hexL (Cod.str t)=none:=fun h=>hexL_none (Cod.str t) (k+1) h
   generalize (Cod.str t).getD k 0=c at *
   have h95:((c:Int) == 95)=decide (c=95):=by rw [Bool.eq_iff_iff];simp;omega
   rcases hex_cases c hc with ⟨h1,h2,hv⟩ | ⟨h1,h2,h3,hv⟩ | ⟨h1,h2,hv⟩ | ⟨h1,h2,hv⟩
   ·rw [hv] at hxs
    have h95:((c:Int) == 95)=false:=by rw [beq_eq_false_iff_ne];omega
    have HX:=Lib.hid hxs;have HN:=Lib.hid hn
    clear hxs hsn hall hv hx hn hlt hem
    go_wp2_with fail
    go_roundw
    case rel =>
     refine ⟨k+1,16 * n+(c - 48),rfl,by omega,by go_num,?_,HX.out,?_,trivial⟩
     ·congr 1;omega
     ·have:=HN.out;rw [Nat.pow_succ];omega
    case measure=>simp [intOf];omega
   ·rw [hv] at hxs
    have h95:¬ c=95:=by
     intro h
     subst h
     revert hv;decide
    have hl:=lowF_lt c hc
    have hd1:¬ ((48:Int)<=(c:Int)/\(c:Int)<=57):=by omega
    have hL:Hid (∀ w,Calls Tryd.prog 99 #[.int .u8 (c:Int)] w fun e w'=>e=.returned (.int .u8 (lowF c:Nat))/\w=w'):=Hxq (lower_any c hc)
    generalize lowF c=u at *
    have HX:=Lib.hid hxs;have HN:=Lib.hid hn
    clear hxs hsn hall hv hx hn hlt hem
    have hcs:(c:Int)<48\/(57<(c:Int)/\48<=(c:Int)):=by omega
    clear hd1 h1
    rcases hcs with hd1 | ⟨hd1,hd2⟩
    all_goals
     go_wp2_with fail
     refine (hL.out _).mono ?_
     rintro e w3 ⟨rfl,rfl⟩
     go_wp2_with fail
     refine (hL.out _).mono ?_
     rintro e w3 ⟨rfl,rfl⟩
     go_wp2_with fail
     refine (hL.out _).mono ?_
     rintro e w3 ⟨rfl,rfl⟩
     go_wp2_with fail
     go_roundw
     case rel =>
      refine ⟨k+1,16 * n+(u - 87),rfl,by omega,by go_num,?_,HX.out,?_,trivial⟩
      ·congr 1;omega
      ·have:=HN.out;rw [Nat.pow_succ];omega
     case measure=>simp [intOf];omega
   ·rw [hv] at hxs
    have hR:=Hxq (hall (by rw [hxs];simp))
    have hl:=lowF_lt c hc
    have hd1:¬ ((48:Int)<=(c:Int)/\(c:Int)<=57):=by omega
    have hL:Hid (∀ w,Calls Tryd.prog 99 #[.int .u8 (c:Int)] w fun e w'=>e=.returned (.int .u8 (lowF c:Nat))/\w=w'):=Hxq (lower_any c hc)
    generalize lowF c=u at *
    clear hxs hsn hall hv hx hn hlt hem
    have hcs:(c:Int)<48\/(57<(c:Int)/\48<=(c:Int)):=by omega
    clear hd1 h1
    have hb':=Lib.hid hb
    by_cases h95:c=95
    ·subst h95
     clear hcs
     go_wp2_with fail
     refine (hL.out _).mono ?_
     rintro e w3 ⟨rfl,rfl⟩
     go_wp2_with fail
     go_ret2
     exact ⟨by rw [hR.out];rfl,hm0⟩
    ·rcases hcs with hd1 | ⟨hd1,hd2⟩
     all_goals
      go_wp2_with fail
      refine (hL.out _).mono ?_
      rintro e w3 ⟨rfl,rfl⟩
      go_wp2_with fail
      go_ret2
      exact ⟨by rw [hR.out];rfl,hm0⟩
   ·rw [hv] at hxs
    have hR:=Hxq (hall (by rw [hxs];simp))
    have hl:=lowF_lt c hc
    have hd1:¬ ((48:Int)<=(c:Int)/\(c:Int)<=57):=by omega
    have hL:Hid (∀ w,Calls Tryd.prog 99 #[.int .u8 (c:Int)] w fun e w'=>e=.returned (.int .u8 (lowF c:Nat))/\w=w'):=Hxq (lower_any c hc)
    generalize lowF c=u at *
    clear hxs hsn hall hv hx hn hlt hem
    have hcs:(c:Int)<48\/(57<(c:Int)/\48<=(c:Int)):=by omega
    clear hd1 h1
    have hb':=Lib.hid hb
    rcases Nat.lt_or_ge 122 u with hu | hu
    ·by_cases h95:c=95
     ·subst h95
      clear hcs
      go_wp2_with fail
      refine (hL.out _).mono ?_
      rintro e w3 ⟨rfl,rfl⟩
      go_wp2_with fail
      refine (hL.out _).mono ?_
      rintro e w3 ⟨rfl,rfl⟩
      go_wp2_with fail
      go_ret2
      exact ⟨by rw [hR.out];rfl,hm0⟩
     ·rcases hcs with hd1 | ⟨hd1,hd2⟩
      all_goals
       go_wp2_with fail
       refine (hL.out _).mono ?_
       rintro e w3 ⟨rfl,rfl⟩
       go_wp2_with fail
       refine (hL.out _).mono ?_
       rintro e w3 ⟨rfl,rfl⟩
       go_wp2_with fail
       go_ret2
       exact ⟨by rw [hR.out];rfl,hm0⟩
    ·by_cases h95:c=95
     ·subst h95
      clear hcs
      go_wp2_with fail
      refine (hL.out _).mono ?_
      rintro e w3 ⟨rfl,rfl⟩
      go_wp2_with fail
      refine (hL.out _).mono ?_
      rintro e w3 ⟨rfl,rfl⟩
      go_wp2_with fail
      refine (hL.out _).mono ?_
      rintro e w3 ⟨rfl,rfl⟩
      go_wp2_with fail
      go_ret2
      exact ⟨by rw [hR.out];rfl,hm0⟩
     ·rcases hcs with hd1 | ⟨hd1,hd2⟩
      all_goals
       go_wp2_with fail
       refine (hL.out _).mono ?_
       rintro e w3 ⟨rfl,rfl⟩
       go_wp2_with fail
       refine (hL.out _).mono ?_
       rintro e w3 ⟨rfl,rfl⟩
       go_wp2_with fail
       refine (hL.out _).mono ?_
       rintro e w3 ⟨rfl,rfl⟩
       go_wp2_with fail
       go_ret2
       exact ⟨by rw [hR.out];rfl,hm0⟩
  ·have e:(Cod.str t).take k=Cod.str t:=by rw [List.take_of_length_le];rw [HLL.out];omega
   rw [e] at hx
   have HX:=Lib.hid hx
   clear hx hn hlt hem
   go_wp2_with fail
   go_ret2
   exact ⟨by rw [HX.out];rfl,hm0⟩
end Go.Proofs.YtdablillhbfgkaaDoor
