/- THE TEXTS MERGED: Shelf LxHex. -/
import Derived.Test.YtppigckioalhhaaGreatDoorRKS1
import Derived.Shelf.Strconv.Atoi
import Derived.Shelf.Strconv.Itoa0
import Derived.Shelf.Strconv.Itoa1
import Derived.Shelf.LaysM
import Derived.Shelf.Strconv.Itoa2
import Derived.Shelf.Strconv.Itoa3
import Derived.Shelf.Strconv.AtoiErrFast
import Derived.Shelf.Strconv.ParseIntEmpty
import Derived.Shelf.Strconv.AtoiFail
import Derived.Shelf.Strconv.Clone
import Derived.Shelf.Strconv.SyntaxError
import Derived.Shelf.LaysC
import Derived.Shelf.Strconv.ToError
import Derived.Shelf.Strconv.Lower
import Derived.Shelf.Strconv.ParseUint10
import Derived.Shelf.Strconv.ParseUint10Empty
import Derived.Shelf.Strconv.ParseUint10Any
import Derived.Shelf.Strconv.ParseInt10
import Derived.Shelf.Strconv.AtoiLong
import Derived.Shelf.Strconv.AtoiInnerAll
import Derived.Shelf.Strconv.RangeError
import Derived.Shelf.Strconv.ToErrorRange
import Derived.Shelf.Strconv.AtoiAll
import Derived.Shelf.Strconv.ErrVarAll
import Derived.Ground.MpProg
import Derived.Shelf.Pu.ParseUintPublic10
import Derived.Shelf.Pu.ErrVarParseUint
import Derived.Shelf.Strings.Search1
import Derived.Shelf.Strings.Search2
import Derived.Shelf.Strings.Search3
import Derived.Shelf.Strings.Count
import Derived.Shelf.Strings.Shaped
import Derived.Shelf.Strings.LastIndex
import Derived.Shelf.Strings.Prefix
import Derived.Shelf.Strings.Split
import Derived.Test.YtppigckioalhhaaGreatDoorRProg
import Derived.Test.YtppigckioalhhaaGreatDoorRKS2
namespace Go.Proofs
open Go.Shelf
def Tryz.laysC245_ren:Go.Shelf.Ren:=⟨fun | 245=>142 | 279=>157 | 280=>158 | 281=>159 | 282=>160 | 316=>166 | 171=>168 | 205=>167 | 243=>172 | 246=>173 | 283=>174 | 284=>175 | 285=>176 | 286=>177 | 129=>179 | 317=>178 | 318=>180 | 319=>181 | 320=>182 | 337=>183 | 338=>184 | n=>n,fun | 9=>9 | 3=>3 | 75=>199 | 167=>217 | 4=>4 | 168=>220 | 210=>228 | 37=>189 | 0=>0 | 127=>233 | 145=>236 | 143=>234 | 2=>2 | 171=>238 | 53=>208 | 5=>5 | 173=>241 | 212=>244 | 51=>223 | 20=>20 | 213=>245 | 46=>212 | 232=>249 | 233=>250 | 80=>251 | n=>n,fun | 15=>2 | 16=>3 | 17=>4 | 18=>5 | 19=>6 | n=>n⟩
theorem Tryz.laysC245:Go.Proofs.LaysC.n245 Tryz.prog Tryz.laysC245_ren:={
 mixed:=by kernel_rfl
 f129:=Tryz.func179.trans (congrArg some (by kernel_rfl))
 f171:=Tryz.func168.trans (congrArg some (by kernel_rfl))
 f205:=Tryz.func167.trans (congrArg some (by kernel_rfl))
 f243:=Tryz.func172.trans (congrArg some (by kernel_rfl))
 f245:=Tryz.func142.trans (congrArg some (by kernel_rfl))
 f246:=Tryz.func173.trans (congrArg some (by kernel_rfl))
 f279:=Tryz.func157.trans (congrArg some (by kernel_rfl))
 f280:=Tryz.func158.trans (congrArg some (by kernel_rfl))
 f281:=Tryz.func159.trans (congrArg some (by kernel_rfl))
 f282:=Tryz.func160.trans (congrArg some (by kernel_rfl))
 f283:=Tryz.func174.trans (congrArg some (by kernel_rfl))
 f284:=Tryz.func175.trans (congrArg some (by kernel_rfl))
 f285:=Tryz.func176.trans (congrArg some (by kernel_rfl))
 f286:=Tryz.func177.trans (congrArg some (by kernel_rfl))
 f316:=Tryz.func166.trans (congrArg some (by kernel_rfl))
 f317:=Tryz.func178.trans (congrArg some (by kernel_rfl))
 f318:=Tryz.func180.trans (congrArg some (by kernel_rfl))
 f319:=Tryz.func181.trans (congrArg some (by kernel_rfl))
 f320:=Tryz.func182.trans (congrArg some (by kernel_rfl))
 f337:=Tryz.func183.trans (congrArg some (by kernel_rfl))
 f338:=Tryz.func184.trans (congrArg some (by kernel_rfl))
 t0:=Tryz.underlying0
 a0:=Tryz.isAgg0
 z0:=Tryz.sizeOf0
 v0:=Tryz.zeroValue0
 t2:=Tryz.underlying2
 a2:=Tryz.isAgg2
 z2:=Tryz.sizeOf2
 v2:=Tryz.zeroValue2
 t3:=Tryz.underlying3
 a3:=Tryz.isAgg3
 z3:=Tryz.sizeOf3
 v3:=Tryz.zeroValue3
 t4:=Tryz.underlying4
 a4:=Tryz.isAgg4
 z4:=Tryz.sizeOf4
 v4:=Tryz.zeroValue4
 t5:=Tryz.underlying5
 a5:=Tryz.isAgg5
 z5:=Tryz.sizeOf5
 v5:=Tryz.zeroValue5
 t9:=Tryz.underlying9
 a9:=Tryz.isAgg9
 z9:=Tryz.sizeOf9
 v9:=Tryz.zeroValue9
 t20:=Tryz.underlying20
 a20:=Tryz.isAgg20
 z20:=Tryz.sizeOf20
 v20:=Tryz.zeroValue20
 t37:=Tryz.underlying189
 a37:=Tryz.isAgg189
 z37:=Tryz.sizeOf189
 v37:=Tryz.zeroValue189
 t46:=Tryz.underlying212
 a46:=Tryz.isAgg212
 z46:=Tryz.sizeOf212
 v46:=Tryz.zeroValue212
 t51:=Tryz.underlying223
 a51:=Tryz.isAgg223
 z51:=Tryz.sizeOf223
 v51:=Tryz.zeroValue223
 t53:=Tryz.underlying208
 a53:=Tryz.isAgg208
 z53:=Tryz.sizeOf208
 v53:=Tryz.zeroValue208
 t75:=Tryz.underlying199
 a75:=Tryz.isAgg199
 z75:=Tryz.sizeOf199
 v75:=Tryz.zeroValue199
 t127:=Tryz.underlying233
 a127:=Tryz.isAgg233
 z127:=Tryz.sizeOf233
 v127:=Tryz.zeroValue233
 t143:=Tryz.underlying234
 a143:=Tryz.isAgg234
 z143:=Tryz.sizeOf234
 v143:=Tryz.zeroValue234
 t145:=Tryz.underlying236
 a145:=Tryz.isAgg236
 z145:=Tryz.sizeOf236
 v145:=Tryz.zeroValue236
 t167:=Tryz.underlying217
 a167:=Tryz.isAgg217
 z167:=Tryz.sizeOf217
 v167:=Tryz.zeroValue217
 t168:=Tryz.underlying220
 a168:=Tryz.isAgg220
 z168:=Tryz.sizeOf220
 v168:=Tryz.zeroValue220
 t171:=Tryz.underlying238
 a171:=Tryz.isAgg238
 z171:=Tryz.sizeOf238
 v171:=Tryz.zeroValue238
 t173:=Tryz.underlying241
 a173:=Tryz.isAgg241
 z173:=Tryz.sizeOf241
 v173:=Tryz.zeroValue241
 t210:=Tryz.underlying228
 a210:=Tryz.isAgg228
 z210:=Tryz.sizeOf228
 v210:=Tryz.zeroValue228
 t212:=Tryz.underlying244
 a212:=Tryz.isAgg244
 z212:=Tryz.sizeOf244
 v212:=Tryz.zeroValue244
 t213:=Tryz.underlying245
 a213:=Tryz.isAgg245
 z213:=Tryz.sizeOf245
 t232:=Tryz.underlying249
 a232:=Tryz.isAgg249
 z232:=Tryz.sizeOf249
 v232:=Tryz.zeroValue249
 t233:=Tryz.underlying250
 a233:=Tryz.isAgg250
 z233:=Tryz.sizeOf250
 v233:=Tryz.zeroValue250
 g15:=by kernel_rfl
 g16:=by kernel_rfl
 g17:=by kernel_rfl
 g18:=by kernel_rfl
 g19:=by kernel_rfl
 t80:=Tryz.underlying251
 a80:=Tryz.isAgg251
 z80:=Tryz.sizeOf251
 v80:=Tryz.zeroValue251
 i0:=by kernel_rfl
 i2:=by kernel_rfl
 i3:=by kernel_rfl
 i4:=by kernel_rfl
 i5:=by kernel_rfl
 i9:=by kernel_rfl
 i20:=by kernel_rfl
 i37:=by kernel_rfl
 i46:=by kernel_rfl
 i51:=by kernel_rfl
 i53:=by kernel_rfl
 i75:=by kernel_rfl
 i80:=by kernel_rfl
 i127:=by kernel_rfl
 i143:=by kernel_rfl
 i145:=by kernel_rfl
 i167:=by kernel_rfl
 i168:=by kernel_rfl
 i171:=by kernel_rfl
 i173:=by kernel_rfl
 i210:=by kernel_rfl
 i212:=by kernel_rfl
 i232:=by kernel_rfl
 i233:=by kernel_rfl
 m15:=by kernel_rfl
 m16:=by kernel_rfl
 m17:=by kernel_rfl
 m18:=by kernel_rfl
 m19:=by kernel_rfl
 c0:=by kernel_rfl
 c2:=by kernel_rfl
 c3:=by kernel_rfl
 c4:=by kernel_rfl
 c5:=by kernel_rfl
 c9:=by kernel_rfl
 c20:=by kernel_rfl
 c37:=by kernel_rfl
 c46:=by kernel_rfl
 c51:=by kernel_rfl
 c53:=by kernel_rfl
 c75:=by kernel_rfl
 c80:=by kernel_rfl
 c127:=by kernel_rfl
 c143:=by kernel_rfl
 c145:=by kernel_rfl
 c167:=by kernel_rfl
 c168:=by kernel_rfl
 c171:=by kernel_rfl
 c173:=by kernel_rfl
 c210:=by kernel_rfl
 c212:=by kernel_rfl
 c213:=by kernel_rfl
 c232:=by kernel_rfl
 c233:=by kernel_rfl }
open Go.RowKit in
/-- strconv.toError, at the inner package's ErrSyntax: 'syntaxError(fn, s)' as an error: A *NumError IN A NEW BLOCK. (LAID: no walk: one application.) -/
theorem Tryz.strconv_toError_syntax (fn s:ByteArray) (base bits:Int) (ev:Value) (w:World) (hlim:s.size<=281474976710656) (hv:w.cell? ⟨2,0,none⟩=some ev) (hev:ev=.nilIface\/∃ te pe,ev=.iface te pe) :
  Calls Tryz.prog 142 #[.string fn,.string s,.int .i64 base,.int .i64 bits,.iface 217 (.int .i64 2)] w fun e w'=>∃ N,e=.returned (.iface 220 (.pointer (some ⟨N,0,none⟩)))/\w.heap.size<=N/\w'.heap[N]?=some (.cells #[.string fn,.string s,ev] 228 (0,0))/\Below w.heap.size w w':=Any.strconv_toError_syntax Tryz.laysC245 fn s base bits ev w hlim hv hev
def Tryz.lays321_ren:Go.Shelf.Ren:=⟨fun | 321=>169 | n=>n,fun | 5=>5 | n=>n,fun | n=>n⟩
theorem Tryz.lays321:Go.Proofs.Lays.n321 Tryz.prog Tryz.lays321_ren:={
 mixed:=by kernel_rfl
 f321:=Tryz.func169.trans (congrArg some (by kernel_rfl))
 t5:=Tryz.underlying5
 a5:=Tryz.isAgg5
 z5:=Tryz.sizeOf5
 v5:=Tryz.zeroValue5 }
open Go.RowKit in
/-- internal/strconv.lower: 'c | ('x' - 'X')': the bit 32 set. The world is as it was. (LAID: no walk: one application.) -/
theorem Tryz.internal_strconv_lower (c:Int) (w:World) :
  Calls Tryz.prog 169 #[.int .u8 c] w fun e w'=>e=.returned (.int .u8 (bits .or .u8 c 32))/\w'=w:=Any.internal_strconv_lower Tryz.lays321 c w
def Tryz.laysC172_ren:Go.Shelf.Ren:=⟨fun | 172=>133 | 244=>141 | 245=>142 | 247=>156 | 279=>157 | 280=>158 | 281=>159 | 282=>160 | 287=>161 | 316=>166 | 171=>168 | 205=>167 | 321=>169 | 322=>170 | 243=>172 | 246=>173 | 283=>174 | 284=>175 | 285=>176 | 286=>177 | 129=>179 | 317=>178 | 318=>180 | 319=>181 | 320=>182 | 337=>183 | 338=>184 | n=>n,fun | 9=>9 | 3=>3 | 75=>199 | 76=>200 | 4=>4 | 5=>5 | 167=>217 | 37=>189 | 0=>0 | 85=>218 | 2=>2 | 168=>220 | 53=>208 | 175=>209 | 46=>212 | 210=>228 | 127=>233 | 145=>236 | 143=>234 | 21=>21 | 171=>238 | 173=>241 | 212=>244 | 51=>223 | 20=>20 | 213=>245 | 232=>249 | 233=>250 | 80=>251 | n=>n,fun | 15=>2 | 16=>3 | 17=>4 | 18=>5 | 19=>6 | n=>n⟩
theorem Tryz.laysC172:Go.Proofs.LaysC.n172 Tryz.prog Tryz.laysC172_ren:={
 mixed:=by kernel_rfl
 f129:=Tryz.func179.trans (congrArg some (by kernel_rfl))
 f171:=Tryz.func168.trans (congrArg some (by kernel_rfl))
 f172:=Tryz.func133.trans (congrArg some (by kernel_rfl))
 f205:=Tryz.func167.trans (congrArg some (by kernel_rfl))
 f243:=Tryz.func172.trans (congrArg some (by kernel_rfl))
 f244:=Tryz.func141.trans (congrArg some (by kernel_rfl))
 f245:=Tryz.func142.trans (congrArg some (by kernel_rfl))
 f246:=Tryz.func173.trans (congrArg some (by kernel_rfl))
 f247:=Tryz.func156.trans (congrArg some (by kernel_rfl))
 f279:=Tryz.func157.trans (congrArg some (by kernel_rfl))
 f280:=Tryz.func158.trans (congrArg some (by kernel_rfl))
 f281:=Tryz.func159.trans (congrArg some (by kernel_rfl))
 f282:=Tryz.func160.trans (congrArg some (by kernel_rfl))
 f283:=Tryz.func174.trans (congrArg some (by kernel_rfl))
 f284:=Tryz.func175.trans (congrArg some (by kernel_rfl))
 f285:=Tryz.func176.trans (congrArg some (by kernel_rfl))
 f286:=Tryz.func177.trans (congrArg some (by kernel_rfl))
 f287:=Tryz.func161.trans (congrArg some (by kernel_rfl))
 f316:=Tryz.func166.trans (congrArg some (by kernel_rfl))
 f317:=Tryz.func178.trans (congrArg some (by kernel_rfl))
 f318:=Tryz.func180.trans (congrArg some (by kernel_rfl))
 f319:=Tryz.func181.trans (congrArg some (by kernel_rfl))
 f320:=Tryz.func182.trans (congrArg some (by kernel_rfl))
 f321:=Tryz.func169.trans (congrArg some (by kernel_rfl))
 f322:=Tryz.func170.trans (congrArg some (by kernel_rfl))
 f337:=Tryz.func183.trans (congrArg some (by kernel_rfl))
 f338:=Tryz.func184.trans (congrArg some (by kernel_rfl))
 t0:=Tryz.underlying0
 a0:=Tryz.isAgg0
 z0:=Tryz.sizeOf0
 v0:=Tryz.zeroValue0
 t2:=Tryz.underlying2
 a2:=Tryz.isAgg2
 z2:=Tryz.sizeOf2
 v2:=Tryz.zeroValue2
 t3:=Tryz.underlying3
 a3:=Tryz.isAgg3
 z3:=Tryz.sizeOf3
 v3:=Tryz.zeroValue3
 t4:=Tryz.underlying4
 a4:=Tryz.isAgg4
 z4:=Tryz.sizeOf4
 v4:=Tryz.zeroValue4
 t5:=Tryz.underlying5
 a5:=Tryz.isAgg5
 z5:=Tryz.sizeOf5
 v5:=Tryz.zeroValue5
 t9:=Tryz.underlying9
 a9:=Tryz.isAgg9
 z9:=Tryz.sizeOf9
 v9:=Tryz.zeroValue9
 t20:=Tryz.underlying20
 a20:=Tryz.isAgg20
 z20:=Tryz.sizeOf20
 v20:=Tryz.zeroValue20
 t21:=Tryz.underlying21
 a21:=Tryz.isAgg21
 z21:=Tryz.sizeOf21
 v21:=Tryz.zeroValue21
 t37:=Tryz.underlying189
 a37:=Tryz.isAgg189
 z37:=Tryz.sizeOf189
 v37:=Tryz.zeroValue189
 t46:=Tryz.underlying212
 a46:=Tryz.isAgg212
 z46:=Tryz.sizeOf212
 v46:=Tryz.zeroValue212
 t51:=Tryz.underlying223
 a51:=Tryz.isAgg223
 z51:=Tryz.sizeOf223
 v51:=Tryz.zeroValue223
 t53:=Tryz.underlying208
 a53:=Tryz.isAgg208
 z53:=Tryz.sizeOf208
 v53:=Tryz.zeroValue208
 t75:=Tryz.underlying199
 a75:=Tryz.isAgg199
 z75:=Tryz.sizeOf199
 v75:=Tryz.zeroValue199
 t76:=Tryz.underlying200
 a76:=Tryz.isAgg200
 z76:=Tryz.sizeOf200
 v76:=Tryz.zeroValue200
 t85:=Tryz.underlying218
 a85:=Tryz.isAgg218
 z85:=Tryz.sizeOf218
 v85:=Tryz.zeroValue218
 t127:=Tryz.underlying233
 a127:=Tryz.isAgg233
 z127:=Tryz.sizeOf233
 v127:=Tryz.zeroValue233
 t143:=Tryz.underlying234
 a143:=Tryz.isAgg234
 z143:=Tryz.sizeOf234
 v143:=Tryz.zeroValue234
 t145:=Tryz.underlying236
 a145:=Tryz.isAgg236
 z145:=Tryz.sizeOf236
 v145:=Tryz.zeroValue236
 t167:=Tryz.underlying217
 a167:=Tryz.isAgg217
 z167:=Tryz.sizeOf217
 v167:=Tryz.zeroValue217
 t168:=Tryz.underlying220
 a168:=Tryz.isAgg220
 z168:=Tryz.sizeOf220
 v168:=Tryz.zeroValue220
 t171:=Tryz.underlying238
 a171:=Tryz.isAgg238
 z171:=Tryz.sizeOf238
 v171:=Tryz.zeroValue238
 t173:=Tryz.underlying241
 a173:=Tryz.isAgg241
 z173:=Tryz.sizeOf241
 v173:=Tryz.zeroValue241
 t175:=Tryz.underlying209
 a175:=Tryz.isAgg209
 z175:=Tryz.sizeOf209
 v175:=Tryz.zeroValue209
 t210:=Tryz.underlying228
 a210:=Tryz.isAgg228
 z210:=Tryz.sizeOf228
 v210:=Tryz.zeroValue228
 t212:=Tryz.underlying244
 a212:=Tryz.isAgg244
 z212:=Tryz.sizeOf244
 v212:=Tryz.zeroValue244
 t213:=Tryz.underlying245
 a213:=Tryz.isAgg245
 z213:=Tryz.sizeOf245
 t232:=Tryz.underlying249
 a232:=Tryz.isAgg249
 z232:=Tryz.sizeOf249
 v232:=Tryz.zeroValue249
 t233:=Tryz.underlying250
 a233:=Tryz.isAgg250
 z233:=Tryz.sizeOf250
 v233:=Tryz.zeroValue250
 g15:=by kernel_rfl
 g16:=by kernel_rfl
 g17:=by kernel_rfl
 g18:=by kernel_rfl
 g19:=by kernel_rfl
 t80:=Tryz.underlying251
 a80:=Tryz.isAgg251
 z80:=Tryz.sizeOf251
 v80:=Tryz.zeroValue251
 i0:=by kernel_rfl
 i2:=by kernel_rfl
 i3:=by kernel_rfl
 i4:=by kernel_rfl
 i5:=by kernel_rfl
 i9:=by kernel_rfl
 i20:=by kernel_rfl
 i21:=by kernel_rfl
 i37:=by kernel_rfl
 i46:=by kernel_rfl
 i51:=by kernel_rfl
 i53:=by kernel_rfl
 i75:=by kernel_rfl
 i76:=by kernel_rfl
 i80:=by kernel_rfl
 i85:=by kernel_rfl
 i127:=by kernel_rfl
 i143:=by kernel_rfl
 i145:=by kernel_rfl
 i167:=by kernel_rfl
 i168:=by kernel_rfl
 i171:=by kernel_rfl
 i173:=by kernel_rfl
 i175:=by kernel_rfl
 i210:=by kernel_rfl
 i212:=by kernel_rfl
 i232:=by kernel_rfl
 i233:=by kernel_rfl
 m15:=by kernel_rfl
 m16:=by kernel_rfl
 m17:=by kernel_rfl
 m18:=by kernel_rfl
 m19:=by kernel_rfl
 c0:=by kernel_rfl
 c2:=by kernel_rfl
 c3:=by kernel_rfl
 c4:=by kernel_rfl
 c5:=by kernel_rfl
 c9:=by kernel_rfl
 c20:=by kernel_rfl
 c21:=by kernel_rfl
 c37:=by kernel_rfl
 c46:=by kernel_rfl
 c51:=by kernel_rfl
 c53:=by kernel_rfl
 c75:=by kernel_rfl
 c76:=by kernel_rfl
 c80:=by kernel_rfl
 c85:=by kernel_rfl
 c127:=by kernel_rfl
 c143:=by kernel_rfl
 c145:=by kernel_rfl
 c167:=by kernel_rfl
 c168:=by kernel_rfl
 c171:=by kernel_rfl
 c173:=by kernel_rfl
 c175:=by kernel_rfl
 c210:=by kernel_rfl
 c212:=by kernel_rfl
 c213:=by kernel_rfl
 c232:=by kernel_rfl
 c233:=by kernel_rfl }
open Go.RowKit in
/-- strconv.Atoi, AT EVERY STRING THAT SPELLS AN int ('Lib.atoiAll .. = .ok v'; of whatever length: leading zeros count): v, AND NO ERROR. The world: as it was, or with the one new row that '[]byte(..)' lays. (LAID: no walk: one application.) -/
theorem Tryz.strconv_Atoi_ok (s:ByteArray) (hmax:s.size<=9223372036854775806) (v:Int) (h:Lib.atoiAll s.data.toList=.ok v) (w:World) :
  Calls Tryz.prog 133 #[.string s] w fun e w'=>e=.returned (.tuple #[.int .i64 v,.nilIface])/\(w'=w\/∃ t,w'=Lib.bytesWorld w 5 t):=Any.strconv_Atoi_ok Tryz.laysC172 s hmax v h w
open Go.RowKit in
theorem Tryz.strconv_Atoi_range_var (s : ByteArray) (hlim : s.size ≤ 281474976710656) (h : Lib.atoiAll s.data.toList = .range) (tp : TypeId) (p : Value) (w : World) (hvar : w.var? Tryz.prog "strconv.ErrRange" = some #[.iface tp p]) :
  Calls Tryz.prog 133 #[.string s] w fun e w'=>∃ N,e=.returned (.tuple #[.int .i64 (Lib.atoiSat s.data.toList),.iface 220 (.pointer (some ⟨N,0,none⟩))])/\w.heap.size<=N/\w'.heap[N]?=some (.cells #[.string ⟨#[65,116,111,105]⟩,.string s,.iface tp p] 228 (0,0))/\Below w.heap.size w w':=Any.strconv_Atoi_range_var Tryz.laysC172 s hlim h tp p w hvar
def Tryz.lays138_ren:Go.Shelf.Ren:=⟨fun | 138=>100 | 195=>124 | 218=>125 | 143=>126 | 219=>136 | 217=>144 | 225=>145 | 224=>146 | 267=>147 | 266=>162 | 314=>163 | n=>n,fun | 9=>9 | 3=>3 | 4=>4 | 5=>5 | 0=>0 | 46=>212 | 146=>224 | 51=>223 | n=>n,fun | 1=>1 | n=>n⟩
theorem Tryz.lays138:Go.Proofs.Lays.n138 Tryz.prog Tryz.lays138_ren:={
 mixed:=by kernel_rfl
 f138:=Tryz.func100.trans (congrArg some (by kernel_rfl))
 f143:=Tryz.func126.trans (congrArg some (by kernel_rfl))
 f195:=Tryz.func124.trans (congrArg some (by kernel_rfl))
 f217:=Tryz.func144.trans (congrArg some (by kernel_rfl))
 f218:=Tryz.func125.trans (congrArg some (by kernel_rfl))
 f219:=Tryz.func136.trans (congrArg some (by kernel_rfl))
 f224:=Tryz.func146.trans (congrArg some (by kernel_rfl))
 f225:=Tryz.func145.trans (congrArg some (by kernel_rfl))
 f266:=Tryz.func162.trans (congrArg some (by kernel_rfl))
 f267:=Tryz.func147.trans (congrArg some (by kernel_rfl))
 f314:=Tryz.func163.trans (congrArg some (by kernel_rfl))
 t0:=Tryz.underlying0
 a0:=Tryz.isAgg0
 z0:=Tryz.sizeOf0
 v0:=Tryz.zeroValue0
 t3:=Tryz.underlying3
 a3:=Tryz.isAgg3
 z3:=Tryz.sizeOf3
 v3:=Tryz.zeroValue3
 t4:=Tryz.underlying4
 a4:=Tryz.isAgg4
 z4:=Tryz.sizeOf4
 v4:=Tryz.zeroValue4
 t5:=Tryz.underlying5
 a5:=Tryz.isAgg5
 z5:=Tryz.sizeOf5
 v5:=Tryz.zeroValue5
 t9:=Tryz.underlying9
 a9:=Tryz.isAgg9
 z9:=Tryz.sizeOf9
 v9:=Tryz.zeroValue9
 t46:=Tryz.underlying212
 a46:=Tryz.isAgg212
 z46:=Tryz.sizeOf212
 v46:=Tryz.zeroValue212
 t51:=Tryz.underlying223
 a51:=Tryz.isAgg223
 z51:=Tryz.sizeOf223
 v51:=Tryz.zeroValue223
 t146:=Tryz.underlying224
 a146:=Tryz.isAgg224
 z146:=Tryz.sizeOf224
 v146:=Tryz.zeroValue224
 g1:=by kernel_rfl }
open Go.RowKit Go.Lib in
/-- strings.Count AT A substr OF ONE BYTE ('hp'): "Count counts the number of non-overlapping instances of substr in s.": IT RETURNS 'Lib.countByte s (that byte)'; the world is as it was. ✋ NO CONTRACT HERE YET at an empty substr (utf8.RuneCountInString) or at a longer one (a loop over strings.Index). (LAID: no walk: one application.) -/
theorem Tryz.strings_Count_one (s:ByteArray) (c:UInt8) (w:World) :
  Calls Tryz.prog 100 #[.string s,.string ⟨#[c]⟩] w fun e w'=>e=.returned (.int .i64 (Lib.countByte s.data.toList c))/\w'=w:=Any.strings_Count_one Tryz.lays138 s c w
open Go.RowKit Go.Lib in
def Tryz.lays99_ren:Go.Shelf.Ren:=⟨fun | 99=>122 | 206=>135 | n=>n,fun | 9=>9 | 4=>4 | 3=>3 | n=>n,fun | n=>n⟩
theorem Tryz.lays99:Go.Proofs.Lays.n99 Tryz.prog Tryz.lays99_ren:={
 mixed:=by kernel_rfl
 f99:=Tryz.func122.trans (congrArg some (by kernel_rfl))
 f206:=Tryz.func135.trans (congrArg some (by kernel_rfl))
 t3:=Tryz.underlying3
 a3:=Tryz.isAgg3
 z3:=Tryz.sizeOf3
 v3:=Tryz.zeroValue3
 t4:=Tryz.underlying4
 a4:=Tryz.isAgg4
 z4:=Tryz.sizeOf4
 v4:=Tryz.zeroValue4
 t9:=Tryz.underlying9
 a9:=Tryz.isAgg9
 z9:=Tryz.sizeOf9
 v9:=Tryz.zeroValue9 }
open Go.RowKit Go.Lib in
/-- strings.HasPrefix: "HasPrefix reports whether the string s begins with prefix.": IT RETURNS 'Lib.hasPrefix s prefix'; the world is as it was. (LAID: no walk: one application.) -/
theorem Tryz.strings_HasPrefix (s p:ByteArray) (w:World) :
  Calls Tryz.prog 122 #[.string s,.string p] w fun e w'=>e=.returned (.bool (Lib.hasPrefix s.data.toList p.data.toList))/\w'=w:=Any.strings_HasPrefix Tryz.lays99 s p w
end Go.Proofs
namespace Go.Proofs.YtppigckioalhhaaGreatDoorR
open Go.RowKit
set_option linter.unusedVariables false
set_option linter.unusedSimpArgs false
set_option maxRecDepth 100000
def lowF (c:Nat):Nat:=c ||| 32
theorem lower_any (c:Nat) (hc:c<256) (w:World) :
  Calls Tryz.prog 169 #[.int .u8 (c:Int)] w fun e w'=>e=.returned (.int .u8 (lowF c:Nat))/\w=w':=by
 refine (Tryz.internal_strconv_lower (c:Int) w).mono ?_
 rintro e w' ⟨rfl,rfl⟩
 refine ⟨ret_int ?_,rfl⟩
 have:∀ c:Fin 256,bits BinOp.or IntKind.u8 (c.1:Int) 32=(lowF c.1:Nat):=by decide +kernel
 exact this ⟨c,hc⟩
theorem lowF_lt (c:Nat) (hc:c<256):lowF c<256:=by
 have:∀ c:Fin 256,lowF c.1<256:=by decide +kernel
 exact this ⟨c,hc⟩
theorem hex_cases (c:Nat) (hc:c<256):(48<=c/\c<=57/\Lx.hexv c=some (c - 48))\/(¬ (48<=c/\c<=57)/\97<=lowF c/\lowF c<=102/\Lx.hexv c=some (lowF c - 87)) \/
  (¬ (48<=c/\c<=57)/\lowF c<97/\Lx.hexv c=none)\/(¬ (48<=c/\c<=57)/\103<=lowF c/\Lx.hexv c=none):=by
 have:∀ c:Fin 256,(48<=c.1/\c.1<=57/\Lx.hexv c.1=some (c.1 - 48))\/(¬ (48<=c.1/\c.1<=57)/\97<=lowF c.1/\lowF c.1<=102/\Lx.hexv c.1=some (lowF c.1 - 87)) \/
  (¬ (48<=c.1/\c.1<=57)/\lowF c.1<97/\Lx.hexv c.1=none)\/(¬ (48<=c.1/\c.1<=57)/\103<=lowF c.1/\Lx.hexv c.1=none):=by decide +kernel
 exact this ⟨c,hc⟩
def hexL (l:List Nat):Option Nat:=l.foldl (fun o c=>match o,Lx.hexv c with | some n,some d=>some (16 * n+d) | _,_=>none) (some 0)
def hexR:Option Nat->Value
 | some n=>.tuple #[.int .u64 (n:Nat),.nilIface]
 | none=>.tuple #[.int .u64 0,.iface 217 (.int .i64 2)]
theorem hexL_step (l:List Nat) (c:Nat):hexL (l++[c])=match hexL l,Lx.hexv c with | some n,some d=>some (16 * n+d) | _,_=>none:=by
 unfold hexL;rw [List.foldl_append];rfl
theorem hexL_none (l:List Nat) (k:Nat) (h:∀ n,hexL (l.take k)≠some n):hexL l=none:=by
 have key:∀ (r a:List Nat),hexL a=none->hexL (a++r)=none:=by
  intro r
  induction r with
  | nil=>intro a h;simpa using h
  | cons c r ih =>
   intro a h
   have:=ih (a++[c]) (by rw [hexL_step,h])
   simpa using this
 have h0:hexL (l.take k)=none:=by
  cases hx:hexL (l.take k) with
  | none=>rfl
  | some n=>exact absurd hx (h n)
 have:=key (l.drop k) _ h0
 rwa [List.take_append_drop] at this
theorem getD_lt' {l:List Nat} (h:∀ c∈l,c<256) (i:Nat):l.getD i 0<256:=by
 rcases Nat.lt_or_ge i l.length with hi | hi
 ·rw [List.getD_eq_getElem?_getD,List.getElem?_eq_getElem hi]
  exact h _ (List.getElem_mem hi)
 ·rw [List.getD_eq_getElem?_getD,List.getElem?_eq_none hi]
  decide
theorem bytes_read (w:World) (s:ByteArray) (cap:Nat) (fr:Nat × Nat) (k:Nat) (hk:k<s.size) :
  ((w.alloc (.cells (bytesRow s cap) 5 fr)).drew).cell? ⟨w.heap.size,k,none⟩=some (.int .u8 ((Cod.str s).getD k 0:Nat)):=by
 show (w.alloc (Obj.cells _ _ _)).cell? _=_
 rw [World.cell?_alloc_mark,bytesRow_at _ _ k hk,Lx.get_str _ _ hk]
 rfl
set_option maxHeartbeats 2000000 in
theorem parse_inner (t:ByteArray) (ht:t.size=2) (w:World) :
  Calls Tryz.prog 161 #[.string t,.int .i64 16,.int .i64 8] w fun e w'=>e=.returned (hexR (hexL (Cod.str t)))/\Mod [] w w':=by
 have hcv:=fun w s=>run_bytes_of_string (P:=Tryz.prog) w 9 189 5 s Tryz.underlying9 Tryz.underlying189 Tryz.underlying5
 have hem:t.toList.isEmpty=false:=by rw [toList_isEmpty,ht];rfl
 have hsz:=Lib.hid ht
 have ht1:t.size<=2:=by omega
 have ht2:2<=t.size:=by omega
 clear ht
 go_enter Tryz.func161,Tryz.ntmps161
 go_wp2_with fail
 have hbyte:Hid (∀ k,k<t.size->((w.alloc (Obj.cells (bytesRow t (grownCap w t.size 0 5)) 5 ((bytesRow t (grownCap w t.size 0 5)).size,(bytesRow t (grownCap w t.size 0 5)).size+1))).drew).cell? ⟨w.heap.size,k,none⟩=some (.int .u8 ((Cod.str t).getD k 0:Nat))):=Hxq (fun k hk=>bytes_read w t _ _ k hk)
 have hm0:Mod [] w ((w.alloc (Obj.cells (bytesRow t (grownCap w t.size 0 5)) 5 ((bytesRow t (grownCap w t.size 0 5)).size,(bytesRow t (grownCap w t.size 0 5)).size+1))).drew):=((Mod.refl [] w).alloc _).drew
 have hlt:=Cod.str_lt t
 have hll:=Cod.str_len t
 generalize hw2:((w.alloc (Obj.cells (bytesRow t (grownCap w t.size 0 5)) 5 ((bytesRow t (grownCap w t.size 0 5)).size,(bytesRow t (grownCap w t.size 0 5)).size+1))).drew)=w2 at *
 generalize grownCap w t.size 0 5=cap at *
 have HLL:=Lib.hid hll
 clear hcv hw2 hll
 obtain ⟨C,hC,hCe⟩:∃ C:Int,1000<=C/\C=1152921504606846976:=⟨_,by decide,rfl⟩
 rw [<-hCe]
 clear hCe
 go_loopw [12,13,101] (fun u a i wr=>∃ (k n:Nat),u=.bool false/\k<=t.size/\i=.int .i64 (k:Int)/\a=.int .u64 (n:Int)/\hexL ((Cod.str t).take k)=some n/\n<16 ^ k/\wr=w2) (fun _ _ i _=>2 - (intOf i).toNat)
 case atStart=>exact ⟨0,0,rfl,Nat.zero_le _,rfl,rfl,rfl,by decide,rfl⟩
 case round =>
  obtain ⟨k,n,rfl,hk,rfl,rfl,hx,hn,rfl⟩:=hrel
  by_cases hlk:k<t.size
  ·have hn1:n<=15:=by
    have:16 ^ k<=16 ^ 1:=Nat.pow_le_pow_right (by decide) (by omega)
    omega
   have hb:=hbyte.out k hlk
   have hc:=getD_lt' hlt k
   have hsn:=take_snoc (Cod.str t) 0 k (by rw [HLL.out];omega)
   have hxs:hexL ((Cod.str t).take (k+1))=match Lx.hexv ((Cod.str t).getD k 0) with | some d=>some (16 * n+d) | none=>none:=by
    rw [hsn,hexL_step,hx];cases Lx.hexv ((Cod.str t).getD k 0) <;> rfl
   have hall:(∀ n,hexL ((Cod.str t).take (k+1))≠some n)->hexL (Cod.str t)=none:=fun h=>hexL_none (Cod.str t) (k+1) h
   generalize (Cod.str t).getD k 0=c at *
   have h95:((c:Int) == 95)=decide (c=95):=by rw [Bool.eq_iff_iff];simp;omega
   rcases hex_cases c hc with ⟨h1,h2,hv⟩ | ⟨h1,h2,h3,hv⟩ | ⟨h1,h2,hv⟩ | ⟨h1,h2,hv⟩
   ·rw [hv] at hxs
    have h95:((c:Int) == 95)=false:=by rw [beq_eq_false_iff_ne];omega
    have HX:=Lib.hid hxs;have HN:=Lib.hid hn
    clear hxs hsn hall hv hx hn hlt hem
    go_wp2_with fail
    go_roundw
    case rel =>
     refine ⟨k+1,16 * n+(c - 48),rfl,by omega,by go_num,?_,HX.out,?_,trivial⟩
     ·congr 1;omega
     ·have:=HN.out;rw [Nat.pow_succ];omega
    case measure=>simp [intOf];omega
   ·rw [hv] at hxs
    have h95:¬ c=95:=by
     intro h
     subst h
     revert hv;decide
    have hl:=lowF_lt c hc
    have hd1:¬ ((48:Int)<=(c:Int)/\(c:Int)<=57):=by omega
    have hL:Hid (∀ w,Calls Tryz.prog 169 #[.int .u8 (c:Int)] w fun e w'=>e=.returned (.int .u8 (lowF c:Nat))/\w=w'):=Hxq (lower_any c hc)
    generalize lowF c=u at *
    have HX:=Lib.hid hxs;have HN:=Lib.hid hn
    clear hxs hsn hall hv hx hn hlt hem
    have hcs:(c:Int)<48\/(57<(c:Int)/\48<=(c:Int)):=by omega
    clear hd1 h1
    rcases hcs with hd1 | ⟨hd1,hd2⟩
    all_goals
     go_wp2_with fail
     refine (hL.out _).mono ?_
     rintro e w3 ⟨rfl,rfl⟩
     go_wp2_with fail
     refine (hL.out _).mono ?_
     rintro e w3 ⟨rfl,rfl⟩
     go_wp2_with fail
     refine (hL.out _).mono ?_
     rintro e w3 ⟨rfl,rfl⟩
     go_wp2_with fail
     go_roundw
     case rel =>
      refine ⟨k+1,16 * n+(u - 87),rfl,by omega,by go_num,?_,HX.out,?_,trivial⟩
      ·congr 1;omega
      ·have:=HN.out;rw [Nat.pow_succ];omega
     case measure=>simp [intOf];omega
   ·rw [hv] at hxs
    have hR:=Hxq (hall (by rw [hxs];simp))
    have hl:=lowF_lt c hc
    have hd1:¬ ((48:Int)<=(c:Int)/\(c:Int)<=57):=by omega
    have hL:Hid (∀ w,Calls Tryz.prog 169 #[.int .u8 (c:Int)] w fun e w'=>e=.returned (.int .u8 (lowF c:Nat))/\w=w'):=Hxq (lower_any c hc)
    generalize lowF c=u at *
    clear hxs hsn hall hv hx hn hlt hem
    have hcs:(c:Int)<48\/(57<(c:Int)/\48<=(c:Int)):=by omega
    clear hd1 h1
    have hb':=Lib.hid hb
    by_cases h95:c=95
    ·subst h95
     clear hcs
     go_wp2_with fail
     refine (hL.out _).mono ?_
     rintro e w3 ⟨rfl,rfl⟩
     go_wp2_with fail
     go_ret2
     exact ⟨by rw [hR.out];rfl,hm0⟩
    ·rcases hcs with hd1 | ⟨hd1,hd2⟩
     all_goals
      go_wp2_with fail
      refine (hL.out _).mono ?_
      rintro e w3 ⟨rfl,rfl⟩
      go_wp2_with fail
      go_ret2
      exact ⟨by rw [hR.out];rfl,hm0⟩
   ·rw [hv] at hxs
    have hR:=Hxq (hall (by rw [hxs];simp))
    have hl:=lowF_lt c hc
    have hd1:¬ ((48:Int)<=(c:Int)/\(c:Int)<=57):=by omega
    have hL:Hid (∀ w,Calls Tryz.prog 169 #[.int .u8 (c:Int)] w fun e w'=>e=.returned (.int .u8 (lowF c:Nat))/\w=w'):=Hxq (lower_any c hc)
    generalize lowF c=u at *
    clear hxs hsn hall hv hx hn hlt hem
    have hcs:(c:Int)<48\/(57<(c:Int)/\48<=(c:Int)):=by omega
    clear hd1 h1
    have hb':=Lib.hid hb
    rcases Nat.lt_or_ge 122 u with hu | hu
    ·by_cases h95:c=95
     ·subst h95
      clear hcs
      go_wp2_with fail
      refine (hL.out _).mono ?_
      rintro e w3 ⟨rfl,rfl⟩
      go_wp2_with fail
      refine (hL.out _).mono ?_
      rintro e w3 ⟨rfl,rfl⟩
      go_wp2_with fail
      go_ret2
      exact ⟨by rw [hR.out];rfl,hm0⟩
     ·rcases hcs with hd1 | ⟨hd1,hd2⟩
      all_goals
       go_wp2_with fail
       refine (hL.out _).mono ?_
       rintro e w3 ⟨rfl,rfl⟩
       go_wp2_with fail
       refine (hL.out _).mono ?_
       rintro e w3 ⟨rfl,rfl⟩
       go_wp2_with fail
       go_ret2
       exact ⟨by rw [hR.out];rfl,hm0⟩
    ·by_cases h95:c=95
     ·subst h95
      clear hcs
      go_wp2_with fail
      refine (hL.out _).mono ?_
      rintro e w3 ⟨rfl,rfl⟩
      go_wp2_with fail
      refine (hL.out _).mono ?_
      rintro e w3 ⟨rfl,rfl⟩
      go_wp2_with fail
      refine (hL.out _).mono ?_
      rintro e w3 ⟨rfl,rfl⟩
      go_wp2_with fail
      go_ret2
      exact ⟨by rw [hR.out];rfl,hm0⟩
     ·rcases hcs with hd1 | ⟨hd1,hd2⟩
      all_goals
       go_wp2_with fail
       refine (hL.out _).mono ?_
       rintro e w3 ⟨rfl,rfl⟩
       go_wp2_with fail
       refine (hL.out _).mono ?_
       rintro e w3 ⟨rfl,rfl⟩
       go_wp2_with fail
       refine (hL.out _).mono ?_
       rintro e w3 ⟨rfl,rfl⟩
       go_wp2_with fail
       go_ret2
       exact ⟨by rw [hR.out];rfl,hm0⟩
  ·have e:(Cod.str t).take k=Cod.str t:=by rw [List.take_of_length_le];rw [HLL.out];omega
   rw [e] at hx
   have HX:=Lib.hid hx
   clear hx hn hlt hem
   go_wp2_with fail
   go_ret2
   exact ⟨by rw [HX.out];rfl,hm0⟩
end Go.Proofs.YtppigckioalhhaaGreatDoorR
