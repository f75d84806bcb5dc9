/- Shelf, WG, GE -/
import Derived.Shelf.Strings.Builder1
import Derived.Shelf.Strings.Builder2
import Derived.Shelf.Strings.OnBuilder
import Derived.Shelf.Small.Strs
import Derived.Shelf.Strings.BuilderF
import Derived.Shelf.Strings.BuilderK
import Derived.Shelf.Strconv.Atoi
import Derived.Shelf.Strconv.Itoa0
import Derived.Shelf.Strconv.Itoa1
import Derived.Shelf.LaysM
import Derived.Shelf.Strconv.Itoa2
import Derived.Shelf.Strconv.Itoa3
import Derived.Shelf.Strconv.AtoiErrFast
import Derived.Shelf.Strconv.ParseIntEmpty
import Derived.Shelf.Strconv.AtoiFail
import Derived.Shelf.Strconv.Clone
import Derived.Shelf.Strconv.SyntaxError
import Derived.Shelf.LaysC
import Derived.Shelf.Strconv.ToError
import Derived.Shelf.Strconv.Lower
import Derived.Shelf.Strconv.ParseUint10
import Derived.Shelf.Strconv.ParseUint10Empty
import Derived.Shelf.Strconv.ParseUint10Any
import Derived.Shelf.Strconv.ParseInt10
import Derived.Shelf.Strconv.AtoiLong
import Derived.Shelf.Strconv.AtoiInnerAll
import Derived.Shelf.Strconv.RangeError
import Derived.Shelf.Strconv.ToErrorRange
import Derived.Shelf.Strconv.AtoiAll
import Derived.Shelf.Strconv.ErrVarAll
import Derived.Shelf.Strings.Search1
import Derived.Shelf.Strings.Search2
import Derived.Shelf.Strings.Search3
import Derived.Shelf.Strings.Count
import Derived.Shelf.Strings.Shaped
import Derived.Shelf.GgClosure.StringsIndexFunc
import Derived.Shelf.Strings.Split
import Derived.Shelf.Strings.Fields
import Derived.Shelf.Strings.SplitShaped
import Derived.Shelf.Unicode.Latin
import Derived.Shelf.Unicode.Is16White
import Derived.Shelf.Unicode.IsSpaceAny
import Derived.Shelf.Unicode.Is16WhiteD
import Derived.Shelf.Unicode.IsSpaceAnyD
import Derived.Shelf.Strings.FieldsAny
import Derived.Shelf.Strings.FieldsFuncAny
import Derived.Shelf.Unicode.Is16Any
import Derived.Shelf.Unicode.Is32Any
import Derived.Shelf.Unicode.ExclAny
import Derived.Shelf.Slices.Turned
import Derived.Test.YtfgjkmipfikooaaGreatDoorProg
import Derived.Test.YtfgjkmipfikooaaGreatDoorTE01
import Derived.WalkKit
import Derived.WalkSpells
import Derived.WalkLawsBesides
import Derived.RegionTactic
import Derived.Deep.QuietTactic
import Derived.Test.YtfgjkmipfikooaaGreatDoorRows
import Derived.Lib.ConvBytes
set_option linter.unusedSimpArgs false
set_option linter.unusedVariables false
set_option maxRecDepth 100000
set_option maxHeartbeats 1000000
section
namespace Go.Proofs
open Go.Shelf
def Tryz.lays137_ren:Go.Shelf.Ren:=⟨fun |137=>214 |217=>223 |266=>236 |n=>n,fun |9=>9 |5=>5 |3=>3 |n=>n,fun |n=>n⟩
theorem Tryz.lays137:Go.Proofs.Lays.n137 Tryz.prog Tryz.lays137_ren:={
 mixed:=by kernel_rfl
 f137:=Tryz.func214.trans (congrArg some (by kernel_rfl))
 f217:=Tryz.func223.trans (congrArg some (by kernel_rfl))
 f266:=Tryz.func236.trans (congrArg some (by kernel_rfl))
 t3:=Tryz.underlying3
 a3:=Tryz.isAgg3
 z3:=Tryz.sizeOf3
 v3:=Tryz.zeroValue3
 t5:=Tryz.underlying5
 a5:=Tryz.isAgg5
 z5:=Tryz.sizeOf5
 v5:=Tryz.zeroValue5
 t9:=Tryz.underlying9
 a9:=Tryz.isAgg9
 z9:=Tryz.sizeOf9
 v9:=Tryz.zeroValue9}
open Go.RowKit in
theorem Tryz.strings_IndexByte (s:ByteArray)(c:Int)(w:World):
  Calls Tryz.prog 214 #[.string s,.int .u8 c] w fun e w'=>e=.returned (.int .i64 (Lib.indexByte s.data.toList c.toNat.toUInt8))∧w'=w:=Any.strings_IndexByte Tryz.lays137 s c w
def Tryz.laysM171_ren:Go.Shelf.Ren:=⟨fun |171=>203 |243=>218 |246=>228 |283=>241 |284=>242 |285=>243 |286=>244 |129=>257 |317=>256 |318=>258 |319=>259 |320=>260 |337=>270 |338=>271 |n=>n,fun |3=>3 |9=>9 |2=>2 |4=>4 |171=>278 |0=>0 |53=>238 |37=>112 |5=>5 |173=>281 |212=>308 |51=>243 |20=>20 |213=>309 |46=>298 |232=>347 |233=>348 |n=>n,fun |17=>3 |18=>6 |19=>7 |n=>n⟩
theorem Tryz.laysM171:Go.Proofs.LaysM.n171 Tryz.prog Tryz.laysM171_ren:={
 mixed:=by kernel_rfl
 f129:=Tryz.func257.trans (congrArg some (by kernel_rfl))
 f171:=Tryz.func203.trans (congrArg some (by kernel_rfl))
 f243:=Tryz.func218.trans (congrArg some (by kernel_rfl))
 f246:=Tryz.func228.trans (congrArg some (by kernel_rfl))
 f283:=Tryz.func241.trans (congrArg some (by kernel_rfl))
 f284:=Tryz.func242.trans (congrArg some (by kernel_rfl))
 f285:=Tryz.func243.trans (congrArg some (by kernel_rfl))
 f286:=Tryz.func244.trans (congrArg some (by kernel_rfl))
 f317:=Tryz.func256.trans (congrArg some (by kernel_rfl))
 f318:=Tryz.func258.trans (congrArg some (by kernel_rfl))
 f319:=Tryz.func259.trans (congrArg some (by kernel_rfl))
 f320:=Tryz.func260.trans (congrArg some (by kernel_rfl))
 f337:=Tryz.func270.trans (congrArg some (by kernel_rfl))
 f338:=Tryz.func271.trans (congrArg some (by kernel_rfl))
 t0:=Tryz.underlying0
 a0:=Tryz.isAgg0
 z0:=Tryz.sizeOf0
 v0:=Tryz.zeroValue0
 t2:=Tryz.underlying2
 a2:=Tryz.isAgg2
 z2:=Tryz.sizeOf2
 v2:=Tryz.zeroValue2
 t3:=Tryz.underlying3
 a3:=Tryz.isAgg3
 z3:=Tryz.sizeOf3
 v3:=Tryz.zeroValue3
 t4:=Tryz.underlying4
 a4:=Tryz.isAgg4
 z4:=Tryz.sizeOf4
 v4:=Tryz.zeroValue4
 t5:=Tryz.underlying5
 a5:=Tryz.isAgg5
 z5:=Tryz.sizeOf5
 v5:=Tryz.zeroValue5
 t9:=Tryz.underlying9
 a9:=Tryz.isAgg9
 z9:=Tryz.sizeOf9
 v9:=Tryz.zeroValue9
 t20:=Tryz.underlying20
 a20:=Tryz.isAgg20
 z20:=Tryz.sizeOf20
 v20:=Tryz.zeroValue20
 t37:=Tryz.underlying112
 a37:=Tryz.isAgg112
 z37:=Tryz.sizeOf112
 v37:=Tryz.zeroValue112
 t46:=Tryz.underlying298
 a46:=Tryz.isAgg298
 z46:=Tryz.sizeOf298
 v46:=Tryz.zeroValue298
 t51:=Tryz.underlying243
 a51:=Tryz.isAgg243
 z51:=Tryz.sizeOf243
 v51:=Tryz.zeroValue243
 t53:=Tryz.underlying238
 a53:=Tryz.isAgg238
 z53:=Tryz.sizeOf238
 v53:=Tryz.zeroValue238
 t171:=Tryz.underlying278
 a171:=Tryz.isAgg278
 z171:=Tryz.sizeOf278
 v171:=Tryz.zeroValue278
 t173:=Tryz.underlying281
 a173:=Tryz.isAgg281
 z173:=Tryz.sizeOf281
 v173:=Tryz.zeroValue281
 t212:=Tryz.underlying308
 a212:=Tryz.isAgg308
 z212:=Tryz.sizeOf308
 v212:=Tryz.zeroValue308
 t213:=Tryz.underlying309
 a213:=Tryz.isAgg309
 z213:=Tryz.sizeOf309
 t232:=Tryz.underlying347
 a232:=Tryz.isAgg347
 z232:=Tryz.sizeOf347
 v232:=Tryz.zeroValue347
 t233:=Tryz.underlying348
 a233:=Tryz.isAgg348
 z233:=Tryz.sizeOf348
 v233:=Tryz.zeroValue348
 g17:=by kernel_rfl
 g18:=by kernel_rfl
 g19:=by kernel_rfl
 i0:=by kernel_rfl
 i2:=by kernel_rfl
 i3:=by kernel_rfl
 i4:=by kernel_rfl
 i5:=by kernel_rfl
 i9:=by kernel_rfl
 i20:=by kernel_rfl
 i37:=by kernel_rfl
 i46:=by kernel_rfl
 i51:=by kernel_rfl
 i53:=by kernel_rfl
 i171:=by kernel_rfl
 i173:=by kernel_rfl
 i212:=by kernel_rfl
 i232:=by kernel_rfl
 i233:=by kernel_rfl
 m17:=by kernel_rfl
 m18:=by kernel_rfl
 m19:=by kernel_rfl}
open Go.RowKit Go.Sort Go.Lib in
theorem Tryz.strconv_Itoa (n:Int) (h0: -9223372036854775808≤n) (h1:n≤9223372036854775807) (w:World) (htab:Lib.TabIs Tryz.prog w "internal/strconv.uint64pow10" .u64 Lib.pow10Tab):
  Calls Tryz.prog 203 #[.int .i64 n] w fun e w'=>e=.returned (.string ⟨(Lib.itoa n).toArray⟩)∧∃k os,w'=grow (w.drewN k) os:=Any.strconv_Itoa Tryz.laysM171 n h0 h1 w htab
def Tryz.laysC172_ren:Go.Shelf.Ren:=⟨fun |172=>222 |244=>234 |245=>235 |247=>251 |279=>252 |280=>253 |281=>254 |282=>255 |287=>267 |316=>268 |171=>203 |205=>269 |321=>282 |322=>283 |243=>218 |246=>228 |283=>241 |284=>242 |285=>243 |286=>244 |129=>257 |317=>256 |318=>258 |319=>259 |320=>260 |337=>270 |338=>271 |n=>n,fun |9=>9 |3=>3 |75=>116 |76=>117 |4=>4 |5=>5 |167=>300 |37=>112 |0=>0 |85=>301 |2=>2 |168=>303 |53=>238 |175=>326 |46=>298 |210=>329 |127=>189 |145=>346 |143=>344 |21=>21 |171=>278 |173=>281 |212=>308 |51=>243 |20=>20 |213=>309 |232=>347 |233=>348 |80=>122 |n=>n,fun |15=>4 |16=>5 |17=>3 |18=>6 |19=>7 |n=>n⟩
theorem Tryz.laysC172:Go.Proofs.LaysC.n172 Tryz.prog Tryz.laysC172_ren:={
 mixed:=by kernel_rfl
 f129:=Tryz.func257.trans (congrArg some (by kernel_rfl))
 f171:=Tryz.func203.trans (congrArg some (by kernel_rfl))
 f172:=Tryz.func222.trans (congrArg some (by kernel_rfl))
 f205:=Tryz.func269.trans (congrArg some (by kernel_rfl))
 f243:=Tryz.func218.trans (congrArg some (by kernel_rfl))
 f244:=Tryz.func234.trans (congrArg some (by kernel_rfl))
 f245:=Tryz.func235.trans (congrArg some (by kernel_rfl))
 f246:=Tryz.func228.trans (congrArg some (by kernel_rfl))
 f247:=Tryz.func251.trans (congrArg some (by kernel_rfl))
 f279:=Tryz.func252.trans (congrArg some (by kernel_rfl))
 f280:=Tryz.func253.trans (congrArg some (by kernel_rfl))
 f281:=Tryz.func254.trans (congrArg some (by kernel_rfl))
 f282:=Tryz.func255.trans (congrArg some (by kernel_rfl))
 f283:=Tryz.func241.trans (congrArg some (by kernel_rfl))
 f284:=Tryz.func242.trans (congrArg some (by kernel_rfl))
 f285:=Tryz.func243.trans (congrArg some (by kernel_rfl))
 f286:=Tryz.func244.trans (congrArg some (by kernel_rfl))
 f287:=Tryz.func267.trans (congrArg some (by kernel_rfl))
 f316:=Tryz.func268.trans (congrArg some (by kernel_rfl))
 f317:=Tryz.func256.trans (congrArg some (by kernel_rfl))
 f318:=Tryz.func258.trans (congrArg some (by kernel_rfl))
 f319:=Tryz.func259.trans (congrArg some (by kernel_rfl))
 f320:=Tryz.func260.trans (congrArg some (by kernel_rfl))
 f321:=Tryz.func282.trans (congrArg some (by kernel_rfl))
 f322:=Tryz.func283.trans (congrArg some (by kernel_rfl))
 f337:=Tryz.func270.trans (congrArg some (by kernel_rfl))
 f338:=Tryz.func271.trans (congrArg some (by kernel_rfl))
 t0:=Tryz.underlying0
 a0:=Tryz.isAgg0
 z0:=Tryz.sizeOf0
 v0:=Tryz.zeroValue0
 t2:=Tryz.underlying2
 a2:=Tryz.isAgg2
 z2:=Tryz.sizeOf2
 v2:=Tryz.zeroValue2
 t3:=Tryz.underlying3
 a3:=Tryz.isAgg3
 z3:=Tryz.sizeOf3
 v3:=Tryz.zeroValue3
 t4:=Tryz.underlying4
 a4:=Tryz.isAgg4
 z4:=Tryz.sizeOf4
 v4:=Tryz.zeroValue4
 t5:=Tryz.underlying5
 a5:=Tryz.isAgg5
 z5:=Tryz.sizeOf5
 v5:=Tryz.zeroValue5
 t9:=Tryz.underlying9
 a9:=Tryz.isAgg9
 z9:=Tryz.sizeOf9
 v9:=Tryz.zeroValue9
 t20:=Tryz.underlying20
 a20:=Tryz.isAgg20
 z20:=Tryz.sizeOf20
 v20:=Tryz.zeroValue20
 t21:=Tryz.underlying21
 a21:=Tryz.isAgg21
 z21:=Tryz.sizeOf21
 v21:=Tryz.zeroValue21
 t37:=Tryz.underlying112
 a37:=Tryz.isAgg112
 z37:=Tryz.sizeOf112
 v37:=Tryz.zeroValue112
 t46:=Tryz.underlying298
 a46:=Tryz.isAgg298
 z46:=Tryz.sizeOf298
 v46:=Tryz.zeroValue298
 t51:=Tryz.underlying243
 a51:=Tryz.isAgg243
 z51:=Tryz.sizeOf243
 v51:=Tryz.zeroValue243
 t53:=Tryz.underlying238
 a53:=Tryz.isAgg238
 z53:=Tryz.sizeOf238
 v53:=Tryz.zeroValue238
 t75:=Tryz.underlying116
 a75:=Tryz.isAgg116
 z75:=Tryz.sizeOf116
 v75:=Tryz.zeroValue116
 t76:=Tryz.underlying117
 a76:=Tryz.isAgg117
 z76:=Tryz.sizeOf117
 v76:=Tryz.zeroValue117
 t85:=Tryz.underlying301
 a85:=Tryz.isAgg301
 z85:=Tryz.sizeOf301
 v85:=Tryz.zeroValue301
 t127:=Tryz.underlying189
 a127:=Tryz.isAgg189
 z127:=Tryz.sizeOf189
 v127:=Tryz.zeroValue189
 t143:=Tryz.underlying344
 a143:=Tryz.isAgg344
 z143:=Tryz.sizeOf344
 v143:=Tryz.zeroValue344
 t145:=Tryz.underlying346
 a145:=Tryz.isAgg346
 z145:=Tryz.sizeOf346
 v145:=Tryz.zeroValue346
 t167:=Tryz.underlying300
 a167:=Tryz.isAgg300
 z167:=Tryz.sizeOf300
 v167:=Tryz.zeroValue300
 t168:=Tryz.underlying303
 a168:=Tryz.isAgg303
 z168:=Tryz.sizeOf303
 v168:=Tryz.zeroValue303
 t171:=Tryz.underlying278
 a171:=Tryz.isAgg278
 z171:=Tryz.sizeOf278
 v171:=Tryz.zeroValue278
 t173:=Tryz.underlying281
 a173:=Tryz.isAgg281
 z173:=Tryz.sizeOf281
 v173:=Tryz.zeroValue281
 t175:=Tryz.underlying326
 a175:=Tryz.isAgg326
 z175:=Tryz.sizeOf326
 v175:=Tryz.zeroValue326
 t210:=Tryz.underlying329
 a210:=Tryz.isAgg329
 z210:=Tryz.sizeOf329
 v210:=Tryz.zeroValue329
 t212:=Tryz.underlying308
 a212:=Tryz.isAgg308
 z212:=Tryz.sizeOf308
 v212:=Tryz.zeroValue308
 t213:=Tryz.underlying309
 a213:=Tryz.isAgg309
 z213:=Tryz.sizeOf309
 t232:=Tryz.underlying347
 a232:=Tryz.isAgg347
 z232:=Tryz.sizeOf347
 v232:=Tryz.zeroValue347
 t233:=Tryz.underlying348
 a233:=Tryz.isAgg348
 z233:=Tryz.sizeOf348
 v233:=Tryz.zeroValue348
 g15:=by kernel_rfl
 g16:=by kernel_rfl
 g17:=by kernel_rfl
 g18:=by kernel_rfl
 g19:=by kernel_rfl
 t80:=Tryz.underlying122
 a80:=Tryz.isAgg122
 z80:=Tryz.sizeOf122
 v80:=Tryz.zeroValue122
 i0:=by kernel_rfl
 i2:=by kernel_rfl
 i3:=by kernel_rfl
 i4:=by kernel_rfl
 i5:=by kernel_rfl
 i9:=by kernel_rfl
 i20:=by kernel_rfl
 i21:=by kernel_rfl
 i37:=by kernel_rfl
 i46:=by kernel_rfl
 i51:=by kernel_rfl
 i53:=by kernel_rfl
 i75:=by kernel_rfl
 i76:=by kernel_rfl
 i80:=by kernel_rfl
 i85:=by kernel_rfl
 i127:=by kernel_rfl
 i143:=by kernel_rfl
 i145:=by kernel_rfl
 i167:=by kernel_rfl
 i168:=by kernel_rfl
 i171:=by kernel_rfl
 i173:=by kernel_rfl
 i175:=by kernel_rfl
 i210:=by kernel_rfl
 i212:=by kernel_rfl
 i232:=by kernel_rfl
 i233:=by kernel_rfl
 m15:=by kernel_rfl
 m16:=by kernel_rfl
 m17:=by kernel_rfl
 m18:=by kernel_rfl
 m19:=by kernel_rfl
 c0:=by kernel_rfl
 c2:=by kernel_rfl
 c3:=by kernel_rfl
 c4:=by kernel_rfl
 c5:=by kernel_rfl
 c9:=by kernel_rfl
 c20:=by kernel_rfl
 c21:=by kernel_rfl
 c37:=by kernel_rfl
 c46:=by kernel_rfl
 c51:=by kernel_rfl
 c53:=by kernel_rfl
 c75:=by kernel_rfl
 c76:=by kernel_rfl
 c80:=by kernel_rfl
 c85:=by kernel_rfl
 c127:=by kernel_rfl
 c143:=by kernel_rfl
 c145:=by kernel_rfl
 c167:=by kernel_rfl
 c168:=by kernel_rfl
 c171:=by kernel_rfl
 c173:=by kernel_rfl
 c175:=by kernel_rfl
 c210:=by kernel_rfl
 c212:=by kernel_rfl
 c213:=by kernel_rfl
 c232:=by kernel_rfl
 c233:=by kernel_rfl}
open Go.RowKit in
theorem Tryz.strconv_Atoi_ok (s:ByteArray)(hmax:s.size<=9223372036854775806)(v:Int)(h:Lib.atoiAll s.data.toList=.ok v)(w:World):
  Calls Tryz.prog 222 #[.string s] w fun e w'=>e=.returned (.tuple #[.int .i64 v,.nilIface])∧(w'=w∨∃t,w'=Lib.bytesWorld w 5 t):=Any.strconv_Atoi_ok Tryz.laysC172 s hmax v h w
open Go.RowKit in
theorem Tryz.strconv_Atoi_syntax_var (s:ByteArray) (hlim:s.size≤281474976710656) (h:Lib.atoiAll s.data.toList=Lib.NumEnd.syntax) (tp:TypeId) (p:Value) (w:World) (hvar:w.var? Tryz.prog "strconv.ErrSyntax" =some #[.iface tp p]):
  Calls Tryz.prog 222 #[.string s] w fun e w'=>∃N,e=.returned (.tuple #[.int .i64 0,.iface 303 (.pointer (some ⟨N,0,none⟩))])∧w.heap.size<=N∧w'.heap[N]? =some (.cells #[.string ⟨#[65,116,111,105]⟩,.string s,.iface tp p] 329 (0,0))∧Below w.heap.size w w':=Any.strconv_Atoi_syntax_var Tryz.laysC172 s hlim h tp p w hvar
open Go.RowKit in
theorem Tryz.strconv_Atoi_range_var (s:ByteArray) (hlim:s.size≤281474976710656) (h:Lib.atoiAll s.data.toList= .range) (tp:TypeId) (p:Value) (w:World) (hvar:w.var? Tryz.prog "strconv.ErrRange" =some #[.iface tp p]):
  Calls Tryz.prog 222 #[.string s] w fun e w'=>∃N,e=.returned (.tuple #[.int .i64 (Lib.atoiSat s.data.toList),.iface 303 (.pointer (some ⟨N,0,none⟩))])∧w.heap.size<=N∧w'.heap[N]? =some (.cells #[.string ⟨#[65,116,111,105]⟩,.string s,.iface tp p] 329 (0,0))∧Below w.heap.size w w':=Any.strconv_Atoi_range_var Tryz.laysC172 s hlim h tp p w hvar
def Tryz.lays157_ren:Go.Shelf.Ren:=⟨fun |157=>187 |229=>210 |199=>211 |261=>221 |311=>232 |312=>233 |n=>n,fun |9=>9 |31=>25 |3=>3 |5=>5 |4=>4 |119=>235 |0=>0 |40=>230 |152=>256 |21=>21 |154=>258 |51=>243 |141=>260 |196=>269 |193=>266 |198=>272 |49=>270 |194=>267 |201=>275 |226=>297 |46=>298 |227=>299 |n=>n,fun |0=>0 |6=>2 |n=>n⟩
theorem Tryz.lays157:Go.Proofs.Lays.n157 Tryz.prog Tryz.lays157_ren:={
 mixed:=by kernel_rfl
 f157:=Tryz.func187.trans (congrArg some (by kernel_rfl))
 f199:=Tryz.func211.trans (congrArg some (by kernel_rfl))
 f229:=Tryz.func210.trans (congrArg some (by kernel_rfl))
 f261:=Tryz.func221.trans (congrArg some (by kernel_rfl))
 f311:=Tryz.func232.trans (congrArg some (by kernel_rfl))
 f312:=Tryz.func233.trans (congrArg some (by kernel_rfl))
 t0:=Tryz.underlying0
 a0:=Tryz.isAgg0
 z0:=Tryz.sizeOf0
 v0:=Tryz.zeroValue0
 t3:=Tryz.underlying3
 a3:=Tryz.isAgg3
 z3:=Tryz.sizeOf3
 v3:=Tryz.zeroValue3
 t4:=Tryz.underlying4
 a4:=Tryz.isAgg4
 z4:=Tryz.sizeOf4
 v4:=Tryz.zeroValue4
 t5:=Tryz.underlying5
 a5:=Tryz.isAgg5
 z5:=Tryz.sizeOf5
 v5:=Tryz.zeroValue5
 t9:=Tryz.underlying9
 a9:=Tryz.isAgg9
 z9:=Tryz.sizeOf9
 v9:=Tryz.zeroValue9
 t21:=Tryz.underlying21
 a21:=Tryz.isAgg21
 z21:=Tryz.sizeOf21
 v21:=Tryz.zeroValue21
 t31:=Tryz.underlying25
 a31:=Tryz.isAgg25
 z31:=Tryz.sizeOf25
 v31:=Tryz.zeroValue25
 t40:=Tryz.underlying230
 a40:=Tryz.isAgg230
 z40:=Tryz.sizeOf230
 v40:=Tryz.zeroValue230
 t46:=Tryz.underlying298
 a46:=Tryz.isAgg298
 z46:=Tryz.sizeOf298
 v46:=Tryz.zeroValue298
 t49:=Tryz.underlying270
 a49:=Tryz.isAgg270
 z49:=Tryz.sizeOf270
 v49:=Tryz.zeroValue270
 t51:=Tryz.underlying243
 a51:=Tryz.isAgg243
 z51:=Tryz.sizeOf243
 v51:=Tryz.zeroValue243
 t119:=Tryz.underlying235
 a119:=Tryz.isAgg235
 z119:=Tryz.sizeOf235
 t141:=Tryz.underlying260
 a141:=Tryz.isAgg260
 z141:=Tryz.sizeOf260
 v141:=Tryz.zeroValue260
 t152:=Tryz.underlying256
 a152:=Tryz.isAgg256
 z152:=Tryz.sizeOf256
 v152:=Tryz.zeroValue256
 t154:=Tryz.underlying258
 a154:=Tryz.isAgg258
 z154:=Tryz.sizeOf258
 v154:=Tryz.zeroValue258
 t193:=Tryz.underlying266
 a193:=Tryz.isAgg266
 z193:=Tryz.sizeOf266
 v193:=Tryz.zeroValue266
 t194:=Tryz.underlying267
 a194:=Tryz.isAgg267
 z194:=Tryz.sizeOf267
 v194:=Tryz.zeroValue267
 t196:=Tryz.underlying269
 a196:=Tryz.isAgg269
 z196:=Tryz.sizeOf269
 v196:=Tryz.zeroValue269
 t198:=Tryz.underlying272
 a198:=Tryz.isAgg272
 z198:=Tryz.sizeOf272
 v198:=Tryz.zeroValue272
 t201:=Tryz.underlying275
 a201:=Tryz.isAgg275
 z201:=Tryz.sizeOf275
 v201:=Tryz.zeroValue275
 t226:=Tryz.underlying297
 a226:=Tryz.isAgg297
 z226:=Tryz.sizeOf297
 v226:=Tryz.zeroValue297
 t227:=Tryz.underlying299
 a227:=Tryz.isAgg299
 z227:=Tryz.sizeOf299
 v227:=Tryz.zeroValue299
 g0:=by kernel_rfl
 g6:=by kernel_rfl}
open Go.RowKit Go.Lib in
theorem Tryz.strings_Fields (s:ByteArray) (w:World) (hs:s.size<4294967281) (hascii:∀(j:Nat) b,s.data.toList[j]? =some b→b.toNat<128) (htab:Lib.TabIs Tryz.prog w "strings.asciiSpace" .u8 Lib.asciiSpaceTab):
  Calls Tryz.prog 187 #[.string s] w fun e w'=>
   e=.returned (.slice (some ⟨w.heap.size,0,none⟩) (Lib.fields s.data.toList).length (Lib.fields s.data.toList).length)∧w'=w.alloc (.cells ((Lib.fields s.data.toList).map fun l=>Value.string ⟨l.toArray⟩).toArray 9):=Any.strings_Fields Tryz.lays157 (by kernel_rfl) (by kernel_rfl) s w hs hascii htab
end Go.Proofs
end
section
namespace Go.Proofs.YtfgjkmipfikooaaGreatDoor
open Go.RowKit
theorem below_grow (w:World)(k:Nat)(os:Array Obj):Below w.heap.size w (Sort.grow (w.drewN k) os):=
 ⟨rfl,rfl,rfl,by simp [Sort.grow],fun i hi=>by simp only [Sort.grow,World.heap_drewN];rw [Array.getElem?_append,if_pos hi]⟩
theorem ads (s:ByteArray):s.toList=s.data.toList:=ByteArray.toList_eq s
structure qX (w:World):Prop where
 tab:Lib.TabIs Tryz.prog w "internal/strconv.uint64pow10" .u64 Lib.pow10Tab
 syn:∃tp p,w.var? Tryz.prog "strconv.ErrSyntax" =some #[.iface tp p]
 rng:∃tp p,w.var? Tryz.prog "strconv.ErrRange" =some #[.iface tp p]
theorem pV {w w':World}{name:String}{cs:Array Value}(h:w.var? Tryz.prog name=some cs)(hb:Below w.heap.size w w'):w'.var? Tryz.prog name=some cs:=by
 unfold World.var? at h ⊢;cases hg:Tryz.prog.globalNamed name with
 |none=>rw [hg]at h;cases h
 |some g=>
  rw [hg]at h;simp only [Option.bind_some]at h ⊢;by_cases hlt:g<w.heap.size
  ·rw [hb.block g hlt];exact h
  ·rw [Array.getElem?_eq_none (by omega)]at h;cases h
theorem qX.below {w w':World}(h:qX w)(hb:Below w.heap.size w w'):qX w':=by
 obtain⟨h1,⟨tp,p,h2⟩,⟨tp',p',h3⟩⟩:=h;exact⟨pV h1 hb,⟨tp,p,pV h2 hb⟩,⟨tp',p',pV h3 hb⟩⟩
theorem qX.drewN {w:World}(h:qX w)(n:Nat):qX (w.drewN n):=h.below ⟨rfl,rfl,rfl,Nat.le_refl _,fun _ _=>rfl⟩
theorem Wo (n:Int) (w:World) (hn:In64 n) (htab:Lib.TabIs Tryz.prog w "internal/strconv.uint64pow10" .u64 Lib.pow10Tab):
  Calls Tryz.prog 173 #[.int .i64 n] w fun e w'=>e=.returned (sv (Lib.itoa n))∧Below w.heap.size w w':=by
 go_enter Tryz.func173,Tryz.ntmps173;go_wp2_with (go_at_call 203;refine(Tryz.strconv_Itoa n hn.1 hn.2 _ htab).mono ?_;rintro e w' ⟨rfl,k,os,rfl⟩);go_ret;exact⟨rfl,below_grow _ _ _⟩
theorem Wp (n:Int)(w:World)(hn:In64 n)(hL:qX w):
  Calls Tryz.prog 173 #[.int .i64 n] w fun e w'=>e=.returned (sv (Lib.itoa n))∧Below w.heap.size w w':=Wo n w hn hL.tab
theorem Wq (s:ByteArray)(w:World)(hs:s.size<=281474976710656)(hL:qX w):
  Calls Tryz.prog 222 #[.string s] w fun e w'=>∃v x,e=.returned (.tuple #[.int .i64 v,x])∧Below w.heap.size w w'∧
   ((Lib.atoiAll s.data.toList=.ok v∧x=.nilIface)∨((∀u,Lib.atoiAll s.data.toList≠ .ok u)∧∃t y,x=.iface t y)):=by
 obtain⟨_,⟨tp,p,h2⟩,⟨tp',p',h3⟩⟩:=hL;rcases h:Lib.atoiAll s.data.toList with v |_ |_
 ·refine(Tryz.strconv_Atoi_ok s (by omega) v h w).mono ?_;rintro e w' ⟨rfl,hw⟩;refine⟨v,_,rfl,?_,.inl ⟨rfl,rfl⟩⟩;rcases hw with rfl |⟨t,rfl⟩
  ·exact Below.refl _ _
  ·exact Lib.bytesWorld_below w _ t
 ·refine(Tryz.strconv_Atoi_syntax_var s hs h tp p w h2).mono ?_;rintro e w' ⟨N,rfl,_,_,hb⟩;exact⟨_,_,rfl,hb,.inr ⟨fun u hu=>(by cases hu),_,_,rfl⟩⟩
 ·refine(Tryz.strconv_Atoi_range_var s hs h tp' p' w h3).mono ?_;rintro e w' ⟨N,rfl,_,_,hb⟩;exact⟨_,_,rfl,hb,.inr ⟨fun u hu=>(by cases hu),_,_,rfl⟩⟩
theorem TW {l:List UInt8}(h:∀u,Lib.atoiAll l≠ .ok u):dx l=(0,false):=by
 rw [nJ];cases ha:Lib.atoiAll l with
 |ok u=>exact absurd ha (h u)
 |_=>rfl
theorem TY {l:List UInt8}{v:Int}(h:Lib.atoiAll l=.ok v)(h0:v<0):dx l=(0,false):=by
 rw [nJ,h];dsimp only;rw [if_pos (.inl h0)]
theorem O4 {l:List UInt8}{v:Int}(h:Lib.atoiAll l=.ok v)(h0:Lib.itoa v≠l):dx l=(0,false):=by
 rw [nJ,h];dsimp only;rw [if_pos (.inr h0)]
theorem O5 {l:List UInt8}{v:Int}(h:Lib.atoiAll l=.ok v)(h0:0<=v)(h1:Lib.itoa v=l):dx l=(v,true):=by
 rw [nJ,h];dsimp only;rw [if_neg];rintro(h |h)
 ·omega
 ·exact h h1
theorem rV {a c:Int}{b d:Bool}(h:(a,b)=(c,d)):Ending.returned (.tuple #[.int .i64 a,.bool b])=.returned (.tuple #[.int .i64 c,.bool d]):=by
 cases h;rfl
theorem IY (s:ByteArray)(w:World)(hs:s.size<=281474976710656)(hL:qX w):
  Calls Tryz.prog 212 #[.string s] w fun e w'=>e=.returned (.tuple #[.int .i64 (dx s.data.toList).1,.bool (dx s.data.toList).2])∧Below w.heap.size w w':=by
 go_enter Tryz.func212,Tryz.ntmps212;go_wp2_with fail;refine(Wq s _ hs hL).mono ?_;rintro e w1 ⟨v,x,rfl,hb1,hx⟩;have hL1:=hL.below hb1;rcases hx with⟨ha,rfl⟩ |⟨ha,t,y,rfl⟩
 ·by_cases h0:v<0
  ·have HV:=aZ (TY ha h0);clear ha;go_wp2_with fail
   go_ret2
   exact⟨rV (by rw [HV.o]),hb1⟩
  ·have hv:In64 v:=by
    have:=Q7 ha;unfold In64;omega
   have HA:=aZ ha;clear ha;go_wp2_with (go_at_call 173;refine(Wp v _ hv hL1).mono ?_;rintro e w2 ⟨rfl,hb2⟩)
   ·rename_i h
    have hne:Lib.itoa v≠s.data.toList:=by
     rcases h with h |h
     ·omega
     ·simpa [ads]using h
    go_ret2
    exact⟨rV (by rw [O4 HA.o hne]),hb1.trans (hb2.mono hb1.size)⟩
   ·rename_i h
    have he:Lib.itoa v=s.data.toList:=by simpa [ads]using h.2
    go_ret2
    exact⟨rV (by rw [O5 HA.o h.1 he]),hb1.trans (hb2.mono hb1.size)⟩
 ·have HV:=aZ (TW ha);clear ha;go_wp2_with fail
  go_ret2
  exact⟨rV (by rw [HV.o]),hb1⟩
end Go.Proofs.YtfgjkmipfikooaaGreatDoor
end
section
namespace Go.Proofs.YtfgjkmipfikooaaGreatDoor
open Go.RowKit
theorem jr (c:UInt8)(w:World):Calls Tryz.prog 137 #[.int .u8 (c.toNat:Int)] w fun e w'=>e=.returned (.bool (dS c))∧w'=w:=by
 unfold dS;generalize c.toNat=n;go_enter Tryz.func137,Tryz.ntmps137;go_wp2_with fail
 all_goals
  go_ret;refine⟨?_,rfl⟩;congr 2
  try simp
  try omega
  try (rw [Bool.eq_iff_iff];simp only [Bool.or_eq_true,Bool.and_eq_true,decide_eq_true_eq,beq_iff_eq];omega)
theorem pW (c:UInt8)(w:World):Calls Tryz.prog 185 #[.int .u8 (c.toNat:Int)] w fun e w'=>e=.returned (.bool (bK c))∧w'=w:=by
 unfold bK;generalize c.toNat=n;go_enter Tryz.func185,Tryz.ntmps185;go_wp2_with fail
 all_goals
  go_ret;refine⟨?_,rfl⟩;congr 2
  try simp
  try omega
  try (rw [Bool.eq_iff_iff];simp only [Bool.or_eq_true,Bool.and_eq_true,decide_eq_true_eq,beq_iff_eq];omega)
theorem IZ (c:UInt8)(w:World):Calls Tryz.prog 188 #[.int .u8 (c.toNat:Int)] w fun e w'=>e=.returned (.bool (bV c))∧w'=w:=by
 unfold bV;generalize c.toNat=n;go_enter Tryz.func188,Tryz.ntmps188;go_wp2_with fail
 all_goals
  go_ret;refine⟨?_,rfl⟩;congr 2
  try simp
  try omega
  try (rw [Bool.eq_iff_iff];simp only [Bool.or_eq_true,Bool.and_eq_true,decide_eq_true_eq,beq_iff_eq];omega)
theorem CX (c:UInt8)(w:World):Calls Tryz.prog 189 #[.int .u8 (c.toNat:Int)] w fun e w'=>e=.returned (.bool (eY c))∧w'=w:=by
 unfold eY;generalize c.toNat=n;go_enter Tryz.func189,Tryz.ntmps189;go_wp2_with fail
 all_goals
  go_ret;refine⟨?_,rfl⟩;congr 2
  try simp
  try omega
  try (rw [Bool.eq_iff_iff];simp only [Bool.not_eq_true',bne_iff_ne,ne_eq,decide_eq_false_iff_not];omega)
theorem I4 (c:UInt8)(w:World):Calls Tryz.prog 139 #[.int .u8 (c.toNat:Int)] w fun e w'=>e=.returned (.bool (bf c))∧w'=w:=by
 have hi:bf c=(dS c || bK c):=rfl;rw [hi];clear hi;cases hl:dS c
 ·go_enter Tryz.func139,Tryz.ntmps139;go_wp2_with fail;refine(jr c _).mono ?_;rintro e w1 ⟨rfl,rfl⟩;rw [hl];go_wp2_with fail;refine(pW c _).mono ?_;rintro e w1 ⟨rfl,rfl⟩;go_wp2_with fail;go_ret;exact⟨rfl,rfl⟩
 ·go_enter Tryz.func139,Tryz.ntmps139;go_wp2_with fail;refine(jr c _).mono ?_;rintro e w1 ⟨rfl,rfl⟩;rw [hl];go_wp2_with fail;go_ret;exact⟨rfl,rfl⟩
theorem bZ (s:Bt):(ByteArray.mk s.toArray).size=s.length:=by simp [ByteArray.size]
theorem dW (s:Bt)(k:Nat)(h:k<s.length):(ByteArray.mk s.toArray)[k]'(by rw [bZ];exact h)=s[k]:=by simp [ByteArray.getElem_eq_getElem_data]
theorem T9 (s:Bt)(w:World)(hs:s.length<=281474976710656):Calls Tryz.prog 138 #[sv s,.func (.func 188) #[] #[]] w fun e w'=>e=.returned (.int .i64 (dG bV s:Nat))∧w'=w:=by
 have hsz:=bZ s;go_enter Tryz.func138,Tryz.ntmps138;go_wp2_with fail
 go_loop [5,8] (fun v5 v8=>∃k:Nat,v8=.int .i64 k∧k<=s.length∧∀j (hj:j<s.length),j<k->bV s[j]=true) (fun _ v8=>s.length - (intOf v8).toNat)
 case atStart=>exact⟨0,rfl,by omega,fun j hj h=>by omega⟩
 case round=>
  obtain⟨k,rfl,hk,hall⟩:=hrel;by_cases hlt:k<s.length
  ·have hix:=dW s k hlt;have hrow:=fun hn=>zK (p:=bV) hlt (fun j hj=>hall j (by omega) hj) hn;have hnext:bV s[k]=true->∀j (hj:j<s.length),j<k+1->bV s[j]=true:=by
    intro h j hj hjk;rcases Nat.lt_or_ge j k with h1 |h1
    ·exact hall j hj h1
    ·obtain rfl:j=k:=by omega
     exact h
   have eu:=aZ hrow;have kF:=aZ hnext;clear hall hrow hnext;generalize hX:s[k]=X at*
   cases hq:bV X
   ·have hres:=eu.o hq;go_wp2_with fail;refine(IZ X _).mono ?_;rintro e w1 ⟨rfl,rfl⟩;rw [hq];go_wp2_with fail;go_ret;exact⟨by rw [hres];rfl,rfl⟩
   ·have hall:=kF.o hq;have ET:=aZ hall;clear hall;go_wp2_with fail;refine(IZ X _).mono ?_;rintro e w1 ⟨rfl,rfl⟩;rw [hq];go_wp2_with fail
    go_round
    case rel=>exact⟨k+1,rfl,by omega,ET.o⟩
    case measure=>simp [intOf];omega
  ·obtain rfl:k=s.length:=by omega
   have hres:=wh (p:=bV) (s:=s) (fun j hj=>hall j hj hj);clear hall;go_wp2_with fail;go_ret
   first |exact⟨rfl,rfl⟩ |exact⟨by rw [hres];rfl,rfl⟩
theorem I5 (s:Bt)(w:World)(hs:s.length<=281474976710656):Calls Tryz.prog 138 #[sv s,.func (.func 139) #[] #[]] w fun e w'=>e=.returned (.int .i64 (dG bf s:Nat))∧w'=w:=by
 have hsz:=bZ s;go_enter Tryz.func138,Tryz.ntmps138;go_wp2_with fail
 go_loop [5,8] (fun v5 v8=>∃k:Nat,v8=.int .i64 k∧k<=s.length∧∀j (hj:j<s.length),j<k->bf s[j]=true) (fun _ v8=>s.length - (intOf v8).toNat)
 case atStart=>exact⟨0,rfl,by omega,fun j hj h=>by omega⟩
 case round=>
  obtain⟨k,rfl,hk,hall⟩:=hrel;by_cases hlt:k<s.length
  ·have hix:=dW s k hlt;have hrow:=fun hn=>zK (p:=bf) hlt (fun j hj=>hall j (by omega) hj) hn;have hnext:bf s[k]=true->∀j (hj:j<s.length),j<k+1->bf s[j]=true:=by
    intro h j hj hjk;rcases Nat.lt_or_ge j k with h1 |h1
    ·exact hall j hj h1
    ·obtain rfl:j=k:=by omega
     exact h
   have eu:=aZ hrow;have kF:=aZ hnext;clear hall hrow hnext;generalize hX:s[k]=X at*
   cases hq:bf X
   ·have hres:=eu.o hq;go_wp2_with fail;refine(I4 X _).mono ?_;rintro e w1 ⟨rfl,rfl⟩;rw [hq];go_wp2_with fail;go_ret;exact⟨by rw [hres];rfl,rfl⟩
   ·have hall:=kF.o hq;have ET:=aZ hall;clear hall;go_wp2_with fail;refine(I4 X _).mono ?_;rintro e w1 ⟨rfl,rfl⟩;rw [hq];go_wp2_with fail
    go_round
    case rel=>exact⟨k+1,rfl,by omega,ET.o⟩
    case measure=>simp [intOf];omega
  ·obtain rfl:k=s.length:=by omega
   have hres:=wh (p:=bf) (s:=s) (fun j hj=>hall j hj hj);clear hall;go_wp2_with fail;go_ret
   first |exact⟨rfl,rfl⟩ |exact⟨by rw [hres];rfl,rfl⟩
theorem Ua (s:Bt)(w:World)(hs:s.length<=281474976710656):Calls Tryz.prog 138 #[sv s,.func (.func 185) #[] #[]] w fun e w'=>e=.returned (.int .i64 (dG bK s:Nat))∧w'=w:=by
 have hsz:=bZ s;go_enter Tryz.func138,Tryz.ntmps138;go_wp2_with fail
 go_loop [5,8] (fun v5 v8=>∃k:Nat,v8=.int .i64 k∧k<=s.length∧∀j (hj:j<s.length),j<k->bK s[j]=true) (fun _ v8=>s.length - (intOf v8).toNat)
 case atStart=>exact⟨0,rfl,by omega,fun j hj h=>by omega⟩
 case round=>
  obtain⟨k,rfl,hk,hall⟩:=hrel;by_cases hlt:k<s.length
  ·have hix:=dW s k hlt;have hrow:=fun hn=>zK (p:=bK) hlt (fun j hj=>hall j (by omega) hj) hn;have hnext:bK s[k]=true->∀j (hj:j<s.length),j<k+1->bK s[j]=true:=by
    intro h j hj hjk;rcases Nat.lt_or_ge j k with h1 |h1
    ·exact hall j hj h1
    ·obtain rfl:j=k:=by omega
     exact h
   have eu:=aZ hrow;have kF:=aZ hnext;clear hall hrow hnext;generalize hX:s[k]=X at*
   cases hq:bK X
   ·have hres:=eu.o hq;go_wp2_with fail;refine(pW X _).mono ?_;rintro e w1 ⟨rfl,rfl⟩;rw [hq];go_wp2_with fail;go_ret;exact⟨by rw [hres];rfl,rfl⟩
   ·have hall:=kF.o hq;have ET:=aZ hall;clear hall;go_wp2_with fail;refine(pW X _).mono ?_;rintro e w1 ⟨rfl,rfl⟩;rw [hq];go_wp2_with fail
    go_round
    case rel=>exact⟨k+1,rfl,by omega,ET.o⟩
    case measure=>simp [intOf];omega
  ·obtain rfl:k=s.length:=by omega
   have hres:=wh (p:=bK) (s:=s) (fun j hj=>hall j hj hj);clear hall;go_wp2_with fail;go_ret
   first |exact⟨rfl,rfl⟩ |exact⟨by rw [hres];rfl,rfl⟩
theorem Ld (s:Bt)(w:World)(hs:s.length<=281474976710656):Calls Tryz.prog 138 #[sv s,.func (.func 189) #[] #[]] w fun e w'=>e=.returned (.int .i64 (dG eY s:Nat))∧w'=w:=by
 have hsz:=bZ s;go_enter Tryz.func138,Tryz.ntmps138;go_wp2_with fail
 go_loop [5,8] (fun v5 v8=>∃k:Nat,v8=.int .i64 k∧k<=s.length∧∀j (hj:j<s.length),j<k->eY s[j]=true) (fun _ v8=>s.length - (intOf v8).toNat)
 case atStart=>exact⟨0,rfl,by omega,fun j hj h=>by omega⟩
 case round=>
  obtain⟨k,rfl,hk,hall⟩:=hrel;by_cases hlt:k<s.length
  ·have hix:=dW s k hlt;have hrow:=fun hn=>zK (p:=eY) hlt (fun j hj=>hall j (by omega) hj) hn;have hnext:eY s[k]=true->∀j (hj:j<s.length),j<k+1->eY s[j]=true:=by
    intro h j hj hjk;rcases Nat.lt_or_ge j k with h1 |h1
    ·exact hall j hj h1
    ·obtain rfl:j=k:=by omega
     exact h
   have eu:=aZ hrow;have kF:=aZ hnext;clear hall hrow hnext;generalize hX:s[k]=X at*
   cases hq:eY X
   ·have hres:=eu.o hq;go_wp2_with fail;refine(CX X _).mono ?_;rintro e w1 ⟨rfl,rfl⟩;rw [hq];go_wp2_with fail;go_ret;exact⟨by rw [hres];rfl,rfl⟩
   ·have hall:=kF.o hq;have ET:=aZ hall;clear hall;go_wp2_with fail;refine(CX X _).mono ?_;rintro e w1 ⟨rfl,rfl⟩;rw [hq];go_wp2_with fail
    go_round
    case rel=>exact⟨k+1,rfl,by omega,ET.o⟩
    case measure=>simp [intOf];omega
  ·obtain rfl:k=s.length:=by omega
   have hres:=wh (p:=eY) (s:=s) (fun j hj=>hall j hj hj);clear hall;go_wp2_with fail;go_ret
   first |exact⟨rfl,rfl⟩ |exact⟨by rw [hres];rfl,rfl⟩
end Go.Proofs.YtfgjkmipfikooaaGreatDoor
namespace Go.Proofs.YtfgjkmipfikooaaGreatDoor
open Go.RowKit
theorem wC:ng Tryz.prog 25 9 (sv []) 1 16:=⟨Tryz.underlying25,by kernel_rfl,rfl,by decide⟩
def mK (w:World):Prop:=qX w∧Lib.TabIs Tryz.prog w "strings.asciiSpace" .u8 Lib.asciiSpaceTab
def lT (w:World):Prop:=Lib.TabIs Tryz.prog w "internal/strconv.uint64pow10" .u64 Lib.pow10Tab∧Lib.TabIs Tryz.prog w "strings.asciiSpace" .u8 Lib.asciiSpaceTab
theorem lT.below {w w':World}(h:lT w)(hb:Below w.heap.size w w'):lT w':=⟨pV h.1 hb,pV h.2 hb⟩
theorem mK.t {w:World}(h:mK w):lT w:=⟨h.1.tab,h.2⟩
theorem mK.below {w w':World}(h:mK w)(hb:Below w.heap.size w w'):mK w':=⟨h.1.below hb,pV h.2 hb⟩
def EU:Bt:=[97,110,100,32,97,110,121,32,97,115,32,98,111,111,108,32,101,108,115,101,32,101,120,112,111,114,116,32,102,97,108,115,101,32,102,110,32,102,117,110,99,116,105,111,110,32,105,102,32,105,109,112,111,114,116,32,105,110,32,105,110,116,32,105,115,32,108,101,116,32,110,111,116,32,110,117,108,108,32,111,114,32,112,114,105,110,116,32,114,101,97,100,32,114,101,99,111,114,100,32,115,116,114,32,116,104,101,110,32,116,114,117,101,32,119,105,116,104]
theorem JN:Lib.fields EU=dY:=by kernel_rfl
theorem Le:(EU.all fun b=>decide (b.toNat<128))=true:=by kernel_rfl
theorem EW:(⟨EU.toArray⟩:ByteArray).data.toList=EU:=rfl
theorem BK (w:World)(hL:lT w):Calls Tryz.prog 141 #[] w fun e w'=>∃v,e=.returned v∧Ss w' w'.heap.size v dY∧Below w.heap.size w w':=by
 go_enter Tryz.func141,Tryz.ntmps141;go_wp2_with fail;refine(Tryz.strings_Fields ⟨EU.toArray⟩ _ ?h1 ?h2 hL.2).mono ?_
 case h1=>decide
 case h2=>
  intro j b hb;rw [EW]at hb;exact of_decide_eq_true (List.all_eq_true.1 Le b (List.mem_of_getElem? hb))
 rintro e w1 ⟨rfl,rfl⟩;rw [EW,JN];have hss:Ss (w.alloc (.cells (dY.map fun l=>Value.string ⟨l.toArray⟩).toArray 9)) (w.alloc (.cells (dY.map fun l=>Value.string ⟨l.toArray⟩).toArray 9)).heap.size (.slice (some ⟨w.heap.size,0,none⟩) dY.length dY.length) dY:=by
  have:=gX w (dY.map fun l=>Value.string ⟨l.toArray⟩).toArray 9 1 dY.length (by simp) (by decide);rw [World.size_alloc];simpa [Ss,pU]using this
 have hb:Below w.heap.size w (w.alloc (.cells (dY.map fun l=>Value.string ⟨l.toArray⟩).toArray 9)):=(Below.refl _ _).alloc (Nat.le_refl _) _;generalize(w.alloc (.cells (dY.map fun l=>Value.string ⟨l.toArray⟩).toArray 9))=w2 at*
 generalize dY.length=n at*
 go_wp2_with fail;go_ret;exact⟨_,rfl,hss,hb⟩
theorem Ub (v:Value)(l:List Bt)(x:Bt)(w:World)(hv:Ss w w.heap.size v l):
  Calls Tryz.prog 186 #[v,sv x] w fun e w'=>(∃k:Int,e=.returned (.int .i64 k)∧(0<=k↔x∈l))∧w'=w:=by
 obtain⟨A,c,rfl,hn,hc,hx⟩:=hv.open_;unfold maxLen at hc;go_enter Tryz.func186,Tryz.ntmps186;go_wp2_with fail
 go_loop [5,8] (fun v5 v8=>∃k:Nat,v8=.int .i64 k∧k<=l.length∧x ∉ l.take k) (fun _ v8=>l.length - (intOf v8).toNat)
 case atStart=>exact⟨0,rfl,by omega,by simp⟩
 case round=>
  obtain⟨k,rfl,hk,hnot⟩:=hrel;by_cases hlt:k<l.length
  ·obtain⟨b,o,rfl,hb,hcell⟩:=hx (by omega);have d1:=hcell k hlt;have e1:x=l[k]->x∈l:=fun h=>by rw [h];exact List.getElem_mem hlt
   have e2:¬x=l[k]->x ∉ l.take (k+1):=fun h hh=>by
    rw [List.take_succ_eq_append_getElem hlt,List.mem_append]at hh;rcases hh with hh |hh
    ·exact hnot hh
    ·simp at hh;exact h hh
   clear hcell hx hv hnot;generalize l[k]=X at*
   by_cases hX:x=X
   ·have e3:=e1 hX;have hq:(x==X)=true:=by rw [beq_iff_eq];exact hX
    clear hX e1 e2;go_wp2_with fail;go_ret;exact⟨⟨k,rfl,by simp [e3]⟩,rfl⟩
   ·have e3:=e2 hX;have hq:(x==X)=false:=by rw [beq_eq_false_iff_ne];exact hX
    clear hX e1 e2;go_wp2_with fail
    go_round
    case rel=>exact⟨k+1,rfl,by omega,e3⟩
    case measure=>simp [intOf];omega
  ·obtain rfl:k=l.length:=by omega
   rw [List.take_length]at hnot;go_wp2_with fail;go_ret;exact⟨⟨-1,rfl,by simp [hnot]⟩,rfl⟩
theorem o9 (v:Value)(l:List Bt)(x:Bt)(w:World)(hv:Ss w w.heap.size v l):
  Calls Tryz.prog 140 #[v,sv x] w fun e w'=>e=.returned (.bool (decide (x∈l)))∧w'=w:=by
 go_enter Tryz.func140,Tryz.ntmps140;go_wp2_with fail;refine(Ub v l x _ hv).mono ?_;rintro e w1 ⟨⟨k,rfl,hk⟩,rfl⟩;by_cases h:x∈l
 ·have h0:=hk.2 h;clear hk;go_wp2_with fail;go_ret;exact⟨by simp [h],rfl⟩
 ·have h0:¬(0<=k):=fun hh=>h (hk.1 hh);clear hk;go_wp2_with fail;go_ret;exact⟨by first |(simp [h];done) |(simp [h];exact h0) |(simp [h];omega),rfl⟩
end Go.Proofs.YtfgjkmipfikooaaGreatDoor
namespace Go.Proofs.YtfgjkmipfikooaaGreatDoor
open Go.RowKit
def eB (w:World)(bl bp:Nat)(s:Bt)(p:Nat ×Nat)(dO:Value):Prop:=
 w.heap[bl]? =some (.cells #[sv s,.int .i64 p.1,.int .i64 p.2,.map (some bp),dO] 199 (0,0))
section
variable {w w':World}{bl bp:Nat}{s:Bt}{p:Nat ×Nat}{dO:Value}
theorem eB.c0 (h:eB w bl bp s p dO):w.cell? ⟨bl,0,none⟩=some (sv s):=(cell_of_row _ _ _ _ _ (0,0) h).trans rfl
theorem eB.c1 (h:eB w bl bp s p dO):w.cell? ⟨bl,1,none⟩=some (.int .i64 p.1):=(cell_of_row _ _ _ _ _ (0,0) h).trans rfl
theorem eB.c2 (h:eB w bl bp s p dO):w.cell? ⟨bl,2,none⟩=some (.int .i64 p.2):=(cell_of_row _ _ _ _ _ (0,0) h).trans rfl
theorem eB.c3 (h:eB w bl bp s p dO):w.cell? ⟨bl,3,none⟩=some (.map (some bp)):=(cell_of_row _ _ _ _ _ (0,0) h).trans rfl
theorem eB.c4 (h:eB w bl bp s p dO):w.cell? ⟨bl,4,none⟩=some dO:=(cell_of_row _ _ _ _ _ (0,0) h).trans rfl
theorem eB.free (h:eB w bl bp s p dO)(i:Nat):w.frozen? ⟨bl,i,none⟩=false:=by simp [World.frozen?,show w.heap[bl]? = _ from h]
theorem eB.lt (h:eB w bl bp s p dO):bl<w.heap.size:=block_lt h
theorem eB.turn {G:Nat->Prop}(h:eB w bl bp s p dO)(t:Turn G w w')(hd:¬G bl):eB w' bl bp s p dO:=ah h t hd
end
theorem Lf {w wr:World}{F:Nat->Prop}{b off:Nat}(t:Turn F w wr)(hb:b<w.heap.size)(hF:¬F b){u:Value}(h:w.cell? ⟨b,off,none⟩=some u):wr.cell? ⟨b,off,none⟩=some u:=by
 rw [<-h];simp only [World.cell?,t.block hb hF]
theorem abu (p:Nat ×Nat)(s:Bt):(fK p s).1<=p.1+s.length∧(fK p s).2<=p.2+s.length+1:=by
 induction s generalizing p with
 |nil=>exact⟨Nat.le_refl _,by simp [fK]⟩
 |cons c s ih=>
  have h:fK p (c :: s)=fK (rU p c) s:=rfl;rw [h];obtain⟨a,b⟩:=ih (rU p c);have h1:(rU p c).1<=p.1+1∧(rU p c).2<=p.2+1∨(rU p c).2<=1∧(rU p c).1<=p.1+1:=by
   unfold rU;split
   ·exact .inr ⟨Nat.le_refl _,Nat.le_refl _⟩
   ·exact .inl ⟨Nat.le_succ _,Nat.le_refl _⟩
  simp only [List.length_cons];omega
theorem uJ (s:Bt)(a b:Nat):(ByteArray.extract ⟨s.toArray⟩ a b).data.toList=(s.take b).drop a:=by
 rw [ByteArray.data_extract];simp [List.extract_eq_take_drop,List.drop_take]
theorem fP (s:Bt)(a b:Nat):Value.string (ByteArray.extract ⟨s.toArray⟩ a b)=sv ((s.take b).drop a):=by
 rw [<-uJ]
theorem Uc {P:Program}(w:World)(src dst e:TypeId)(hs:P.underlying src=some .string)(hd:P.underlying dst=some (.slice e))(he:P.underlying e=some (.int .u8))(s:Bt)(n:Nat)(hn:n<=s.length):
  ∃C w5,(convert src dst (.string (ByteArray.extract ⟨s.toArray⟩ 0 n))).run P w=.ok (.slice (some ⟨w.heap.size,0,none⟩) n C) w5∧Turn (fun _=>False) w w5∧w.heap.size<w5.heap.size∧
   ∀j (hj:j<n),w5.cell? ⟨w.heap.size,j,none⟩=some (.int .u8 ((s[j]'(by omega)).toNat:Int)):=by
 have hsz:(ByteArray.extract ⟨s.toArray⟩ 0 n).size=n:=by
  have h:(ByteArray.extract ⟨s.toArray⟩ 0 n).data.toList.length=(ByteArray.extract ⟨s.toArray⟩ 0 n).size:=Array.length_toList;rw [<-h,uJ];simp;omega
 have hrun:=Lib.run_convert_string_bytes (P:=P) w src dst e (ByteArray.extract ⟨s.toArray⟩ 0 n) hs hd he;have hcell:=Lib.bytesWorld_cell w e (ByteArray.extract ⟨s.toArray⟩ 0 n);have hsize:=Lib.bytesWorld_size w e (ByteArray.extract ⟨s.toArray⟩ 0 n);have hold:=Lib.bytesWorld_at_old w e (ByteArray.extract ⟨s.toArray⟩ 0 n);rw [hsz]at hrun hcell;refine⟨_,_,hrun,⟨rfl,rfl,rfl,by rw [hsize];omega,fun k hk _=>hold k hk⟩,by rw [hsize];omega,fun j hj=>?_⟩;rw [hcell j hj,uJ];simp [List.getD_eq_getElem?_getD,List.getElem?_take,hj,List.getElem?_eq_getElem (show j<s.length by omega)]
theorem eB.set1 {w:World}{bl bp:Nat}{s:Bt}{p:Nat ×Nat}{dO:Value}(h:eB w bl bp s p dO)(n:Nat):eB (w.setCell ⟨bl,1,none⟩ (.int .i64 n)) bl bp s (n,p.2) dO:=heap_setCell_same w bl 1 _ _ _ h
theorem eB.set2 {w:World}{bl bp:Nat}{s:Bt}{p:Nat ×Nat}{dO:Value}(h:eB w bl bp s p dO)(n:Nat):eB (w.setCell ⟨bl,2,none⟩ (.int .i64 n)) bl bp s (p.1,n) dO:=heap_setCell_same w bl 2 _ _ _ h
theorem eB.set0 {w:World}{bl bp:Nat}{s:Bt}{p:Nat ×Nat}{dO:Value}(h:eB w bl bp s p dO)(s':Bt):eB (w.setCell ⟨bl,0,none⟩ (sv s')) bl bp s' p dO:=heap_setCell_same w bl 0 _ _ _ h
theorem eB.JO {w:World}{bl bp:Nat}{s:Bt}{p:Nat ×Nat}{dO:Value}(h:eB w bl bp s p dO)(v:Value):eB (w.setCell ⟨bl,4,none⟩ v) bl bp s p v:=heap_setCell_same w bl 4 _ _ _ h
theorem wD (w:World)(bl bp:Nat)(s:Bt)(p:Nat ×Nat)(dO:Value)(n:Nat)(hL:eB w bl bp s p dO)(hn:n<=s.length)(hs:s.length<=100000)(hp:p.1<=1000000∧p.2<=1000000):
  Calls Tryz.prog 148 #[.pointer (some ⟨bl,0,none⟩),.int .i64 n] w fun e w'=>
   e=.returned (.tuple #[])∧eB w' bl bp (s.drop n) (fK p (s.take n)) dO∧Turn (fun k=>k=bl) w w':=by
 have hsz:=bZ s;have c0:=hL.c0;obtain⟨C,w5,Lg,ht5,agt,hcells⟩:=Uc (P:=Tryz.prog) w 9 112 5 Tryz.underlying9 Tryz.underlying112 Tryz.underlying5 s n hn;have hL5:=hL.turn ht5 id;have hbl:=hL.lt;have HC:=aZ hcells;clear hcells;go_enter Tryz.func148,Tryz.ntmps148;go_wp2_with fail;go_loopw [14] (fun v14 wr=>∃k:Nat,v14=.int .i64 k∧k<=n∧eB wr bl bp s (fK p (s.take k)) dO∧Turn (fun k=>k=bl) w5 wr) (fun v14 _=>n - (intOf v14).toNat)
 case atStart=>exact⟨0,rfl,by omega,hL5,Turn.refl _ _⟩
 case round=>
  obtain⟨k,rfl,hk,KW,htr⟩:=hrel;have hq:=abu p (s.take k);have hkl:(s.take k).length<=k:=by simp;omega
  by_cases hlt:k<n
  ·have hnext:=IQ (p:=p) (show k<s.length by omega);have d1:=Lf htr agt (by omega) (HC.o k hlt);generalize fK p (s.take k)=q at*
   generalize s[k]=X at*
   have c1:=KW.c1;have c2:=KW.c2;have f1:=KW.free 1;have f2:=KW.free 2;have hb:q.1<2000000∧q.2<2000000:=by omega
   have Hy:=aZ hnext;clear hnext hq hL hL5 c0 Lg;by_cases hX:X.toNat=10
   ·have hl1:=((KW.set2 (q.2+1)).set1 (q.1+1)).set2 1;have ht1:=((htr.trans (ak _ bl 2 (.int .i64 ((q.2+1:Nat):Int))) (fun _ _ h=>h)).trans (ak _ bl 1 (.int .i64 ((q.1+1:Nat):Int))) (fun _ _ h=>h)).trans (ak _ bl 2 (.int .i64 ((1:Nat):Int))) (fun _ _ h=>h);have e1:rU q X=(q.1+1,1):=by unfold rU;rw [if_pos hX]
    have HL1:=aZ hl1;have HT1:=aZ ht1;have HE:=aZ e1;clear KW htr hl1 ht1 e1;go_wp2_with fail
    go_roundw
    case rel=>exact⟨k+1,rfl,by omega,by rw [Hy.o,HE.o];exact HL1.o,HT1.o⟩
    case measure=>simp [intOf];omega
   ·have hl1:=KW.set2 (q.2+1);have ht1:=htr.trans (ak _ bl 2 (.int .i64 ((q.2+1:Nat):Int))) (fun _ _ h=>h);have e1:rU q X=(q.1,q.2+1):=by unfold rU;rw [if_neg hX]
    have HL1:=aZ hl1;have HT1:=aZ ht1;have HE:=aZ e1;clear KW htr hl1 ht1 e1;go_wp2_with fail
    go_roundw
    case rel=>exact⟨k+1,rfl,by omega,by rw [Hy.o,HE.o];exact HL1.o,HT1.o⟩
    case measure=>simp [intOf];omega
  ·obtain rfl:k=n:=by omega
   have c0r:=KW.c0;have f0:=KW.free 0;have hl1:=KW.set0 (s.drop k);have ht1:=((ht5.mono (G:=fun k=>k=bl) (fun _ _ h=>h.elim)).trans htr (fun _ _ h=>h)).trans (ak _ bl 0 (sv (s.drop k))) (fun _ _ h=>h);have he:Value.string (ByteArray.extract ⟨s.toArray⟩ k s.length)=sv (s.drop k):=by rw [fP,List.take_length]
   have HL1:=aZ hl1;have HT1:=aZ ht1;clear hL hL5 KW htr ht5 hl1 ht1 hq c0 Lg;go_wp2_with fail;go_end0;exact⟨rfl,HL1.o,HT1.o⟩
end Go.Proofs.YtfgjkmipfikooaaGreatDoor
namespace Go.Proofs.YtfgjkmipfikooaaGreatDoor
open Go.RowKit
theorem EX (s:Bt):gG s<=s.length:=by
 unfold gG;have h1:=mq bV s;split
 ·have h2:=mq eY (s.drop (dG bV s));rw [List.length_drop]at h2;omega
 ·omega
theorem O6 (s:Bt)(p:Nat ×Nat):s.drop (bJ s)=(s.drop (gG s)).drop (bJ (s.drop (gG s)))∧fK p (s.take (bJ s))=fK (fK p (s.take (gG s))) ((s.drop (gG s)).take (bJ (s.drop (gG s)))):=by
 have h:=V9 s;generalize bJ (s.drop (gG s))=m at*
 rw [h];refine⟨by rw [List.drop_drop],?_⟩;rw [List.take_add,wm]
def textOf (w:World)(bl:Nat):Nat:=match w.cell? ⟨bl,0,none⟩with |some (.string b)=>b.size |_=>0
theorem sO {w:World}{bl bp:Nat}{s:Bt}{p:Nat ×Nat}{dO:Value}(h:eB w bl bp s p dO):textOf w bl=s.length:=by
 unfold textOf;rw [h.c0];exact bZ s
def zR (w:World)(bl bp:Nat)(s:Bt)(p:Nat ×Nat)(dO:Value)(wr:World):Prop:=
 ∃(c:Bt) (q:Nat ×Nat),eB wr bl bp c q dO∧Turn (fun k=>k=bl) w wr∧c.length<=s.length∧s.drop (bJ s)=c.drop (bJ c)∧fK p (s.take (bJ s))=fK q (c.take (bJ c))∧
  q.1+c.length<=p.1+s.length∧q.2+c.length<=p.2+s.length∧1<=q.2
theorem nO {p:Nat ×Nat}(s:Bt)(h:1<=p.2):(fK p s).1<=p.1+s.length∧(fK p s).2<=p.2+s.length∧1<=(fK p s).2:=by
 induction s generalizing p with
 |nil=>exact⟨Nat.le_refl _,Nat.le_refl _,h⟩
 |cons c s ih=>
  have h0:fK p (c :: s)=fK (rU p c) s:=rfl;rw [h0];have h1:(rU p c).1<=p.1+1∧(rU p c).2<=p.2+1∧1<=(rU p c).2:=by
   unfold rU;split
   ·exact⟨Nat.le_refl _,by show 1<= _;omega,Nat.le_refl _⟩
   ·exact⟨Nat.le_succ _,Nat.le_refl _,by show 1<= _+1;omega⟩
  obtain⟨a,b,d⟩:=ih h1.2.2;simp only [List.length_cons];omega
theorem zR.step {w wr w2:World}{bl bp:Nat}{s c:Bt}{p q:Nat ×Nat}{dO:Value}(htr:Turn (fun k=>k=bl) w wr)(hcl:c.length<=s.length)(hd:s.drop (bJ s)=c.drop (bJ c))(ha:fK p (s.take (bJ s))=fK q (c.take (bJ c)))
  (hq1:q.1+c.length<=p.1+s.length) (hq2:q.2+c.length<=p.2+s.length) (hq3:1<=q.2) (h:eB w2 bl bp (c.drop (gG c)) (fK q (c.take (gG c))) dO) (ht:Turn (fun k=>k=bl) wr w2) (h0:0<gG c):
  zR w bl bp s p dO w2∧textOf w2 bl<c.length:=by
 obtain⟨e1,e2⟩:=O6 c q;have hone:=EX c;have hl:=nO (c.take (gG c)) hq3;rw [List.length_take,Nat.min_eq_left hone]at hl;refine⟨⟨_,_,h,htr.trans ht (fun _ _ h=>h),?_,hd.trans e1,ha.trans e2,?_,?_,hl.2.2⟩,?_⟩
 ·rw [List.length_drop];omega
 ·rw [List.length_drop];omega
 ·rw [List.length_drop];omega
 ·rw [sO h,List.length_drop];omega
theorem y8 (w:World)(bl bp:Nat)(s:Bt)(p:Nat ×Nat)(dO:Value)(hL:eB w bl bp s p dO)(hs:s.length<=100000)(hp:p.1<=700000∧p.2<=700000)(hp1:1<=p.2):
  Calls Tryz.prog 146 #[.pointer (some ⟨bl,0,none⟩)] w fun e w'=>
   e=.returned (.tuple #[])∧eB w' bl bp (s.drop (bJ s)) (fK p (s.take (bJ s))) dO∧Turn (fun k=>k=bl) w w':=by
 go_enter Tryz.func146,Tryz.ntmps146;go_wp2_with fail;go_loopw [2] (fun _ wr=>zR w bl bp s p dO wr) (fun _ wr=>textOf wr bl)
 case atStart=>exact⟨s,p,hL,Turn.refl _ _,Nat.le_refl _,rfl,rfl,Nat.le_refl _,Nat.le_refl _,hp1⟩
 case round=>
  obtain⟨c,q,KW,htr,hcl,hd,ha,hq1,hq2,hq3⟩:=hrel;have hlen:=sO KW;have c0:=KW.c0;have hsz:=bZ c;have hrow:=mq bV c;have Ws:=aZ (fun w2 h ht h0=>zR.step (w2:=w2) (bp:=bp) (dO:=dO) htr hcl hd ha hq1 hq2 hq3 h ht h0);have hz:gG c=0->eB wr bl bp (s.drop (bJ s)) (fK p (s.take (bJ s))) dO:=by
   intro h;rw [hd,ha,TQ h];exact KW
  have HZ:=aZ hz;have HL:=aZ KW;have HLEN:=aZ hlen;have HT:=aZ htr;have he:Value.string (ByteArray.extract ⟨c.toArray⟩ (dG bV c) c.length)=sv (c.drop (dG bV c)):=by rw [fP,List.take_length]
  have hone:gG c=dG bV c+(if((c.drop (dG bV c)).head?).map UInt8.toNat=some 35 then dG eY (c.drop (dG bV c))else 0):=rfl;have hle:=EX c;have hdl:(c.drop (dG bV c)).length=c.length - dG bV c:=List.length_drop;clear hd ha hz KW htr hlen;go_wp2_with fail;refine(T9 c _ (by omega)).mono ?_;rintro e w1 ⟨rfl,rfl⟩;generalize hn:dG bV c=n at*
  generalize hr:c.drop n=r at*
  have HDL:=aZ hdl;clear hdl;cases r with
  |nil=>
   simp only [List.head?_nil,Option.map_none,reduceCtorEq,if_false,Nat.add_zero]at hone;by_cases h0:n=0
   ·have hfin:=HZ.o (by omega);have agv:=aZ hfin;clear hfin;subst h0;go_wp2_with fail
    (try simp only [Exit.inBlock,Exit.then]);refine bodyPost_ret (results_none rfl _ _ _) rfl ?_
    exact⟨rfl,agv.o,HT.o⟩
   ·have h0':¬((n:Nat):Int)=0:=by omega
    go_wp2_with fail;refine(wD w1 bl bp c q dO n HL.o (by omega) (by omega) (by omega)).mono ?_;rintro e w2 ⟨rfl,hl2,ht2⟩;obtain⟨CY,hm2⟩:=Ws.o w2 (by rw [hone];exact hl2) ht2 (by omega);have Lh:=aZ CY;have Wt:=aZ hm2;clear CY hm2 hl2 ht2;go_wp2_with fail
    go_roundw
    case rel=>exact Lh.o
    case measure=>have:=HLEN.o;have:=Wt.o;omega
  |cons d tl=>
   simp only [List.head?_cons,Option.map_some,Option.some.injEq]at hone;have hix:(ByteArray.mk (d :: tl).toArray)[0]'(by rw [bZ];simp)=d:=dW (d :: tl) 0 (by simp);have hsz2:=bZ (d :: tl);by_cases hd:d.toNat=35
   ·rw [if_pos hd]at hone;have hn2:=mq eY (d :: tl);have avP:dG eY (d :: tl)+n<=c.length:=by have:=HDL.o;omega
    have hn3:1<=dG eY (d :: tl):=wu (by unfold eY;simp [hd]);go_wp2_with fail;refine(Ld (d :: tl) _ (by have:=HDL.o;omega)).mono ?_;rintro e w1 ⟨rfl,rfl⟩;generalize dG eY (d :: tl)=n2 at*
    have h0':¬((n:Int)+(n2:Int))=0:=by omega
    have e12:(n:Int)+(n2:Int)=((n+n2:Nat):Int):=by omega
    have E12:=aZ e12;clear e12;go_wp2_with fail;have e12:=E12.o
    try rw [e12]
    refine(wD w1 bl bp c q dO (n+n2) HL.o (by omega) (by omega) (by omega)).mono ?_;rintro e w2 ⟨rfl,hl2,ht2⟩;obtain⟨CY,hm2⟩:=Ws.o w2 (by rw [hone];exact hl2) ht2 (by omega);have Lh:=aZ CY;have Wt:=aZ hm2;clear CY hm2 hl2 ht2 e12;go_wp2_with fail
    go_roundw
    case rel=>exact Lh.o
    case measure=>have:=HLEN.o;have:=Wt.o;omega
   ·rw [if_neg hd,Nat.add_zero]at hone;by_cases h0:n=0
    ·have hfin:=HZ.o (by omega);have agv:=aZ hfin;clear hfin;subst h0;go_wp2_with fail
     (try simp only [Exit.inBlock,Exit.then]);refine bodyPost_ret (results_none rfl _ _ _) rfl ?_
     exact⟨rfl,agv.o,HT.o⟩
    ·have h0':¬((n:Nat):Int)=0:=by omega
     go_wp2_with fail;refine(wD w1 bl bp c q dO n HL.o (by omega) (by omega) (by omega)).mono ?_;rintro e w2 ⟨rfl,hl2,ht2⟩;obtain⟨CY,hm2⟩:=Ws.o w2 (by rw [hone];exact hl2) ht2 (by omega);have Lh:=aZ CY;have Wt:=aZ hm2;clear CY hm2 hl2 ht2;go_wp2_with fail
     go_roundw
     case rel=>exact Lh.o
     case measure=>have:=HLEN.o;have:=Wt.o;omega
end Go.Proofs.YtfgjkmipfikooaaGreatDoor
end
