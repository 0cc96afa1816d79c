import Derived.Shelf.Strings.Builder1
import Derived.Shelf.Strings.Builder2
import Derived.Shelf.Strings.OnBuilder
import Derived.Shelf.Small.Utf8
import Derived.Shelf.Small.Strs
import Derived.Shelf.Strings.BuilderF
import Derived.Shelf.Strings.BuilderK
import Derived.Shelf.Utf8.RuneCount
import Derived.Shelf.Strings.Builder2Cap
import Derived.Shelf.Strconv.Atoi
import Derived.Shelf.Strconv.Itoa0
import Derived.Shelf.Strconv.Itoa1
import Derived.Shelf.LaysM
import Derived.Shelf.Strconv.Itoa2
import Derived.Shelf.Strconv.Itoa3
import Derived.Shelf.Strconv.AtoiErrFast
import Derived.Shelf.Strconv.ParseIntEmpty
import Derived.Shelf.Strconv.AtoiFail
import Derived.Shelf.Strconv.Clone
import Derived.Shelf.Strconv.SyntaxError
import Derived.Shelf.LaysC
import Derived.Shelf.Strconv.ToError
import Derived.Shelf.Strconv.AtoiErr
import Derived.Shelf.Strconv.ErrVar
import Derived.Shelf.Strconv.Lower
import Derived.Shelf.Strconv.ParseUint10
import Derived.Shelf.Strconv.ParseUint10Empty
import Derived.Shelf.Strconv.ParseUint10Any
import Derived.Shelf.Strconv.ParseInt10
import Derived.Shelf.Strconv.AtoiLong
import Derived.Shelf.Strconv.AtoiInnerAll
import Derived.Shelf.Strconv.RangeError
import Derived.Shelf.Strconv.ToErrorRange
import Derived.Shelf.Strconv.AtoiAll
import Derived.Shelf.Strconv.ErrVarAll
import Derived.Shelf.Strconv.ParseUintEmpty
import Derived.Shelf.Strconv.ParseUint10b64
import Derived.Shelf.Strconv.ParseUint10b32
import Derived.Shelf.Strconv.ParseUint10b16
import Derived.Shelf.Strconv.ParseUint10b8
import Derived.Shelf.Strconv.ParseUint10At
import Derived.Shelf.Strconv.ParseInt10At64
import Derived.Shelf.Strconv.ParseInt10At32
import Derived.Shelf.Strconv.ParseInt10At16
import Derived.Shelf.Strconv.ParseInt10At8
import Derived.Shelf.Strconv.ParseInt10All
import Derived.Shelf.Strings.Search1
import Derived.Shelf.Strings.Search2
import Derived.Shelf.Strings.Search3
import Derived.Shelf.Strings.Cut
import Derived.Shelf.Strings.Count
import Derived.Shelf.Strings.Shaped
import Derived.Shelf.Strings.Split
import Derived.Shelf.Strings.Fields
import Derived.Shelf.Strings.SplitShaped
import Derived.Shelf.Unicode.Latin
import Derived.Shelf.Unicode.Decode
import Derived.Shelf.Strings.Runes
import Derived.Shelf.Strings.RuneCount
import Derived.Shelf.Strings.IndexAny
import Derived.Shelf.Strings.AsciiSet
import Derived.Shelf.Strings.IndexAnyAll
import Derived.Shelf.Strings.Explode
import Derived.Shelf.Unicode.DecodeSlow
import Derived.Shelf.Unicode.DecodeAny
import Derived.Shelf.Unicode.Is16White
import Derived.Shelf.Unicode.IsSpaceAny
import Derived.Shelf.Unicode.Is16WhiteD
import Derived.Shelf.Unicode.IsSpaceAnyD
import Derived.Shelf.Strings.FieldsAny
import Derived.Shelf.Strings.FieldsFuncAny
import Derived.Shelf.Unicode.Is16Any
import Derived.Shelf.Unicode.Is32Any
import Derived.Shelf.Unicode.ExclAny
import Derived.Shelf.Strings.FieldsFuncGrows
import Derived.Shelf.Strings.BuilderCap
import Derived.Shelf.Slices.Turned
import Derived.Shelf.Slices.Equal
import Derived.Shelf.Slices.Empties2
import Derived.Test.YtjeekocidaogoaaGreatDoorProg
import Derived.WalkSmall
import Derived.Below
import Derived.Deep.Draws
import Derived.Deep.AppendLies
import Derived.Maps.AppendAt
import Derived.OwnWalk
import Derived.Laws.BytesArg
import Derived.Laws.MakeOwn
import Derived.Laws.OwnMore
import Derived.Deep.OwnRows
import Derived.Tactics
import Derived.Lib.ConvBytes
import Derived.Laws.Slices
import Derived.WalkKit
import Derived.KernelRfl
import Derived.RowKit3
import Derived.Deep.LoopGhost
import Derived.Deep.QuietTactic
import Derived.BigQuiet
import Derived.WideLaws
import Derived.Deep.DeepCutAuto
import Derived.Deep.CutBlock
import Derived.Deep.RegionHeld3
import Derived.Laws.Rows
import Derived.Lib.AppendStr
import Derived.ArgAppend
import Derived.Laws.IdiomCopy
import Derived.RowKit
import Derived.OrdersHeld
import Derived.Laws.BitsLemmas
import Derived.Laws.Runes
import Derived.Laws.RangeAny
import Derived.Laws.RangeString
import Derived.LoopTactic
set_option linter.unusedVariables false
set_option linter.unusedSimpArgs false
set_option maxRecDepth 100000
set_option maxHeartbeats 8000000
open Go.Proofs.Tryz
namespace Go.Proofs
open Go.Shelf
section
def Tryz.lays156_ren:Go.Shelf.Ren:=⟨fun|156=>217|165=>224|166=>225|169=>226|240=>228|241=>229|276=>230|277=>231|n=>n,fun|31=>25|9=>9|3=>3|4=>4|0=>0|20=>20|72=>250|76=>140|70=>248|37=>64|75=>139|127=>233|164=>256|5=>5|80=>224|n=>n,fun|n=>n⟩
theorem Tryz.lays156:Go.Proofs.Lays.n156 prog Tryz.lays156_ren:={
 mixed:=by kernel_rfl
 f156:=func217.trans (congrArg some (by kernel_rfl))
 f165:=func224.trans (congrArg some (by kernel_rfl))
 f166:=func225.trans (congrArg some (by kernel_rfl))
 f169:=func226.trans (congrArg some (by kernel_rfl))
 f240:=func228.trans (congrArg some (by kernel_rfl))
 f241:=func229.trans (congrArg some (by kernel_rfl))
 f276:=func230.trans (congrArg some (by kernel_rfl))
 f277:=func231.trans (congrArg some (by kernel_rfl))
 t0:=underlying0
 a0:=isAgg0
 z0:=sizeOf0
 v0:=zeroValue0
 t3:=underlying3
 a3:=isAgg3
 z3:=sizeOf3
 v3:=zeroValue3
 t4:=underlying4
 a4:=isAgg4
 z4:=sizeOf4
 v4:=zeroValue4
 t9:=underlying9
 a9:=isAgg9
 z9:=sizeOf9
 v9:=zeroValue9
 t20:=underlying20
 a20:=isAgg20
 z20:=sizeOf20
 v20:=zeroValue20
 t31:=underlying25
 a31:=isAgg25
 z31:=sizeOf25
 v31:=zeroValue25
 t37:=underlying64
 a37:=isAgg64
 z37:=sizeOf64
 v37:=zeroValue64
 t70:=underlying248
 a70:=isAgg248
 z70:=sizeOf248
 v70:=zeroValue248
 t72:=underlying250
 a72:=isAgg250
 z72:=sizeOf250
 v72:=zeroValue250
 t75:=underlying139
 a75:=isAgg139
 z75:=sizeOf139
 v75:=zeroValue139
 t76:=underlying140
 a76:=isAgg140
 z76:=sizeOf140
 v76:=zeroValue140
 t127:=underlying233
 a127:=isAgg233
 z127:=sizeOf233
 v127:=zeroValue233
 t164:=underlying256
 a164:=isAgg256
 z164:=sizeOf256
 v164:=zeroValue256 }
theorem Tryz.Builder_Extra_156:Builder.Extra prog Tryz.lays156_ren:={
 sizeBuilder:=by kernel_rfl
 liesBuilder:=by kernel_rfl
 t5:=underlying5
 a5:=isAgg5
 z5:=sizeOf5
 v5:=zeroValue5
 infoByte:=by kernel_rfl
 cellsByte:=by kernel_rfl
 sizeByte:=by kernel_rfl
 neB5:=by decide }
open Go.RowKit in
theorem Tryz.strings_Join (bk o c:Nat) (xs:List ByteArray) (i:ByteArray) (w:World) (r:∀ (j:Nat) x,xs[j]?=some x->w.cell? ⟨bk,o+j,none⟩=some (.string x)) (l:bk<w.heap.size) (k:xs.length<=140737488355328) (p:xs.length<=c) (s:(Lib.join (xs.map (·.data.toList)) i.data.toList).length<=140737488355328) :
  Calls prog 217 #[.slice (some ⟨bk,o,none⟩) xs.length c,.string i] w fun e w'=>e = .returned (.string ⟨(Lib.join (xs.map (·.data.toList)) i.data.toList).toArray⟩)/\Below w.heap.size w w':=Any.strings_Join Tryz.lays156 Tryz.Builder_Extra_156 bk o c xs i w r l k p s
def Tryz.lays119_ren:Go.Shelf.Ren:=⟨fun|119=>151|n=>n,fun|21=>21|4=>4|n=>n,fun|n=>n⟩
theorem Tryz.lays119:Go.Proofs.Lays.n119 prog Tryz.lays119_ren:={
 mixed:=by kernel_rfl
 f119:=func151.trans (congrArg some (by kernel_rfl))
 t4:=underlying4
 a4:=isAgg4
 z4:=sizeOf4
 v4:=zeroValue4
 t21:=underlying21
 a21:=isAgg21
 z21:=sizeOf21
 v21:=zeroValue21 }
theorem Tryz.utf8_ValidRune (r:Int) (w:World) :
  Calls prog 151 #[.int .i32 r] w fun e w'=>e = .returned (.bool (Lib.validRune r))/\w'=w:=Any.utf8_ValidRune Tryz.lays119 r w
def Tryz.lays137_ren:Go.Shelf.Ren:=⟨fun|137=>150|217=>185|266=>205|n=>n,fun|9=>9|5=>5|3=>3|n=>n,fun|n=>n⟩
theorem Tryz.lays137:Go.Proofs.Lays.n137 prog Tryz.lays137_ren:={
 mixed:=by kernel_rfl
 f137:=func150.trans (congrArg some (by kernel_rfl))
 f217:=func185.trans (congrArg some (by kernel_rfl))
 f266:=func205.trans (congrArg some (by kernel_rfl))
 t3:=underlying3
 a3:=isAgg3
 z3:=sizeOf3
 v3:=zeroValue3
 t5:=underlying5
 a5:=isAgg5
 z5:=sizeOf5
 v5:=zeroValue5
 t9:=underlying9
 a9:=isAgg9
 z9:=sizeOf9
 v9:=zeroValue9 }
open Go.RowKit in
theorem Tryz.strings_IndexByte (s:ByteArray) (c:Int) (w:World) :
  Calls prog 150 #[.string s,.int .u8 c] w fun e w'=>e = .returned (.int .i64 (Lib.indexByte s.data.toList c.toNat.toUInt8))/\w'=w:=Any.strings_IndexByte Tryz.lays137 s c w
def Tryz.lays172_ren:Go.Shelf.Ren:=⟨fun|172=>101|244=>130|245=>131|247=>163|279=>164|280=>165|281=>166|282=>167|287=>190|316=>191|171=>102|205=>192|321=>210|322=>211|243=>132|246=>168|283=>193|284=>194|285=>195|286=>196|129=>213|317=>212|318=>214|319=>215|320=>216|337=>222|338=>223|n=>n,fun|9=>9|3=>3|75=>139|76=>140|4=>4|5=>5|167=>187|37=>64|0=>0|85=>188|2=>2|168=>190|53=>212|175=>213|46=>107|210=>217|127=>233|145=>236|143=>234|21=>21|171=>219|173=>222|212=>238|51=>174|20=>20|213=>239|232=>251|233=>252|80=>224|n=>n,fun|15=>3|16=>4|17=>5|18=>6|19=>7|n=>n⟩
def Tryz.laysM246_ren:Go.Shelf.Ren:=⟨fun|246=>168|283=>193|284=>194|285=>195|286=>196|129=>213|317=>212|318=>214|319=>215|320=>216|337=>222|338=>223|n=>n,fun|2=>2|3=>3|9=>9|4=>4|171=>219|0=>0|53=>212|37=>64|5=>5|173=>222|212=>238|51=>174|20=>20|213=>239|46=>107|232=>251|233=>252|n=>n,fun|17=>5|18=>6|19=>7|n=>n⟩
def Tryz.laysM243_ren:Go.Shelf.Ren:=⟨fun|243=>132|246=>168|283=>193|284=>194|285=>195|286=>196|129=>213|317=>212|318=>214|319=>215|320=>216|337=>222|338=>223|n=>n,fun|3=>3|9=>9|2=>2|4=>4|171=>219|0=>0|53=>212|37=>64|5=>5|173=>222|212=>238|51=>174|20=>20|213=>239|46=>107|232=>251|233=>252|n=>n,fun|17=>5|18=>6|19=>7|n=>n⟩
def Tryz.laysM171_ren:Go.Shelf.Ren:=⟨fun|171=>102|243=>132|246=>168|283=>193|284=>194|285=>195|286=>196|129=>213|317=>212|318=>214|319=>215|320=>216|337=>222|338=>223|n=>n,fun|3=>3|9=>9|2=>2|4=>4|171=>219|0=>0|53=>212|37=>64|5=>5|173=>222|212=>238|51=>174|20=>20|213=>239|46=>107|232=>251|233=>252|n=>n,fun|17=>5|18=>6|19=>7|n=>n⟩
theorem Tryz.laysM171:Go.Proofs.LaysM.n171 prog Tryz.laysM171_ren:={
 mixed:=by kernel_rfl
 f129:=func213.trans (congrArg some (by kernel_rfl))
 f171:=func102.trans (congrArg some (by kernel_rfl))
 f243:=func132.trans (congrArg some (by kernel_rfl))
 f246:=func168.trans (congrArg some (by kernel_rfl))
 f283:=func193.trans (congrArg some (by kernel_rfl))
 f284:=func194.trans (congrArg some (by kernel_rfl))
 f285:=func195.trans (congrArg some (by kernel_rfl))
 f286:=func196.trans (congrArg some (by kernel_rfl))
 f317:=func212.trans (congrArg some (by kernel_rfl))
 f318:=func214.trans (congrArg some (by kernel_rfl))
 f319:=func215.trans (congrArg some (by kernel_rfl))
 f320:=func216.trans (congrArg some (by kernel_rfl))
 f337:=func222.trans (congrArg some (by kernel_rfl))
 f338:=func223.trans (congrArg some (by kernel_rfl))
 t0:=underlying0
 a0:=isAgg0
 z0:=sizeOf0
 v0:=zeroValue0
 t2:=underlying2
 a2:=isAgg2
 z2:=sizeOf2
 v2:=zeroValue2
 t3:=underlying3
 a3:=isAgg3
 z3:=sizeOf3
 v3:=zeroValue3
 t4:=underlying4
 a4:=isAgg4
 z4:=sizeOf4
 v4:=zeroValue4
 t5:=underlying5
 a5:=isAgg5
 z5:=sizeOf5
 v5:=zeroValue5
 t9:=underlying9
 a9:=isAgg9
 z9:=sizeOf9
 v9:=zeroValue9
 t20:=underlying20
 a20:=isAgg20
 z20:=sizeOf20
 v20:=zeroValue20
 t37:=underlying64
 a37:=isAgg64
 z37:=sizeOf64
 v37:=zeroValue64
 t46:=underlying107
 a46:=isAgg107
 z46:=sizeOf107
 v46:=zeroValue107
 t51:=underlying174
 a51:=isAgg174
 z51:=sizeOf174
 v51:=zeroValue174
 t53:=underlying212
 a53:=isAgg212
 z53:=sizeOf212
 v53:=zeroValue212
 t171:=underlying219
 a171:=isAgg219
 z171:=sizeOf219
 v171:=zeroValue219
 t173:=underlying222
 a173:=isAgg222
 z173:=sizeOf222
 v173:=zeroValue222
 t212:=underlying238
 a212:=isAgg238
 z212:=sizeOf238
 v212:=zeroValue238
 t213:=underlying239
 a213:=isAgg239
 z213:=sizeOf239
 t232:=underlying251
 a232:=isAgg251
 z232:=sizeOf251
 v232:=zeroValue251
 t233:=underlying252
 a233:=isAgg252
 z233:=sizeOf252
 v233:=zeroValue252
 g17:=by kernel_rfl
 g18:=by kernel_rfl
 g19:=by kernel_rfl
 i0:=by kernel_rfl
 i2:=by kernel_rfl
 i3:=by kernel_rfl
 i4:=by kernel_rfl
 i5:=by kernel_rfl
 i9:=by kernel_rfl
 i20:=by kernel_rfl
 i37:=by kernel_rfl
 i46:=by kernel_rfl
 i51:=by kernel_rfl
 i53:=by kernel_rfl
 i171:=by kernel_rfl
 i173:=by kernel_rfl
 i212:=by kernel_rfl
 i232:=by kernel_rfl
 i233:=by kernel_rfl
 m17:=by kernel_rfl
 m18:=by kernel_rfl
 m19:=by kernel_rfl }
open Go.RowKit Go.Sort Go.Lib in
theorem Tryz.strconv_Itoa (n:Int) (i : -9223372036854775808<=n) (h1:n<=9223372036854775807) (w:World) (j:Lib.TabIs prog w "internal/strconv.uint64pow10" .u64 Lib.pow10Tab) :
  Calls prog 102 #[.int .i64 n] w fun e w'=>e = .returned (.string ⟨(Lib.itoa n).toArray⟩)/\∃ k os,w'=grow (w.drewN k) os:=Any.strconv_Itoa Tryz.laysM171 n i h1 w j
def Tryz.laysC172_ren:Go.Shelf.Ren:=⟨fun|172=>101|244=>130|245=>131|247=>163|279=>164|280=>165|281=>166|282=>167|287=>190|316=>191|171=>102|205=>192|321=>210|322=>211|243=>132|246=>168|283=>193|284=>194|285=>195|286=>196|129=>213|317=>212|318=>214|319=>215|320=>216|337=>222|338=>223|n=>n,fun|9=>9|3=>3|75=>139|76=>140|4=>4|5=>5|167=>187|37=>64|0=>0|85=>188|2=>2|168=>190|53=>212|175=>213|46=>107|210=>217|127=>233|145=>236|143=>234|21=>21|171=>219|173=>222|212=>238|51=>174|20=>20|213=>239|232=>251|233=>252|80=>224|n=>n,fun|15=>3|16=>4|17=>5|18=>6|19=>7|n=>n⟩
theorem Tryz.laysC172:Go.Proofs.LaysC.n172 prog Tryz.laysC172_ren:={
 mixed:=by kernel_rfl
 f129:=func213.trans (congrArg some (by kernel_rfl))
 f171:=func102.trans (congrArg some (by kernel_rfl))
 f172:=func101.trans (congrArg some (by kernel_rfl))
 f205:=func192.trans (congrArg some (by kernel_rfl))
 f243:=func132.trans (congrArg some (by kernel_rfl))
 f244:=func130.trans (congrArg some (by kernel_rfl))
 f245:=func131.trans (congrArg some (by kernel_rfl))
 f246:=func168.trans (congrArg some (by kernel_rfl))
 f247:=func163.trans (congrArg some (by kernel_rfl))
 f279:=func164.trans (congrArg some (by kernel_rfl))
 f280:=func165.trans (congrArg some (by kernel_rfl))
 f281:=func166.trans (congrArg some (by kernel_rfl))
 f282:=func167.trans (congrArg some (by kernel_rfl))
 f283:=func193.trans (congrArg some (by kernel_rfl))
 f284:=func194.trans (congrArg some (by kernel_rfl))
 f285:=func195.trans (congrArg some (by kernel_rfl))
 f286:=func196.trans (congrArg some (by kernel_rfl))
 f287:=func190.trans (congrArg some (by kernel_rfl))
 f316:=func191.trans (congrArg some (by kernel_rfl))
 f317:=func212.trans (congrArg some (by kernel_rfl))
 f318:=func214.trans (congrArg some (by kernel_rfl))
 f319:=func215.trans (congrArg some (by kernel_rfl))
 f320:=func216.trans (congrArg some (by kernel_rfl))
 f321:=func210.trans (congrArg some (by kernel_rfl))
 f322:=func211.trans (congrArg some (by kernel_rfl))
 f337:=func222.trans (congrArg some (by kernel_rfl))
 f338:=func223.trans (congrArg some (by kernel_rfl))
 t0:=underlying0
 a0:=isAgg0
 z0:=sizeOf0
 v0:=zeroValue0
 t2:=underlying2
 a2:=isAgg2
 z2:=sizeOf2
 v2:=zeroValue2
 t3:=underlying3
 a3:=isAgg3
 z3:=sizeOf3
 v3:=zeroValue3
 t4:=underlying4
 a4:=isAgg4
 z4:=sizeOf4
 v4:=zeroValue4
 t5:=underlying5
 a5:=isAgg5
 z5:=sizeOf5
 v5:=zeroValue5
 t9:=underlying9
 a9:=isAgg9
 z9:=sizeOf9
 v9:=zeroValue9
 t20:=underlying20
 a20:=isAgg20
 z20:=sizeOf20
 v20:=zeroValue20
 t21:=underlying21
 a21:=isAgg21
 z21:=sizeOf21
 v21:=zeroValue21
 t37:=underlying64
 a37:=isAgg64
 z37:=sizeOf64
 v37:=zeroValue64
 t46:=underlying107
 a46:=isAgg107
 z46:=sizeOf107
 v46:=zeroValue107
 t51:=underlying174
 a51:=isAgg174
 z51:=sizeOf174
 v51:=zeroValue174
 t53:=underlying212
 a53:=isAgg212
 z53:=sizeOf212
 v53:=zeroValue212
 t75:=underlying139
 a75:=isAgg139
 z75:=sizeOf139
 v75:=zeroValue139
 t76:=underlying140
 a76:=isAgg140
 z76:=sizeOf140
 v76:=zeroValue140
 t85:=underlying188
 a85:=isAgg188
 z85:=sizeOf188
 v85:=zeroValue188
 t127:=underlying233
 a127:=isAgg233
 z127:=sizeOf233
 v127:=zeroValue233
 t143:=underlying234
 a143:=isAgg234
 z143:=sizeOf234
 v143:=zeroValue234
 t145:=underlying236
 a145:=isAgg236
 z145:=sizeOf236
 v145:=zeroValue236
 t167:=underlying187
 a167:=isAgg187
 z167:=sizeOf187
 v167:=zeroValue187
 t168:=underlying190
 a168:=isAgg190
 z168:=sizeOf190
 v168:=zeroValue190
 t171:=underlying219
 a171:=isAgg219
 z171:=sizeOf219
 v171:=zeroValue219
 t173:=underlying222
 a173:=isAgg222
 z173:=sizeOf222
 v173:=zeroValue222
 t175:=underlying213
 a175:=isAgg213
 z175:=sizeOf213
 v175:=zeroValue213
 t210:=underlying217
 a210:=isAgg217
 z210:=sizeOf217
 v210:=zeroValue217
 t212:=underlying238
 a212:=isAgg238
 z212:=sizeOf238
 v212:=zeroValue238
 t213:=underlying239
 a213:=isAgg239
 z213:=sizeOf239
 t232:=underlying251
 a232:=isAgg251
 z232:=sizeOf251
 v232:=zeroValue251
 t233:=underlying252
 a233:=isAgg252
 z233:=sizeOf252
 v233:=zeroValue252
 g15:=by kernel_rfl
 g16:=by kernel_rfl
 g17:=by kernel_rfl
 g18:=by kernel_rfl
 g19:=by kernel_rfl
 t80:=underlying224
 a80:=isAgg224
 z80:=sizeOf224
 v80:=zeroValue224
 i0:=by kernel_rfl
 i2:=by kernel_rfl
 i3:=by kernel_rfl
 i4:=by kernel_rfl
 i5:=by kernel_rfl
 i9:=by kernel_rfl
 i20:=by kernel_rfl
 i21:=by kernel_rfl
 i37:=by kernel_rfl
 i46:=by kernel_rfl
 i51:=by kernel_rfl
 i53:=by kernel_rfl
 i75:=by kernel_rfl
 i76:=by kernel_rfl
 i80:=by kernel_rfl
 i85:=by kernel_rfl
 i127:=by kernel_rfl
 i143:=by kernel_rfl
 i145:=by kernel_rfl
 i167:=by kernel_rfl
 i168:=by kernel_rfl
 i171:=by kernel_rfl
 i173:=by kernel_rfl
 i175:=by kernel_rfl
 i210:=by kernel_rfl
 i212:=by kernel_rfl
 i232:=by kernel_rfl
 i233:=by kernel_rfl
 m15:=by kernel_rfl
 m16:=by kernel_rfl
 m17:=by kernel_rfl
 m18:=by kernel_rfl
 m19:=by kernel_rfl
 c0:=by kernel_rfl
 c2:=by kernel_rfl
 c3:=by kernel_rfl
 c4:=by kernel_rfl
 c5:=by kernel_rfl
 c9:=by kernel_rfl
 c20:=by kernel_rfl
 c21:=by kernel_rfl
 c37:=by kernel_rfl
 c46:=by kernel_rfl
 c51:=by kernel_rfl
 c53:=by kernel_rfl
 c75:=by kernel_rfl
 c76:=by kernel_rfl
 c80:=by kernel_rfl
 c85:=by kernel_rfl
 c127:=by kernel_rfl
 c143:=by kernel_rfl
 c145:=by kernel_rfl
 c167:=by kernel_rfl
 c168:=by kernel_rfl
 c171:=by kernel_rfl
 c173:=by kernel_rfl
 c175:=by kernel_rfl
 c210:=by kernel_rfl
 c212:=by kernel_rfl
 c213:=by kernel_rfl
 c232:=by kernel_rfl
 c233:=by kernel_rfl }
open Go.RowKit in
theorem Tryz.strconv_Atoi_ok (s:ByteArray) (i:s.size<=9223372036854775806) (v:Int) (h:Lib.atoiAll s.data.toList = .ok v) (w:World) :
  Calls prog 101 #[.string s] w fun e w'=>e = .returned (.tuple #[.int .i64 v,.nilIface])/\(w'=w\/∃ t,w'=Lib.bytesWorld w 5 t):=Any.strconv_Atoi_ok Tryz.laysC172 s i v h w
open Go.RowKit in
theorem Tryz.strconv_Atoi_syntax_var (s:ByteArray) (i:s.size<=281474976710656) (k:∀ v:Int,Lib.atoiAll s.data.toList = .ok v->False) (l:Lib.atoiAll s.data.toList = .range->False) (tp:TypeId) (p:Value) (w:World) (j:w.var? prog "strconv.ErrSyntax" = some #[.iface tp p]) :
  Calls prog 101 #[.string s] w fun e w'=>∃ N,e = .returned (.tuple #[.int .i64 0,.iface 190 (.pointer (some ⟨N,0,none⟩))])/\w.heap.size<=N/\w'.heap[N]?=some (.cells #[.string ⟨#[65,116,111,105]⟩,.string s,.iface tp p] 217 (0,0))/\Below w.heap.size w w':=Any.strconv_Atoi_syntax_var Tryz.laysC172 s i (by cases e:Lib.atoiAll s.data.toList with|ok v=>exact (k v e).elim|range=>exact (l e).elim|_=>rfl) tp p w j
open Go.RowKit in
theorem Tryz.strconv_Atoi_range_var (s:ByteArray) (i:s.size<=281474976710656) (h:Lib.atoiAll s.data.toList = .range) (tp:TypeId) (p:Value) (w:World) (j:w.var? prog "strconv.ErrRange" = some #[.iface tp p]) :
  Calls prog 101 #[.string s] w fun e w'=>∃ N,e = .returned (.tuple #[.int .i64 (Lib.atoiSat s.data.toList),.iface 190 (.pointer (some ⟨N,0,none⟩))])/\w.heap.size<=N/\w'.heap[N]?=some (.cells #[.string ⟨#[65,116,111,105]⟩,.string s,.iface tp p] 217 (0,0))/\Below w.heap.size w w':=Any.strconv_Atoi_range_var Tryz.laysC172 s i h tp p w j
def Tryz.lays219_ren:Go.Shelf.Ren:=⟨fun|219=>188|217=>185|225=>153|224=>152|267=>206|266=>205|314=>218|n=>n,fun|9=>9|3=>3|4=>4|5=>5|46=>107|146=>242|51=>174|n=>n,fun|1=>2|n=>n⟩
def Tryz.lays145_ren:Go.Shelf.Ren:=⟨fun|145=>126|220=>158|219=>188|217=>185|225=>153|224=>152|267=>206|266=>205|314=>218|n=>n,fun|9=>9|4=>4|59=>158|3=>3|5=>5|46=>107|146=>242|51=>174|n=>n,fun|1=>2|n=>n⟩
theorem Tryz.lays145:Go.Proofs.Lays.n145 prog Tryz.lays145_ren:={
 mixed:=by kernel_rfl
 f145:=func126.trans (congrArg some (by kernel_rfl))
 f217:=func185.trans (congrArg some (by kernel_rfl))
 f219:=func188.trans (congrArg some (by kernel_rfl))
 f220:=func158.trans (congrArg some (by kernel_rfl))
 f224:=func152.trans (congrArg some (by kernel_rfl))
 f225:=func153.trans (congrArg some (by kernel_rfl))
 f266:=func205.trans (congrArg some (by kernel_rfl))
 f267:=func206.trans (congrArg some (by kernel_rfl))
 f314:=func218.trans (congrArg some (by kernel_rfl))
 t3:=underlying3
 a3:=isAgg3
 z3:=sizeOf3
 v3:=zeroValue3
 t4:=underlying4
 a4:=isAgg4
 z4:=sizeOf4
 v4:=zeroValue4
 t5:=underlying5
 a5:=isAgg5
 z5:=sizeOf5
 v5:=zeroValue5
 t9:=underlying9
 a9:=isAgg9
 z9:=sizeOf9
 v9:=zeroValue9
 t46:=underlying107
 a46:=isAgg107
 z46:=sizeOf107
 v46:=zeroValue107
 t51:=underlying174
 a51:=isAgg174
 z51:=sizeOf174
 v51:=zeroValue174
 t59:=underlying158
 a59:=isAgg158
 z59:=sizeOf158
 v59:=zeroValue158
 t146:=underlying242
 a146:=isAgg242
 z146:=sizeOf242
 v146:=zeroValue242
 g1:=by kernel_rfl }
open Go.RowKit Go.Lib in
theorem Tryz.strings_Cut (s i:ByteArray) (m:Int) (w:World) (hs:s.size<4294967281) (j:w.cell? ⟨2,0,none⟩=some (.int .i64 m)) :
  Calls prog 126 #[.string s,.string i] w fun e w'=>e = .returned (.tuple #[.string ⟨(Lib.cut s.data.toList i.data.toList).1.toArray⟩,.string ⟨(Lib.cut s.data.toList i.data.toList).2.1.toArray⟩,.bool (Lib.cut s.data.toList i.data.toList).2.2])/\∃ n,w'=w.drewN n:=Any.strings_Cut Tryz.lays145 s i m w hs j
def Tryz.laysM145_ren:Go.Shelf.Ren:=⟨fun|145=>126|220=>158|219=>188|217=>185|225=>153|224=>152|267=>206|266=>205|314=>218|n=>n,fun|9=>9|4=>4|59=>158|3=>3|5=>5|46=>107|146=>242|51=>174|n=>n,fun|1=>2|n=>n⟩
theorem Tryz.laysM145:Go.Proofs.LaysM.n145 prog Tryz.laysM145_ren:={
 mixed:=by kernel_rfl
 f145:=func126.trans (congrArg some (by kernel_rfl))
 f217:=func185.trans (congrArg some (by kernel_rfl))
 f219:=func188.trans (congrArg some (by kernel_rfl))
 f220:=func158.trans (congrArg some (by kernel_rfl))
 f224:=func152.trans (congrArg some (by kernel_rfl))
 f225:=func153.trans (congrArg some (by kernel_rfl))
 f266:=func205.trans (congrArg some (by kernel_rfl))
 f267:=func206.trans (congrArg some (by kernel_rfl))
 f314:=func218.trans (congrArg some (by kernel_rfl))
 t3:=underlying3
 a3:=isAgg3
 z3:=sizeOf3
 v3:=zeroValue3
 t4:=underlying4
 a4:=isAgg4
 z4:=sizeOf4
 v4:=zeroValue4
 t5:=underlying5
 a5:=isAgg5
 z5:=sizeOf5
 v5:=zeroValue5
 t9:=underlying9
 a9:=isAgg9
 z9:=sizeOf9
 v9:=zeroValue9
 t46:=underlying107
 a46:=isAgg107
 z46:=sizeOf107
 v46:=zeroValue107
 t51:=underlying174
 a51:=isAgg174
 z51:=sizeOf174
 v51:=zeroValue174
 t59:=underlying158
 a59:=isAgg158
 z59:=sizeOf158
 v59:=zeroValue158
 t146:=underlying242
 a146:=isAgg242
 z146:=sizeOf242
 v146:=zeroValue242
 g1:=by kernel_rfl
 i3:=by kernel_rfl
 i4:=by kernel_rfl
 i5:=by kernel_rfl
 i9:=by kernel_rfl
 i46:=by kernel_rfl
 i51:=by kernel_rfl
 i59:=by kernel_rfl
 i146:=by kernel_rfl
 m1:=by kernel_rfl
 s1_3:=fun w h=>Go.Proofs.cell_of_shapedOpen_int (zero:=#[.int .i64 0]) (t:=3) h (of_decide_eq_true (by kernel_rfl)) (by kernel_rfl) rfl (by kernel_rfl) (by kernel_rfl) underlying3 }
def Tryz.lays221_ren:Go.Shelf.Ren:=⟨fun|221=>189|268=>207|138=>208|143=>209|195=>219|197=>220|218=>221|219=>188|260=>227|217=>185|225=>153|224=>152|267=>206|266=>205|314=>218|n=>n,fun|9=>9|3=>3|31=>25|4=>4|0=>0|105=>245|21=>21|5=>5|46=>107|119=>155|139=>255|138=>254|146=>242|51=>174|n=>n,fun|1=>2|3=>8|4=>9|n=>n⟩
def Tryz.lays146_ren:Go.Shelf.Ren:=⟨fun|146=>159|221=>189|268=>207|138=>208|143=>209|195=>219|197=>220|218=>221|219=>188|260=>227|217=>185|225=>153|224=>152|267=>206|266=>205|314=>218|n=>n,fun|9=>9|31=>25|3=>3|4=>4|0=>0|105=>245|21=>21|5=>5|46=>107|119=>155|139=>255|138=>254|146=>242|51=>174|n=>n,fun|1=>2|3=>8|4=>9|n=>n⟩
theorem Tryz.lays146:Go.Proofs.Lays.n146 prog Tryz.lays146_ren:={
 mixed:=by kernel_rfl
 f138:=func208.trans (congrArg some (by kernel_rfl))
 f143:=func209.trans (congrArg some (by kernel_rfl))
 f146:=func159.trans (congrArg some (by kernel_rfl))
 f195:=func219.trans (congrArg some (by kernel_rfl))
 f197:=func220.trans (congrArg some (by kernel_rfl))
 f217:=func185.trans (congrArg some (by kernel_rfl))
 f218:=func221.trans (congrArg some (by kernel_rfl))
 f219:=func188.trans (congrArg some (by kernel_rfl))
 f221:=func189.trans (congrArg some (by kernel_rfl))
 f224:=func152.trans (congrArg some (by kernel_rfl))
 f225:=func153.trans (congrArg some (by kernel_rfl))
 f260:=func227.trans (congrArg some (by kernel_rfl))
 f266:=func205.trans (congrArg some (by kernel_rfl))
 f267:=func206.trans (congrArg some (by kernel_rfl))
 f268:=func207.trans (congrArg some (by kernel_rfl))
 f314:=func218.trans (congrArg some (by kernel_rfl))
 t0:=underlying0
 a0:=isAgg0
 z0:=sizeOf0
 v0:=zeroValue0
 t3:=underlying3
 a3:=isAgg3
 z3:=sizeOf3
 v3:=zeroValue3
 t4:=underlying4
 a4:=isAgg4
 z4:=sizeOf4
 v4:=zeroValue4
 t5:=underlying5
 a5:=isAgg5
 z5:=sizeOf5
 v5:=zeroValue5
 t9:=underlying9
 a9:=isAgg9
 z9:=sizeOf9
 v9:=zeroValue9
 t21:=underlying21
 a21:=isAgg21
 z21:=sizeOf21
 v21:=zeroValue21
 t31:=underlying25
 a31:=isAgg25
 z31:=sizeOf25
 v31:=zeroValue25
 t46:=underlying107
 a46:=isAgg107
 z46:=sizeOf107
 v46:=zeroValue107
 t51:=underlying174
 a51:=isAgg174
 z51:=sizeOf174
 v51:=zeroValue174
 t105:=underlying245
 a105:=isAgg245
 z105:=sizeOf245
 v105:=zeroValue245
 t119:=underlying155
 a119:=isAgg155
 z119:=sizeOf155
 t138:=underlying254
 a138:=isAgg254
 z138:=sizeOf254
 v138:=zeroValue254
 t139:=underlying255
 a139:=isAgg255
 z139:=sizeOf255
 v139:=zeroValue255
 t146:=underlying242
 a146:=isAgg242
 z146:=sizeOf242
 v146:=zeroValue242
 g1:=by kernel_rfl
 g3:=by kernel_rfl
 g4:=by kernel_rfl }
open Go.RowKit Go.Lib in
theorem Tryz.strings_Split (s i:ByteArray) (m:Int) (w:World) (hs:s.size<4294967281) (j:w.cell? ⟨2,0,none⟩=some (.int .i64 m)) (h1:1<=i.size) :
  Calls prog 159 #[.string s,.string i] w fun e w'=>
   e = .returned (.slice (some ⟨w.heap.size,0,none⟩) (Lib.countB s i+1) (Lib.countB s i+1))/\w'=w.alloc (.cells ((Lib.splitB i 0 (Lib.countB s i) s).map Value.string).toArray 9):=Any.strings_Split Tryz.lays146 (by kernel_rfl) s i m w hs j h1
def Tryz.lays157_ren:Go.Shelf.Ren:=⟨fun|157=>98|229=>123|199=>124|261=>154|311=>186|312=>187|n=>n,fun|9=>9|31=>25|3=>3|5=>5|4=>4|119=>155|0=>0|40=>132|152=>171|21=>21|154=>173|51=>174|141=>176|196=>202|193=>199|198=>205|49=>203|194=>200|201=>208|226=>229|46=>107|227=>230|n=>n,fun|0=>0|6=>1|n=>n⟩
def Tryz.laysM157_ren:Go.Shelf.Ren:=⟨fun|157=>98|229=>123|199=>124|261=>154|311=>186|312=>187|n=>n,fun|9=>9|31=>25|3=>3|5=>5|4=>4|119=>155|0=>0|40=>132|152=>171|21=>21|154=>173|51=>174|141=>176|196=>202|193=>199|198=>205|49=>203|194=>200|201=>208|226=>229|46=>107|227=>230|n=>n,fun|0=>0|6=>1|n=>n⟩
theorem Tryz.laysM157:Go.Proofs.LaysM.n157 prog Tryz.laysM157_ren:={
 mixed:=by kernel_rfl
 f157:=func98.trans (congrArg some (by kernel_rfl))
 f199:=func124.trans (congrArg some (by kernel_rfl))
 f229:=func123.trans (congrArg some (by kernel_rfl))
 f261:=func154.trans (congrArg some (by kernel_rfl))
 f311:=func186.trans (congrArg some (by kernel_rfl))
 f312:=func187.trans (congrArg some (by kernel_rfl))
 t0:=underlying0
 a0:=isAgg0
 z0:=sizeOf0
 v0:=zeroValue0
 t3:=underlying3
 a3:=isAgg3
 z3:=sizeOf3
 v3:=zeroValue3
 t4:=underlying4
 a4:=isAgg4
 z4:=sizeOf4
 v4:=zeroValue4
 t5:=underlying5
 a5:=isAgg5
 z5:=sizeOf5
 v5:=zeroValue5
 t9:=underlying9
 a9:=isAgg9
 z9:=sizeOf9
 v9:=zeroValue9
 t21:=underlying21
 a21:=isAgg21
 z21:=sizeOf21
 v21:=zeroValue21
 t31:=underlying25
 a31:=isAgg25
 z31:=sizeOf25
 v31:=zeroValue25
 t40:=underlying132
 a40:=isAgg132
 z40:=sizeOf132
 v40:=zeroValue132
 t46:=underlying107
 a46:=isAgg107
 z46:=sizeOf107
 v46:=zeroValue107
 t49:=underlying203
 a49:=isAgg203
 z49:=sizeOf203
 v49:=zeroValue203
 t51:=underlying174
 a51:=isAgg174
 z51:=sizeOf174
 v51:=zeroValue174
 t119:=underlying155
 a119:=isAgg155
 z119:=sizeOf155
 t141:=underlying176
 a141:=isAgg176
 z141:=sizeOf176
 v141:=zeroValue176
 t152:=underlying171
 a152:=isAgg171
 z152:=sizeOf171
 v152:=zeroValue171
 t154:=underlying173
 a154:=isAgg173
 z154:=sizeOf173
 v154:=zeroValue173
 t193:=underlying199
 a193:=isAgg199
 z193:=sizeOf199
 v193:=zeroValue199
 t194:=underlying200
 a194:=isAgg200
 z194:=sizeOf200
 v194:=zeroValue200
 t196:=underlying202
 a196:=isAgg202
 z196:=sizeOf202
 v196:=zeroValue202
 t198:=underlying205
 a198:=isAgg205
 z198:=sizeOf205
 v198:=zeroValue205
 t201:=underlying208
 a201:=isAgg208
 z201:=sizeOf208
 v201:=zeroValue208
 t226:=underlying229
 a226:=isAgg229
 z226:=sizeOf229
 v226:=zeroValue229
 t227:=underlying230
 a227:=isAgg230
 z227:=sizeOf230
 v227:=zeroValue230
 g0:=by kernel_rfl
 g6:=by kernel_rfl
 i0:=by kernel_rfl
 i3:=by kernel_rfl
 i4:=by kernel_rfl
 i5:=by kernel_rfl
 i9:=by kernel_rfl
 i21:=by kernel_rfl
 i31:=by kernel_rfl
 i40:=by kernel_rfl
 i46:=by kernel_rfl
 i49:=by kernel_rfl
 i51:=by kernel_rfl
 i141:=by kernel_rfl
 i152:=by kernel_rfl
 i154:=by kernel_rfl
 i193:=by kernel_rfl
 i194:=by kernel_rfl
 i196:=by kernel_rfl
 i198:=by kernel_rfl
 i201:=by kernel_rfl
 i226:=by kernel_rfl
 i227:=by kernel_rfl
 m0:=by kernel_rfl
 m6:=by kernel_rfl }
open Go.RowKit Go.Lib in
theorem Tryz.strings_Fields_laid (s:ByteArray) (w:World) (hs:s.size<4294967281) (i:∀ (j:Nat) b,s.data.toList[j]?=some b->b.toNat<128) (k:Lib.TabIs prog w "strings.asciiSpace" .u8 Lib.asciiSpaceTab) :
  Calls prog 98 #[.string s] w fun e w'=>
   e = .returned (.slice (some ⟨w.heap.size,0,none⟩) (Lib.fields s.data.toList).length (Lib.fields s.data.toList).length)/\w'=w.alloc (.cells ((Lib.fields s.data.toList).map fun l=>Value.string ⟨l.toArray⟩).toArray 9):=Any.strings_Fields_laid Tryz.laysM157 s w hs i k
def Tryz.lays151_ren:Go.Shelf.Ren:=⟨fun|151=>92|152=>121|137=>150|119=>151|224=>152|225=>153|217=>185|266=>205|n=>n,fun|9=>9|21=>21|4=>4|3=>3|5=>5|0=>0|46=>107|n=>n,fun|n=>n⟩
theorem Tryz.lays151:Go.Proofs.Lays.n151 prog Tryz.lays151_ren:={
 mixed:=by kernel_rfl
 f119:=func151.trans (congrArg some (by kernel_rfl))
 f137:=func150.trans (congrArg some (by kernel_rfl))
 f151:=func92.trans (congrArg some (by kernel_rfl))
 f152:=func121.trans (congrArg some (by kernel_rfl))
 f217:=func185.trans (congrArg some (by kernel_rfl))
 f224:=func152.trans (congrArg some (by kernel_rfl))
 f225:=func153.trans (congrArg some (by kernel_rfl))
 f266:=func205.trans (congrArg some (by kernel_rfl))
 t0:=underlying0
 a0:=isAgg0
 z0:=sizeOf0
 v0:=zeroValue0
 t3:=underlying3
 a3:=isAgg3
 z3:=sizeOf3
 v3:=zeroValue3
 t4:=underlying4
 a4:=isAgg4
 z4:=sizeOf4
 v4:=zeroValue4
 t5:=underlying5
 a5:=isAgg5
 z5:=sizeOf5
 v5:=zeroValue5
 t9:=underlying9
 a9:=isAgg9
 z9:=sizeOf9
 v9:=zeroValue9
 t21:=underlying21
 a21:=isAgg21
 z21:=sizeOf21
 v21:=zeroValue21
 t46:=underlying107
 a46:=isAgg107
 z46:=sizeOf107
 v46:=zeroValue107 }
open Go.RowKit Go.Lib in
theorem Tryz.strings_ContainsRune_ascii (s:ByteArray) (r:Int) (w:World) (i:0<=r) (h1:r<128) :
  Calls prog 92 #[.string s,.int .i32 r] w fun e w'=>e = .returned (.bool (decide (0<=Lib.indexByte s.data.toList r.toNat.toUInt8)))/\w'=w:=Any.strings_ContainsRune_ascii Tryz.lays151 s r w i h1
def Tryz.lays150_ren:Go.Shelf.Ren:=⟨fun|150=>99|153=>125|152=>121|226=>155|227=>156|228=>157|137=>150|119=>151|224=>152|225=>153|217=>185|266=>205|n=>n,fun|9=>9|4=>4|3=>3|5=>5|21=>21|117=>180|116=>179|0=>0|46=>107|124=>210|n=>n,fun|n=>n⟩
theorem Tryz.lays150:Go.Proofs.Lays.n150 prog Tryz.lays150_ren:={
 mixed:=by kernel_rfl
 f119:=func151.trans (congrArg some (by kernel_rfl))
 f137:=func150.trans (congrArg some (by kernel_rfl))
 f150:=func99.trans (congrArg some (by kernel_rfl))
 f152:=func121.trans (congrArg some (by kernel_rfl))
 f153:=func125.trans (congrArg some (by kernel_rfl))
 f217:=func185.trans (congrArg some (by kernel_rfl))
 f224:=func152.trans (congrArg some (by kernel_rfl))
 f225:=func153.trans (congrArg some (by kernel_rfl))
 f226:=func155.trans (congrArg some (by kernel_rfl))
 f227:=func156.trans (congrArg some (by kernel_rfl))
 f228:=func157.trans (congrArg some (by kernel_rfl))
 f266:=func205.trans (congrArg some (by kernel_rfl))
 t0:=underlying0
 a0:=isAgg0
 z0:=sizeOf0
 v0:=zeroValue0
 t3:=underlying3
 a3:=isAgg3
 z3:=sizeOf3
 v3:=zeroValue3
 t4:=underlying4
 a4:=isAgg4
 z4:=sizeOf4
 v4:=zeroValue4
 t5:=underlying5
 a5:=isAgg5
 z5:=sizeOf5
 v5:=zeroValue5
 t9:=underlying9
 a9:=isAgg9
 z9:=sizeOf9
 v9:=zeroValue9
 t21:=underlying21
 a21:=isAgg21
 z21:=sizeOf21
 v21:=zeroValue21
 t46:=underlying107
 a46:=isAgg107
 z46:=sizeOf107
 v46:=zeroValue107
 t116:=underlying179
 a116:=isAgg179
 z116:=sizeOf179
 t117:=underlying180
 a117:=isAgg180
 z117:=sizeOf180
 v117:=zeroValue180
 t124:=underlying210
 a124:=isAgg210
 z124:=sizeOf210
 v124:=zeroValue210 }
open Go.RowKit Go.Lib in
theorem Tryz.strings_ContainsAny_laid (s i:ByteArray) (w:World) (hs:s.size<4294967281) (l:i.size<4294967281) (has:∀ (j:Nat) b,s.data.toList[j]?=some b->b.toNat<128) (k:∀ (j:Nat) b,i.data.toList[j]?=some b->b.toNat<128) :
  Calls prog 99 #[.string s,.string i] w fun e w'=>e = .returned (.bool (Lib.containsAny s.data.toList i.data.toList))/\Below w.heap.size w w':=Any.strings_ContainsAny_laid Tryz.lays150 (by kernel_rfl) s i w hs l has k
end
end Go.Proofs
namespace Go.Proofs.YtjeekocidaogoaaGreatDoor.Hand
open Go.RowKit
section
structure Inv (w:World):Prop where
 space:Lib.TabIs prog w "strings.asciiSpace" .u8 Lib.asciiSpaceTab
 pow10:Lib.TabIs prog w "internal/strconv.uint64pow10" .u64 Lib.pow10Tab
 errS:∃ tp p,w.var? prog "strconv.ErrSyntax" = some #[.iface tp p]
 errR:∃ tp p,w.var? prog "strconv.ErrRange" = some #[.iface tp p]
 maxLen:∃ m,w.cell? ⟨2,0,none⟩=some (.int .i64 m)
theorem var_lt {w:World} {n:String} {g:Nat} {cs:Array Value} (hg:prog.globalNamed n=some g) (i:w.var? prog n=some cs):g<w.heap.size:=by
 unfold World.var? at i;simp only [hg,Option.bind_some] at i;cases j:w.heap[g]? with
 | none=>rw [j] at i;simp at i
 | some o=>exact (Array.getElem?_eq_some_iff.1 j).1
theorem zkv {w w':World} {n:String} {g:Nat} {cs:Array Value} (hg:prog.globalNamed n=some g) (j:Below w.heap.size w w') (i:w.var? prog n=some cs):w'.var? prog n=some cs:=
 var?_below j hg (var_lt hg i) i
theorem Inv.below {w w':World} (h:Inv w) (i:Below w.heap.size w w'):Inv w' where
 space:=zkv (g:=0) (by kernel_rfl) i h.space
 pow10:=zkv (g:=5) (by kernel_rfl) i h.pow10
 errS:=let ⟨tp,p,hp⟩:=h.errS;⟨tp,p,zkv (g:=3) (by kernel_rfl) i hp⟩
 errR:=let ⟨tp,p,hp⟩:=h.errR;⟨tp,p,zkv (g:=4) (by kernel_rfl) i hp⟩
 maxLen:=let ⟨m,j⟩:=h.maxLen;⟨m,by rw [i.cell (World.block_lt_of_cell? _ _ j)];exact j⟩
end
end Go.Proofs.YtjeekocidaogoaaGreatDoor.Hand
section
namespace Go.Proofs.YtjeekocidaogoaaGreatDoorW.PrintWords
open Go.RowKit
structure Zq (p:Prop):Prop where mk::(o:p)
theorem kge {a b c:Nat} (h:b=c) (k:a<=c):a<=b:=h▸k
abbrev qaa:=@Option.some.inj
abbrev qab:=@heap_alloc_new
abbrev qac:=@decide_eq_true
abbrev qad:=@Nat.le_refl
abbrev qae:=@World.size_alloc
abbrev qaf:=@bodyPost_ret
abbrev qag:=@List.getElem?_cons_zero
abbrev qah:=@beq_eq_false_iff_ne
abbrev qai:=@Option.some.injEq
abbrev qaj:=@List.getElem?_toArray
abbrev qak:=@decide_eq_false
abbrev qal:=@List.length_append
abbrev qam:=@Option.bind_some
abbrev qan:=@Below.refl
abbrev qao:=@List.getElem?_eq_getElem
abbrev qap:=@Prod.mk.injEq
abbrev qaq:=@bne_eq_false_iff_eq
abbrev qar:=@beq_iff_eq
abbrev qas:=@Nat.le_trans
abbrev qat:=@List.getD_eq_getElem?_getD
abbrev qau:=@results_cell_row
abbrev qav:=@List.getElem?_eq_some_iff
abbrev qaw:=@List.getElem?_cons_succ
abbrev qax:=@Int.toNat_natCast
abbrev qay:=@List.length_singleton
abbrev qaz:=@List.drop_of_length_le
abbrev qba:=@Option.bind_eq_some_iff
abbrev qbb:=@results_none
abbrev qbc:=@bne_iff_ne
abbrev qbd:=@List.getElem?_append_right
abbrev qbe:=@List.length_cons
abbrev qbf:=@Bool.eq_false_iff
abbrev qbg:=@List.getElem?_append_left
abbrev qbh:=@List.drop_eq_getElem_cons
abbrev qbi:=@List.mem_append
abbrev qbj:=@Bool.and_eq_true
abbrev qbk:=@List.mem_singleton
abbrev qbl:=@List.append_assoc
abbrev qbm:=@Below.heap_alloc
abbrev qbn:=@Below.heap_setCell
abbrev qbo:=@of_decide_eq_true
abbrev qbp:=@Nat.mul_le_mul_right
abbrev qbq:=@List.length_take
abbrev qbr:=@List.length_drop
abbrev qbs:=@World.block_lt_of_cell?
abbrev qbt:=@Bool.false_eq_true
abbrev qbu:=@Option.map_eq_some_iff
abbrev qbv:=@List.all_eq_true
abbrev qbw:=@decide_eq_true_iff
abbrev qbx:=@Nat.zero_le
abbrev qby:=@List.take_succ_cons
abbrev qbz:=@List.mem_of_getElem?
abbrev qca:=@Nat.le_of_not_lt
abbrev qcb:=@List.takeWhile_cons_of_pos
abbrev qcc:=@List.takeWhile_cons_of_neg
abbrev qcd:=@Nat.le_antisymm
abbrev qce:=@Nat.lt_of_lt_of_le
abbrev qcf:=@List.map_cons
abbrev qcg:=@List.sublist_append_left
abbrev qch:=@List.mem_cons_of_mem
abbrev qci:=@List.length_map
abbrev qcj:=@List.mem_cons
theorem kbd {α β:Type} {x:Option α} {f:α->Option β} {r:β} (h:x.bind f=some r):∃ t,Zq (x=some t)/\f t=some r:=by
 obtain ⟨t,h1,i⟩:=qba.mp h;exact ⟨t,⟨h1⟩,i⟩
theorem kft:¬(false=true):=by decide
theorem kfx {α:Type} {a:Option α} {x y:α} (h:a=some x) (k:x=y:=by kernel_rfl):a=some y:=h.trans (congrArg some k)
theorem kao {p:Prop} [Decidable p] (h:decide p=true:=by first|(with_reducible assumption)|assumption):p:=qbo h
theorem kaa {p:Prop} (h:p:=by repeat (first|(with_reducible first|exact HB.o|apply zad|apply zaa|apply zae)|exact HB.o)):p:=h
theorem kab {p:Prop} (h:p:=by omega):p:=h
theorem kac {p:Prop} (h:p:=by (try simp only [List.map_toArray,qcf,List.map_nil]);first|done|rfl|(simp only [qbr,qbq];rfl)):p:=h
theorem kad {p:Prop} (h:p:=by decide):p:=h
theorem kae {p:Prop} (h:p:=by kernel_rfl):p:=h
theorem kaf {p:Prop} (h:p:=by first|rfl|(simp;done)|(simp [*];done)):p:=h
theorem kag {p:Prop} (h:p:=by first|exact hF|exact zal hF|exact hF.undrew|exact zal hF.undrew|exact (zal hF).undrew):p:=h
theorem kah {p:Prop} (h:p:=by show ¬W.heap.size=g;omega):p:=h
theorem kai {p:Prop} (h:p:=by (with_reducible repeat (first|refine zah ?_ _|refine zak ?_|refine zaf ?_ _));refine zan (cs:=#[.int .i64 t132,.int .i64 0]) ?_ 1 _ rfl;(with_reducible repeat (first|refine zah ?_ _|refine zak ?_|refine zaf ?_ _));refine zan (cs:=#[.int .i64 0,.int .i64 0]) ?_ 0 _ rfl;(with_reducible repeat (first|refine zah ?_ _|refine zak ?_|refine zaf ?_ _));exact ai.o):p:=h
theorem kaj {p:Prop} (h:p:=by (with_reducible repeat (first|apply Kd.R_alloc|apply Kd.R_drewN|apply Kd.R_drew));exact aq.o):p:=h
theorem kak {p:Prop} (h:p:=by first|exact aj.o|exact zaa aj.o _|exact zaa (zaa aj.o _) _|exact zaa (zaa (zaa aj.o _) _) _):p:=h
theorem kal {p:Prop} (h:p:=by repeat (first|(with_reducible first|exact HB.o|apply zad|apply zaa|apply zae|refine zaj ?_ bg.o)|exact HB.o)):p:=h
theorem kam {p:Prop} (h:p:=by repeat (first|(with_reducible first|exact HB.o|apply zad|apply zaa|apply zae|refine zaj ?_ bg.o|refine zaj ?_ bh.o)|exact HB.o)):p:=h
theorem kan {p:Prop} (h:p:=by first|exact HX.o.st|exact HX.o.st.drewN _|exact HX.o.st.drew|exact (HX.o.st.drewN _).drew):p:=h
theorem kap {p:Prop} (h:p:=by (repeat (first|(with_reducible refine zah ?_ _)|(with_reducible refine zak ?_)|(with_reducible refine zaf ?_ _)|refine zav ?_ ar.o _));(with_reducible repeat (first|refine zah ?_ _|refine zak ?_|refine zaf ?_ _));exact ah.o):p:=h
theorem kaq {p:Prop} (h:p:=by repeat (first|(with_reducible first|exact HB.o|apply zad|apply zaa|apply zae|refine zaj ?_ bf.o)|exact HB.o)):p:=h
theorem kar {p:Prop} (h:p:=by (with_reducible repeat (first|refine zah ?_ _|refine zak ?_|refine zaf ?_ _));exact al.o):p:=h
theorem kas {p:Prop} (h:p:=by (with_reducible repeat (first|refine zah ?_ _|refine zak ?_|refine zaf ?_ _));exact ah.o):p:=h
theorem kat {p:Prop} (h:p:=by have:(0:Int)<(a0.size:Int):=qbo (by first|(with_reducible assumption)|assumption);omega):p:=h
theorem kau {p:Prop} (h:p:=by repeat (first|(with_reducible first|exact HB.o|apply zad|apply zaa|apply zae|refine zaj ?_ bi.o|refine zaj ?_ bj.o)|exact HB.o)):p:=h
theorem kav {p:Prop} (h:p:=by show W.heap.size<=W.heap.size+1+1;omega):p:=h
theorem kaw {p:Prop} (h:p:=by first|exact HX.o.st|exact HX.o.st.drew|exact HX.o.st.drewN _|exact (HX.o.st.drewN _).drew|exact HX.o.st.drew.drew):p:=h
theorem kax {p:Prop} (h:p:=by rw [qae];omega):p:=h
theorem kay {p:Prop} (h:p:=by first|exact ae.o|exact HD.o ae.o):p:=h
theorem kaz {p:Prop} (h:p:=by show ¬W.heap.size=W.heap.size+1+1;omega):p:=h
theorem kba {p:Prop} (h:p:=by (with_reducible repeat (first|refine zah ?_ _|refine zak ?_|refine zaf ?_ _));exact ao.o):p:=h
theorem kbb {p:Prop} (h:p:=by (with_reducible repeat (first|refine zah ?_ _|refine zak ?_|refine zaf ?_ _));refine zan (cs:=#[.int .i64 t132,.int .i64 0]) ?_ 1 _ rfl;(with_reducible repeat (first|refine zah ?_ _|refine zak ?_|refine zaf ?_ _));refine zan (cs:=#[.int .i64 0,.int .i64 0]) ?_ 0 _ rfl;(with_reducible repeat (first|refine zah ?_ _|refine zak ?_|refine zaf ?_ _));exact ah.o):p:=h
theorem kbc {p:Prop} (h:p:=by (with_reducible repeat (first|refine zah ?_ _|refine zak ?_|refine zaf ?_ _));refine zan (cs:=#[.int .i64 0,.int .i64 0]) ?_ 1 _ rfl;(with_reducible repeat (first|refine zah ?_ _|refine zak ?_|refine zaf ?_ _));refine zan (cs:=#[.int .i64 0,.int .i64 0]) ?_ 0 _ rfl;(with_reducible repeat (first|refine zah ?_ _|refine zak ?_|refine zaf ?_ _));exact ao.o):p:=h
theorem kbe {p:Prop} (h:p:=by show ¬w1.heap.size+1=g;have:=az.o;omega):p:=h
theorem kbf {p:Prop} (h:p:=by first|exact HE.o|exact fun _=>HE.o trivial|(intro h;cases h)):p:=h
theorem kbg {p:Prop} (h:p:=by show ¬T=W.heap.size+1+1;omega):p:=h
theorem kbh {p:Prop} (h:p:=by exact ag.size):p:=h
theorem kbi {p:Prop} (h:p:=by first|exact HX.o.st|exact HX.o.st.drewN _|exact (HX.o.st.drewN _).drew|exact HX.o.st.drew):p:=h
theorem kbj {p:Prop} (h:p:=by show ¬W.heap.size+1+1=g;omega):p:=h
theorem kbk {p:Prop} (h:p:=by show ¬w1.heap.size=g;have:=an.o.size;rw [qae,qae] at this;omega):p:=h
theorem kbl {p:Prop} (h:p:=by simp;omega):p:=h
theorem kbm {p:Prop} (h:p:=by rw [ht];show (1:Int)≠8;decide):p:=h
theorem kbn {p:Prop} (h:p:=by have:=ak.o;omega):p:=h
theorem kbo {p:Prop} (h:p:=by repeat (first|(with_reducible first|exact HB.o|apply zad|apply zaa|apply zae|refine zaj ?_ ax.o)|exact HB.o)):p:=h
theorem kbp {p:Prop} (h:p:=by repeat (first|(with_reducible first|exact HB.o|apply zad|apply zaa|apply zae|refine zaj ?_ bi.o)|exact HB.o)):p:=h
theorem kbq {p:Prop} (h:p:=by have:=av.o.1;exact fun e=>(this _ e).2 rfl):p:=h
theorem kbr {p:Prop} (h:p:=by (with_reducible repeat (first|refine zah ?_ _|refine zak ?_|refine zaf ?_ _));refine zan (cs:=#[.int .i64 t132,.int .i64 32]) ?_ 1 _ rfl;(with_reducible repeat (first|refine zah ?_ _|refine zak ?_|refine zaf ?_ _));exact ai.o):p:=h
theorem kbs {p:Prop} (h:p:=by have h1:=an.o.size;rw [qae,qae] at h1;omega):p:=h
theorem kbt {p:Prop} (h:p:=by simpa using World.news_of_block (cs:=ys.toArray) (t:=e) (fr:=(0,0)) (qab W (.cells ys.toArray e))):p:=h
theorem kbu {p:Prop} (h:p:=by have:=am.o.size;exact this):p:=h
theorem kbv {p:Prop} (h:p:=by first|rfl|exact congrArg (fun n:Nat=>Value.slice A n cap) bm.o):p:=h
theorem kbw {p:Prop} (h:p:=by (with_reducible repeat (first|refine zah ?_ _|refine zak ?_|refine zaf ?_ _));refine zav ?_ ar.o _;(with_reducible repeat (first|refine zah ?_ _|refine zak ?_|refine zaf ?_ _));exact ah.o):p:=h
theorem kbx {p:Prop} (h:p:=by have:=ab.o.far;omega):p:=h
theorem kby {p:Prop} (h:p:=by (with_reducible repeat (first|apply Kd.R_alloc|apply Kd.R_drewN|apply Kd.R_drew));exact be.o):p:=h
theorem kbz {p:Prop} (h:p:=by (with_reducible repeat (first|refine zah ?_ _|refine zak ?_|refine zaf ?_ _));exact ap.o):p:=h
theorem kca {p:Prop} (h:p:=by have:=au.o;omega):p:=h
theorem zq {p:Prop} (h:p):Zq p:=⟨h⟩
structure Drawn0 (w w':World):Prop where mk::(o:∃ n,w'=w.drewN n)
theorem Drawn0.refl (w:World):Drawn0 w w:=⟨⟨0,rfl⟩⟩
theorem Drawn0.step {w w':World} (h:Drawn0 w w') (n:Nat):Drawn0 w (w'.drewN n):=by
  obtain ⟨m,rfl⟩:=h;exact ⟨⟨m+n,World.drewN_drewN ..⟩⟩
theorem Drawn0.below {w w':World} (h:Drawn0 w w'):Below w.heap.size w w':=by
  obtain ⟨n,rfl⟩:=h;induction n with
  | zero=>exact qan _ _
  | succ n i=>rw [<-World.drew_drewN];exact i.drew
def rd (xs:List Int) (i:Int):Int:=xs.getD i.toNat 0
def bt (s:ByteArray) (i:Int):Int:=if h:i.toNat<s.size then ((s[i.toNat]'h).toNat:Int) else 0
theorem zcs (s:ByteArray) (i:Int):∀ h:i.toNat<s.size,((s[i.toNat]'h).toNat:Int)=bt s i:=fun h=>by simp [bt,h]
def nums (k:IntKind) (xs:List Int):List Value:=xs.map fun x => .int k x
theorem zad {w W:World} (h:Below w.heap.size w W) (o:Obj):Below w.heap.size w (W.alloc o):=h.alloc h.size o
theorem znp {B:Nat} {w W:World} (h:Below B w W):Below B w W.drew:=⟨h.os,h.tape,h.output,h.size,h.block⟩
theorem zaa {B:Nat} {w W:World} (h:Below B w W) (n:Nat):Below B w (W.drewN n):=⟨h.os,h.tape,h.output,h.size,h.block⟩
theorem zbb {B:Nat} {w w1 j:World} (h:Below B w w1) (l:B<=w1.heap.size) (k:Below w1.heap.size w1 j):Below B w j:=
  h.trans ⟨k.os,k.tape,k.output,k.size,fun i hi=>k.block i (qce hi l)⟩
theorem grown_of_below {w w1:World} (h:Below w.heap.size w w1) (row:Option Nat):w.grownBy w1 row:=⟨h.os,h.tape,h.output,h.size,fun i hi _=>h.block i hi⟩
theorem zag {w w1:World} (h:Below w.heap.size w w1) {a:Addr} {v:Value} (i:w.cell? a=some v):w1.cell? a=some v:=(h.cell (qbs w a i)).trans i
def zou (w:World) (k:IntKind) (A:Option Addr) (n:Nat) (xs:List Int):Prop:=
  xs.length=n/\n<=9223372036854775807/\(0<n->∃ ad,A=some ad/\∀ j,j<n->w.cell? (ad.add j)=some (.int k (xs.getD j 0)))
theorem zou.at_ {w:World} {k:IntKind} {A:Option Addr} {n:Nat} {xs:List Int} (h:zou w k A n xs) (i:Int) (l:0<=i) (h1:i<n):∃ ad,A=some ad/\w.cell? (ad.add i.toNat)=some (.int k (rd xs i)):=by
  obtain ⟨ad,e,j⟩:=h.2.2 kab;exact ⟨ad,e,j _ kab⟩
theorem zsz (W:World) (base:Nat) (e:TypeId) (size:Nat):W.ownsRow base e size (.slice none 0 0) 0 []:=⟨by simp,.inl ⟨rfl,rfl⟩⟩
theorem zkz {w:World} {base:Nat} {e:TypeId} {size n:Nat} {v:Value} {xs:List Value} (h:w.ownsRow base e size v n xs) (k:Nat) (hk:v.ownBlock=some k):base<=k:=by
  rcases h.2 with ⟨rfl,_⟩|⟨g,cap,cur,rfl,i,_⟩
  · simp [Value.ownBlock] at hk
  have:g=k:=by simpa [Value.ownBlock] using hk
  omega
theorem zut {w:World} {base:Nat} {e:TypeId} {size n:Nat} {v:Value} {xs:List Value} (h:w.ownsRow base e size v n xs) (k:Nat) (hk:v.ownBlock=some k):k<w.heap.size:=by
  rcases h.2 with ⟨rfl,_⟩|⟨g,cap,cur,rfl,i,hh,_⟩
  · simp [Value.ownBlock] at hk
  have:g=k:=by simpa [Value.ownBlock] using hk
  subst this;exact (Array.getElem?_eq_some_iff.1 hh).1
theorem own_reads {w:World} {base n:Nat} {e:TypeId} {k:IntKind} {v:Value} {xs:List Int} (h:w.ownsRow base e 1 v n (nums k xs)):∃ A c,v = .slice A n c/\zou w k A n xs:=by
  have i:xs.length=n:=by have:=h.1;simp [nums] at this;exact this
  rcases Nat.eq_zero_or_pos n with l|l
  · rcases h.2 with ⟨rfl,rfl⟩|⟨g,cap,cur,rfl,_⟩
    · exact ⟨none,0,rfl,i,kab,fun hp=>absurd hp kab⟩
    exact ⟨_,cap,rfl,i,kab,fun hp=>absurd hp kab⟩
  obtain ⟨g,cap,rfl,_,_⟩:=h.form l;have r:n<=9223372036854775807:=by
    rcases h.2 with ⟨_,h1⟩|⟨y,s,cur,z,_,_,h1,p,_⟩
    · omega
    simp only [maxLen] at p;omega
  refine ⟨_,cap,rfl,i,r,fun _=>⟨_,rfl,fun j B=>h.cells (g:=g) rfl j _ ?_⟩⟩;simp [nums,qao (show j<xs.length by omega),qat]
theorem zjv {P:Program} {w:World} {base n:Nat} {e' src dst e:TypeId} {v:Value} {xs:List Int} (hs:P.underlying src=some (.slice e)) (j:P.underlying e=some (.int .u8)) (hd:P.underlying dst=some .string)
    (h:w.ownsRow base e' 1 v n (nums .u8 xs)):(convert src dst v).run P w = .ok (.string (strOfNums xs)) w:=by
  have k:xs.length=n:=by have:=h.1;simp [nums] at this;exact this
  rcases h.2 with ⟨rfl,rfl⟩|⟨g,cap,cur,rfl,_⟩
  · obtain rfl:xs=[]:=List.eq_nil_of_length_eq_zero k;exact run_convert_bytes_nil w src e hs j 0 0 dst hd
  refine run_convert_bytes_arg w src e hs j g 0 n cap xs k (fun i hi=>?_) dst hd;have p:=h.cells (g:=g) rfl i (.int .u8 (xs.getD i 0)) (by simp [nums,qao (show i<xs.length by omega),qat]);have l:(⟨g,0,none⟩:Addr).add i=⟨g,0+i,none⟩:=by unfold Addr.add;split<;>simp_all
  rwa [l] at p
section
variable {P:Program} {ops:Array Oper} {rest:List Oper} {o:Oper} {a:Act} {Q:Exit->Act->World->Prop}
theorem print_append {w0 W:World} (base:Nat) (D:o.guard=none) (s x:Operand) (t e:TypeId) (z:Value) (bytes:Nat)
    (I:o.op = .call { callee := .builtin .append,args:=#[s,x],argTypes:=#[t,t] })
    (ht:P.underlying t=some (.slice e)) (G:(P.info? e).map (fun i=>(i.zero,i.size,i.bytes))=some (some z,1,bytes)) (M:z.cells.size=1) (r:0<bytes)
    (v:Value) (xs:List Value) (y:Value) (hs:a.eval s=v) (L:a.eval x = .slice (some ⟨W.heap.size,0,none⟩) 1 1) (h1:y.oneCell'=true)
    (k:W.ownsRow base e 1 v xs.length xs) (HB:Below base w0 W) (B:base<=W.heap.size) (l:(xs.length+1)*bytes<=140737488355328)
    (h:∀ v1 w1,w1.ownsRow base e 1 v1 (xs++[y]).length (xs++[y])->Below base w0 w1->W.grownBy w1 v.ownBlock->(v1.ownBlock=v.ownBlock\/∃ b,v1.ownBlock=some b/\W.heap.size<=b)->wpList P ops Q rest (a.put o.dst v1) w1) :
    wpList P ops Q (o::rest) a (W.alloc (.cells #[y] e)):=by
  obtain ⟨i0,hi,p⟩:=qbu.1 G;simp only [qap] at p;obtain ⟨O,U,X⟩:=p;have Y:xs.length+1<=140737488355328:=qas (Nat.le_mul_of_pos_right _ r) l;refine wpList_append_own_at (W.alloc (.cells #[y] e)) D s x t I base e i0 z 1 bytes ht hi O U X M kab v xs.length xs hs (k.alloc _) ⟨W.heap.size,0,none⟩ 1 1 [y] L rfl
    (World.news_of_block (cs:=#[y]) (t:=e) (fr:=(0,0)) (qab W _)) (by simpa using h1) (by simp only [maxLen];omega) l kbl ?_
  intro v1 w1 J hg _ j;refine h v1 w1 (by simpa using J) ((HB.alloc B _).grown hg kbl (zkz k)) (World.grownBy.trans (World.grownBy_alloc W _ _) hg) ?_;rcases j with j|j
  · exact .inl j
  exact .inr ⟨_,j,by simp⟩
end
def LeO {α:Type} (a b:Option α):Prop:=∀ r,a=some r->b=some r
theorem LeO.refl {α:Type} (a:Option α):LeO a a:=fun _ h=>h
theorem LeO.none {α:Type} (b:Option α):LeO Option.none b:=fun _ h=>by cases h
theorem LeO.trans {α:Type} {a b c:Option α} (h:LeO a b) (k:LeO b c):LeO a c:=fun r hr=>k r (h r hr)
theorem LeO.ite {α:Type} {c:Prop} [Decidable c] {a i b b':Option α} (h:LeO a i) (k:LeO b b'):LeO (if c then a else b) (if c then i else b'):=by
  split
  · exact h
  exact k
theorem LeO.bind {α β:Type} {a i:Option α} {f j:α->Option β} (h:LeO a i) (k:∀ x,LeO (f x) (j x)):LeO (a.bind f) (i.bind j):=by
  intro r hr;obtain ⟨x,l,hf⟩:=qba.1 hr;exact qba.2 ⟨x,h x l,k x r hf⟩
theorem more_rounds {α:Type} {g:Nat->Option α} (h:∀ k,LeO (g k) (g (k+1))) (k:Nat):∀ j,LeO (g k) (g (k+j))
  | 0=>LeO.refl _
  | j+1=>(more_rounds h k j).trans (h (k+j))
def Reps {α:Type} (R:α->List Value->Prop) (size:Nat) (ps:List α) (cs:List Value):Prop:=
  cs.length=ps.length*size/\∀ j p,ps[j]?=some p->R p ((cs.drop (j*size)).take size)
theorem Reps.none {α:Type} (R:α->List Value->Prop) (size:Nat):Reps R size [] []:=⟨by simp,fun j p h=>by simp at h⟩
theorem Reps.snoc {α:Type} {R:α->List Value->Prop} {size:Nat} {ps:List α} {cs c:List Value} {p:α} (h:Reps R size ps cs) (hp:R p c) (l:c.length=size):Reps R size (ps++[p]) (cs++c):=by
  refine ⟨by rw [qal,h.1,l,qal,qay,Nat.add_mul,Nat.one_mul],fun j q i=>?_⟩;rcases Nat.lt_or_ge j ps.length with k|k
  · rw [qbg k] at i;have h1:j*size+size<=cs.length:=(by rw [h.1,<-Nat.succ_mul];exact qbp _ k);have r:=h.2 j q i;rw [List.drop_append_of_le_length kab,List.take_append_of_le_length (by rw [qbr];omega)];exact r
  have s:j=ps.length:=by
    have:=(qav.1 i).1;rw [qal,qay] at this;omega
  subst s;have y:p=q:=by simpa using i
  subst y;rw [<-h.1,List.drop_left,<-l,List.take_length];exact hp
theorem Reps.imp_ {α:Type} {R R':α->List Value->Prop} {size:Nat} {ps:List α} {cs:List Value} (h:Reps R size ps cs) (i:∀ p c,R p c->R' p c):Reps R' size ps cs:=⟨h.1,fun j p k=>i _ _ (h.2 j p k)⟩
def zib {α:Type} (R:α->List Value->Prop) (size:Nat) (w:World) (A:Option Addr) (n:Nat) (ps:List α):Prop:=
  ps.length=n/\n<=9223372036854775807/\(0<n->∃ ad,A=some ad/\∀ j p,ps[j]?=some p->∃ c,c.length=size/\R p c/\∀ i u,c[i]?=some u->w.cell? (ad.add (j*size+i))=some u)
theorem zib.get_ {α:Type} {R:α->List Value->Prop} {size:Nat} {w:World} {A:Option Addr} {n:Nat} {ps:List α} (h:zib R size w A n ps) (d:α) (i:Int) (r:0<=i) (h1:i<n) :
    ∃ ad c,A=some ad/\c.length=size/\R (ps.getD i.toNat d) c/\∀ j u,c[j]?=some u->w.cell? (ad.add (i.toNat*size+j))=some u:=by
  obtain ⟨ad,e,l⟩:=h.2.2 kab;have k:i.toNat<ps.length:=by have:=h.1;omega
  obtain ⟨c,hs,hr,p⟩:=l i.toNat _ (qao k);refine ⟨ad,c,e,hs,?_,p⟩;rw [qat,qao k];exact hr
theorem zib.imp_ {α:Type} {R R':α->List Value->Prop} {size:Nat} {w w1:World} {A:Option Addr} {n:Nat} {ps:List α} (h:zib R size w A n ps) (l:Below w.heap.size w w1) (k:∀ p c,R p c->R' p c):zib R' size w1 A n ps:=
  ⟨h.1,h.2.1,fun hn=>by
    obtain ⟨ad,e,r⟩:=h.2.2 hn;refine ⟨ad,e,fun j p y=>?_⟩;obtain ⟨c,hs,hr,s⟩:=r j p y;exact ⟨c,hs,k _ _ hr,fun i u hu=>zag l (s i u hu)⟩⟩
theorem own_reads_row {α:Type} {R:α->List Value->Prop} {w:World} {base n size:Nat} {e:TypeId} {v:Value} {ps:List α} {cs:List Value} (h:w.ownsRow base e size v n cs) (l:Reps R size ps cs) (hn:ps.length=n) :
    ∃ A c,v = .slice A n c/\zib R size w A n ps:=by
  rcases Nat.eq_zero_or_pos n with k|k
  · rcases h.2 with ⟨rfl,rfl⟩|⟨g,cap,cur,rfl,_⟩
    · exact ⟨none,0,rfl,hn,kab,fun hp=>absurd hp kab⟩
    exact ⟨_,cap,rfl,hn,kab,fun hp=>absurd hp kab⟩
  obtain ⟨g,cap,rfl,_,_⟩:=h.form k;have z:n<=9223372036854775807:=by
    rcases h.2 with ⟨_,h1⟩|⟨D,B,cur,G,_,_,h1,s,_⟩
    · omega
    simp only [maxLen] at s;omega
  refine ⟨_,cap,rfl,hn,z,fun _=>⟨_,rfl,fun j p r=>⟨(cs.drop (j*size)).take size,?_,l.2 j p r,fun i u hu=>?_⟩⟩⟩
  · have y:=(qav.1 r).1;have h1:j*size+size<=cs.length:=(by rw [l.1,<-Nat.succ_mul];exact qbp _ y);rw [qbq,qbr];omega
  refine h.cells (g:=g) rfl _ u ?_;rw [List.getElem?_take] at hu;split at hu
  · rw [List.getElem?_drop] at hu;exact hu
  cases hu
theorem zbx (ad:Addr) (m j:Nat) (k:0<j):ad.add (m+j)=⟨(ad.add m).block,(ad.add m).off+j,none⟩:=by
  unfold Addr.add;by_cases i:m=0
  · subst i;simp [Nat.ne_of_gt k]
  simp [i,Nat.add_assoc]
section
variable {P:Program} {ops:Array Oper} {rest:List Oper} {o:Oper} {a:Act} {Q:Exit->Act->World->Prop}
theorem print_append_cells {w0 W:World} (base:Nat) (B:o.guard=none) (s x:Operand) (t e:TypeId) (z:Value) (size bytes:Nat)
    (G:o.op = .call { callee := .builtin .append,args:=#[s,x],argTypes:=#[t,t] })
    (ht:P.underlying t=some (.slice e)) (D:(P.info? e).map (fun i=>(i.zero,i.size,i.bytes))=some (some z,size,bytes)) (O:z.cells.size=size) (J:0<size) (r:0<bytes)
    (v:Value) (n:Nat) (xs ys:List Value) (hs:a.eval s=v) (L:a.eval x = .slice (some ⟨W.heap.size,0,none⟩) 1 1) (M:ys.length=size) (h1:∀ u∈ys,u.oneCell'=true)
    (k:W.ownsRow base e size v n xs) (HB:Below base w0 W) (y:base<=W.heap.size) (l:(n+1)*bytes<=140737488355328)
    (h:∀ v1 w1,w1.ownsRow base e size v1 (n+1) (xs++ys)->Below base w0 w1->W.grownBy w1 v.ownBlock->(v1.ownBlock=v.ownBlock\/∃ b,v1.ownBlock=some b/\W.heap.size<=b)->wpList P ops Q rest (a.put o.dst v1) w1) :
    wpList P ops Q (o::rest) a (W.alloc (.cells ys.toArray e)):=by
  obtain ⟨i0,hi,p⟩:=qbu.1 D;simp only [qap] at p;obtain ⟨U,X,Y⟩:=p;have Z:n+1<=140737488355328:=qas (Nat.le_mul_of_pos_right _ r) l;refine wpList_append_own_at (W.alloc (.cells ys.toArray e)) B s x t G base e i0 z size bytes ht hi U X Y O J v n xs hs (k.alloc _) ⟨W.heap.size,0,none⟩ 1 1 ys L (by rw [M];simp)
    kbt h1 (by simp only [maxLen];omega) l kbl ?_
  intro v1 w1 I hg _ j;refine h v1 w1 I ((HB.alloc y _).grown hg kbl (zkz k)) (World.grownBy.trans (World.grownBy_alloc W _ _) hg) ?_;rcases j with j|j
  · exact .inl j
  exact .inr ⟨_,j,by simp⟩
end
theorem blk_set {w:World} {g:Nat} {t:TypeId} {cs:Array Value} (h:w.heap[g]?=some (.cells cs t (0,0))) (i:Nat) (u:Value):(w.setCell ⟨g,i,none⟩ u).heap[g]?=some (.cells (cs.setIfInBounds i u) t (0,0)):=by
  simp [World.setCell,Array.getElem?_modify,h]
theorem zav {w:World} {g:Nat} {t:TypeId} {cs:Array Value} (h:w.heap[g]?=some (.cells cs t (0,0))) {p:Addr} (hp:g≠p.block) (u:Value):(w.setCell p u).heap[g]?=some (.cells cs t (0,0)):=(qbn w p u g hp).trans h
theorem zam {w:World} {g:Nat} {o:Obj} (h:w.heap[g]?=some o):g<w.heap.size:=(Array.getElem?_eq_some_iff.1 h).1
theorem zab {w:World} {g:Nat} {t:TypeId} {cs:Array Value} (h:w.heap[g]?=some (.cells cs t (0,0))) (i:Nat):w.cell? ⟨g,i,none⟩=cs[i]?:=cell_of_row w g i cs t (0,0) h
theorem zac {w:World} {g:Nat} {t:TypeId} {cs:Array Value} (h:w.heap[g]?=some (.cells cs t (0,0))) (i:Nat):w.frozen? ⟨g,i,none⟩=false:=by simp [World.frozen?,h]
theorem blk_grown {w w1:World} {g:Nat} {o:Obj} {row:Option Nat} (h:w.heap[g]?=some o) (hg:w.grownBy w1 row) (i:some g≠row):w1.heap[g]?=some o:=(hg.block g (zam h) i).trans h
def zra (w w':World) (g:Nat) (row:Option Nat):Prop:=w.heap.size<=w'.heap.size/\∀ i,i<w.heap.size->i≠g->some i≠row->w'.heap[i]?=w.heap[i]?
theorem zra.trans {w w1 l:World} {g:Nat} {row j:Option Nat} (h:zra w w1 g row) (k:zra w1 l g j) (hr:j=row\/∃ b,j=some b/\w.heap.size<=b):zra w l g row:=
  ⟨qas h.1 k.1,fun i hi hg hn=>by
    refine (k.2 i (qce hi h.1) hg ?_).trans (h.2 i hi hg hn);rcases hr with rfl|⟨b,rfl,p⟩
    · exact hn
    intro e;injection e with e;omega⟩
theorem own_weaken {w:World} {base base':Nat} {e:TypeId} {size n:Nat} {v:Value} {xs:List Value} (h:w.ownsRow base e size v n xs) (j:base'<=base):w.ownsRow base' e size v n xs:=by
  obtain ⟨h1,i⟩:=h;refine ⟨h1,?_⟩;rcases i with i|⟨g,cap,cur,rfl,hg,r⟩
  · exact .inl i
  exact .inr ⟨g,cap,cur,rfl,qas j hg,r⟩
section
variable {α:Type} {enc:α->Value} {d:α}
def encs (enc:α->Value) (xs:List α):List Value:=xs.map enc
def rdOf (d:α) (xs:List α) (i:Int):α:=xs.getD i.toNat d
theorem encs_length (xs:List α):(encs enc xs).length=xs.length:=by simp [encs]
def zub (enc:α->Value) (d:α) (w:World) (A:Option Addr) (n:Nat) (xs:List α):Prop:=
  xs.length=n/\n<=9223372036854775807/\(0<n->∃ ad,A=some ad/\∀ j,j<n->w.cell? (ad.add j)=some (enc (xs.getD j d)))
theorem zub.at_ {w:World} {A:Option Addr} {n:Nat} {xs:List α} (h:zub enc d w A n xs) (i:Int) (k:0<=i) (h1:i<n):∃ ad,A=some ad/\w.cell? (ad.add i.toNat)=some (enc (rdOf d xs i)):=by
  obtain ⟨ad,e,j⟩:=h.2.2 kab;exact ⟨ad,e,j _ kab⟩
end
theorem zaf {w:World} {g:Nat} {o:Obj} (h:w.heap[g]?=some o) (i:Obj):(w.alloc i).heap[g]?=some o:=(qbm w i g (zam h)).trans h
theorem zak {w:World} {g:Nat} {o:Obj} (h:w.heap[g]?=some o):w.drew.heap[g]?=some o:=h
theorem zah {w:World} {g:Nat} {o:Obj} (h:w.heap[g]?=some o) (n:Nat):(w.drewN n).heap[g]?=some o:=h
theorem zaq {w w1:World} {g:Nat} {o:Obj} (h:w.heap[g]?=some o) (i:Below w.heap.size w w1):w1.heap[g]?=some o:=(i.block g (zam h)).trans h
theorem ziw (w:World) (o:Obj):(w.alloc o).heap[w.heap.size]?=some o:=qab w o
section
variable {P:Program}
theorem zbg {fn:Func} {p u:Tmp} {ty:TypeId} (h:fn.results=#[.cell p ty,.tmp u]) (tmps:Array Value) (w:World) (g:Nat) (t:TypeId) (cs:Array Value) (fr:Nat×Nat) (d:TypeDesc)
    (hp:tmps.getD p undef = .pointer (some ⟨g,0,none⟩)) (hg:w.heap[g]?=some (.cells cs t fr))
    (hu:P.underlying ty=some d) (hd:(match d with | .struct _ | .array _ _=>true|_=>false)=true) (hi:(P.info? ty).map (·.size)=some cs.size) :
    (results fn tmps).run P w = .ok (.tuple #[.agg cs,tmps.getD u undef]) w:=by
  have i:tmps[p]?.getD undef = .pointer (some ⟨g,0,none⟩):=by simpa using hp
  simp [results,h,i,asAddr,run_loadVar_row w g t ty cs fr d hg hu hd hi]
theorem zbh {fn:Func} {p u v:Tmp} {ty:TypeId} (h:fn.results=#[.cell p ty,.tmp u,.tmp v]) (tmps:Array Value) (w:World) (g:Nat) (t:TypeId) (cs:Array Value) (fr:Nat×Nat) (d:TypeDesc)
    (hp:tmps.getD p undef = .pointer (some ⟨g,0,none⟩)) (hg:w.heap[g]?=some (.cells cs t fr))
    (hu:P.underlying ty=some d) (hd:(match d with | .struct _ | .array _ _=>true|_=>false)=true) (hi:(P.info? ty).map (·.size)=some cs.size) :
    (results fn tmps).run P w = .ok (.tuple #[.agg cs,tmps.getD u undef,tmps.getD v undef]) w:=by
  have i:tmps[p]?.getD undef = .pointer (some ⟨g,0,none⟩):=by simpa using hp
  simp [results,h,i,asAddr,run_loadVar_row w g t ty cs fr d hg hu hd hi]
end
theorem own_le {w:World} {base n m c size:Nat} {e:TypeId} {A:Option Addr} {xs:List Value} (h:w.ownsRow base e size (.slice A m c) n xs):m<=c:=by
  rcases h.2 with ⟨i,_⟩|⟨g,cap,cur,i,_,_,l,_⟩
  · injection i with _ j k;omega
  injection i with _ j k;omega
def zqi {α:Type} (R:α->List Value->Prop) (e:TypeId) (size:Nat) (w:World) (base:Nat) (v:Value) (ps:List α):Prop:=
  ∃ inner,w.ownsRow base e size v ps.length inner/\Reps R size ps inner
section
variable {α:Type} {R R':α->List Value->Prop} {e:TypeId} {size:Nat} {w w1:World} {base:Nat} {v:Value} {ps:List α}
theorem zqi.none_ (R:α->List Value->Prop) (e:TypeId) (size:Nat) (w:World) (base:Nat):zqi R e size w base (.slice none 0 0) []:=⟨[],zsz _ _ _ _,Reps.none _ _⟩
theorem zqi.imp_ (h:zqi R e size w base v ps) (i:∀ p c,R p c->R' p c):zqi R' e size w base v ps:=by
  obtain ⟨inner,j,hr⟩:=h;exact ⟨inner,j,hr.imp_ i⟩
theorem zqi.reads (h:zqi R e size w base v ps):∃ A c,v = .slice A ps.length c/\ps.length<=c/\zib R size w A ps.length ps:=by
  obtain ⟨inner,i,hr⟩:=h;obtain ⟨A,c,rfl,j⟩:=own_reads_row i hr rfl;exact ⟨A,c,rfl,own_le i,j⟩
end
structure Kd (α:Type) where
  sz:Nat
  E:List Nat
  K:World->α->List Value->Prop
  M:World->Nat->(Nat->Prop)->α->List Value->Prop
  K_len:∀ {w x cs},K w x cs->cs.length=sz
  K_one:∀ {w x cs},K w x cs->∀ u∈cs,u.oneCell'=true
  K_below:∀ {w w1:World} {x cs},Below w.heap.size w w1->K w x cs->K w1 x cs
  K_of_M:∀ {w base ok x cs},M w base ok x cs->K w x cs
  M_mono:∀ {w base ok ok' x cs},(∀ k,ok k->ok' k)->M w base ok x cs->M w base ok' x cs
  M_bound:∀ {w:World} {base ok x cs},M w base ok x cs->M w base (fun k=>ok k/\base<=k/\k<w.heap.size/\∃ q,q∈E/\∃ cells,w.heap[k]?=some (.cells cells q (0,0))) x cs
  M_move:∀ {w w1:World} {base ok x cs},(∀ k,ok k->w1.heap[k]?=w.heap[k]?)->M w base ok x cs->M w1 base ok x cs
  M_lower:∀ {w base base' ok x cs},base'<=base->M w base ok x cs->M w base' ok x cs
theorem zjg {w w1:World} {base:Nat} {e:TypeId} {size n:Nat} {v:Value} {xs:List Value} (h:w.ownsRow base e size v n xs) (j:∀ k,v.ownBlock=some k->w1.heap[k]?=w.heap[k]?):w1.ownsRow base e size v n xs:=by
  obtain ⟨h1,i⟩:=h;refine ⟨h1,?_⟩;rcases i with i|⟨g,cap,cur,rfl,hg,hh,r⟩
  · exact .inl i
  exact .inr ⟨g,cap,cur,rfl,hg,(j g (by simp [Value.ownBlock])).trans hh,r⟩
theorem zgc {w:World} {base:Nat} {e:TypeId} {size n:Nat} {v:Value} {xs:List Value} (h:w.ownsRow base e size v n xs) (k:Nat) (hk:v.ownBlock=some k):∃ cells,w.heap[k]?=some (.cells cells e (0,0)):=by
  rcases h.2 with ⟨rfl,_⟩|⟨g,cap,cur,rfl,hg,hh,r⟩
  · simp [Value.ownBlock] at hk
  have:g=k:=by simpa [Value.ownBlock] using hk
  subst this;exact ⟨cur,hh⟩
namespace Kd
def C {α:Type} (d:Kd α) (w:World) (A:Option Addr) (n:Nat) (xs:List α):Prop:=zib (d.K w) d.sz w A n xs
def R {α:Type} (d:Kd α) (e:Nat) (w:World) (base:Nat) (ok:Nat->Prop) (v:Value) (xs:List α):Prop:=
  (∀ k,v.ownBlock=some k->ok k)/\zqi (d.M w base (fun k=>ok k/\some k≠v.ownBlock)) e d.sz w base v xs
section
variable {α:Type} {d:Kd α} {e:Nat} {w w1:World} {base:Nat} {ok ok':Nat->Prop} {v:Value} {xs:List α}
theorem C_below {A:Option Addr} {n:Nat} (h:d.C w A n xs) (i:Below w.heap.size w w1):d.C w1 A n xs:=zib.imp_ h i (fun _ _ hp=>d.K_below i hp)
theorem R_nil (d:Kd α) (e:Nat) (w:World) (base:Nat) (ok:Nat->Prop):d.R e w base ok (.slice none 0 0) []:=⟨fun k hk=>by simp [Value.ownBlock] at hk,zqi.none_ _ _ _ _ _⟩
theorem R_mono (h:d.R e w base ok v xs) (i:∀ k,ok k->ok' k):d.R e w base ok' v xs:=⟨fun k hk=>i k (h.1 k hk),h.2.imp_ (fun _ _ hp=>d.M_mono (fun k hk=>⟨i k hk.1,hk.2⟩) hp)⟩
theorem zqz (h:d.R e w base ok v xs):d.R e w base (fun k=>ok k/\base<=k/\k<w.heap.size/\∃ q,q∈e::d.E/\∃ cells,w.heap[k]?=some (.cells cells q (0,0))) v xs:=by
  obtain ⟨l,inner,i,hr⟩:=h;refine ⟨fun k hk=>?_,inner,i,hr.imp_ (fun _ _ hp=>d.M_mono (fun k hk=>?_) (d.M_bound hp))⟩
  · obtain ⟨cells,j⟩:=zgc i k hk;exact ⟨l k hk,zkz i k hk,zut i k hk,e,List.mem_cons_self,cells,j⟩
  obtain ⟨⟨h1,p⟩,r,s,q,y,j⟩:=hk;exact ⟨⟨h1,r,s,q,qch _ y,j⟩,p⟩
theorem zvb (h:d.R e w base ok v xs) (j:∀ k,ok k->w1.heap[k]?=w.heap[k]?):d.R e w1 base ok v xs:=by
  obtain ⟨i,inner,l,hr⟩:=h;exact ⟨i,inner,zjg l (fun k hk=>j k (i k hk)),hr.imp_ (fun _ _ hp=>d.M_move (fun k hk=>j k hk.1) hp)⟩
theorem R_lower {base':Nat} (h:d.R e w base ok v xs) (i:base'<=base):d.R e w base' ok v xs:=by
  obtain ⟨j,inner,k,hr⟩:=h;exact ⟨j,inner,own_weaken k i,hr.imp_ (fun _ _ hp=>d.M_lower i hp)⟩
theorem zva (h:d.R e w base ok v xs) (i:∀ k,ok k->k<w.heap.size->w1.heap[k]?=w.heap[k]?):d.R e w1 base ok v xs:=
  R_mono (zvb (zqz h) (fun k hk=>i k hk.1 hk.2.2.1)) (fun _ hk=>hk.1)
theorem zvc {x:α} {cs:List Value} (h:d.M w base ok x cs) (i:∀ k,ok k->k<w.heap.size->w1.heap[k]?=w.heap[k]?):d.M w1 base ok x cs:=
  d.M_mono (fun _ hk=>hk.1) (d.M_move (fun k hk=>i k hk.1 hk.2.2.1) (d.M_bound h))
theorem R_below (h:d.R e w base ok v xs) (i:Below w.heap.size w w1):d.R e w1 base ok v xs:=zva h (fun k _ hk=>i.block k hk)
theorem M_below {x:α} {cs:List Value} (h:d.M w base ok x cs) (i:Below w.heap.size w w1):d.M w1 base ok x cs:=zvc h (fun k _ hk=>i.block k hk)
theorem R_far (h:d.R e w base ok v xs) {p:Addr} (j:∀ k,ok k->k≠p.block) (u:Value):d.R e (w.setCell p u) base ok v xs:=zva h (fun k i _=>qbn w p u k (j k i))
theorem R_reads (h:d.R e w base ok v xs):∃ A c,v = .slice A xs.length c/\xs.length<=c/\d.C w A xs.length xs:=by
  obtain ⟨A,c,i,j,hr⟩:=zqi.reads h.2;exact ⟨A,c,i,j,hr.imp_ (qan _ _) (fun _ _ hp=>d.K_of_M hp)⟩
theorem R_slice (h:d.R e w base ok v xs):∃ A c,v = .slice A xs.length c:=by
  obtain ⟨A,c,i,_⟩:=R_reads h;exact ⟨A,c,i⟩
theorem R_own (h:d.R e w base ok v xs):∃ inner,w.ownsRow base e d.sz v xs.length inner:=by
  obtain ⟨_,inner,i,_⟩:=h;exact ⟨inner,i⟩
end
def scalar {α:Type} (enc:α->Value) (h1:∀ x,(enc x).oneCell'=true):Kd α where
  sz:=1
  E:=[]
  K:=fun _ x cs=>cs=[enc x]
  M:=fun _ _ _ x cs=>cs=[enc x]
  K_len:=fun h=>by rw [h];rfl
  K_one:=fun h u hu=>by
    rw [h] at hu;rw [qbk.1 hu];exact h1 _
  K_below:=fun _ h=>h
  K_of_M:=fun h=>h
  M_mono:=fun _ h=>h
  M_bound:=fun h=>h
  M_move:=fun _ h=>h
  M_lower:=fun _ h=>h
def int (k:IntKind):Kd Int:=scalar (Value.int k) (fun _=>rfl)
def bool:Kd Bool:=scalar Value.bool (fun _=>rfl)
def string:Kd ByteArray:=scalar Value.string (fun _=>rfl)
def slice {α:Type} (e:Nat) (d:Kd α):Kd (List α) where
  sz:=1
  E:=e::d.E
  K:=fun w xs cs=>∃ A c,cs=[.slice A xs.length c]/\xs.length<=c/\d.C w A xs.length xs
  M:=fun w base ok xs cs=>∃ v,cs=[v]/\d.R e w base ok v xs
  K_len:=by
    rintro w x cs ⟨A,c,rfl,_⟩;rfl
  K_one:=by
    rintro w x cs ⟨A,c,rfl,_⟩ u hu;rw [qbk.1 hu];rfl
  K_below:=by
    rintro w w1 x cs i ⟨A,c,rfl,j,hr⟩;exact ⟨A,c,rfl,j,C_below hr i⟩
  K_of_M:=by
    rintro w base ok x cs ⟨v,rfl,h⟩;obtain ⟨A,c,rfl,j,hr⟩:=R_reads h;exact ⟨A,c,rfl,j,hr⟩
  M_mono:=by
    rintro w base ok ok' x cs l ⟨v,rfl,h⟩;exact ⟨v,rfl,R_mono h l⟩
  M_bound:=by
    rintro w base ok x cs ⟨v,rfl,h⟩;exact ⟨v,rfl,zqz h⟩
  M_move:=by
    rintro w w1 base ok x cs k ⟨v,rfl,h⟩;exact ⟨v,rfl,zvb h k⟩
  M_lower:=by
    rintro w base base' ok x cs i ⟨v,rfl,h⟩;exact ⟨v,rfl,R_lower h i⟩
def pair {α β:Type} (a:Kd α) (b:Kd β):Kd (α×β) where
  sz:=a.sz+b.sz
  E:=a.E++b.E
  K:=fun w x cs=>∃ c0 c1,cs=c0++c1/\a.K w x.1 c0/\b.K w x.2 c1
  M:=fun w base ok x cs=>∃ c0 c1,cs=c0++c1/\a.M w base ok x.1 c0/\b.M w base ok x.2 c1
  K_len:=by
    rintro w x cs ⟨c0,c1,rfl,i,h1⟩;rw [qal,a.K_len i,b.K_len h1]
  K_one:=by
    rintro w x cs ⟨c0,c1,rfl,i,h1⟩ u hu;rcases qbi.1 hu with hu|hu
    · exact a.K_one i u hu
    exact b.K_one h1 u hu
  K_below:=by
    rintro w w1 x cs j ⟨c0,c1,rfl,i,h1⟩;exact ⟨c0,c1,rfl,a.K_below j i,b.K_below j h1⟩
  K_of_M:=by
    rintro w base ok x cs ⟨c0,c1,rfl,i,h1⟩;exact ⟨c0,c1,rfl,a.K_of_M i,b.K_of_M h1⟩
  M_mono:=by
    rintro w base ok ok' x cs B ⟨c0,c1,rfl,i,h1⟩;exact ⟨c0,c1,rfl,a.M_mono B i,b.M_mono B h1⟩
  M_bound:=by
    rintro w base ok x cs ⟨c0,c1,rfl,i,h1⟩;refine ⟨c0,c1,rfl,a.M_mono ?_ (a.M_bound i),b.M_mono ?_ (b.M_bound h1)⟩
    · rintro k ⟨l,p,r,q,y,s⟩;exact ⟨l,p,r,q,List.mem_append_left _ y,s⟩
    rintro k ⟨l,p,r,q,y,s⟩;exact ⟨l,p,r,q,List.mem_append_right _ y,s⟩
  M_move:=by
    rintro w w1 base ok x cs z ⟨c0,c1,rfl,i,h1⟩;exact ⟨c0,c1,rfl,a.M_move z i,b.M_move z h1⟩
  M_lower:=by
    rintro w base base' ok x cs j ⟨c0,c1,rfl,i,h1⟩;exact ⟨c0,c1,rfl,a.M_lower j i,b.M_lower j h1⟩
def iso {α β:Type} (d:Kd α) (f:β->α):Kd β where
  sz:=d.sz
  E:=d.E
  K:=fun w x cs=>d.K w (f x) cs
  M:=fun w base ok x cs=>d.M w base ok (f x) cs
  K_len:=d.K_len
  K_one:=d.K_one
  K_below:=d.K_below
  K_of_M:=d.K_of_M
  M_mono:=d.M_mono
  M_bound:=d.M_bound
  M_move:=d.M_move
  M_lower:=d.M_lower
def bot {α:Type} (sz:Nat) (E:List Nat):Kd α where
  sz:=sz
  E:=E
  K:=fun _ _ _=>False
  M:=fun _ _ _ _ _=>False
  K_len:=fun h=>h.elim
  K_one:=fun h=>h.elim
  K_below:=fun _ h=>h
  K_of_M:=fun h=>h
  M_mono:=fun _ h=>h
  M_bound:=fun h=>h
  M_move:=fun _ h=>h
  M_lower:=fun _ h=>h
def upto {α:Type} (F:Kd α->Kd α) (sz:Nat) (E:List Nat):Nat->Kd α
  | 0=>bot sz E
  | n+1=>F (upto F sz E n)
def fix {α:Type} (F:Kd α->Kd α) (sz:Nat) (E:List Nat) (hs:∀ n,(upto F sz E n).sz=sz) (hE:∀ n q,q∈(upto F sz E n).E->q∈E):Kd α where
  sz:=sz
  E:=E
  K:=fun w x cs=>∃ n,(upto F sz E n).K w x cs
  M:=fun w base ok x cs=>∃ n,(upto F sz E n).M w base ok x cs
  K_len:=by
    rintro w x cs ⟨n,h⟩;rw [(upto F sz E n).K_len h,hs n]
  K_one:=by
    rintro w x cs ⟨n,h⟩;exact (upto F sz E n).K_one h
  K_below:=by
    rintro w w1 x cs i ⟨n,h⟩;exact ⟨n,(upto F sz E n).K_below i h⟩
  K_of_M:=by
    rintro w base ok x cs ⟨n,h⟩;exact ⟨n,(upto F sz E n).K_of_M h⟩
  M_mono:=by
    rintro w base ok ok' x cs y ⟨n,h⟩;exact ⟨n,(upto F sz E n).M_mono y h⟩
  M_bound:=by
    rintro w base ok x cs ⟨n,h⟩;refine ⟨n,(upto F sz E n).M_mono ?_ ((upto F sz E n).M_bound h)⟩;rintro k ⟨j,l,p,q,z,r⟩;exact ⟨j,l,p,q,hE n q z,r⟩
  M_move:=by
    rintro w w1 base ok x cs s ⟨n,h⟩;exact ⟨n,(upto F sz E n).M_move s h⟩
  M_lower:=by
    rintro w base base' ok x cs i ⟨n,h⟩;exact ⟨n,(upto F sz E n).M_lower i h⟩
theorem C_get {α:Type} {d:Kd α} {w:World} {A:Option Addr} {n:Nat} {xs:List α} (h:d.C w A n xs) (z:α) (i:Int) (k:0<=i) (h1:i<n) :
    ∃ ad c,A=some ad/\c.length=d.sz/\d.K w (xs.getD i.toNat z) c/\∀ j u,c[j]?=some u->w.cell? (ad.add (i.toNat*d.sz+j))=some u:=zib.get_ h z i k h1
theorem R_appended {α:Type} {d:Kd α} {e base:Nat} {ok okp:Nat->Prop} {W w1:World} {v v1:Value} {xs:List α} {p:α} {inner cs:List Value} (y:∀ k,v.ownBlock=some k->ok k) (hr:Reps (d.M W base (fun k=>ok k/\some k≠v.ownBlock)) d.sz xs inner) (hp:d.M W base okp p cs) (G:∀ k,okp k->ok k/\some k≠v.ownBlock) (z:∀ k,W.heap.size<=k->ok k)
    (I:w1.ownsRow base e d.sz v1 (xs.length+1) (inner++cs)) (hg:W.grownBy w1 v.ownBlock) (i:v1.ownBlock=v.ownBlock\/∃ b,v1.ownBlock=some b/\W.heap.size<=b):d.R e w1 base ok v1 (xs++[p]):=by
  have D:∀ k,some k≠v.ownBlock->k<W.heap.size->some k≠v1.ownBlock:=by
    intro k hk J;rcases i with i|⟨b,j,B⟩
    · rw [i];exact hk
    rw [j];intro s;injection s with s;omega
  have step:∀ {q:α} {c:List Value} {o:Nat->Prop},d.M W base o q c->(∀ k,o k->ok k/\some k≠v.ownBlock)->d.M w1 base (fun k=>ok k/\some k≠v1.ownBlock) q c:=by
    intro q c o r l;have h1:=d.M_move (w1:=w1) (fun k hk=>hg.block k hk.2.2.1 (l k hk.1).2) (d.M_bound r);exact d.M_mono (fun k hk=>⟨(l k hk.1).1,D k (l k hk.1).2 hk.2.2.1⟩) h1
  refine ⟨fun k hk=>?_,inner++cs,by rw [qal,qay];exact I,?_⟩
  · rcases i with i|⟨b,j,B⟩
    · exact y k (i ▸ hk)
    rw [j] at hk;injection hk with hk;exact z k kab
  exact (hr.imp_ (fun _ _ r=>step r (fun _ hk=>hk))).snoc (step hp G) (d.K_len (d.K_of_M hp))
section
variable {P:Program} {ops:Array Oper} {rest:List Oper} {o:Oper} {a:Act} {Q:Exit->Act->World->Prop} {α:Type}
theorem R_append (d:Kd α) {w0 W:World} (base:Nat) (J:o.guard=none) (s x:Operand) (t e:TypeId) (z:Value) (bytes:Nat)
    (U:o.op = .call { callee := .builtin .append,args:=#[s,x],argTypes:=#[t,t] })
    (ht:P.underlying t=some (.slice e)) (L:(P.info? e).map (fun i=>(i.zero,i.size,i.bytes))=some (some z,d.sz,bytes)) (hz:z.cells.size=d.sz) (af:0<d.sz) (B:0<bytes)
    (v:Value) (xs:List α) (p:α) (cs:List Value) (ok okp:Nat->Prop) (hs:a.eval s=v) (hx:a.eval x = .slice (some ⟨W.heap.size,0,none⟩) 1 1) (hp:d.M W base okp p cs) (X:∀ k,okp k->ok k/\some k≠v.ownBlock) (I:∀ k,W.heap.size<=k->ok k)
    (r:d.R e W base ok v xs) (HB:Below base w0 W) (G:base<=W.heap.size) (O:(xs.length+1)*bytes<=140737488355328)
    (h:∀ v1 w1,d.R e w1 base ok v1 (xs++[p])->Below base w0 w1->W.grownBy w1 v.ownBlock->(v1.ownBlock=v.ownBlock\/∃ b,v1.ownBlock=some b/\W.heap.size<=b)->wpList P ops Q rest (a.put o.dst v1) w1) :
    wpList P ops Q (o::rest) a (W.alloc (.cells cs.toArray e)):=by
  obtain ⟨y,inner,Y,hr⟩:=r;refine print_append_cells base J s x t e z d.sz bytes U ht L hz af B v xs.length inner cs hs hx (d.K_len (d.K_of_M hp)) (d.K_one (d.K_of_M hp)) Y HB G O ?_;intro v1 w1 Z D l j;exact h v1 w1 (R_appended y hr hp X I Z l j) D l j
end
theorem own_of_R {α:Type} {enc:α->Value} {h1:∀ x,(enc x).oneCell'=true} {e:Nat} {w:World} {base:Nat} {ok:Nat->Prop} {v:Value} {xs:List α} (h:(scalar enc h1).R e w base ok v xs):w.ownsRow base e 1 v xs.length (encs enc xs):=by
  obtain ⟨_,inner,y,hr⟩:=h;have:inner=encs enc xs:=by
    apply List.ext_getElem?;intro j;rcases Nat.lt_or_ge j xs.length with k|k
    · have r:=hr.2 j _ (qao k);have p:j<inner.length:=(by have:=hr.1;simp [scalar] at this;omega);have i:(inner.drop (j*1)).take 1=[enc xs[j]]:=r;rw [Nat.mul_one,qbh p] at i;have s:inner[j]=enc xs[j]:=by
        have l:=congrArg List.head? i;rw [qby] at l;exact qaa l
      rw [qao p,s];simp [encs,qao k]
    have i:inner.length=xs.length:=(by have:=hr.1;simp [scalar] at this;omega);rw [List.getElem?_eq_none kab,List.getElem?_eq_none (by rw [encs_length];omega)]
  rw [<-this];exact y
theorem reads_of_C {α:Type} {enc:α->Value} {d:α} {h1:∀ x,(enc x).oneCell'=true} {w:World} {A:Option Addr} {n:Nat} {xs:List α} (h:(scalar enc h1).C w A n xs):zub enc d w A n xs:=by
  refine ⟨h.1,h.2.1,fun hn=>?_⟩;obtain ⟨ad,e,p⟩:=h.2.2 hn;refine ⟨ad,e,fun j s=>?_⟩;have i:j<xs.length:=by have:=h.1;omega
  obtain ⟨c,_,k,r⟩:=p j _ (qao i);have l:c=[enc xs[j]]:=k;subst l;have:=r 0 _ rfl;simpa [scalar,qat,qao i] using this
end Kd
namespace Kd
structure Mono {α β:Type} (F:Kd α->Kd β):Prop where
  sz:∀ d d':Kd α,d.sz=d'.sz->(F d).sz=(F d').sz
  K:∀ d d':Kd α,d.sz=d'.sz->(∀ w x cs,d.K w x cs->d'.K w x cs)->∀ w x cs,(F d).K w x cs->(F d').K w x cs
  M:∀ d d':Kd α,d.sz=d'.sz->(∀ w base ok x cs,d.M w base ok x cs->d'.M w base ok x cs)->∀ w base ok x cs,(F d).M w base ok x cs->(F d').M w base ok x cs
theorem mono_const {α β:Type} (k:Kd β):Mono (fun _:Kd α=>k):=⟨fun _ _ _=>rfl,fun _ _ _ _ _ _ _ h=>h,fun _ _ _ _ _ _ _ _ _ h=>h⟩
theorem mono_id {α:Type}:Mono (fun d:Kd α=>d):=⟨fun _ _ h=>h,fun _ _ _ h=>h,fun _ _ _ h=>h⟩
theorem zvj {α:Type} {d d':Kd α} (hs:d.sz=d'.sz) (h:∀ w x cs,d.K w x cs->d'.K w x cs) {w:World} {A:Option Addr} {n:Nat} {xs:List α} (i:d.C w A n xs):d'.C w A n xs:=by
  unfold C at i ⊢;rw [<-hs];exact i.imp_ (qan _ _) (fun _ _ hp=>h _ _ _ hp)
theorem R_imp {α:Type} {d d':Kd α} (hs:d.sz=d'.sz) (h:∀ w base ok x cs,d.M w base ok x cs->d'.M w base ok x cs) {e:Nat} {w:World} {base:Nat} {ok:Nat->Prop} {v:Value} {xs:List α} (hr:d.R e w base ok v xs):d'.R e w base ok v xs:=by
  unfold R at hr ⊢;rw [<-hs];exact ⟨hr.1,hr.2.imp_ (fun _ _ hp=>h _ _ _ _ _ hp)⟩
theorem mono_slice {α β:Type} (e:Nat) {G:Kd α->Kd β} (i:Mono G):Mono (fun d=>slice e (G d)):=by
  refine ⟨fun _ _ _=>rfl,?_,?_⟩
  · rintro d d' hs h w x cs ⟨A,c,rfl,j,hr⟩;exact ⟨A,c,rfl,j,zvj (i.sz d d' hs) (i.K d d' hs h) hr⟩
  rintro d d' hs h w base ok x cs ⟨v,rfl,hr⟩;exact ⟨v,rfl,R_imp (i.sz d d' hs) (i.M d d' hs h) hr⟩
theorem mono_pair {α β γ:Type} {G:Kd α->Kd β} {H:Kd α->Kd γ} (j:Mono G) (k:Mono H):Mono (fun d=>pair (G d) (H d)):=by
  refine ⟨fun d d' hs=>?_,?_,?_⟩
  · show (G d).sz+(H d).sz=(G d').sz+(H d').sz;rw [j.sz d d' hs,k.sz d d' hs]
  · rintro d d' hs h w x cs ⟨c0,c1,rfl,i,h1⟩;exact ⟨c0,c1,rfl,j.K d d' hs h _ _ _ i,k.K d d' hs h _ _ _ h1⟩
  rintro d d' hs h w base ok x cs ⟨c0,c1,rfl,i,h1⟩;exact ⟨c0,c1,rfl,j.M d d' hs h _ _ _ _ _ i,k.M d d' hs h _ _ _ _ _ h1⟩
theorem mono_iso {α β γ:Type} {G:Kd α->Kd β} (f:γ->β) (i:Mono G):Mono (fun d=>iso (G d) f):=
  ⟨i.sz,fun d d' hs h w x cs=>i.K d d' hs h w (f x) cs,fun d d' hs h w base ok x cs=>i.M d d' hs h w base ok (f x) cs⟩
def Sub {α β:Type} (F:Kd α->Kd β) (E:List Nat):Prop:=∀ d:Kd α,(∀ q,q∈d.E->q∈E)->∀ q,q∈(F d).E->q∈E
theorem sub_const {α β:Type} {E:List Nat} (k:Kd β) (h:∀ q,q∈k.E->q∈E):Sub (fun _:Kd α=>k) E:=fun _ _=>h
theorem sub_id {α:Type} {E:List Nat}:Sub (fun d:Kd α=>d) E:=fun _ h=>h
theorem sub_slice {α β:Type} {E:List Nat} (e:Nat) {G:Kd α->Kd β} (k:e∈E) (j:Sub G E):Sub (fun d=>slice e (G d)) E:=fun d h q i=>by
  rcases qcj.1 i with rfl|i
  · exact k
  exact j d h q i
theorem sub_pair {α β γ:Type} {E:List Nat} {G:Kd α->Kd β} {H:Kd α->Kd γ} (j:Sub G E) (k:Sub H E):Sub (fun d=>pair (G d) (H d)) E:=fun d h q i=>by
  rcases qbi.1 i with i|i
  · exact j d h q i
  exact k d h q i
theorem sub_iso {α β γ:Type} {E:List Nat} {G:Kd α->Kd β} (f:γ->β) (i:Sub G E):Sub (fun d=>iso (G d) f) E:=i
theorem upto_E {α:Type} {F:Kd α->Kd α} {sz:Nat} {E:List Nat} (h:Sub F E):∀ n q,q∈(upto F sz E n).E->q∈E
  | 0,_,i=>i
  | n+1,q,i=>h _ (upto_E h n) q i
theorem upto_sz {α:Type} {F:Kd α->Kd α} {sz:Nat} {E:List Nat} (h:∀ d:Kd α,(F d).sz=sz):∀ n,(upto F sz E n).sz=sz
  | 0=>rfl
  | _+1=>h _
section
variable {α:Type} {F:Kd α->Kd α} {sz:Nat} {E:List Nat} {hs:∀ n,(upto F sz E n).sz=sz} {hE:∀ n q,q∈(upto F sz E n).E->q∈E}
theorem zun (i:Mono F) (hs:∀ n,(upto F sz E n).sz=sz):∀ n {w x cs},(upto F sz E n).K w x cs->(upto F sz E (n+1)).K w x cs
  | 0,_,_,_,h=>h.elim
  | n+1,_,_,_,h=>i.K _ _ (by rw [hs n,hs (n+1)]) (fun _ _ _ hk=>zun i hs n hk) _ _ _ h
theorem zoz (i:Mono F) (hs:∀ n,(upto F sz E n).sz=sz) {n m:Nat} (k:n<=m) {w x cs} (h:(upto F sz E n).K w x cs):(upto F sz E m).K w x cs:=by
  obtain ⟨j,rfl⟩:=Nat.exists_eq_add_of_le k;induction j with
  | zero=>exact h
  | succ j l=>exact zun i hs _ (l kab)
theorem fix_C {n:Nat} {w:World} {A:Option Addr} {m:Nat} {xs:List α} (h:(upto F sz E n).C w A m xs):(fix F sz E hs hE).C w A m xs:=zvj (d':=fix F sz E hs hE) (hs n) (fun w x cs hp=>(⟨n,hp⟩:∃ n,(upto F sz E n).K w x cs)) h
theorem ztw {P:Nat->Nat->Prop} (i:∀ n m j,n<=m->P n j->P m j):∀ m,(∀ j,j<m->∃ n,P n j)->∃ N,∀ j,j<m->P N j
  | 0,_=>⟨0,fun j k=>absurd k (Nat.not_lt_zero j)⟩
  | m+1,h=>by
    obtain ⟨N,p⟩:=ztw i m (fun j k=>h j kab);obtain ⟨n,hn⟩:=h m kab;refine ⟨max N n,fun j k=>?_⟩;rcases Nat.lt_or_ge j m with l|l
    · exact i N _ j (Nat.le_max_left _ _) (p j l)
    have:j=m:=kab;subst this;exact i n _ j (Nat.le_max_right _ _) hn
theorem fix_C_back (z:Mono F) {w:World} {A:Option Addr} {m:Nat} {xs:List α} (h:(fix F sz E hs hE).C w A m xs):∃ n,(upto F sz E n).C w A m xs:=by
  rcases Nat.eq_zero_or_pos m with G|D
  · subst G;exact ⟨0,h.1,h.2.1,fun hp=>absurd hp (Nat.lt_irrefl 0)⟩
  obtain ⟨ad,e,y⟩:=h.2.2 D;obtain ⟨N,s⟩:=ztw (P:=fun n j=>∀ p,xs[j]?=some p->∃ c,c.length=sz/\(upto F sz E n).K w p c/\∀ i u,c[i]?=some u->w.cell? (ad.add (j*sz+i))=some u)
    (fun n n' j B hp p k=>by
      obtain ⟨c,h1,l,r⟩:=hp p k;exact ⟨c,h1,zoz z hs B l,r⟩) xs.length
    (fun j k=>by
      obtain ⟨c,h1,⟨n,l⟩,r⟩:=y j _ (qao k);refine ⟨n,fun p hp=>?_⟩;rw [qao k] at hp;injection hp with hp;rw [<-hp];exact ⟨c,h1,l,r⟩)
  refine ⟨N,h.1,h.2.1,fun _=>⟨ad,e,fun j p k=>?_⟩⟩;rw [hs N];exact s j (qav.1 k).1 p k
theorem upto_C_le (i:Mono F) (hs:∀ n,(upto F sz E n).sz=sz) {n m:Nat} (j:n<=m) {w:World} {A:Option Addr} {l:Nat} {xs:List α} (h:(upto F sz E n).C w A l xs):(upto F sz E m).C w A l xs:=zvj (by rw [hs n,hs m]) (fun _ _ _ hp=>zoz i hs j hp) h
end
end Kd
namespace Kd
end Kd
namespace Kd
section
variable {α β:Type} {d:Kd α} {d':Kd β} {e e':Nat} {w w1 W:World} {base b b':Nat} {ok ok' bo bn:Nat->Prop} {v u:Value} {xs:List α} {ys:List β}
theorem R_alloc (h:d.R e w base ok v xs) (o:Obj):d.R e (w.alloc o) base ok v xs:=R_below h (zad (qan _ _) o)
theorem R_drew (h:d.R e w base ok v xs):d.R e w.drew base ok v xs:=R_below h (znp (qan _ _))
theorem R_drewN (h:d.R e w base ok v xs) (m:Nat):d.R e (w.drewN m) base ok v xs:=R_below h (zaa (qan _ _) m)
theorem C_alloc {A:Option Addr} {n:Nat} (h:d.C w A n xs) (o:Obj):d.C (w.alloc o) A n xs:=C_below h (zad (qan _ _) o)
theorem C_drew {A:Option Addr} {n:Nat} (h:d.C w A n xs):d.C w.drew A n xs:=C_below h (znp (qan _ _))
theorem C_drewN {A:Option Addr} {n:Nat} (h:d.C w A n xs) (m:Nat):d.C (w.drewN m) A n xs:=C_below h (zaa (qan _ _) m)
theorem C_nil (d:Kd α) (w:World):d.C w none ([]:List α).length []:=⟨rfl,by simp,fun h=>absurd h (Nat.lt_irrefl 0)⟩
theorem R_reads' {A:Option Addr} {n c:Nat} (h:d.R e w base ok (.slice A n c) xs):n=xs.length/\n<=c/\d.C w A xs.length xs:=by
  obtain ⟨A',c',j,l,hr⟩:=R_reads h;injection j with h1 i k;subst h1;exact ⟨i,kab,hr⟩
theorem R_form (h:d.R e w base ok v xs) (hp:0<xs.length):∃ g cap,v = .slice (some ⟨g,0,none⟩) xs.length cap/\base<=g/\g<w.heap.size/\∃ cells,w.heap[g]?=some (.cells cells e (0,0)):=by
  obtain ⟨inner,j⟩:=R_own h;obtain ⟨g,cap,i,k,p⟩:=j.form hp;obtain ⟨cells,l⟩:=zgc j g (by rw [i];simp [Value.ownBlock]);exact ⟨g,cap,i,k,p,cells,l⟩
end
section
variable {w W:World} {A:Option Addr} {n:Nat}
theorem at_string {xs:List ByteArray} (h:Kd.string.C w A n xs) (i:Int) (j:0<=i) (h1:i<n):∃ ad,A=some ad/\w.cell? (ad.add i.toNat)=some (.string (rdOf ByteArray.empty xs i)):=
  zub.at_ (reads_of_C (enc:=Value.string) (d:=ByteArray.empty) (h1:=fun _=>rfl) h) i j h1
variable {α:Type} {enc:α->Value} {h1:∀ x,(enc x).oneCell'=true} {e base g cap:Nat} {ok:Nat->Prop} {xs:List α}
end
section
variable {P:Program} {ops:Array Oper} {rest:List Oper} {o:Oper} {a:Act} {Q:Exit->Act->World->Prop}
theorem event_run {W w1:World} {v:Value} (j:o.guard=none) (k:(execOp a.eval o).run P W = .ok (.value v) w1) (h:wpList P ops Q rest (a.put o.dst v) w1):wpList P ops Q (o::rest) a W:=by
  refine wpList_plain j fun K i=>?_;unfold Oper.wp;rw [k];exact i _ _ h
variable {α:Type}
theorem R_lit (d:Kd α) {w0 W:World} (base e:Nat) (y:o.guard=none) {N:Tmp} (G:o.dst=some N) {xs:List α} {inner:List Value} {ok okp:Nat->Prop}
    (D:(execOp a.eval o).run P W = .ok (.value (.slice (some ⟨W.heap.size,0,none⟩) xs.length xs.length)) (W.alloc (.cells inner.toArray e)))
    (j:Reps (d.M W base okp) d.sz xs inner) (B:∀ k,okp k->ok k) (s:ok W.heap.size) (HB:Below base w0 W) (i:base<=W.heap.size) (z:xs.length<=9223372036854775807)
    (h:∀ v1 w1,d.R e w1 base ok v1 xs->Below base w0 w1->W.grownBy w1 none->(∃ b,v1.ownBlock=some b/\W.heap.size<=b)->wpList P ops Q rest (a.put o.dst v1) w1):wpList P ops Q (o::rest) a W:=by
  refine event_run y D (h _ _ ⟨fun k hk=>?_,inner,?_,?_⟩ (HB.alloc i _) (World.grownBy_alloc W _ none) ⟨W.heap.size,by simp [Value.ownBlock],qad _⟩)
  · have:W.heap.size=k:=(by simpa [Value.ownBlock] using hk);subst this;exact s
  · have l:=World.ownsRow_lit (base:=base) (e:=e) (size:=d.sz) W inner.toArray xs.length i (by simpa [maxLen] using z) (by simpa using j.1);simpa using l
  refine j.imp_ (fun p c hp=>d.M_mono (fun k hk=>⟨B k hk.1,fun r=>?_⟩) (M_below (d.M_bound hp) (zad (qan _ _) _)));have I:k=W.heap.size:=by simpa [Value.ownBlock] using r
  have:=hk.2.2.1;omega
end
end Kd
def QRow (w:World) (base:Nat) (e:TypeId) (size:Nat) (v:Value) (n:Nat) (xs:List Value):Prop:=
  xs.length=n*size /\
  ((n=0/\∃ A,v = .slice A 0 0/\∀ a,A=some a->base<=a.block/\∃ cur,w.heap[a.block]?=some (.cells cur e (0,0))) \/
   ∃ g off cap cur,v = .slice (some ⟨g,off*size,none⟩) n cap/\base<=g/\w.heap[g]?=some (.cells cur e (0,0))/\n<=cap/\off+cap<=maxLen/\cur.size=(off+cap)*size/\(cur.toList.drop (off*size)).take (n*size)=xs)
section
variable {w w1:World} {base n size:Nat} {e:TypeId} {v:Value} {xs:List Value}
theorem q_of_own (h:w.ownsRow base e size v n xs):QRow w base e size v n xs:=by
  obtain ⟨h1,j⟩:=h;refine ⟨h1,?_⟩;rcases j with ⟨rfl,i⟩|⟨g,cap,cur,rfl,l,hh,s,p,r,ht⟩
  · exact .inl ⟨i,none,rfl,fun a k=>by cases k⟩
  exact .inr ⟨g,0,cap,cur,by rw [Nat.zero_mul],l,hh,s,by rw [Nat.zero_add];exact p,by rw [Nat.zero_add];exact r,by rw [Nat.zero_mul,List.drop_zero];exact ht⟩
end
namespace Kd
def Q {α:Type} (d:Kd α) (e:Nat) (w:World) (base:Nat) (ok:Nat->Prop) (v:Value) (xs:List α):Prop:=
  (∀ k,v.ownBlock=some k->ok k)/\∃ inner,QRow w base e d.sz v xs.length inner/\Reps (d.M w base (fun k=>ok k/\some k≠v.ownBlock)) d.sz xs inner
section
variable {α:Type} {d:Kd α} {e:Nat} {w w1 W:World} {base:Nat} {ok ok':Nat->Prop} {v:Value} {xs:List α}
theorem Q_of_R (h:d.R e w base ok v xs):d.Q e w base ok v xs:=by
  obtain ⟨i,inner,j,hr⟩:=h;exact ⟨i,inner,q_of_own j,hr⟩
theorem Q_nil (d:Kd α) (e:Nat) (w:World) (base:Nat) (ok:Nat->Prop):d.Q e w base ok (.slice none 0 0) []:=Q_of_R (R_nil d e w base ok)
end
end Kd
namespace Kd
end Kd
namespace Kd
end Kd
namespace Kd
end Kd
namespace Kd
end Kd
namespace Kd
end Kd
namespace Kd
end Kd
theorem string_of_reads {P:Program} {w:World} {src dst e:TypeId} {A:Option Addr} {n c:Nat} {xs:List Int} (hs:P.underlying src=some (.slice e)) (r:P.underlying e=some (.int .u8)) (hd:P.underlying dst=some .string)
    (h:zou w .u8 A n xs):(convert src dst (.slice A n c)).run P w = .ok (.string (strOfNums xs)) w:=by
  have hn:xs.length=n:=h.1;rcases A with _|ad
  · have k:n=0:=by
      rcases Nat.eq_zero_or_pos n with k|k
      · exact k
      obtain ⟨ad,i,_⟩:=h.2.2 k;cases i
    subst k;obtain rfl:xs=[]:=List.eq_nil_of_length_eq_zero hn;exact run_convert_bytes_nil w src e hs r 0 c dst hd
  have z:(loadCells ad n).run P w = .ok (xs.map (Value.int .u8)).toArray w:=by
    have:=run_loadCells_list (P:=P) w ad (xs.map (Value.int .u8)) (fun j v l=>by
      have s:j<xs.length:=by
        rcases Nat.lt_or_ge j xs.length with i|i
        · exact i
        rw [List.getElem?_eq_none (by rw [qci];exact i)] at l;cases l
      obtain ⟨B,p,y⟩:=h.2.2 kab;injection p with p;subst p;rw [y j kab];rw [List.getElem?_map,qao s] at l;simp at l;subst l;simp [qat,qao s])
    simpa [hn] using this
  rw [run_convert_bytes_string w src dst e _ n c hs r hd,run_bytesToString w ad n c xs z,foldl_push_bytes];simp [strOfNums,ByteArray.empty,ByteArray.emptyWithCapacity];rfl
theorem zat {w W:World} (h:Below w.heap.size w W):w.heap.size<=W.heap.size:=h.size
theorem zau {w W i:World} (h:Below w.heap.size w W) (k:Below W.heap.size W i):Below w.heap.size w i:=zbb h h.size k
theorem zaj {w W:World} {g j:Nat} {v:Value} (h:Below w.heap.size w W) (hg:w.heap.size<=g):Below w.heap.size w (W.setCell ⟨g,j,none⟩ v):=h.setCell hg _
theorem zan {w:World} {g:Nat} {t:TypeId} {cs cs':Array Value} (h:w.heap[g]?=some (.cells cs t (0,0))) (i:Nat) (u:Value) (e:cs.setIfInBounds i u=cs'):(w.setCell ⟨g,i,none⟩ u).heap[g]?=some (.cells cs' t (0,0)):=e ▸ blk_set h i u
theorem zae {base:Nat} {w W:World} (h:Below base w W):Below base w W.drew:=h.drew
namespace Kd
end Kd
namespace Kd
section
variable {α:Type} {d:Kd α} {e base g:Nat} {ok:Nat->Prop} {w w1:World} {v:Value} {xs:List α} {o:Obj}
theorem R_elderB (h:d.R e w base ok v xs) (a:Nat) (i:w.heap.size<=a):d.R e w base (fun k=>ok k/\k≠a) v xs:=R_mono (zqz h) (fun k hk=>⟨hk.1,by have:=hk.2.2.1;omega⟩)
theorem freshB (i:w.heap[g]?=some o):∀ k,w.heap.size<=k->k≠g:=fun k hk=>by have:=zam i;omega
end
end Kd
section
variable {P:Program} {ops:Array Oper} {rest:List Oper} {o:Oper} {a:Act} {Q:Exit->Act->World->Prop}
theorem zcb {W:World} (i:o.guard=none) {N:Tmp} (k:o.dst=some N) {cs:Array Value} {t:TypeId}
    (j:(execOp a.eval o).run P W = .ok (.value (.pointer (some ⟨W.heap.size,0,none⟩))) (W.alloc (.cells cs t (0,0))))
    (h:∀ g,g=W.heap.size->∀ w1,w1.heap[g]?=some (.cells cs t (0,0))->Below W.heap.size W w1->wpList P ops Q rest (a.put o.dst (.pointer (some ⟨g,0,none⟩))) w1):wpList P ops Q (o::rest) a W:=
  Kd.event_run i j (h _ rfl _ (ziw W _) (zad (qan _ _) _))
end
namespace Kd
end Kd
namespace Kd
end Kd
section
variable {P:Program} {ops:Array Oper} {rest:List Oper} {o:Oper} {a:Act} {Q:Exit->Act->World->Prop} {W:World}
theorem zcf {N:Tmp} (i:o.dst=some N) (h:wpList P ops Q (o::rest) a W):wpList P ops Q (o::rest) a W:=h
end
namespace Kd
end Kd
end Go.Proofs.YtjeekocidaogoaaGreatDoorW.PrintWords
end
namespace Go.Proofs.YtjeekocidaogoaaGreatDoorW.PrintLast
section
section
variable {P:Program} {ops:Array Oper} {Q:Exit->Act->World->Prop} {md:Region.Mode} {S:World->Prop} {ds:List Nat}
theorem enters_ {f:FuncId} {fn:Func} (hf:P.funcs[f]?=some fn) (k:(fn.name == "runtime.NumGoroutine")=false) (i:fn.body.isSome=true) (args:Array Value) (w:World):(callFunc f args).run P w = .ok (.enter f args) w:=by
 have h1:fn.name ≠ "runtime.NumGoroutine" := by simpa using k
 obtain ⟨c,j⟩:=Option.isSome_iff_exists.1 i;simp [callFunc,hf,h1,j]
theorem zbs {rest:List Oper} {i:Oper} {a:Act} {w:World} (N:Option Tmp) (hd:i.dst=N) (hg:i.guard=none) {f:FuncId} {fn:Func} {j:Array Operand} {ts:Array TypeId} (hf:P.funcs[f]?=some fn) (s:(fn.name == "runtime.NumGoroutine")=false) (p:fn.body.isSome=true) (args:Array Value)
  (y:i.op = .call { callee := .value (.func f),args:=j,argTypes:=ts }) (l:j.map a.eval=args)
  (h:Calls P f args w fun e w'=>∃ v,e = .returned v/\wpList P ops Q rest (a.put N v) w'):wpList P ops Q (i::rest) a w:=by
 refine wpList_plain hg fun K k=>?_;have r:=enters_ hf s p args w;have z:(execOp a.eval i).run P w = .ok (.enter f args) w:=by
  unfold execOp;simp [y,resolve,Deferred.ofValue,invoke,Act.eval,l,r]
 unfold Oper.wp;rw [z,Oper.upon_enter];refine h.mono fun e B hh=>?_;obtain ⟨v,rfl,hk⟩:=hh;subst hd;exact k _ _ hk
theorem zjm (n:Int):IntKind.i64.wrap n=Go.RowKit.wrap64 n:=by unfold Go.RowKit.wrap64;exact IntKind.wrap_i64 n
theorem zpt (n:Int):IntKind.i32.wrap n=Go.RowKit.wrap32 n:=by unfold Go.RowKit.wrap32;exact IntKind.wrap_i32 n
end
end
end Go.Proofs.YtjeekocidaogoaaGreatDoorW.PrintLast
section
namespace Go.Proofs.YtjeekocidaogoaaGreatDoorW.PrintWords
open Go.RowKit
namespace Kd
end Kd
end Go.Proofs.YtjeekocidaogoaaGreatDoorW.PrintWords
end
section
namespace Go.Proofs.YtjeekocidaogoaaGreatDoorW.PrintWords
open Go.RowKit
namespace Kd
def tag {α:Type} (f:Nat->Nat) (d:Kd α):Kd (α×Nat) where
 sz:=d.sz
 E:=d.E
 K:=fun w x cs=>d.K w x.1 cs
 M:=fun w base ok x cs=>d.M w base (fun k=>ok k/\f k=x.2) x.1 cs
 K_len:=fun h=>d.K_len h
 K_one:=fun h=>d.K_one h
 K_below:=fun i h=>d.K_below i h
 K_of_M:=fun h=>d.K_of_M h
 M_mono:=fun l h=>d.M_mono (fun k hk=>⟨l k hk.1,hk.2⟩) h
 M_bound:=fun h=>d.M_mono (fun _ hk=>⟨⟨hk.1.1,hk.2⟩,hk.1.2⟩) (d.M_bound h)
 M_move:=fun j h=>d.M_move (fun k hk=>j k hk.1) h
 M_lower:=fun i h=>d.M_lower i h
def raw (sz:Nat):Kd (List Value) where
 sz:=sz
 E:=[]
 K:=fun _ x cs=>cs=x/\cs.length=sz/\∀ u∈cs,u.oneCell'=true
 M:=fun _ _ _ x cs=>cs=x/\cs.length=sz/\∀ u∈cs,u.oneCell'=true
 K_len:=fun h=>h.2.1
 K_one:=fun h=>h.2.2
 K_below:=fun _ h=>h
 K_of_M:=fun h=>h
 M_mono:=fun _ h=>h
 M_bound:=fun h=>h
 M_move:=fun _ h=>h
 M_lower:=fun _ h=>h
def S {α:Type} (d:Kd α) (e:Nat) (w:World) (base:Nat) (ok:Nat->Prop) (v:Value) (xs:List α):Prop:=∃ f,(tag f d).R e w base ok v xs.zipIdx
section
variable {α β:Type} {d:Kd α} {d':Kd β} {e e':Nat} {w w1 W:World} {base b:Nat} {ok ok' bo bn:Nat->Prop} {u v:Value} {xs:List α} {ys:List β}
theorem S_nil (d:Kd α) (e:Nat) (w:World) (base:Nat) (ok:Nat->Prop):S d e w base ok (.slice none 0 0) []:=⟨fun _=>0,R_nil _ _ _ _ _⟩
end
def gap {α:Type} (f:Nat->Nat) (d:Kd α) (i:Nat) (c:List Value):Kd (α×Nat) where
 sz:=d.sz
 E:=d.E
 K:=fun w x cs=>(x.2=i->cs=c/\cs.length=d.sz/\∀ u∈cs,u.oneCell'=true)/\(x.2≠i->d.K w x.1 cs)
 M:=fun w base ok x cs=>(x.2=i->cs=c/\cs.length=d.sz/\∀ u∈cs,u.oneCell'=true)/\(x.2≠i->d.M w base (fun k=>ok k/\f k=x.2) x.1 cs)
 K_len:=fun {w x cs} h=>by
  by_cases j:x.2=i
  ·exact (h.1 j).2.1
  exact d.K_len (h.2 j)
 K_one:=fun {w x cs} h=>by
  by_cases j:x.2=i
  ·exact (h.1 j).2.2
  exact d.K_one (h.2 j)
 K_below:=fun l h=>⟨h.1,fun j=>d.K_below l (h.2 j)⟩
 K_of_M:=fun h=>⟨h.1,fun j=>d.K_of_M (h.2 j)⟩
 M_mono:=fun r h=>⟨h.1,fun j=>d.M_mono (fun k hk=>⟨r k hk.1,hk.2⟩) (h.2 j)⟩
 M_bound:=fun h=>⟨h.1,fun j=>d.M_mono (fun _ hk=>⟨⟨hk.1.1,hk.2⟩,hk.1.2⟩) (d.M_bound (h.2 j))⟩
 M_move:=fun p h=>⟨h.1,fun j=>d.M_move (fun k hk=>p k hk.1) (h.2 j)⟩
 M_lower:=fun l h=>⟨h.1,fun j=>d.M_lower l (h.2 j)⟩
def H {α:Type} (d:Kd α) (e:Nat) (w:World) (base:Nat) (ok:Nat->Prop) (v:Value) (xs:List α) (i:Int) (j:Nat->Prop) (c:List Value):Prop:=
 (∀ k,j k->ok k)/\∃ f,(gap f d i.toNat c).R e w base (fun k=>ok k/\¬j k) v xs.zipIdx
end Kd
end Go.Proofs.YtjeekocidaogoaaGreatDoorW.PrintWords
end
section
namespace Go.Proofs.YtjeekocidaogoaaGreatDoorW.PrintWords
open Go.RowKit
namespace Kd
end Kd
end Go.Proofs.YtjeekocidaogoaaGreatDoorW.PrintWords
end
section
namespace Go.Proofs.YtjeekocidaogoaaGreatDoorW.PrintWords
open Go.RowKit
namespace Kd
end Kd
end Go.Proofs.YtjeekocidaogoaaGreatDoorW.PrintWords
end
section
namespace Go.Proofs.YtjeekocidaogoaaGreatDoorW.PrintWords
open Go.RowKit
namespace Kd
end Kd
end Go.Proofs.YtjeekocidaogoaaGreatDoorW.PrintWords
end
section
namespace Go.Proofs.YtjeekocidaogoaaGreatDoorW.PrintWords
open Go.RowKit
def Kept (w W:World) (S:Nat->Prop):Prop:=w.heap.size<=W.heap.size/\∀ i,i<w.heap.size->¬S i->W.heap[i]?=w.heap[i]?
section
variable {w W W2:World} {S S2 S':Nat->Prop}
theorem Kept.of_below (h:Below w.heap.size w W) (S:Nat->Prop):Kept w W S:=⟨h.size,fun i hi _=>h.block i hi⟩
theorem Kept.then_ (h:Kept w W S) (k:Kept W W2 S2) (hs:∀ k,S2 k->S k\/w.heap.size<=k):Kept w W2 S:=
 ⟨qas h.1 k.1,fun i hi hn=>(k.2 i (qce hi h.1) (fun j=>(hs i j).elim hn (fun l=>by omega))).trans (h.2 i hi hn)⟩
theorem Kept.below (h:Kept w W S) (i:Below W.heap.size W W2):Kept w W2 S:=h.then_ (Kept.of_below i (fun _=>False)) (fun _ hk=>hk.elim)
theorem Kept.alloc (h:Kept w W S) (o:Obj):Kept w (W.alloc o) S:=h.below (zad (qan _ _) o)
end
namespace Kd
end Kd
end Go.Proofs.YtjeekocidaogoaaGreatDoorW.PrintWords
end
section
namespace Go.Proofs.YtjeekocidaogoaaGreatDoorW.PrintWords
open Go.RowKit
def Foot (P:World->Prop) (W:World) (ok:Nat->Prop):Prop:=∀ W':World,(∀ k,ok k->k<W.heap.size->W'.heap[k]?=W.heap[k]?)->P W'
namespace Foot
variable {P Q:World->Prop} {W W1:World} {ok ok':Nat->Prop}
end Foot
namespace Kd
def F {α:Type} (d:Kd α) (W:World) (ok:Nat->Prop) (A:Option Addr) (n:Nat) (xs:List α):Prop:=Foot (fun W=>d.C W A n xs) W ok
def FK {α:Type} (d:Kd α) (W:World) (ok:Nat->Prop) (x:α) (c:List Value):Prop:=Foot (fun W=>d.K W x c) W ok
section
variable {α β:Type} {d:Kd α} {e base n n' cc g N:Nat} {ok ok' okp S:Nat->Prop} {w w0 w1 W W1:World} {A A':Option Addr} {u v v1:Value} {xs:List α} {bs:List β} {d':Kd β} {x:α} {c:List Value}
theorem F_nil (d:Kd α) (W:World) (ok:Nat->Prop):F d W ok none ([]:List α).length []:=fun W' _=>C_nil d W'
theorem FK_of_M (h:d.M W base ok x c):FK d W ok x c:=fun _ i=>d.K_of_M (zvc h i)
end
end Kd
end Go.Proofs.YtjeekocidaogoaaGreatDoorW.PrintWords
end
section
namespace Go.Proofs.YtjeekocidaogoaaGreatDoorW.PrintWords
open Go.RowKit
namespace Kd
def zmk (sz:Nat) (n:Nat) (inner:List Value):List (List Value):=(List.range n).map fun j=>(inner.drop (j*sz)).take sz
theorem zew (sz n:Nat) (inner:List Value):(zmk sz n inner).length=n:=by simp [zmk]
theorem chunks_at {sz n:Nat} {inner:List Value} {j:Nat} (i:j<n):(zmk sz n inner)[j]?=some ((inner.drop (j*sz)).take sz):=by simp [zmk,i]
theorem znn {sz n:Nat} {inner:List Value} {j:Nat} {c:List Value} (h:(zmk sz n inner)[j]?=some c):c=(inner.drop (j*sz)).take sz:=by
 have i:j<n:=by have:=(qav.1 h).1;rwa [zew] at this
 rw [chunks_at i] at h;injection h with h;exact h.symm
theorem reps_raw {α:Type} {i:α->List Value->Prop} {sz:Nat} {xs:List α} {inner:List Value} (h:Reps i sz xs inner) (l:∀ x c,i x c->c.length=sz/\∀ u∈c,u.oneCell'=true):Reps (fun x cs=>cs=x/\cs.length=sz/\∀ u∈cs,u.oneCell'=true) sz (zmk sz xs.length inner) inner:=by
 refine ⟨by rw [zew];exact h.1,fun j p k=>?_⟩;have r:j<xs.length:=by have:=(qav.1 k).1;rwa [zew] at this
 have hp:=znn k;exact ⟨hp.symm,l _ _ (h.2 j _ (qao r))⟩
section
variable {α:Type} {d:Kd α} {e base n cc g:Nat} {ok ok' okp S:Nat->Prop} {w w1 W W1:World} {A:Option Addr} {u v v1:Value} {xs:List α} {x:α} {c:List Value}
def N {α:Type} (d:Kd α) (e:Nat) (w:World) (base:Nat) (ok:Nat->Prop) (v:Value) (xs:List α):Prop:=
 (∀ k,v.ownBlock=some k->ok k)/\∃ rows:List (List Value),rows.length=xs.length/\(raw d.sz).R e w base (fun k=>some k=v.ownBlock) v rows/\∀ (j:Nat) (x:α) (c:List Value),xs[j]?=some x->rows[j]?=some c->FK d w (fun k=>ok k/\some k≠v.ownBlock) x c
theorem R_N (h:d.R e w base ok v xs):N d e w base ok v xs:=by
 obtain ⟨i,inner,p,hr⟩:=h;refine ⟨i,zmk d.sz xs.length inner,zew _ _ _,⟨fun k hk=>hk.symm,inner,by rw [zew];exact p,reps_raw hr (fun x c hp=>⟨d.K_len (d.K_of_M hp),d.K_one (d.K_of_M hp)⟩)⟩,fun j x c r l=>?_⟩;rw [znn l];exact FK_of_M (hr.2 j x r)
theorem N_nil (d:Kd α) (e:Nat) (w:World) (base:Nat) (ok:Nat->Prop):N d e w base ok (.slice none 0 0) []:=R_N (R_nil _ _ _ _ _)
end
end Kd
end Go.Proofs.YtjeekocidaogoaaGreatDoorW.PrintWords
end
section
namespace Go.Proofs.YtjeekocidaogoaaGreatDoorW.PrintWords
open Go.RowKit
namespace Kd
end Kd
end Go.Proofs.YtjeekocidaogoaaGreatDoorW.PrintWords
end
section
namespace Go.Proofs.YtjeekocidaogoaaGreatDoorW.PrintMore
open Go.RowKit Go.Proofs.YtjeekocidaogoaaGreatDoorW.PrintWords
namespace Kd
open Go.Proofs.YtjeekocidaogoaaGreatDoorW.PrintWords.Kd
end Kd
namespace Kd
open Go.Proofs.YtjeekocidaogoaaGreatDoorW.PrintWords.Kd
end Kd
theorem zdv (k i:IntKind) (x y:Int):Builtin.max2 (.int k x) (.int i y)=pure (.int k (if x<y then y else x)):=by simp only [Builtin.max2,gt_iff_lt]
theorem zdt (k i:IntKind) (x y:Int):Builtin.min2 (.int k x) (.int i y)=pure (.int k (if y<x then y else x)):=by simp only [Builtin.min2]
theorem zel (i:Array TypeId) (ty:TypeId) (a b:Value):Builtin.max_ i ty #[a,b]=(Builtin.max2 a b >>= fun s=>pure s):=by simp only [Builtin.max_,List.foldlM_cons,List.foldlM_nil]
theorem zek (i:Array TypeId) (ty:TypeId) (a b:Value):Builtin.min_ i ty #[a,b]=(Builtin.min2 a b >>= fun s=>pure s):=by simp only [Builtin.min_,List.foldlM_cons,List.foldlM_nil]
theorem zcz (i:Array TypeId) (ty:TypeId) (a b c:Value):Builtin.max_ i ty #[a,b,c]=(Builtin.max2 a b >>= fun s=>Builtin.max2 s c >>= fun s=>pure s):=by simp only [Builtin.max_,List.foldlM_cons,List.foldlM_nil]
theorem zcy (i:Array TypeId) (ty:TypeId) (a b c:Value):Builtin.min_ i ty #[a,b,c]=(Builtin.min2 a b >>= fun s=>Builtin.min2 s c >>= fun s=>pure s):=by simp only [Builtin.min_,List.foldlM_cons,List.foldlM_nil]
theorem zdu (i:Array TypeId) (ty:TypeId) (a b c d:Value):Builtin.max_ i ty #[a,b,c,d]=(Builtin.max2 a b >>= fun s=>Builtin.max2 s c >>= fun s=>Builtin.max2 s d >>= fun s=>pure s):=by simp only [Builtin.max_,List.foldlM_cons,List.foldlM_nil]
theorem zds (i:Array TypeId) (ty:TypeId) (a b c d:Value):Builtin.min_ i ty #[a,b,c,d]=(Builtin.min2 a b >>= fun s=>Builtin.min2 s c >>= fun s=>Builtin.min2 s d >>= fun s=>pure s):=by simp only [Builtin.min_,List.foldlM_cons,List.foldlM_nil]
end Go.Proofs.YtjeekocidaogoaaGreatDoorW.PrintMore
namespace Go.Proofs.YtjeekocidaogoaaGreatDoorW.PrintWords
open Go.RowKit
section
variable {P:Program} {ops:Array Oper} {rest:List Oper} {o:Oper} {a:Act} {Q:Exit->Act->World->Prop} {W:World}
theorem zar {f:FuncId} {i:Array Operand} {ts:Array TypeId} (j:o.op = .call { callee := .value (.func f),args:=i,argTypes:=ts }) (h:wpList P ops Q (o::rest) a W):wpList P ops Q (o::rest) a W:=h
theorem zas {b:Builtin} {xs:Array Operand} {ts:Array TypeId} (i:o.op = .call { callee := .builtin b,args:=xs,argTypes:=ts }) (h:wpList P ops Q (o::rest) a W):wpList P ops Q (o::rest) a W:=h
end
def mx (a b:Int):Int:=if a<b then b else a
def shl (k:IntKind) (x y:Int):Int:=k.wrap (x*2 ^ min y.toNat k.bits)
theorem shl_small {k:IntKind} {x y j:Int} (h:shl k x y=j) (i:y<=k.bits):k.wrap (x*2 ^ y.toNat)=j:=by rw [<-h];unfold shl;rw [Nat.min_eq_left kab]
theorem drewN_self (w:World) (n:Nat):w.drewN n=w.drewN n:=rfl
namespace Kd
end Kd
end Go.Proofs.YtjeekocidaogoaaGreatDoorW.PrintWords
namespace Go.Proofs.YtjeekocidaogoaaGreatDoorW.PrintWords
open Go.RowKit
namespace Kd
def V {α:Type} (d:Kd α) (j:Nat) (W:World) (i:Nat) (ok:Nat->Prop) (v:Value) (xs:List α):Prop:=∃ A c,v = .slice A xs.length c/\xs.length<=c/\F d W ok A xs.length xs
section
variable {α β:Type} {d:Kd α} {e base base' n m c g N' lo hi:Nat} {ok ok' S:Nat->Prop} {w W w1:World} {A:Option Addr} {ad:Addr} {u v v1:Value} {xs:List α}
theorem V_nil (d:Kd α) (e:Nat) (W:World) (base:Nat) (ok:Nat->Prop):V d e W base ok (.slice none 0 0) []:=⟨none,0,rfl,qad _,F_nil d W ok⟩
end
end Kd
end Go.Proofs.YtjeekocidaogoaaGreatDoorW.PrintWords
end
namespace Go.Proofs.YtjeekocidaogoaaGreatDoor.Hand
open Go.RowKit Go.Proofs.YtjeekocidaogoaaGreatDoorW.PrintWords Go.Proofs.YtjeekocidaogoaaGreatDoorW.PrintLast Go.Proofs.YtjeekocidaogoaaGreatDoorW.PrintMore
section
def toS (l:List UInt8):ByteArray:=⟨l.toArray⟩
theorem one_reps (w:World) (base:Nat) (ok:Nat->Prop) (xs:List ByteArray):Reps (Kd.string.M w base ok) Kd.string.sz xs (xs.map Value.string):=by
 refine ⟨by simp [Kd.string,Kd.scalar],fun j p i=>?_⟩;have hs:Kd.string.sz=1:=rfl;rw [hs,Nat.mul_one];show _=_;have k:=(qav.1 i);obtain ⟨l,rfl⟩:=k;rw [List.take_one,List.head?_drop,List.getElem?_map,i];rfl
theorem R_strs (w:World) (xs:List ByteArray) (i:xs.length<=maxLen):Kd.R Kd.string 9 (w.alloc (.cells (xs.map Value.string).toArray 9)) w.heap.size (fun _=>True) (.slice (some ⟨w.heap.size,0,none⟩) xs.length xs.length) xs:=by
 refine ⟨fun _ _=>trivial,xs.map Value.string,⟨by simp [Kd.string,Kd.scalar],.inr ⟨w.heap.size,xs.length,(xs.map Value.string).toArray,rfl,qad _,Array.getElem?_push_size,qad _,i,by simp [Kd.string,Kd.scalar],by simp [Kd.string,Kd.scalar,List.take_of_length_le]⟩⟩,one_reps _ _ _ _⟩
def strings_Fields.f (a0:ByteArray):Option (List ByteArray):=
 if a0.size<4294967281/\a0.data.toList.all (fun b=>decide (b.toNat<128))=true/\(Lib.fields a0.data.toList).length<=9223372036854775807 then some ((Lib.fields a0.data.toList).map toS) else none
theorem strings_Fields.calls (a0:ByteArray) (r:List ByteArray) (w:World) (p:Inv w) (h:strings_Fields.f a0=some r) :
  Calls prog 98 #[.string a0] w fun e w'=>∃ i:Value,e = .returned (i)/\Kd.R Kd.string 9 w' w.heap.size (fun _=>True) i r/\Below w.heap.size w w':=by
 unfold strings_Fields.f at h;split at h
 ·rename_i s;obtain ⟨h1,k,l⟩:=s;obtain rfl:=qaa h;refine (Tryz.strings_Fields_laid a0 w h1 (fun j b y=>?_) p.space).mono ?_
  ·have:=qbv.1 k b (qbz y);exact qbo this
  rintro e w' ⟨rfl,rfl⟩;refine ⟨_,rfl,?_,(qan _ _).alloc (qad _) _⟩;have hr:=R_strs w ((Lib.fields a0.data.toList).map toS) (by rw [qci];exact l);rw [qci,List.map_map] at hr;exact hr
 cases h
def strings_ContainsAny.f (a0 a1:ByteArray):Option Bool:=
 if a0.size<4294967281/\a1.size<4294967281/\a0.data.toList.all (fun b=>decide (b.toNat<128))=true/\a1.data.toList.all (fun b=>decide (b.toNat<128))=true then some (Lib.containsAny a0.data.toList a1.data.toList) else none
theorem strings_ContainsAny.calls (a0 a1:ByteArray) (r:Bool) (w:World) (h:strings_ContainsAny.f a0 a1=some r) :
  Calls prog 99 #[.string a0,.string a1] w fun e w'=>e = .returned (.bool r)/\Below w.heap.size w w':=by
 unfold strings_ContainsAny.f at h;split at h
 ·rename_i s;obtain ⟨h1,k,l,p⟩:=s;obtain rfl:=qaa h;exact Tryz.strings_ContainsAny_laid a0 a1 w h1 k (fun j b i=>qbo (qbv.1 l b (qbz i))) (fun j b i=>qbo (qbv.1 p b (qbz i)))
 cases h
def strings_Cut.f (a0 a1:ByteArray):Option (ByteArray×ByteArray×Bool):=
 if a0.size<4294967281 then some (toS (Lib.cut a0.data.toList a1.data.toList).1,toS (Lib.cut a0.data.toList a1.data.toList).2.1,(Lib.cut a0.data.toList a1.data.toList).2.2) else none
theorem strings_Cut.calls (a0 a1:ByteArray) (r1 r2:ByteArray) (r3:Bool) (w:World) (i:Inv w) (h:strings_Cut.f a0 a1=some (r1,r2,r3)) :
  Calls prog 126 #[.string a0,.string a1] w fun e w'=>e = .returned (.tuple #[.string r1,.string r2,.bool r3])/\Below w.heap.size w w':=by
 unfold strings_Cut.f at h;split at h
 ·rename_i h1;simp only [qai,qap] at h;obtain ⟨rfl,rfl,rfl⟩:=h;obtain ⟨m,j⟩:=i.maxLen;refine (Tryz.strings_Cut a0 a1 m w h1 j).mono ?_;rintro e w' ⟨rfl,n,rfl⟩;exact ⟨rfl,⟨rfl,rfl,rfl,qad _,fun _ _=>rfl⟩⟩
 cases h
end
section
def zue (s:ByteArray):Prop:=∀ (j:Nat) (h:j<s.size),(s[j]'h).toNat<128
theorem ascii_mem {s:ByteArray} (h:zue s):∀ b∈s.data.toList,b.toNat<128:=by
 intro b i;obtain ⟨j,k,rfl⟩:=List.getElem_of_mem i;exact h j (by simpa using k)
theorem index_err (s:ByteArray) (w:World) (hs:zue s) (l:s.size<=maxLen) :
  Calls prog 121 #[.string s,.int .i32 65533] w fun e w'=>e = .returned (.int .i64 (-1))/\Below w.heap.size w w':=by
 have i:=zq hs;clear hs;go_enter func121,ntmps121;go_wp2
 go_loopw [5] (fun _ w'=>∃ pos:Nat,w'=w.iter s pos) (fun _ w'=>s.size-w'.iterPos w.heap.size)
 case atStart=>exact ⟨0,rfl⟩
 case round=>
  obtain ⟨pos,rfl⟩:=hrel;by_cases hp:pos<s.size
  ·have j:=i.o pos hp;have k:∀ ty,(Instr.next (.pointer (some ⟨w.heap.size,0,none⟩)) true ty).run prog (w.iter s pos)=_:=fun ty=>run_next_ascii w s pos ty hp j;go_wp2
   go_roundw
   case rel=>exact ⟨pos+1,rfl⟩
   case measure=>simp;omega
  have k:∀ ty,(Instr.next (.pointer (some ⟨w.heap.size,0,none⟩)) true ty).run prog (w.iter s pos)=_:=fun ty=>run_next_end w s pos ty hp;go_wp2;go_ret;exact ⟨rfl,(qan _ _).alloc (qad _) _⟩
theorem index_invalid (s:ByteArray) (r:Int) (w:World) (j:¬(0<=r/\r<128)) (h1:(r==65533)=false) (k:Lib.validRune r=false) :
  Calls prog 121 #[.string s,.int .i32 r] w fun e w'=>e = .returned (.int .i64 (-1))/\Below w.heap.size w w':=by
 by_cases l:0<=r;all_goals
  have i:decide (r<128)=false\/¬0<=r:=by by_cases h:0<=r;exact .inl (qak kab);exact .inr h
  clear j;go_enter func121,ntmps121;first
  | (have y:decide (r<128)=false:=i.resolve_right (fun h=>h l))
  | skip
  clear i;go_wp2_with (go_at_call 151;refine (Tryz.utf8_ValidRune _ _).mono ?_;rintro e w' ⟨rfl,p⟩;rw [p];rw [k]);go_ret;exact ⟨rfl,qan _ _⟩
theorem index_valid (s:ByteArray) (r:Int) (w:World) (hs:zue s) (D:128<=r) (h1:(r==65533)=false) (p:Lib.validRune r=true) :
  Calls prog 121 #[.string s,.int .i32 r] w fun e w'=>e = .returned (.int .i64 (-1))/\Below w.heap.size w w':=by
 obtain ⟨z,B,i⟩:=encode_facts r (by rw [validRune_eq];exact p) D;have hh:decide (r<128)=false:=qak kab;have hp:decide (0<=r)=true:=qac kab;generalize hE:Utf8.encode r=E at z B i;have J:∀ w,(convert 21 9 (.int .i32 r)).run prog w = .ok (.string E) w:=fun w=>by rw [run_convert_int_string w 21 9 .i32 r (by rw [underlying21];rfl) underlying9,hE]
 have l:=zq hs;have y:=zq i;clear hE hs i;go_enter func121,ntmps121;go_wp2_with (go_at_call 151;refine (Tryz.utf8_ValidRune _ _).mono ?_;rintro e w' ⟨rfl,I⟩;rw [I];rw [p])
 go_step3
 go_wp2;have O:(0:Int)<=(E.size:Int)-1:=kab;have X:(1:Int)<=(E.size:Int):=kab;have U:(E.size:Int)-1<(E.size:Int):=kab;by_cases hi:(E.size:Int)-1<(s.size:Int)
 ·have k:E.size-1<s.size:=kab;have hk:E.size-1<E.size:=kab;have b1:=l.o (E.size-1) k;have b2:=y.o hk;have L:(((s[E.size-1]'k).toNat:Int)==((E[E.size-1]'hk).toNat:Int))=false:=qah.2 kab;have M:(((s[E.size-1]'k).toNat:Int)!=((E[E.size-1]'hk).toNat:Int))=true:=by rw [qbc];omega
  refine wp_loop_rounds 1 ?_;rw [rounds_succ];go_wp2
  go_step3
  go_wp2
  go_quiet (fail)
  go_wp2;have z0:IntKind.i64.wrap ((E.size:Int)-1+1)=(E.size:Int):=by rw [Int.sub_add_cancel];exact wrap_small _ kab kab
  have z1:(0:Int)<=(E.size:Int):=kab;have z2:(E.size:Int)<=(s.size:Int):=kab;have z3:((E.size:Int)).toNat=E.size:=kab;have j:Below w.heap.size w (w.drewN nq):=⟨rfl,rfl,rfl,qad _,fun _ _=>rfl⟩;generalize w.drewN nq=W1 at j;have HB:=zq j;clear j
  go_quiet ((go_at_call 150;exact Calls.quiet_of_same (Tryz.strings_IndexByte _ _ _)))
  clear z0 z1 z2;have hn:Lib.indexByte (s.extract E.size s.size).data.toList ((((E[E.size-1]'hk).toNat:Int)).toNat.toUInt8) = -1:=by
   rw [<-Lib.firstIdx_eq];refine firstIdx_ascii s _ _ _ (ascii_mem l.o) ?_;rw [qax];simpa using b2
  have G:decide (Lib.indexByte (s.extract E.size s.size).data.toList ((((E[E.size-1]'hk).toNat:Int)).toNat.toUInt8)<0)=true:=by rw [hn];rfl
  rw [hn];clear hn G;go_wp2;rw [Exit.noGoto_ret];go_wp2;rw [Exit.noGoto_ret];go_wp2;go_ret;exact ⟨rfl,HB.o.trans ⟨rfl,rfl,rfl,qad _,fun _ _=>rfl⟩⟩
 refine wp_loop_rounds 1 ?_;rw [rounds_succ];go_wp2;go_ret;exact ⟨rfl,qan _ _⟩
def strings_ContainsRune.f (a0:ByteArray) (a1:Int):Option Bool:=
 if a0.data.toList.all (fun b=>decide (b.toNat<128))=true/\a0.size<=maxLen then some (decide (0<=a1/\a1<128/\0<=Lib.indexByte a0.data.toList a1.toNat.toUInt8)) else none
theorem contains_high (s:ByteArray) (r:Int) (w:World) (hr:¬(0<=r/\r<128)) (hs:zue s) (k:s.size<=maxLen) :
  Calls prog 121 #[.string s,.int .i32 r] w fun e w'=>e = .returned (.int .i64 (-1))/\Below w.heap.size w w':=by
 by_cases h1:r=65533
 ·subst h1;exact index_err s w hs k
 cases i:Lib.validRune r with
 | false=>exact index_invalid s r w hr (qah.2 h1) i
 | true=>
  refine index_valid s r w hs ?_ (qah.2 h1) i;by_cases l:0<=r
  ·omega
  exfalso;have j:Lib.validRune r=false:=by unfold Lib.validRune;simp;omega
  rw [j] at i;cases i
theorem strings_ContainsRune.calls (a0:ByteArray) (a1:Int) (r:Bool) (w:World) (h:strings_ContainsRune.f a0 a1=some r) :
  Calls prog 92 #[.string a0,.int .i32 a1] w fun e w'=>e = .returned (.bool r)/\Below w.heap.size w w':=by
 unfold strings_ContainsRune.f at h;split at h
 ·rename_i y;obtain ⟨h1,l⟩:=y;have hs:zue a0:=fun j z=>qbo (qbv.1 h1 _ (Array.getElem_mem_toList (xs:=a0.data) (i:=j) z));obtain rfl:=qaa h;by_cases hr:0<=a1/\a1<128
  ·refine (Tryz.strings_ContainsRune_ascii a0 a1 w hr.1 hr.2).mono ?_;rintro e w' ⟨rfl,rfl⟩;exact ⟨by simp [hr.1,hr.2],qan _ _⟩
  have k:decide (0<=a1/\a1<128/\0<=Lib.indexByte a0.data.toList a1.toNat.toUInt8)=false:=qak (fun hh=>hr ⟨hh.1,hh.2.1⟩);rw [k];have p:=zq (fun w=>contains_high a0 a1 w hr hs l);clear k hr hs h1 l h;go_enter func92,ntmps92;go_wp2_with (go_at_call 121;refine (p.o _).mono ?_;rintro e w' ⟨rfl,s⟩);go_ret;exact ⟨rfl,s⟩
 cases h
end
end Go.Proofs.YtjeekocidaogoaaGreatDoor.Hand
