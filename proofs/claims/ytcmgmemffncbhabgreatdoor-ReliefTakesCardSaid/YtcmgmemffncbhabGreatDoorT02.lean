/-
  DERIVED: THE SHELF's CONTRACTS AT THIS DUMP,IN PLAIN WORDS (tools/lay-plain.mjs out of 'TryzShelf.lean',which tools/lay-shelf.mjs wrote): THE SAME DECLARATIONS UNDER THE SAME NAMES: 'import','namespace','open','def','theorem' AND NOTHING ELSE: no command of the shelf's: FOR A HAND-IN. Each laying: the table of numbers ('.._ren') and one theorem,a field a fact of the dump's own or the kernel's comparison;each contract: ONE APPLICATION.
-/
import Derived.Shelf.Strings.Builder1
import Derived.Shelf.Strings.Builder2
import Derived.Shelf.Strings.Trim
import Derived.Shelf.Small.Utf8
import Derived.Shelf.Small.Strs
import Derived.Shelf.Small.Wraps
import Derived.Shelf.Strings.BuilderF
import Derived.Shelf.Strings.BuilderK
import Derived.Shelf.Strings.Builder2Cap
import Derived.Shelf.Strconv.Atoi
import Derived.Shelf.Strconv.Itoa0
import Derived.Shelf.Strconv.Itoa1
import Derived.Shelf.LaysM
import Derived.Shelf.Strconv.Itoa2
import Derived.Shelf.Strconv.Itoa3
import Derived.Shelf.Strconv.AtoiErrFast
import Derived.Shelf.Strconv.ParseIntEmpty
import Derived.Shelf.Strconv.AtoiFail
import Derived.Shelf.Strconv.Clone
import Derived.Shelf.Strconv.SyntaxError
import Derived.Shelf.LaysC
import Derived.Shelf.Strconv.ToError
import Derived.Shelf.Strconv.AtoiErr
import Derived.Shelf.Strconv.ErrVar
import Derived.Shelf.Strconv.Lower
import Derived.Shelf.Strconv.ParseUint10
import Derived.Shelf.Strconv.ParseUint10Empty
import Derived.Shelf.Strconv.ParseUint10Any
import Derived.Shelf.Strconv.ParseInt10
import Derived.Shelf.Strconv.AtoiLong
import Derived.Shelf.Strconv.AtoiInnerAll
import Derived.Shelf.Strconv.RangeError
import Derived.Shelf.Strconv.ToErrorRange
import Derived.Shelf.Strconv.AtoiAll
import Derived.Shelf.Strconv.ErrVarAll
import Derived.Shelf.Strconv.ParseUintEmpty
import Derived.Shelf.Strconv.ParseUint10b64
import Derived.Shelf.Strconv.ParseUint10b32
import Derived.Shelf.Strconv.ParseUint10b16
import Derived.Shelf.Strconv.ParseUint10b8
import Derived.Shelf.Strconv.ParseUint10At
import Derived.Shelf.Strconv.ParseInt10At64
import Derived.Shelf.Strconv.ParseInt10At32
import Derived.Shelf.Strconv.ParseInt10At16
import Derived.Shelf.Strconv.ParseInt10At8
import Derived.Shelf.Strconv.ParseInt10All
import Derived.Ground.MpProg
import Derived.Shelf.Pu.ParseUintPublic10
import Derived.Shelf.Pu.ErrVarParseUint
import Derived.Shelf.Strings.Search1
import Derived.Shelf.Strings.Search2
import Derived.Shelf.Strings.Cut
import Derived.Shelf.Strings.Shaped
import Derived.Shelf.Strings.Prefix
import Derived.Shelf.Unicode.Decode
import Derived.Shelf.Strings.Runes
import Derived.Shelf.Strings.AsciiSet
import Derived.Shelf.Bits.Mul64
import Derived.Shelf.Strings.Repeat
import Derived.Shelf.Unicode.DecodeSlow
import Derived.Shelf.Unicode.DecodeAny
import Derived.Shelf.Unicode.DecodeLast
import Derived.Shelf.Strings.BuilderCap
import Derived.Test.YtcmgmemffncbhabGreatDoorProg
set_option linter.unusedVariables false
set_option linter.unusedSimpArgs false
namespace Go.Proofs
open Go.Shelf
def Tryz.lays169_ren:Go.Shelf.Ren:=⟨fun|169=>107|n=>n,fun|70=>123|9=>9|0=>0|72=>126|37=>124|127=>157|3=>3|5=>5|n=>n,fun|n=>n⟩
theorem Tryz.lays169:Go.Proofs.Lays.n169 Tryz.prog Tryz.lays169_ren:={
  mixed:=by kernel_rfl
  f169:=Tryz.func107.trans (congrArg some (by kernel_rfl))
  t0:=Tryz.underlying0
  a0:=Tryz.isAgg0
  z0:=Tryz.sizeOf0
  v0:=Tryz.zeroValue0
  t3:=Tryz.underlying3
  a3:=Tryz.isAgg3
  z3:=Tryz.sizeOf3
  v3:=Tryz.zeroValue3
  t9:=Tryz.underlying9
  a9:=Tryz.isAgg9
  z9:=Tryz.sizeOf9
  v9:=Tryz.zeroValue9
  t37:=Tryz.underlying124
  a37:=Tryz.isAgg124
  z37:=Tryz.sizeOf124
  v37:=Tryz.zeroValue124
  t70:=Tryz.underlying123
  a70:=Tryz.isAgg123
  z70:=Tryz.sizeOf123
  v70:=Tryz.zeroValue123
  t72:=Tryz.underlying126
  a72:=Tryz.isAgg126
  z72:=Tryz.sizeOf126
  v72:=Tryz.zeroValue126
  t127:=Tryz.underlying157
  a127:=Tryz.isAgg157
  z127:=Tryz.sizeOf157
  v127:=Tryz.zeroValue157}
theorem Tryz.Builder_Extra_169:Builder.Extra Tryz.prog Tryz.lays169_ren:={
  sizeBuilder:=by kernel_rfl
  liesBuilder:=by kernel_rfl
  t5:=Tryz.underlying5
  a5:=Tryz.isAgg5
  z5:=Tryz.sizeOf5
  v5:=Tryz.zeroValue5
  infoByte:=by kernel_rfl
  cellsByte:=by kernel_rfl
  sizeByte:=by kernel_rfl
  neB5:=by decide}
open Go.RowKit in
/-- (*strings.Builder).String: "String returns the accumulated string.": WHATEVER THE BUILDER HOLDS. (LAID: no walk: one application.) -/
theorem Tryz.Builder_String_any(B b:Nat)(l:List UInt8)(w:World)(h:Lib.IsBuilder 126 5 B b (Lib.byteCells l) w)(hBw:B≤w.heap.size):
    Calls Tryz.prog 107 #[.pointer (some ⟨b,0,none⟩)] w fun e w'=>e=.returned (.string ⟨l.toArray⟩)∧Below B w w':=Any.Builder_String_any Tryz.lays169 Tryz.Builder_Extra_169 B b l w h hBw
def Tryz.lays161_ren:Go.Shelf.Ren:=⟨fun|161=>138|231=>166|227=>168|233=>169|235=>171|228=>201|197=>202|151=>203|260=>220|152=>221|137=>228|119=>229|224=>216|225=>215|217=>214|266=>225|n=>n,fun|9=>9|4=>4|3=>3|5=>5|117=>172|116=>171|0=>0|124=>175|105=>200|21=>21|119=>226|46=>151|139=>229|138=>228|n=>n,fun|3=>4|4=>5|n=>n⟩
theorem Tryz.lays161:Go.Proofs.Lays.n161 Tryz.prog Tryz.lays161_ren:={
  mixed:=by kernel_rfl
  f119:=Tryz.func229.trans (congrArg some (by kernel_rfl))
  f137:=Tryz.func228.trans (congrArg some (by kernel_rfl))
  f151:=Tryz.func203.trans (congrArg some (by kernel_rfl))
  f152:=Tryz.func221.trans (congrArg some (by kernel_rfl))
  f161:=Tryz.func138.trans (congrArg some (by kernel_rfl))
  f197:=Tryz.func202.trans (congrArg some (by kernel_rfl))
  f217:=Tryz.func214.trans (congrArg some (by kernel_rfl))
  f224:=Tryz.func216.trans (congrArg some (by kernel_rfl))
  f225:=Tryz.func215.trans (congrArg some (by kernel_rfl))
  f227:=Tryz.func168.trans (congrArg some (by kernel_rfl))
  f228:=Tryz.func201.trans (congrArg some (by kernel_rfl))
  f231:=Tryz.func166.trans (congrArg some (by kernel_rfl))
  f233:=Tryz.func169.trans (congrArg some (by kernel_rfl))
  f235:=Tryz.func171.trans (congrArg some (by kernel_rfl))
  f260:=Tryz.func220.trans (congrArg some (by kernel_rfl))
  f266:=Tryz.func225.trans (congrArg some (by kernel_rfl))
  t0:=Tryz.underlying0
  a0:=Tryz.isAgg0
  z0:=Tryz.sizeOf0
  v0:=Tryz.zeroValue0
  t3:=Tryz.underlying3
  a3:=Tryz.isAgg3
  z3:=Tryz.sizeOf3
  v3:=Tryz.zeroValue3
  t4:=Tryz.underlying4
  a4:=Tryz.isAgg4
  z4:=Tryz.sizeOf4
  v4:=Tryz.zeroValue4
  t5:=Tryz.underlying5
  a5:=Tryz.isAgg5
  z5:=Tryz.sizeOf5
  v5:=Tryz.zeroValue5
  t9:=Tryz.underlying9
  a9:=Tryz.isAgg9
  z9:=Tryz.sizeOf9
  v9:=Tryz.zeroValue9
  t21:=Tryz.underlying21
  a21:=Tryz.isAgg21
  z21:=Tryz.sizeOf21
  v21:=Tryz.zeroValue21
  t46:=Tryz.underlying151
  a46:=Tryz.isAgg151
  z46:=Tryz.sizeOf151
  v46:=Tryz.zeroValue151
  t105:=Tryz.underlying200
  a105:=Tryz.isAgg200
  z105:=Tryz.sizeOf200
  v105:=Tryz.zeroValue200
  t116:=Tryz.underlying171
  a116:=Tryz.isAgg171
  z116:=Tryz.sizeOf171
  t117:=Tryz.underlying172
  a117:=Tryz.isAgg172
  z117:=Tryz.sizeOf172
  v117:=Tryz.zeroValue172
  t119:=Tryz.underlying226
  a119:=Tryz.isAgg226
  z119:=Tryz.sizeOf226
  t124:=Tryz.underlying175
  a124:=Tryz.isAgg175
  z124:=Tryz.sizeOf175
  v124:=Tryz.zeroValue175
  t138:=Tryz.underlying228
  a138:=Tryz.isAgg228
  z138:=Tryz.sizeOf228
  v138:=Tryz.zeroValue228
  t139:=Tryz.underlying229
  a139:=Tryz.isAgg229
  z139:=Tryz.sizeOf229
  v139:=Tryz.zeroValue229
  g3:=by kernel_rfl
  g4:=by kernel_rfl}
open Go.RowKit in
/-- strings.TrimLeft: "TrimLeft returns a slice of the string s with all leading Unicode code points contained in cutset removed.": AT A cutset OF ONE ASCII BYTE. The world is as it was. (LAID: no walk: one application.) -/
theorem Tryz.strings_TrimLeft_one(s:ByteArray)(c:UInt8)(hc:c.toNat<128)(w:World):
    Calls Tryz.prog 138 #[.string s,.string ⟨#[c]⟩] w fun e w'=>e=.returned (.string ⟨(Lib.trimLeftB s.data.toList c).toArray⟩)∧w'=w:=Any.strings_TrimLeft_one Tryz.lays161 s c hc w
def Tryz.lays160_ren:Go.Shelf.Ren:=⟨fun|160=>137|232=>167|231=>166|227=>168|234=>170|233=>169|236=>172|235=>171|228=>201|271=>204|151=>203|197=>202|120=>222|152=>221|260=>220|137=>228|119=>229|224=>216|225=>215|217=>214|266=>225|n=>n,fun|9=>9|4=>4|3=>3|5=>5|117=>172|116=>171|0=>0|124=>175|21=>21|105=>200|46=>151|119=>226|139=>229|138=>228|n=>n,fun|3=>4|4=>5|n=>n⟩
theorem Tryz.lays160:Go.Proofs.Lays.n160 Tryz.prog Tryz.lays160_ren:={
  mixed:=by kernel_rfl
  f119:=Tryz.func229.trans (congrArg some (by kernel_rfl))
  f120:=Tryz.func222.trans (congrArg some (by kernel_rfl))
  f137:=Tryz.func228.trans (congrArg some (by kernel_rfl))
  f151:=Tryz.func203.trans (congrArg some (by kernel_rfl))
  f152:=Tryz.func221.trans (congrArg some (by kernel_rfl))
  f160:=Tryz.func137.trans (congrArg some (by kernel_rfl))
  f197:=Tryz.func202.trans (congrArg some (by kernel_rfl))
  f217:=Tryz.func214.trans (congrArg some (by kernel_rfl))
  f224:=Tryz.func216.trans (congrArg some (by kernel_rfl))
  f225:=Tryz.func215.trans (congrArg some (by kernel_rfl))
  f227:=Tryz.func168.trans (congrArg some (by kernel_rfl))
  f228:=Tryz.func201.trans (congrArg some (by kernel_rfl))
  f231:=Tryz.func166.trans (congrArg some (by kernel_rfl))
  f232:=Tryz.func167.trans (congrArg some (by kernel_rfl))
  f233:=Tryz.func169.trans (congrArg some (by kernel_rfl))
  f234:=Tryz.func170.trans (congrArg some (by kernel_rfl))
  f235:=Tryz.func171.trans (congrArg some (by kernel_rfl))
  f236:=Tryz.func172.trans (congrArg some (by kernel_rfl))
  f260:=Tryz.func220.trans (congrArg some (by kernel_rfl))
  f266:=Tryz.func225.trans (congrArg some (by kernel_rfl))
  f271:=Tryz.func204.trans (congrArg some (by kernel_rfl))
  t0:=Tryz.underlying0
  a0:=Tryz.isAgg0
  z0:=Tryz.sizeOf0
  v0:=Tryz.zeroValue0
  t3:=Tryz.underlying3
  a3:=Tryz.isAgg3
  z3:=Tryz.sizeOf3
  v3:=Tryz.zeroValue3
  t4:=Tryz.underlying4
  a4:=Tryz.isAgg4
  z4:=Tryz.sizeOf4
  v4:=Tryz.zeroValue4
  t5:=Tryz.underlying5
  a5:=Tryz.isAgg5
  z5:=Tryz.sizeOf5
  v5:=Tryz.zeroValue5
  t9:=Tryz.underlying9
  a9:=Tryz.isAgg9
  z9:=Tryz.sizeOf9
  v9:=Tryz.zeroValue9
  t21:=Tryz.underlying21
  a21:=Tryz.isAgg21
  z21:=Tryz.sizeOf21
  v21:=Tryz.zeroValue21
  t46:=Tryz.underlying151
  a46:=Tryz.isAgg151
  z46:=Tryz.sizeOf151
  v46:=Tryz.zeroValue151
  t105:=Tryz.underlying200
  a105:=Tryz.isAgg200
  z105:=Tryz.sizeOf200
  v105:=Tryz.zeroValue200
  t116:=Tryz.underlying171
  a116:=Tryz.isAgg171
  z116:=Tryz.sizeOf171
  t117:=Tryz.underlying172
  a117:=Tryz.isAgg172
  z117:=Tryz.sizeOf172
  v117:=Tryz.zeroValue172
  t119:=Tryz.underlying226
  a119:=Tryz.isAgg226
  z119:=Tryz.sizeOf226
  t124:=Tryz.underlying175
  a124:=Tryz.isAgg175
  z124:=Tryz.sizeOf175
  v124:=Tryz.zeroValue175
  t138:=Tryz.underlying228
  a138:=Tryz.isAgg228
  z138:=Tryz.sizeOf228
  v138:=Tryz.zeroValue228
  t139:=Tryz.underlying229
  a139:=Tryz.isAgg229
  z139:=Tryz.sizeOf229
  v139:=Tryz.zeroValue229
  g3:=by kernel_rfl
  g4:=by kernel_rfl}
def Tryz.lays103_ren:Go.Shelf.Ren:=⟨fun|103=>136|210=>165|206=>186|n=>n,fun|9=>9|4=>4|24=>98|3=>3|n=>n,fun|n=>n⟩
theorem Tryz.lays103:Go.Proofs.Lays.n103 Tryz.prog Tryz.lays103_ren:={
  mixed:=by kernel_rfl
  f103:=Tryz.func136.trans (congrArg some (by kernel_rfl))
  f206:=Tryz.func186.trans (congrArg some (by kernel_rfl))
  f210:=Tryz.func165.trans (congrArg some (by kernel_rfl))
  t3:=Tryz.underlying3
  a3:=Tryz.isAgg3
  z3:=Tryz.sizeOf3
  v3:=Tryz.zeroValue3
  t4:=Tryz.underlying4
  a4:=Tryz.isAgg4
  z4:=Tryz.sizeOf4
  v4:=Tryz.zeroValue4
  t9:=Tryz.underlying9
  a9:=Tryz.isAgg9
  z9:=Tryz.sizeOf9
  v9:=Tryz.zeroValue9
  t24:=Tryz.underlying98
  a24:=Tryz.isAgg98
  z24:=Tryz.sizeOf98
  v24:=Tryz.zeroValue98}
open Go.RowKit in
/-- strings.CutPrefix: "CutPrefix returns s without the provided leading prefix string and reports whether it found the prefix. If s doesn't start with prefix, CutPrefix returns s, false. If prefix is the empty string, CutPrefix returns s, true.": IT RETURNS '(Lib.trimPrefix s p,Lib.hasPrefix s p)';the world is as it was. (LAID: no walk: one application.) -/
theorem Tryz.strings_CutPrefix(s p:ByteArray)(w:World):
    Calls Tryz.prog 136 #[.string s,.string p] w fun e w'=>e=.returned (.tuple #[.string ⟨(Lib.trimPrefix s.data.toList p.data.toList).toArray⟩,.bool (Lib.hasPrefix s.data.toList p.data.toList)])∧w'=w:=Any.strings_CutPrefix Tryz.lays103 s p w
def Tryz.lays172_ren:Go.Shelf.Ren:=⟨fun|172=>122|244=>153|245=>140|247=>190|279=>175|280=>176|281=>177|282=>178|287=>139|316=>205|171=>123|205=>206|321=>173|322=>174|243=>154|246=>191|283=>180|284=>181|285=>182|286=>183|129=>208|317=>207|318=>209|319=>210|320=>211|337=>223|338=>224|n=>n,fun|9=>9|3=>3|75=>119|76=>128|4=>4|5=>5|167=>176|37=>124|0=>0|85=>194|2=>2|168=>178|53=>117|175=>120|46=>151|210=>205|127=>157|145=>222|143=>220|21=>21|171=>183|173=>186|212=>209|51=>188|20=>20|213=>210|232=>231|233=>232|80=>132|n=>n,fun|15=>0|16=>1|17=>2|18=>6|19=>7|n=>n⟩
theorem Tryz.lays172:Go.Proofs.Lays.n172 Tryz.prog Tryz.lays172_ren:={
  mixed:=by kernel_rfl
  f129:=Tryz.func208.trans (congrArg some (by kernel_rfl))
  f171:=Tryz.func123.trans (congrArg some (by kernel_rfl))
  f172:=Tryz.func122.trans (congrArg some (by kernel_rfl))
  f205:=Tryz.func206.trans (congrArg some (by kernel_rfl))
  f243:=Tryz.func154.trans (congrArg some (by kernel_rfl))
  f244:=Tryz.func153.trans (congrArg some (by kernel_rfl))
  f245:=Tryz.func140.trans (congrArg some (by kernel_rfl))
  f246:=Tryz.func191.trans (congrArg some (by kernel_rfl))
  f247:=Tryz.func190.trans (congrArg some (by kernel_rfl))
  f279:=Tryz.func175.trans (congrArg some (by kernel_rfl))
  f280:=Tryz.func176.trans (congrArg some (by kernel_rfl))
  f281:=Tryz.func177.trans (congrArg some (by kernel_rfl))
  f282:=Tryz.func178.trans (congrArg some (by kernel_rfl))
  f283:=Tryz.func180.trans (congrArg some (by kernel_rfl))
  f284:=Tryz.func181.trans (congrArg some (by kernel_rfl))
  f285:=Tryz.func182.trans (congrArg some (by kernel_rfl))
  f286:=Tryz.func183.trans (congrArg some (by kernel_rfl))
  f287:=Tryz.func139.trans (congrArg some (by kernel_rfl))
  f316:=Tryz.func205.trans (congrArg some (by kernel_rfl))
  f317:=Tryz.func207.trans (congrArg some (by kernel_rfl))
  f318:=Tryz.func209.trans (congrArg some (by kernel_rfl))
  f319:=Tryz.func210.trans (congrArg some (by kernel_rfl))
  f320:=Tryz.func211.trans (congrArg some (by kernel_rfl))
  f321:=Tryz.func173.trans (congrArg some (by kernel_rfl))
  f322:=Tryz.func174.trans (congrArg some (by kernel_rfl))
  f337:=Tryz.func223.trans (congrArg some (by kernel_rfl))
  f338:=Tryz.func224.trans (congrArg some (by kernel_rfl))
  t0:=Tryz.underlying0
  a0:=Tryz.isAgg0
  z0:=Tryz.sizeOf0
  v0:=Tryz.zeroValue0
  t2:=Tryz.underlying2
  a2:=Tryz.isAgg2
  z2:=Tryz.sizeOf2
  v2:=Tryz.zeroValue2
  t3:=Tryz.underlying3
  a3:=Tryz.isAgg3
  z3:=Tryz.sizeOf3
  v3:=Tryz.zeroValue3
  t4:=Tryz.underlying4
  a4:=Tryz.isAgg4
  z4:=Tryz.sizeOf4
  v4:=Tryz.zeroValue4
  t5:=Tryz.underlying5
  a5:=Tryz.isAgg5
  z5:=Tryz.sizeOf5
  v5:=Tryz.zeroValue5
  t9:=Tryz.underlying9
  a9:=Tryz.isAgg9
  z9:=Tryz.sizeOf9
  v9:=Tryz.zeroValue9
  t20:=Tryz.underlying20
  a20:=Tryz.isAgg20
  z20:=Tryz.sizeOf20
  v20:=Tryz.zeroValue20
  t21:=Tryz.underlying21
  a21:=Tryz.isAgg21
  z21:=Tryz.sizeOf21
  v21:=Tryz.zeroValue21
  t37:=Tryz.underlying124
  a37:=Tryz.isAgg124
  z37:=Tryz.sizeOf124
  v37:=Tryz.zeroValue124
  t46:=Tryz.underlying151
  a46:=Tryz.isAgg151
  z46:=Tryz.sizeOf151
  v46:=Tryz.zeroValue151
  t51:=Tryz.underlying188
  a51:=Tryz.isAgg188
  z51:=Tryz.sizeOf188
  v51:=Tryz.zeroValue188
  t53:=Tryz.underlying117
  a53:=Tryz.isAgg117
  z53:=Tryz.sizeOf117
  v53:=Tryz.zeroValue117
  t75:=Tryz.underlying119
  a75:=Tryz.isAgg119
  z75:=Tryz.sizeOf119
  v75:=Tryz.zeroValue119
  t76:=Tryz.underlying128
  a76:=Tryz.isAgg128
  z76:=Tryz.sizeOf128
  v76:=Tryz.zeroValue128
  t85:=Tryz.underlying194
  a85:=Tryz.isAgg194
  z85:=Tryz.sizeOf194
  v85:=Tryz.zeroValue194
  t127:=Tryz.underlying157
  a127:=Tryz.isAgg157
  z127:=Tryz.sizeOf157
  v127:=Tryz.zeroValue157
  t143:=Tryz.underlying220
  a143:=Tryz.isAgg220
  z143:=Tryz.sizeOf220
  v143:=Tryz.zeroValue220
  t145:=Tryz.underlying222
  a145:=Tryz.isAgg222
  z145:=Tryz.sizeOf222
  v145:=Tryz.zeroValue222
  t167:=Tryz.underlying176
  a167:=Tryz.isAgg176
  z167:=Tryz.sizeOf176
  v167:=Tryz.zeroValue176
  t168:=Tryz.underlying178
  a168:=Tryz.isAgg178
  z168:=Tryz.sizeOf178
  v168:=Tryz.zeroValue178
  t171:=Tryz.underlying183
  a171:=Tryz.isAgg183
  z171:=Tryz.sizeOf183
  v171:=Tryz.zeroValue183
  t173:=Tryz.underlying186
  a173:=Tryz.isAgg186
  z173:=Tryz.sizeOf186
  v173:=Tryz.zeroValue186
  t175:=Tryz.underlying120
  a175:=Tryz.isAgg120
  z175:=Tryz.sizeOf120
  v175:=Tryz.zeroValue120
  t210:=Tryz.underlying205
  a210:=Tryz.isAgg205
  z210:=Tryz.sizeOf205
  v210:=Tryz.zeroValue205
  t212:=Tryz.underlying209
  a212:=Tryz.isAgg209
  z212:=Tryz.sizeOf209
  v212:=Tryz.zeroValue209
  t213:=Tryz.underlying210
  a213:=Tryz.isAgg210
  z213:=Tryz.sizeOf210
  t232:=Tryz.underlying231
  a232:=Tryz.isAgg231
  z232:=Tryz.sizeOf231
  v232:=Tryz.zeroValue231
  t233:=Tryz.underlying232
  a233:=Tryz.isAgg232
  z233:=Tryz.sizeOf232
  v233:=Tryz.zeroValue232
  g15:=by kernel_rfl
  g16:=by kernel_rfl
  g17:=by kernel_rfl
  g18:=by kernel_rfl
  g19:=by kernel_rfl}
open Go.RowKit in
/-- strconv.Atoi: "Atoi is equivalent to ParseInt(s, 10, 0), converted to type int.": AT A DECIMAL NUMERAL OF AT MOST 18 BYTES: its value,and a nil error. The world behind the call: the one new row that the library's '[]byte(s)' lays. (LAID: no walk: one application.) -/
theorem Tryz.strconv_Atoi(s:ByteArray)(n:Int)(hl:s.size≤18)(h:Lib.atoi s.data.toList=some n)(w:World):
    Calls Tryz.prog 122 #[.string s] w fun e w'=>e=.returned (.tuple #[.int .i64 n,.nilIface])∧∃t,w'=Lib.bytesWorld w 5 t:=Any.strconv_Atoi Tryz.lays172 s n hl h w
def Tryz.lays283_ren:Go.Shelf.Ren:=⟨fun|283=>180|n=>n,fun|3=>3|9=>9|4=>4|n=>n,fun|n=>n⟩
theorem Tryz.lays283:Go.Proofs.Lays.n283 Tryz.prog Tryz.lays283_ren:={
  mixed:=by kernel_rfl
  f283:=Tryz.func180.trans (congrArg some (by kernel_rfl))
  t3:=Tryz.underlying3
  a3:=Tryz.isAgg3
  z3:=Tryz.sizeOf3
  v3:=Tryz.zeroValue3
  t4:=Tryz.underlying4
  a4:=Tryz.isAgg4
  z4:=Tryz.sizeOf4
  v4:=Tryz.zeroValue4
  t9:=Tryz.underlying9
  a9:=Tryz.isAgg9
  z9:=Tryz.sizeOf9
  v9:=Tryz.zeroValue9}
open Go.Lib in
/-- internal/strconv.small: "small returns the string for an i with 0 <= i < nSmalls.": i's decimal numeral. The world is as it was. (LAID: no walk: one application.) -/
theorem Tryz.internal_strconv_small(i:Nat)(h:i<100)(w:World):
    Calls Tryz.prog 180 #[.int .i64 i] w fun e w'=>e=.returned (.string ⟨(Lib.decDigits i).toArray⟩)∧w'=w:=Any.internal_strconv_small Tryz.lays283 i h w
def Tryz.laysM284_ren:Go.Shelf.Ren:=⟨fun|284=>181|129=>208|317=>207|318=>209|n=>n,fun|53=>117|3=>3|212=>209|0=>0|4=>4|46=>151|5=>5|9=>9|n=>n,fun|17=>2|n=>n⟩
theorem Tryz.laysM284:Go.Proofs.LaysM.n284 Tryz.prog Tryz.laysM284_ren:={
  mixed:=by kernel_rfl
  f129:=Tryz.func208.trans (congrArg some (by kernel_rfl))
  f284:=Tryz.func181.trans (congrArg some (by kernel_rfl))
  f317:=Tryz.func207.trans (congrArg some (by kernel_rfl))
  f318:=Tryz.func209.trans (congrArg some (by kernel_rfl))
  t0:=Tryz.underlying0
  a0:=Tryz.isAgg0
  z0:=Tryz.sizeOf0
  v0:=Tryz.zeroValue0
  t3:=Tryz.underlying3
  a3:=Tryz.isAgg3
  z3:=Tryz.sizeOf3
  v3:=Tryz.zeroValue3
  t4:=Tryz.underlying4
  a4:=Tryz.isAgg4
  z4:=Tryz.sizeOf4
  v4:=Tryz.zeroValue4
  t5:=Tryz.underlying5
  a5:=Tryz.isAgg5
  z5:=Tryz.sizeOf5
  v5:=Tryz.zeroValue5
  t9:=Tryz.underlying9
  a9:=Tryz.isAgg9
  z9:=Tryz.sizeOf9
  v9:=Tryz.zeroValue9
  t46:=Tryz.underlying151
  a46:=Tryz.isAgg151
  z46:=Tryz.sizeOf151
  v46:=Tryz.zeroValue151
  t53:=Tryz.underlying117
  a53:=Tryz.isAgg117
  z53:=Tryz.sizeOf117
  v53:=Tryz.zeroValue117
  t212:=Tryz.underlying209
  a212:=Tryz.isAgg209
  z212:=Tryz.sizeOf209
  v212:=Tryz.zeroValue209
  g17:=by kernel_rfl
  i0:=by kernel_rfl
  i3:=by kernel_rfl
  i4:=by kernel_rfl
  i5:=by kernel_rfl
  i9:=by kernel_rfl
  i46:=by kernel_rfl
  i53:=by kernel_rfl
  i212:=by kernel_rfl
  m17:=by kernel_rfl}
open Go.Lib in
/-- internal/strconv.numDigits,at a d that is not 0: THE NUMBER OF d's DECIMAL DIGITS. The world is as it was. (LAID: no walk: one application.) -/
theorem Tryz.internal_strconv_numDigits(u:Nat)(h1:1≤u)(h2:u<18446744073709551616)(w:World)(htab:Lib.TabIs Tryz.prog w "internal/strconv.uint64pow10" .u64 Lib.pow10Tab):
    Calls Tryz.prog 181 #[.int .u64 u] w fun e w'=>e=.returned (.int .i64 (Lib.nDigits u))∧w'=w:=Any.internal_strconv_numDigits Tryz.laysM284 u h1 h2 w htab
def Tryz.lays285_ren:Go.Shelf.Ren:=⟨fun|285=>182|n=>n,fun|37=>124|53=>117|3=>3|4=>4|51=>188|9=>9|5=>5|0=>0|n=>n,fun|n=>n⟩
theorem Tryz.lays285:Go.Proofs.Lays.n285 Tryz.prog Tryz.lays285_ren:={
  mixed:=by kernel_rfl
  f285:=Tryz.func182.trans (congrArg some (by kernel_rfl))
  t0:=Tryz.underlying0
  a0:=Tryz.isAgg0
  z0:=Tryz.sizeOf0
  v0:=Tryz.zeroValue0
  t3:=Tryz.underlying3
  a3:=Tryz.isAgg3
  z3:=Tryz.sizeOf3
  v3:=Tryz.zeroValue3
  t4:=Tryz.underlying4
  a4:=Tryz.isAgg4
  z4:=Tryz.sizeOf4
  v4:=Tryz.zeroValue4
  t5:=Tryz.underlying5
  a5:=Tryz.isAgg5
  z5:=Tryz.sizeOf5
  v5:=Tryz.zeroValue5
  t9:=Tryz.underlying9
  a9:=Tryz.isAgg9
  z9:=Tryz.sizeOf9
  v9:=Tryz.zeroValue9
  t37:=Tryz.underlying124
  a37:=Tryz.isAgg124
  z37:=Tryz.sizeOf124
  v37:=Tryz.zeroValue124
  t51:=Tryz.underlying188
  a51:=Tryz.isAgg188
  z51:=Tryz.sizeOf188
  v51:=Tryz.zeroValue188
  t53:=Tryz.underlying117
  a53:=Tryz.isAgg117
  z53:=Tryz.sizeOf117
  v53:=Tryz.zeroValue117}
open Go.RowKit Go.Sort Go.Lib in
/-- internal/strconv.formatBase10: "formatBase10 formats the decimal representation of u into a. The caller is responsible for ensuring that a is big enough to hold u. If a is too big, leading zeros will be filled in as needed.": THE ROW HOLDS u's DIGITS ('FmtInv .. 0 ..': every place t holds 'dg u (len-1-t)');all else is as it was but for the count of draws. (LAID: no walk: one application.) -/
theorem Tryz.internal_strconv_formatBase10(blk off cap:Nat)(u:Nat)(d:Array UInt8)(w:World)(hH:Holds (fun (b:UInt8)=>Value.int .u8 (b.toNat:Int)) w blk off d)(hu:u<10^d.size)(hu64:u<18446744073709551616)(hsz:d.size<4611686018427387904):
    Calls Tryz.prog 182 #[.slice (some ⟨blk,off,none⟩) d.size cap,.int .u64 u] w fun e w' =>
      e=.returned (.tuple #[])∧∃(n v':Nat) (dk:Array UInt8),w'=(putRow (fun (b:UInt8)=>Value.int .u8 (b.toNat:Int)) w blk off dk).drewN n∧FmtInv d.size u 0 v' dk:=Any.internal_strconv_formatBase10 Tryz.lays285 blk off cap u d w hH hu hu64 hsz
def Tryz.laysM171_ren:Go.Shelf.Ren:=⟨fun|171=>123|243=>154|246=>191|283=>180|284=>181|285=>182|286=>183|129=>208|317=>207|318=>209|319=>210|320=>211|337=>223|338=>224|n=>n,fun|3=>3|9=>9|2=>2|4=>4|171=>183|0=>0|53=>117|37=>124|5=>5|173=>186|212=>209|51=>188|20=>20|213=>210|46=>151|232=>231|233=>232|n=>n,fun|17=>2|18=>6|19=>7|n=>n⟩
theorem Tryz.laysM171:Go.Proofs.LaysM.n171 Tryz.prog Tryz.laysM171_ren:={
  mixed:=by kernel_rfl
  f129:=Tryz.func208.trans (congrArg some (by kernel_rfl))
  f171:=Tryz.func123.trans (congrArg some (by kernel_rfl))
  f243:=Tryz.func154.trans (congrArg some (by kernel_rfl))
  f246:=Tryz.func191.trans (congrArg some (by kernel_rfl))
  f283:=Tryz.func180.trans (congrArg some (by kernel_rfl))
  f284:=Tryz.func181.trans (congrArg some (by kernel_rfl))
  f285:=Tryz.func182.trans (congrArg some (by kernel_rfl))
  f286:=Tryz.func183.trans (congrArg some (by kernel_rfl))
  f317:=Tryz.func207.trans (congrArg some (by kernel_rfl))
  f318:=Tryz.func209.trans (congrArg some (by kernel_rfl))
  f319:=Tryz.func210.trans (congrArg some (by kernel_rfl))
  f320:=Tryz.func211.trans (congrArg some (by kernel_rfl))
  f337:=Tryz.func223.trans (congrArg some (by kernel_rfl))
  f338:=Tryz.func224.trans (congrArg some (by kernel_rfl))
  t0:=Tryz.underlying0
  a0:=Tryz.isAgg0
  z0:=Tryz.sizeOf0
  v0:=Tryz.zeroValue0
  t2:=Tryz.underlying2
  a2:=Tryz.isAgg2
  z2:=Tryz.sizeOf2
  v2:=Tryz.zeroValue2
  t3:=Tryz.underlying3
  a3:=Tryz.isAgg3
  z3:=Tryz.sizeOf3
  v3:=Tryz.zeroValue3
  t4:=Tryz.underlying4
  a4:=Tryz.isAgg4
  z4:=Tryz.sizeOf4
  v4:=Tryz.zeroValue4
  t5:=Tryz.underlying5
  a5:=Tryz.isAgg5
  z5:=Tryz.sizeOf5
  v5:=Tryz.zeroValue5
  t9:=Tryz.underlying9
  a9:=Tryz.isAgg9
  z9:=Tryz.sizeOf9
  v9:=Tryz.zeroValue9
  t20:=Tryz.underlying20
  a20:=Tryz.isAgg20
  z20:=Tryz.sizeOf20
  v20:=Tryz.zeroValue20
  t37:=Tryz.underlying124
  a37:=Tryz.isAgg124
  z37:=Tryz.sizeOf124
  v37:=Tryz.zeroValue124
  t46:=Tryz.underlying151
  a46:=Tryz.isAgg151
  z46:=Tryz.sizeOf151
  v46:=Tryz.zeroValue151
  t51:=Tryz.underlying188
  a51:=Tryz.isAgg188
  z51:=Tryz.sizeOf188
  v51:=Tryz.zeroValue188
  t53:=Tryz.underlying117
  a53:=Tryz.isAgg117
  z53:=Tryz.sizeOf117
  v53:=Tryz.zeroValue117
  t171:=Tryz.underlying183
  a171:=Tryz.isAgg183
  z171:=Tryz.sizeOf183
  v171:=Tryz.zeroValue183
  t173:=Tryz.underlying186
  a173:=Tryz.isAgg186
  z173:=Tryz.sizeOf186
  v173:=Tryz.zeroValue186
  t212:=Tryz.underlying209
  a212:=Tryz.isAgg209
  z212:=Tryz.sizeOf209
  v212:=Tryz.zeroValue209
  t213:=Tryz.underlying210
  a213:=Tryz.isAgg210
  z213:=Tryz.sizeOf210
  t232:=Tryz.underlying231
  a232:=Tryz.isAgg231
  z232:=Tryz.sizeOf231
  v232:=Tryz.zeroValue231
  t233:=Tryz.underlying232
  a233:=Tryz.isAgg232
  z233:=Tryz.sizeOf232
  v233:=Tryz.zeroValue232
  g17:=by kernel_rfl
  g18:=by kernel_rfl
  g19:=by kernel_rfl
  i0:=by kernel_rfl
  i2:=by kernel_rfl
  i3:=by kernel_rfl
  i4:=by kernel_rfl
  i5:=by kernel_rfl
  i9:=by kernel_rfl
  i20:=by kernel_rfl
  i37:=by kernel_rfl
  i46:=by kernel_rfl
  i51:=by kernel_rfl
  i53:=by kernel_rfl
  i171:=by kernel_rfl
  i173:=by kernel_rfl
  i212:=by kernel_rfl
  i232:=by kernel_rfl
  i233:=by kernel_rfl
  m17:=by kernel_rfl
  m18:=by kernel_rfl
  m19:=by kernel_rfl}
open Go.RowKit Go.Sort Go.Lib in
/-- strconv.Itoa: "Itoa is equivalent to FormatInt(int64(i), 10).": i's DECIMAL NUMERAL ('Lib.itoa': a '-' where i is negative,then the digits),FOR EVERY int. The world behind the call: the world before it,new blocks behind the heap (the library's 'var a [24]byte'),draws. (LAID: no walk: one application.) -/
theorem Tryz.strconv_Itoa(n:Int)(h0:-9223372036854775808≤n)(h1:n≤9223372036854775807)(w:World)(htab:Lib.TabIs Tryz.prog w "internal/strconv.uint64pow10" .u64 Lib.pow10Tab):
    Calls Tryz.prog 123 #[.int .i64 n] w fun e w'=>e=.returned (.string ⟨(Lib.itoa n).toArray⟩)∧∃k os,w'=grow (w.drewN k) os:=Any.strconv_Itoa Tryz.laysM171 n h0 h1 w htab
def Tryz.laysC172_ren:Go.Shelf.Ren:=⟨fun|172=>122|244=>153|245=>140|247=>190|279=>175|280=>176|281=>177|282=>178|287=>139|316=>205|171=>123|205=>206|321=>173|322=>174|243=>154|246=>191|283=>180|284=>181|285=>182|286=>183|129=>208|317=>207|318=>209|319=>210|320=>211|337=>223|338=>224|n=>n,fun|9=>9|3=>3|75=>119|76=>128|4=>4|5=>5|167=>176|37=>124|0=>0|85=>194|2=>2|168=>178|53=>117|175=>120|46=>151|210=>205|127=>157|145=>222|143=>220|21=>21|171=>183|173=>186|212=>209|51=>188|20=>20|213=>210|232=>231|233=>232|80=>132|n=>n,fun|15=>0|16=>1|17=>2|18=>6|19=>7|n=>n⟩
theorem Tryz.laysC172:Go.Proofs.LaysC.n172 Tryz.prog Tryz.laysC172_ren:={
  mixed:=by kernel_rfl
  f129:=Tryz.func208.trans (congrArg some (by kernel_rfl))
  f171:=Tryz.func123.trans (congrArg some (by kernel_rfl))
  f172:=Tryz.func122.trans (congrArg some (by kernel_rfl))
  f205:=Tryz.func206.trans (congrArg some (by kernel_rfl))
  f243:=Tryz.func154.trans (congrArg some (by kernel_rfl))
  f244:=Tryz.func153.trans (congrArg some (by kernel_rfl))
  f245:=Tryz.func140.trans (congrArg some (by kernel_rfl))
  f246:=Tryz.func191.trans (congrArg some (by kernel_rfl))
  f247:=Tryz.func190.trans (congrArg some (by kernel_rfl))
  f279:=Tryz.func175.trans (congrArg some (by kernel_rfl))
  f280:=Tryz.func176.trans (congrArg some (by kernel_rfl))
  f281:=Tryz.func177.trans (congrArg some (by kernel_rfl))
  f282:=Tryz.func178.trans (congrArg some (by kernel_rfl))
  f283:=Tryz.func180.trans (congrArg some (by kernel_rfl))
  f284:=Tryz.func181.trans (congrArg some (by kernel_rfl))
  f285:=Tryz.func182.trans (congrArg some (by kernel_rfl))
  f286:=Tryz.func183.trans (congrArg some (by kernel_rfl))
  f287:=Tryz.func139.trans (congrArg some (by kernel_rfl))
  f316:=Tryz.func205.trans (congrArg some (by kernel_rfl))
  f317:=Tryz.func207.trans (congrArg some (by kernel_rfl))
  f318:=Tryz.func209.trans (congrArg some (by kernel_rfl))
  f319:=Tryz.func210.trans (congrArg some (by kernel_rfl))
  f320:=Tryz.func211.trans (congrArg some (by kernel_rfl))
  f321:=Tryz.func173.trans (congrArg some (by kernel_rfl))
  f322:=Tryz.func174.trans (congrArg some (by kernel_rfl))
  f337:=Tryz.func223.trans (congrArg some (by kernel_rfl))
  f338:=Tryz.func224.trans (congrArg some (by kernel_rfl))
  t0:=Tryz.underlying0
  a0:=Tryz.isAgg0
  z0:=Tryz.sizeOf0
  v0:=Tryz.zeroValue0
  t2:=Tryz.underlying2
  a2:=Tryz.isAgg2
  z2:=Tryz.sizeOf2
  v2:=Tryz.zeroValue2
  t3:=Tryz.underlying3
  a3:=Tryz.isAgg3
  z3:=Tryz.sizeOf3
  v3:=Tryz.zeroValue3
  t4:=Tryz.underlying4
  a4:=Tryz.isAgg4
  z4:=Tryz.sizeOf4
  v4:=Tryz.zeroValue4
  t5:=Tryz.underlying5
  a5:=Tryz.isAgg5
  z5:=Tryz.sizeOf5
  v5:=Tryz.zeroValue5
  t9:=Tryz.underlying9
  a9:=Tryz.isAgg9
  z9:=Tryz.sizeOf9
  v9:=Tryz.zeroValue9
  t20:=Tryz.underlying20
  a20:=Tryz.isAgg20
  z20:=Tryz.sizeOf20
  v20:=Tryz.zeroValue20
  t21:=Tryz.underlying21
  a21:=Tryz.isAgg21
  z21:=Tryz.sizeOf21
  v21:=Tryz.zeroValue21
  t37:=Tryz.underlying124
  a37:=Tryz.isAgg124
  z37:=Tryz.sizeOf124
  v37:=Tryz.zeroValue124
  t46:=Tryz.underlying151
  a46:=Tryz.isAgg151
  z46:=Tryz.sizeOf151
  v46:=Tryz.zeroValue151
  t51:=Tryz.underlying188
  a51:=Tryz.isAgg188
  z51:=Tryz.sizeOf188
  v51:=Tryz.zeroValue188
  t53:=Tryz.underlying117
  a53:=Tryz.isAgg117
  z53:=Tryz.sizeOf117
  v53:=Tryz.zeroValue117
  t75:=Tryz.underlying119
  a75:=Tryz.isAgg119
  z75:=Tryz.sizeOf119
  v75:=Tryz.zeroValue119
  t76:=Tryz.underlying128
  a76:=Tryz.isAgg128
  z76:=Tryz.sizeOf128
  v76:=Tryz.zeroValue128
  t85:=Tryz.underlying194
  a85:=Tryz.isAgg194
  z85:=Tryz.sizeOf194
  v85:=Tryz.zeroValue194
  t127:=Tryz.underlying157
  a127:=Tryz.isAgg157
  z127:=Tryz.sizeOf157
  v127:=Tryz.zeroValue157
  t143:=Tryz.underlying220
  a143:=Tryz.isAgg220
  z143:=Tryz.sizeOf220
  v143:=Tryz.zeroValue220
  t145:=Tryz.underlying222
  a145:=Tryz.isAgg222
  z145:=Tryz.sizeOf222
  v145:=Tryz.zeroValue222
  t167:=Tryz.underlying176
  a167:=Tryz.isAgg176
  z167:=Tryz.sizeOf176
  v167:=Tryz.zeroValue176
  t168:=Tryz.underlying178
  a168:=Tryz.isAgg178
  z168:=Tryz.sizeOf178
  v168:=Tryz.zeroValue178
  t171:=Tryz.underlying183
  a171:=Tryz.isAgg183
  z171:=Tryz.sizeOf183
  v171:=Tryz.zeroValue183
  t173:=Tryz.underlying186
  a173:=Tryz.isAgg186
  z173:=Tryz.sizeOf186
  v173:=Tryz.zeroValue186
  t175:=Tryz.underlying120
  a175:=Tryz.isAgg120
  z175:=Tryz.sizeOf120
  v175:=Tryz.zeroValue120
  t210:=Tryz.underlying205
  a210:=Tryz.isAgg205
  z210:=Tryz.sizeOf205
  v210:=Tryz.zeroValue205
  t212:=Tryz.underlying209
  a212:=Tryz.isAgg209
  z212:=Tryz.sizeOf209
  v212:=Tryz.zeroValue209
  t213:=Tryz.underlying210
  a213:=Tryz.isAgg210
  z213:=Tryz.sizeOf210
  t232:=Tryz.underlying231
  a232:=Tryz.isAgg231
  z232:=Tryz.sizeOf231
  v232:=Tryz.zeroValue231
  t233:=Tryz.underlying232
  a233:=Tryz.isAgg232
  z233:=Tryz.sizeOf232
  v233:=Tryz.zeroValue232
  g15:=by kernel_rfl
  g16:=by kernel_rfl
  g17:=by kernel_rfl
  g18:=by kernel_rfl
  g19:=by kernel_rfl
  t80:=Tryz.underlying132
  a80:=Tryz.isAgg132
  z80:=Tryz.sizeOf132
  v80:=Tryz.zeroValue132
  i0:=by kernel_rfl
  i2:=by kernel_rfl
  i3:=by kernel_rfl
  i4:=by kernel_rfl
  i5:=by kernel_rfl
  i9:=by kernel_rfl
  i20:=by kernel_rfl
  i21:=by kernel_rfl
  i37:=by kernel_rfl
  i46:=by kernel_rfl
  i51:=by kernel_rfl
  i53:=by kernel_rfl
  i75:=by kernel_rfl
  i76:=by kernel_rfl
  i80:=by kernel_rfl
  i85:=by kernel_rfl
  i127:=by kernel_rfl
  i143:=by kernel_rfl
  i145:=by kernel_rfl
  i167:=by kernel_rfl
  i168:=by kernel_rfl
  i171:=by kernel_rfl
  i173:=by kernel_rfl
  i175:=by kernel_rfl
  i210:=by kernel_rfl
  i212:=by kernel_rfl
  i232:=by kernel_rfl
  i233:=by kernel_rfl
  m15:=by kernel_rfl
  m16:=by kernel_rfl
  m17:=by kernel_rfl
  m18:=by kernel_rfl
  m19:=by kernel_rfl
  c0:=by kernel_rfl
  c2:=by kernel_rfl
  c3:=by kernel_rfl
  c4:=by kernel_rfl
  c5:=by kernel_rfl
  c9:=by kernel_rfl
  c20:=by kernel_rfl
  c21:=by kernel_rfl
  c37:=by kernel_rfl
  c46:=by kernel_rfl
  c51:=by kernel_rfl
  c53:=by kernel_rfl
  c75:=by kernel_rfl
  c76:=by kernel_rfl
  c80:=by kernel_rfl
  c85:=by kernel_rfl
  c127:=by kernel_rfl
  c143:=by kernel_rfl
  c145:=by kernel_rfl
  c167:=by kernel_rfl
  c168:=by kernel_rfl
  c171:=by kernel_rfl
  c173:=by kernel_rfl
  c175:=by kernel_rfl
  c210:=by kernel_rfl
  c212:=by kernel_rfl
  c213:=by kernel_rfl
  c232:=by kernel_rfl
  c233:=by kernel_rfl}
open Go.RowKit in
/-- strconv.Atoi,AT EVERY STRING THAT SPELLS AN int ('Lib.atoiAll ..=.ok v';of whatever length: leading zeros count): v,AND NO ERROR. The world: as it was,or with the one new row that '[]byte(..)' lays. (LAID: no walk: one application.) -/
theorem Tryz.strconv_Atoi_ok(s:ByteArray)(hmax:s.size≤9223372036854775806)(v:Int)(h:Lib.atoiAll s.data.toList=.ok v)(w:World):
    Calls Tryz.prog 122 #[.string s] w fun e w'=>e=.returned (.tuple #[.int .i64 v,.nilIface])∧(w'=w∨∃t,w'=Lib.bytesWorld w 5 t):=Any.strconv_Atoi_ok Tryz.laysC172 s hmax v h w
open Go.RowKit in
theorem Tryz.strconv_Atoi_syntax_var(s:ByteArray)(hlim:s.size≤281474976710656)(h1:∀v,Lib.atoiAll s.data.toList≠.ok v)(h2:Lib.atoiAll s.data.toList≠.range)(tp:TypeId)(p:Value)(w:World)(hvar:w.var? Tryz.prog "strconv.ErrSyntax"=some #[.iface tp p]):
    Calls Tryz.prog 122 #[.string s] w fun e w'=>∃N,e=.returned (.tuple #[.int .i64 0,.iface 178 (.pointer (some ⟨N,0,none⟩))])∧w.heap.size≤N∧w'.heap[N]?=some (.cells #[.string ⟨#[65,116,111,105]⟩,.string s,.iface tp p] 205 (0,0))∧Below w.heap.size w w':=Any.strconv_Atoi_syntax_var Tryz.laysC172 s hlim (by cases hx:Lib.atoiAll s.data.toList with|ok v=>exact (h1 v hx).elim|range=>exact (h2 hx).elim|_=>rfl) tp p w hvar
open Go.RowKit in
theorem Tryz.strconv_Atoi_range_var(s:ByteArray)(hlim:s.size≤281474976710656)(h:Lib.atoiAll s.data.toList=.range)(tp:TypeId)(p:Value)(w:World)(hvar:w.var? Tryz.prog "strconv.ErrRange"=some #[.iface tp p]):
    Calls Tryz.prog 122 #[.string s] w fun e w'=>∃N,e=.returned (.tuple #[.int .i64 (Lib.atoiSat s.data.toList),.iface 178 (.pointer (some ⟨N,0,none⟩))])∧w.heap.size≤N∧w'.heap[N]?=some (.cells #[.string ⟨#[65,116,111,105]⟩,.string s,.iface tp p] 205 (0,0))∧Below w.heap.size w w':=Any.strconv_Atoi_range_var Tryz.laysC172 s hlim h tp p w hvar
def Tryz.laysPu14_ren:Go.Shelf.Ren:=⟨fun|14=>101|16=>139|17=>140|19=>173|20=>174|21=>175|22=>176|23=>177|24=>178|25=>205|27=>123|26=>206|28=>154|29=>191|30=>180|31=>181|32=>182|33=>183|35=>208|34=>207|36=>209|37=>210|38=>211|39=>223|40=>224|n=>n,fun|9=>9|3=>3|22=>117|24=>119|25=>120|4=>4|34=>176|5=>5|36=>151|37=>124|0=>0|39=>178|21=>21|44=>205|47=>157|50=>222|48=>220|2=>2|52=>183|55=>186|59=>209|60=>188|20=>20|61=>210|65=>231|66=>232|67=>132|n=>n,fun|0=>0|1=>1|2=>2|3=>6|4=>7|n=>n⟩
theorem Tryz.laysPu14:Go.Proofs.LaysPu.n14 Tryz.prog Tryz.laysPu14_ren:={
  mixed:=by kernel_rfl
  f14:=Tryz.func101.trans (congrArg some (by kernel_rfl))
  f16:=Tryz.func139.trans (congrArg some (by kernel_rfl))
  f17:=Tryz.func140.trans (congrArg some (by kernel_rfl))
  f19:=Tryz.func173.trans (congrArg some (by kernel_rfl))
  f20:=Tryz.func174.trans (congrArg some (by kernel_rfl))
  f21:=Tryz.func175.trans (congrArg some (by kernel_rfl))
  f22:=Tryz.func176.trans (congrArg some (by kernel_rfl))
  f23:=Tryz.func177.trans (congrArg some (by kernel_rfl))
  f24:=Tryz.func178.trans (congrArg some (by kernel_rfl))
  f25:=Tryz.func205.trans (congrArg some (by kernel_rfl))
  f26:=Tryz.func206.trans (congrArg some (by kernel_rfl))
  f27:=Tryz.func123.trans (congrArg some (by kernel_rfl))
  f28:=Tryz.func154.trans (congrArg some (by kernel_rfl))
  f29:=Tryz.func191.trans (congrArg some (by kernel_rfl))
  f30:=Tryz.func180.trans (congrArg some (by kernel_rfl))
  f31:=Tryz.func181.trans (congrArg some (by kernel_rfl))
  f32:=Tryz.func182.trans (congrArg some (by kernel_rfl))
  f33:=Tryz.func183.trans (congrArg some (by kernel_rfl))
  f34:=Tryz.func207.trans (congrArg some (by kernel_rfl))
  f35:=Tryz.func208.trans (congrArg some (by kernel_rfl))
  f36:=Tryz.func209.trans (congrArg some (by kernel_rfl))
  f37:=Tryz.func210.trans (congrArg some (by kernel_rfl))
  f38:=Tryz.func211.trans (congrArg some (by kernel_rfl))
  f39:=Tryz.func223.trans (congrArg some (by kernel_rfl))
  f40:=Tryz.func224.trans (congrArg some (by kernel_rfl))
  t0:=Tryz.underlying0
  a0:=Tryz.isAgg0
  z0:=Tryz.sizeOf0
  v0:=Tryz.zeroValue0
  i0:=by kernel_rfl
  t2:=Tryz.underlying2
  a2:=Tryz.isAgg2
  z2:=Tryz.sizeOf2
  v2:=Tryz.zeroValue2
  i2:=by kernel_rfl
  t3:=Tryz.underlying3
  a3:=Tryz.isAgg3
  z3:=Tryz.sizeOf3
  v3:=Tryz.zeroValue3
  i3:=by kernel_rfl
  t4:=Tryz.underlying4
  a4:=Tryz.isAgg4
  z4:=Tryz.sizeOf4
  v4:=Tryz.zeroValue4
  i4:=by kernel_rfl
  t5:=Tryz.underlying5
  a5:=Tryz.isAgg5
  z5:=Tryz.sizeOf5
  v5:=Tryz.zeroValue5
  i5:=by kernel_rfl
  t9:=Tryz.underlying9
  a9:=Tryz.isAgg9
  z9:=Tryz.sizeOf9
  v9:=Tryz.zeroValue9
  i9:=by kernel_rfl
  t20:=Tryz.underlying20
  a20:=Tryz.isAgg20
  z20:=Tryz.sizeOf20
  v20:=Tryz.zeroValue20
  i20:=by kernel_rfl
  t21:=Tryz.underlying21
  a21:=Tryz.isAgg21
  z21:=Tryz.sizeOf21
  v21:=Tryz.zeroValue21
  i21:=by kernel_rfl
  t22:=Tryz.underlying117
  a22:=Tryz.isAgg117
  z22:=Tryz.sizeOf117
  v22:=Tryz.zeroValue117
  i22:=by kernel_rfl
  t24:=Tryz.underlying119
  a24:=Tryz.isAgg119
  z24:=Tryz.sizeOf119
  v24:=Tryz.zeroValue119
  i24:=by kernel_rfl
  t25:=Tryz.underlying120
  a25:=Tryz.isAgg120
  z25:=Tryz.sizeOf120
  v25:=Tryz.zeroValue120
  i25:=by kernel_rfl
  t34:=Tryz.underlying176
  a34:=Tryz.isAgg176
  z34:=Tryz.sizeOf176
  v34:=Tryz.zeroValue176
  i34:=by kernel_rfl
  c34:=by kernel_rfl
  t36:=Tryz.underlying151
  a36:=Tryz.isAgg151
  z36:=Tryz.sizeOf151
  v36:=Tryz.zeroValue151
  i36:=by kernel_rfl
  t37:=Tryz.underlying124
  a37:=Tryz.isAgg124
  z37:=Tryz.sizeOf124
  v37:=Tryz.zeroValue124
  i37:=by kernel_rfl
  t39:=Tryz.underlying178
  a39:=Tryz.isAgg178
  z39:=Tryz.sizeOf178
  v39:=Tryz.zeroValue178
  i39:=by kernel_rfl
  t44:=Tryz.underlying205
  a44:=Tryz.isAgg205
  z44:=Tryz.sizeOf205
  v44:=Tryz.zeroValue205
  i44:=by kernel_rfl
  t47:=Tryz.underlying157
  a47:=Tryz.isAgg157
  z47:=Tryz.sizeOf157
  v47:=Tryz.zeroValue157
  i47:=by kernel_rfl
  t48:=Tryz.underlying220
  a48:=Tryz.isAgg220
  z48:=Tryz.sizeOf220
  v48:=Tryz.zeroValue220
  i48:=by kernel_rfl
  t50:=Tryz.underlying222
  a50:=Tryz.isAgg222
  z50:=Tryz.sizeOf222
  v50:=Tryz.zeroValue222
  i50:=by kernel_rfl
  t52:=Tryz.underlying183
  a52:=Tryz.isAgg183
  z52:=Tryz.sizeOf183
  v52:=Tryz.zeroValue183
  i52:=by kernel_rfl
  t55:=Tryz.underlying186
  a55:=Tryz.isAgg186
  z55:=Tryz.sizeOf186
  v55:=Tryz.zeroValue186
  i55:=by kernel_rfl
  t59:=Tryz.underlying209
  a59:=Tryz.isAgg209
  z59:=Tryz.sizeOf209
  v59:=Tryz.zeroValue209
  i59:=by kernel_rfl
  t60:=Tryz.underlying188
  a60:=Tryz.isAgg188
  z60:=Tryz.sizeOf188
  v60:=Tryz.zeroValue188
  i60:=by kernel_rfl
  t61:=Tryz.underlying210
  a61:=Tryz.isAgg210
  z61:=Tryz.sizeOf210
  t65:=Tryz.underlying231
  a65:=Tryz.isAgg231
  z65:=Tryz.sizeOf231
  v65:=Tryz.zeroValue231
  i65:=by kernel_rfl
  t66:=Tryz.underlying232
  a66:=Tryz.isAgg232
  z66:=Tryz.sizeOf232
  v66:=Tryz.zeroValue232
  i66:=by kernel_rfl
  t67:=Tryz.underlying132
  a67:=Tryz.isAgg132
  z67:=Tryz.sizeOf132
  v67:=Tryz.zeroValue132
  i67:=by kernel_rfl
  g0:=by kernel_rfl
  m0:=by kernel_rfl
  g1:=by kernel_rfl
  m1:=by kernel_rfl
  g2:=by kernel_rfl
  m2:=by kernel_rfl
  g3:=by kernel_rfl
  m3:=by kernel_rfl
  g4:=by kernel_rfl
  m4:=by kernel_rfl}
open Go.RowKit in
/-- strconv.ParseUint(s,10,64),AT EVERY STRING THAT SPELLS A uint64 ('Lib.parseUintB 64 s.data.toList=.ok u'): u,AND NO ERROR. (LAID: no walk: one application.) -/
theorem Tryz.strconv_ParseUint_10_at64_ok(s:ByteArray)(hmax:s.size≤9223372036854775806)(u:Nat)(h:Lib.parseUintB 64 s.data.toList=.ok u)(w:World):
    Calls Tryz.prog 101 #[.string s,.int .i64 10,.int .i64 64] w fun e w'=>e=.returned (.tuple #[.int .u64 u,.nilIface])∧(w'=w∨w'=Lib.bytesWorld w 5 s):=Any.strconv_ParseUint_10_at64_ok Tryz.laysPu14 s hmax u h w
def Tryz.lays145_ren:Go.Shelf.Ren:=⟨fun|145=>121|220=>152|219=>189|217=>214|225=>215|224=>216|267=>217|266=>225|314=>226|n=>n,fun|9=>9|4=>4|59=>140|3=>3|5=>5|46=>151|146=>189|51=>188|n=>n,fun|1=>3|n=>n⟩
theorem Tryz.lays145:Go.Proofs.Lays.n145 Tryz.prog Tryz.lays145_ren:={
  mixed:=by kernel_rfl
  f145:=Tryz.func121.trans (congrArg some (by kernel_rfl))
  f217:=Tryz.func214.trans (congrArg some (by kernel_rfl))
  f219:=Tryz.func189.trans (congrArg some (by kernel_rfl))
  f220:=Tryz.func152.trans (congrArg some (by kernel_rfl))
  f224:=Tryz.func216.trans (congrArg some (by kernel_rfl))
  f225:=Tryz.func215.trans (congrArg some (by kernel_rfl))
  f266:=Tryz.func225.trans (congrArg some (by kernel_rfl))
  f267:=Tryz.func217.trans (congrArg some (by kernel_rfl))
  f314:=Tryz.func226.trans (congrArg some (by kernel_rfl))
  t3:=Tryz.underlying3
  a3:=Tryz.isAgg3
  z3:=Tryz.sizeOf3
  v3:=Tryz.zeroValue3
  t4:=Tryz.underlying4
  a4:=Tryz.isAgg4
  z4:=Tryz.sizeOf4
  v4:=Tryz.zeroValue4
  t5:=Tryz.underlying5
  a5:=Tryz.isAgg5
  z5:=Tryz.sizeOf5
  v5:=Tryz.zeroValue5
  t9:=Tryz.underlying9
  a9:=Tryz.isAgg9
  z9:=Tryz.sizeOf9
  v9:=Tryz.zeroValue9
  t46:=Tryz.underlying151
  a46:=Tryz.isAgg151
  z46:=Tryz.sizeOf151
  v46:=Tryz.zeroValue151
  t51:=Tryz.underlying188
  a51:=Tryz.isAgg188
  z51:=Tryz.sizeOf188
  v51:=Tryz.zeroValue188
  t59:=Tryz.underlying140
  a59:=Tryz.isAgg140
  z59:=Tryz.sizeOf140
  v59:=Tryz.zeroValue140
  t146:=Tryz.underlying189
  a146:=Tryz.isAgg189
  z146:=Tryz.sizeOf189
  v146:=Tryz.zeroValue189
  g1:=by kernel_rfl}
open Go.RowKit Go.Lib in
/-- strings.Cut: "Cut slices s around the first instance of sep, returning the text before and after sep. The found result reports whether sep appears in s. If sep does not appear in s, cut returns s, "", false.": IT RETURNS 'Lib.cut s sep';the world is as it was but for the count of draws. (LAID: no walk: one application.) -/
theorem Tryz.strings_Cut(s sep:ByteArray)(m:Int)(w:World)(hs:s.size<4294967281)(hm:w.cell? ⟨3,0,none⟩=some (.int .i64 m)):
    Calls Tryz.prog 121 #[.string s,.string sep] w fun e w'=>e=.returned (.tuple #[.string ⟨(Lib.cut s.data.toList sep.data.toList).1.toArray⟩,.string ⟨(Lib.cut s.data.toList sep.data.toList).2.1.toArray⟩,.bool (Lib.cut s.data.toList sep.data.toList).2.2])∧∃n,w'=w.drewN n:=Any.strings_Cut Tryz.lays145 s sep m w hs hm
def Tryz.lays105_ren:Go.Shelf.Ren:=⟨fun|105=>106|212=>143|99=>144|165=>145|166=>104|170=>146|169=>107|263=>184|264=>185|206=>186|240=>141|241=>187|276=>179|277=>212|n=>n,fun|9=>9|3=>3|4=>4|20=>20|0=>0|46=>151|109=>152|5=>5|72=>126|76=>128|51=>188|146=>189|53=>117|148=>191|70=>123|37=>124|75=>119|127=>157|164=>181|80=>132|n=>n,fun|n=>n⟩
theorem Tryz.lays105:Go.Proofs.Lays.n105 Tryz.prog Tryz.lays105_ren:={
  mixed:=by kernel_rfl
  f99:=Tryz.func144.trans (congrArg some (by kernel_rfl))
  f105:=Tryz.func106.trans (congrArg some (by kernel_rfl))
  f165:=Tryz.func145.trans (congrArg some (by kernel_rfl))
  f166:=Tryz.func104.trans (congrArg some (by kernel_rfl))
  f169:=Tryz.func107.trans (congrArg some (by kernel_rfl))
  f170:=Tryz.func146.trans (congrArg some (by kernel_rfl))
  f206:=Tryz.func186.trans (congrArg some (by kernel_rfl))
  f212:=Tryz.func143.trans (congrArg some (by kernel_rfl))
  f240:=Tryz.func141.trans (congrArg some (by kernel_rfl))
  f241:=Tryz.func187.trans (congrArg some (by kernel_rfl))
  f263:=Tryz.func184.trans (congrArg some (by kernel_rfl))
  f264:=Tryz.func185.trans (congrArg some (by kernel_rfl))
  f276:=Tryz.func179.trans (congrArg some (by kernel_rfl))
  f277:=Tryz.func212.trans (congrArg some (by kernel_rfl))
  t0:=Tryz.underlying0
  a0:=Tryz.isAgg0
  z0:=Tryz.sizeOf0
  v0:=Tryz.zeroValue0
  t3:=Tryz.underlying3
  a3:=Tryz.isAgg3
  z3:=Tryz.sizeOf3
  v3:=Tryz.zeroValue3
  t4:=Tryz.underlying4
  a4:=Tryz.isAgg4
  z4:=Tryz.sizeOf4
  v4:=Tryz.zeroValue4
  t5:=Tryz.underlying5
  a5:=Tryz.isAgg5
  z5:=Tryz.sizeOf5
  v5:=Tryz.zeroValue5
  t9:=Tryz.underlying9
  a9:=Tryz.isAgg9
  z9:=Tryz.sizeOf9
  v9:=Tryz.zeroValue9
  t20:=Tryz.underlying20
  a20:=Tryz.isAgg20
  z20:=Tryz.sizeOf20
  v20:=Tryz.zeroValue20
  t37:=Tryz.underlying124
  a37:=Tryz.isAgg124
  z37:=Tryz.sizeOf124
  v37:=Tryz.zeroValue124
  t46:=Tryz.underlying151
  a46:=Tryz.isAgg151
  z46:=Tryz.sizeOf151
  v46:=Tryz.zeroValue151
  t51:=Tryz.underlying188
  a51:=Tryz.isAgg188
  z51:=Tryz.sizeOf188
  v51:=Tryz.zeroValue188
  t53:=Tryz.underlying117
  a53:=Tryz.isAgg117
  z53:=Tryz.sizeOf117
  v53:=Tryz.zeroValue117
  t70:=Tryz.underlying123
  a70:=Tryz.isAgg123
  z70:=Tryz.sizeOf123
  v70:=Tryz.zeroValue123
  t72:=Tryz.underlying126
  a72:=Tryz.isAgg126
  z72:=Tryz.sizeOf126
  v72:=Tryz.zeroValue126
  t75:=Tryz.underlying119
  a75:=Tryz.isAgg119
  z75:=Tryz.sizeOf119
  v75:=Tryz.zeroValue119
  t76:=Tryz.underlying128
  a76:=Tryz.isAgg128
  z76:=Tryz.sizeOf128
  v76:=Tryz.zeroValue128
  t109:=Tryz.underlying152
  a109:=Tryz.isAgg152
  z109:=Tryz.sizeOf152
  v109:=Tryz.zeroValue152
  t127:=Tryz.underlying157
  a127:=Tryz.isAgg157
  z127:=Tryz.sizeOf157
  v127:=Tryz.zeroValue157
  t146:=Tryz.underlying189
  a146:=Tryz.isAgg189
  z146:=Tryz.sizeOf189
  v146:=Tryz.zeroValue189
  t148:=Tryz.underlying191
  a148:=Tryz.isAgg191
  z148:=Tryz.sizeOf191
  v148:=Tryz.zeroValue191
  t164:=Tryz.underlying181
  a164:=Tryz.isAgg181
  z164:=Tryz.sizeOf181
  v164:=Tryz.zeroValue181}
theorem Tryz.Builder_Extra_105:Builder.Extra Tryz.prog Tryz.lays105_ren:={
  sizeBuilder:=by kernel_rfl
  liesBuilder:=by kernel_rfl
  t5:=Tryz.underlying5
  a5:=Tryz.isAgg5
  z5:=Tryz.sizeOf5
  v5:=Tryz.zeroValue5
  infoByte:=by kernel_rfl
  cellsByte:=by kernel_rfl
  sizeByte:=by kernel_rfl
  neB5:=by decide}
open Go.RowKit Go.Lib in
/-- **strings.Repeat: count≥0,the result within one allocation: count copies of s.** (LAID: no walk: one application.) -/
theorem Tryz.strings_Repeat(s:ByteArray)(c:Nat)(w:World)(hc:c≤9223372036854775807)(hlen:s.size*c≤140737488355328):
    Calls Tryz.prog 106 #[.string s,.int .i64 c] w fun e w'=>e=.returned (.string ⟨(Lib.repeatL s.data.toList c).toArray⟩)∧Below w.heap.size w w':=Any.strings_Repeat Tryz.lays105 Tryz.Builder_Extra_105 s c w hc hlen
end Go.Proofs
