/-
  DERIVED: THE SHELF's CONTRACTS AT THIS DUMP,IN PLAIN WORDS (tools/lay-plain.mjs out of 'TryzShelf.lean',which tools/lay-shelf.mjs wrote): THE SAME DECLARATIONS UNDER THE SAME NAMES: 'import','namespace','open','def','theorem' AND NOTHING ELSE: no command of the shelf's: FOR A HAND-IN. Each laying: the table of numbers ('.._ren') and one theorem,a field a fact of the dump's own or the kernel's comparison;each contract: ONE APPLICATION.
-/
import Derived.Shelf.Strings.Builder1
import Derived.Shelf.Strings.Builder2
import Derived.Shelf.Strings.Trim
import Derived.Shelf.Small.Utf8
import Derived.Shelf.Small.Strs
import Derived.Shelf.Small.Wraps
import Derived.Shelf.Strings.BuilderF
import Derived.Shelf.Strings.BuilderK
import Derived.Shelf.Strings.Builder2Cap
import Derived.Shelf.Strconv.Atoi
import Derived.Shelf.Strconv.Itoa0
import Derived.Shelf.Strconv.Itoa1
import Derived.Shelf.LaysM
import Derived.Shelf.Strconv.Itoa2
import Derived.Shelf.Strconv.Itoa3
import Derived.Shelf.Strconv.AtoiErrFast
import Derived.Shelf.Strconv.ParseIntEmpty
import Derived.Shelf.Strconv.AtoiFail
import Derived.Shelf.Strconv.Clone
import Derived.Shelf.Strconv.SyntaxError
import Derived.Shelf.LaysC
import Derived.Shelf.Strconv.ToError
import Derived.Shelf.Strconv.AtoiErr
import Derived.Shelf.Strconv.ErrVar
import Derived.Shelf.Strconv.Lower
import Derived.Shelf.Strconv.ParseUint10
import Derived.Shelf.Strconv.ParseUint10Empty
import Derived.Shelf.Strconv.ParseUint10Any
import Derived.Shelf.Strconv.ParseInt10
import Derived.Shelf.Strconv.AtoiLong
import Derived.Shelf.Strconv.AtoiInnerAll
import Derived.Shelf.Strconv.RangeError
import Derived.Shelf.Strconv.ToErrorRange
import Derived.Shelf.Strconv.AtoiAll
import Derived.Shelf.Strconv.ErrVarAll
import Derived.Shelf.Strconv.ParseUintEmpty
import Derived.Shelf.Strconv.ParseUint10b64
import Derived.Shelf.Strconv.ParseUint10b32
import Derived.Shelf.Strconv.ParseUint10b16
import Derived.Shelf.Strconv.ParseUint10b8
import Derived.Shelf.Strconv.ParseUint10At
import Derived.Shelf.Strconv.ParseInt10At64
import Derived.Shelf.Strconv.ParseInt10At32
import Derived.Shelf.Strconv.ParseInt10At16
import Derived.Shelf.Strconv.ParseInt10At8
import Derived.Shelf.Strconv.ParseInt10All
import Derived.Ground.MpProg
import Derived.Shelf.Pu.ParseUintPublic10
import Derived.Shelf.Pu.ErrVarParseUint
import Derived.Shelf.Strings.Search1
import Derived.Shelf.Strings.Search2
import Derived.Shelf.Strings.Cut
import Derived.Shelf.Strings.Shaped
import Derived.Shelf.Strings.Prefix
import Derived.Shelf.Unicode.Decode
import Derived.Shelf.Strings.Runes
import Derived.Shelf.Strings.AsciiSet
import Derived.Shelf.Bits.Mul64
import Derived.Shelf.Strings.Repeat
import Derived.Shelf.Unicode.DecodeSlow
import Derived.Shelf.Unicode.DecodeAny
import Derived.Shelf.Unicode.DecodeLast
import Derived.Shelf.Strings.BuilderCap
import Derived.Shelf.Slices.Turned
import Derived.Test.YtcnmoobojdopgaaGreatDoorProg
set_option linter.unusedVariables false
set_option linter.unusedSimpArgs false
namespace Go.Proofs
open Go.Shelf
def Tryz.lays169_ren:Go.Shelf.Ren:=⟨fun|169=>194|n=>n,fun|70=>209|9=>9|0=>0|72=>212|37=>210|127=>249|3=>3|5=>5|n=>n,fun|n=>n⟩
theorem Tryz.lays169:Go.Proofs.Lays.n169 Tryz.prog Tryz.lays169_ren:={
  mixed:=by kernel_rfl
  f169:=Tryz.func194.trans (congrArg some (by kernel_rfl))
  t0:=Tryz.underlying0
  a0:=Tryz.isAgg0
  z0:=Tryz.sizeOf0
  v0:=Tryz.zeroValue0
  t3:=Tryz.underlying3
  a3:=Tryz.isAgg3
  z3:=Tryz.sizeOf3
  v3:=Tryz.zeroValue3
  t9:=Tryz.underlying9
  a9:=Tryz.isAgg9
  z9:=Tryz.sizeOf9
  v9:=Tryz.zeroValue9
  t37:=Tryz.underlying210
  a37:=Tryz.isAgg210
  z37:=Tryz.sizeOf210
  v37:=Tryz.zeroValue210
  t70:=Tryz.underlying209
  a70:=Tryz.isAgg209
  z70:=Tryz.sizeOf209
  v70:=Tryz.zeroValue209
  t72:=Tryz.underlying212
  a72:=Tryz.isAgg212
  z72:=Tryz.sizeOf212
  v72:=Tryz.zeroValue212
  t127:=Tryz.underlying249
  a127:=Tryz.isAgg249
  z127:=Tryz.sizeOf249
  v127:=Tryz.zeroValue249}
theorem Tryz.Builder_Extra_169:Builder.Extra Tryz.prog Tryz.lays169_ren:={
  sizeBuilder:=by kernel_rfl
  liesBuilder:=by kernel_rfl
  t5:=Tryz.underlying5
  a5:=Tryz.isAgg5
  z5:=Tryz.sizeOf5
  v5:=Tryz.zeroValue5
  infoByte:=by kernel_rfl
  cellsByte:=by kernel_rfl
  sizeByte:=by kernel_rfl
  neB5:=by decide}
open Go.RowKit in
/-- (*strings.Builder).String: "String returns the accumulated string.": WHATEVER THE BUILDER HOLDS. (LAID: no walk: one application.) -/
theorem Tryz.Builder_String_any(B b:Nat)(l:List UInt8)(w:World)(h:Lib.IsBuilder 212 5 B b (Lib.byteCells l) w)(hBw:B≤w.heap.size):
    Calls Tryz.prog 194 #[.pointer (some ⟨b,0,none⟩)] w fun e w'=>e=.returned (.string ⟨l.toArray⟩)∧Below B w w':=Any.Builder_String_any Tryz.lays169 Tryz.Builder_Extra_169 B b l w h hBw
def Tryz.lays161_ren:Go.Shelf.Ren:=⟨fun|161=>208|231=>247|227=>249|233=>250|235=>252|228=>292|197=>293|151=>294|260=>321|152=>322|137=>335|119=>336|224=>327|225=>326|217=>325|266=>337|n=>n,fun|9=>9|4=>4|3=>3|5=>5|117=>253|116=>252|0=>0|124=>256|105=>292|21=>21|119=>326|46=>228|139=>329|138=>328|n=>n,fun|3=>4|4=>5|n=>n⟩
theorem Tryz.lays161:Go.Proofs.Lays.n161 Tryz.prog Tryz.lays161_ren:={
  mixed:=by kernel_rfl
  f119:=Tryz.func336.trans (congrArg some (by kernel_rfl))
  f137:=Tryz.func335.trans (congrArg some (by kernel_rfl))
  f151:=Tryz.func294.trans (congrArg some (by kernel_rfl))
  f152:=Tryz.func322.trans (congrArg some (by kernel_rfl))
  f161:=Tryz.func208.trans (congrArg some (by kernel_rfl))
  f197:=Tryz.func293.trans (congrArg some (by kernel_rfl))
  f217:=Tryz.func325.trans (congrArg some (by kernel_rfl))
  f224:=Tryz.func327.trans (congrArg some (by kernel_rfl))
  f225:=Tryz.func326.trans (congrArg some (by kernel_rfl))
  f227:=Tryz.func249.trans (congrArg some (by kernel_rfl))
  f228:=Tryz.func292.trans (congrArg some (by kernel_rfl))
  f231:=Tryz.func247.trans (congrArg some (by kernel_rfl))
  f233:=Tryz.func250.trans (congrArg some (by kernel_rfl))
  f235:=Tryz.func252.trans (congrArg some (by kernel_rfl))
  f260:=Tryz.func321.trans (congrArg some (by kernel_rfl))
  f266:=Tryz.func337.trans (congrArg some (by kernel_rfl))
  t0:=Tryz.underlying0
  a0:=Tryz.isAgg0
  z0:=Tryz.sizeOf0
  v0:=Tryz.zeroValue0
  t3:=Tryz.underlying3
  a3:=Tryz.isAgg3
  z3:=Tryz.sizeOf3
  v3:=Tryz.zeroValue3
  t4:=Tryz.underlying4
  a4:=Tryz.isAgg4
  z4:=Tryz.sizeOf4
  v4:=Tryz.zeroValue4
  t5:=Tryz.underlying5
  a5:=Tryz.isAgg5
  z5:=Tryz.sizeOf5
  v5:=Tryz.zeroValue5
  t9:=Tryz.underlying9
  a9:=Tryz.isAgg9
  z9:=Tryz.sizeOf9
  v9:=Tryz.zeroValue9
  t21:=Tryz.underlying21
  a21:=Tryz.isAgg21
  z21:=Tryz.sizeOf21
  v21:=Tryz.zeroValue21
  t46:=Tryz.underlying228
  a46:=Tryz.isAgg228
  z46:=Tryz.sizeOf228
  v46:=Tryz.zeroValue228
  t105:=Tryz.underlying292
  a105:=Tryz.isAgg292
  z105:=Tryz.sizeOf292
  v105:=Tryz.zeroValue292
  t116:=Tryz.underlying252
  a116:=Tryz.isAgg252
  z116:=Tryz.sizeOf252
  t117:=Tryz.underlying253
  a117:=Tryz.isAgg253
  z117:=Tryz.sizeOf253
  v117:=Tryz.zeroValue253
  t119:=Tryz.underlying326
  a119:=Tryz.isAgg326
  z119:=Tryz.sizeOf326
  t124:=Tryz.underlying256
  a124:=Tryz.isAgg256
  z124:=Tryz.sizeOf256
  v124:=Tryz.zeroValue256
  t138:=Tryz.underlying328
  a138:=Tryz.isAgg328
  z138:=Tryz.sizeOf328
  v138:=Tryz.zeroValue328
  t139:=Tryz.underlying329
  a139:=Tryz.isAgg329
  z139:=Tryz.sizeOf329
  v139:=Tryz.zeroValue329
  g3:=by kernel_rfl
  g4:=by kernel_rfl}
open Go.RowKit in
/-- strings.TrimLeft: "TrimLeft returns a slice of the string s with all leading Unicode code points contained in cutset removed.": AT A cutset OF ONE ASCII BYTE. The world is as it was. (LAID: no walk: one application.) -/
theorem Tryz.strings_TrimLeft_one(s:ByteArray)(c:UInt8)(hc:c.toNat<128)(w:World):
    Calls Tryz.prog 208 #[.string s,.string ⟨#[c]⟩] w fun e w'=>e=.returned (.string ⟨(Lib.trimLeftB s.data.toList c).toArray⟩)∧w'=w:=Any.strings_TrimLeft_one Tryz.lays161 s c hc w
def Tryz.lays160_ren:Go.Shelf.Ren:=⟨fun|160=>207|232=>248|231=>247|227=>249|234=>251|233=>250|236=>253|235=>252|228=>292|271=>295|151=>294|197=>293|120=>323|152=>322|260=>321|137=>335|119=>336|224=>327|225=>326|217=>325|266=>337|n=>n,fun|9=>9|4=>4|3=>3|5=>5|117=>253|116=>252|0=>0|124=>256|21=>21|105=>292|46=>228|119=>326|139=>329|138=>328|n=>n,fun|3=>4|4=>5|n=>n⟩
theorem Tryz.lays160:Go.Proofs.Lays.n160 Tryz.prog Tryz.lays160_ren:={
  mixed:=by kernel_rfl
  f119:=Tryz.func336.trans (congrArg some (by kernel_rfl))
  f120:=Tryz.func323.trans (congrArg some (by kernel_rfl))
  f137:=Tryz.func335.trans (congrArg some (by kernel_rfl))
  f151:=Tryz.func294.trans (congrArg some (by kernel_rfl))
  f152:=Tryz.func322.trans (congrArg some (by kernel_rfl))
  f160:=Tryz.func207.trans (congrArg some (by kernel_rfl))
  f197:=Tryz.func293.trans (congrArg some (by kernel_rfl))
  f217:=Tryz.func325.trans (congrArg some (by kernel_rfl))
  f224:=Tryz.func327.trans (congrArg some (by kernel_rfl))
  f225:=Tryz.func326.trans (congrArg some (by kernel_rfl))
  f227:=Tryz.func249.trans (congrArg some (by kernel_rfl))
  f228:=Tryz.func292.trans (congrArg some (by kernel_rfl))
  f231:=Tryz.func247.trans (congrArg some (by kernel_rfl))
  f232:=Tryz.func248.trans (congrArg some (by kernel_rfl))
  f233:=Tryz.func250.trans (congrArg some (by kernel_rfl))
  f234:=Tryz.func251.trans (congrArg some (by kernel_rfl))
  f235:=Tryz.func252.trans (congrArg some (by kernel_rfl))
  f236:=Tryz.func253.trans (congrArg some (by kernel_rfl))
  f260:=Tryz.func321.trans (congrArg some (by kernel_rfl))
  f266:=Tryz.func337.trans (congrArg some (by kernel_rfl))
  f271:=Tryz.func295.trans (congrArg some (by kernel_rfl))
  t0:=Tryz.underlying0
  a0:=Tryz.isAgg0
  z0:=Tryz.sizeOf0
  v0:=Tryz.zeroValue0
  t3:=Tryz.underlying3
  a3:=Tryz.isAgg3
  z3:=Tryz.sizeOf3
  v3:=Tryz.zeroValue3
  t4:=Tryz.underlying4
  a4:=Tryz.isAgg4
  z4:=Tryz.sizeOf4
  v4:=Tryz.zeroValue4
  t5:=Tryz.underlying5
  a5:=Tryz.isAgg5
  z5:=Tryz.sizeOf5
  v5:=Tryz.zeroValue5
  t9:=Tryz.underlying9
  a9:=Tryz.isAgg9
  z9:=Tryz.sizeOf9
  v9:=Tryz.zeroValue9
  t21:=Tryz.underlying21
  a21:=Tryz.isAgg21
  z21:=Tryz.sizeOf21
  v21:=Tryz.zeroValue21
  t46:=Tryz.underlying228
  a46:=Tryz.isAgg228
  z46:=Tryz.sizeOf228
  v46:=Tryz.zeroValue228
  t105:=Tryz.underlying292
  a105:=Tryz.isAgg292
  z105:=Tryz.sizeOf292
  v105:=Tryz.zeroValue292
  t116:=Tryz.underlying252
  a116:=Tryz.isAgg252
  z116:=Tryz.sizeOf252
  t117:=Tryz.underlying253
  a117:=Tryz.isAgg253
  z117:=Tryz.sizeOf253
  v117:=Tryz.zeroValue253
  t119:=Tryz.underlying326
  a119:=Tryz.isAgg326
  z119:=Tryz.sizeOf326
  t124:=Tryz.underlying256
  a124:=Tryz.isAgg256
  z124:=Tryz.sizeOf256
  v124:=Tryz.zeroValue256
  t138:=Tryz.underlying328
  a138:=Tryz.isAgg328
  z138:=Tryz.sizeOf328
  v138:=Tryz.zeroValue328
  t139:=Tryz.underlying329
  a139:=Tryz.isAgg329
  z139:=Tryz.sizeOf329
  v139:=Tryz.zeroValue329
  g3:=by kernel_rfl
  g4:=by kernel_rfl}
def Tryz.lays103_ren:Go.Shelf.Ren:=⟨fun|103=>206|210=>246|206=>284|n=>n,fun|9=>9|4=>4|24=>172|3=>3|n=>n,fun|n=>n⟩
theorem Tryz.lays103:Go.Proofs.Lays.n103 Tryz.prog Tryz.lays103_ren:={
  mixed:=by kernel_rfl
  f103:=Tryz.func206.trans (congrArg some (by kernel_rfl))
  f206:=Tryz.func284.trans (congrArg some (by kernel_rfl))
  f210:=Tryz.func246.trans (congrArg some (by kernel_rfl))
  t3:=Tryz.underlying3
  a3:=Tryz.isAgg3
  z3:=Tryz.sizeOf3
  v3:=Tryz.zeroValue3
  t4:=Tryz.underlying4
  a4:=Tryz.isAgg4
  z4:=Tryz.sizeOf4
  v4:=Tryz.zeroValue4
  t9:=Tryz.underlying9
  a9:=Tryz.isAgg9
  z9:=Tryz.sizeOf9
  v9:=Tryz.zeroValue9
  t24:=Tryz.underlying172
  a24:=Tryz.isAgg172
  z24:=Tryz.sizeOf172
  v24:=Tryz.zeroValue172}
open Go.RowKit in
/-- strings.CutPrefix: "CutPrefix returns s without the provided leading prefix string and reports whether it found the prefix. If s doesn't start with prefix, CutPrefix returns s, false. If prefix is the empty string, CutPrefix returns s, true.": IT RETURNS '(Lib.trimPrefix s p,Lib.hasPrefix s p)';the world is as it was. (LAID: no walk: one application.) -/
theorem Tryz.strings_CutPrefix(s p:ByteArray)(w:World):
    Calls Tryz.prog 206 #[.string s,.string p] w fun e w'=>e=.returned (.tuple #[.string ⟨(Lib.trimPrefix s.data.toList p.data.toList).toArray⟩,.bool (Lib.hasPrefix s.data.toList p.data.toList)])∧w'=w:=Any.strings_CutPrefix Tryz.lays103 s p w
def Tryz.lays172_ren:Go.Shelf.Ren:=⟨fun|172=>222|244=>275|245=>210|247=>306|279=>256|280=>257|281=>258|282=>259|287=>209|316=>296|171=>100|205=>297|321=>254|322=>255|243=>164|246=>224|283=>277|284=>278|285=>279|286=>280|129=>273|317=>307|318=>308|319=>309|320=>310|337=>329|338=>330|n=>n,fun|9=>9|3=>3|75=>175|76=>214|4=>4|5=>5|167=>257|37=>210|0=>0|85=>306|2=>2|168=>259|53=>171|175=>176|46=>228|210=>297|127=>249|145=>320|143=>318|21=>21|171=>277|173=>279|212=>309|51=>274|20=>20|213=>310|232=>332|233=>333|80=>217|n=>n,fun|15=>0|16=>1|17=>2|18=>6|19=>7|n=>n⟩
theorem Tryz.lays172:Go.Proofs.Lays.n172 Tryz.prog Tryz.lays172_ren:={
  mixed:=by kernel_rfl
  f129:=Tryz.func273.trans (congrArg some (by kernel_rfl))
  f171:=Tryz.func100.trans (congrArg some (by kernel_rfl))
  f172:=Tryz.func222.trans (congrArg some (by kernel_rfl))
  f205:=Tryz.func297.trans (congrArg some (by kernel_rfl))
  f243:=Tryz.func164.trans (congrArg some (by kernel_rfl))
  f244:=Tryz.func275.trans (congrArg some (by kernel_rfl))
  f245:=Tryz.func210.trans (congrArg some (by kernel_rfl))
  f246:=Tryz.func224.trans (congrArg some (by kernel_rfl))
  f247:=Tryz.func306.trans (congrArg some (by kernel_rfl))
  f279:=Tryz.func256.trans (congrArg some (by kernel_rfl))
  f280:=Tryz.func257.trans (congrArg some (by kernel_rfl))
  f281:=Tryz.func258.trans (congrArg some (by kernel_rfl))
  f282:=Tryz.func259.trans (congrArg some (by kernel_rfl))
  f283:=Tryz.func277.trans (congrArg some (by kernel_rfl))
  f284:=Tryz.func278.trans (congrArg some (by kernel_rfl))
  f285:=Tryz.func279.trans (congrArg some (by kernel_rfl))
  f286:=Tryz.func280.trans (congrArg some (by kernel_rfl))
  f287:=Tryz.func209.trans (congrArg some (by kernel_rfl))
  f316:=Tryz.func296.trans (congrArg some (by kernel_rfl))
  f317:=Tryz.func307.trans (congrArg some (by kernel_rfl))
  f318:=Tryz.func308.trans (congrArg some (by kernel_rfl))
  f319:=Tryz.func309.trans (congrArg some (by kernel_rfl))
  f320:=Tryz.func310.trans (congrArg some (by kernel_rfl))
  f321:=Tryz.func254.trans (congrArg some (by kernel_rfl))
  f322:=Tryz.func255.trans (congrArg some (by kernel_rfl))
  f337:=Tryz.func329.trans (congrArg some (by kernel_rfl))
  f338:=Tryz.func330.trans (congrArg some (by kernel_rfl))
  t0:=Tryz.underlying0
  a0:=Tryz.isAgg0
  z0:=Tryz.sizeOf0
  v0:=Tryz.zeroValue0
  t2:=Tryz.underlying2
  a2:=Tryz.isAgg2
  z2:=Tryz.sizeOf2
  v2:=Tryz.zeroValue2
  t3:=Tryz.underlying3
  a3:=Tryz.isAgg3
  z3:=Tryz.sizeOf3
  v3:=Tryz.zeroValue3
  t4:=Tryz.underlying4
  a4:=Tryz.isAgg4
  z4:=Tryz.sizeOf4
  v4:=Tryz.zeroValue4
  t5:=Tryz.underlying5
  a5:=Tryz.isAgg5
  z5:=Tryz.sizeOf5
  v5:=Tryz.zeroValue5
  t9:=Tryz.underlying9
  a9:=Tryz.isAgg9
  z9:=Tryz.sizeOf9
  v9:=Tryz.zeroValue9
  t20:=Tryz.underlying20
  a20:=Tryz.isAgg20
  z20:=Tryz.sizeOf20
  v20:=Tryz.zeroValue20
  t21:=Tryz.underlying21
  a21:=Tryz.isAgg21
  z21:=Tryz.sizeOf21
  v21:=Tryz.zeroValue21
  t37:=Tryz.underlying210
  a37:=Tryz.isAgg210
  z37:=Tryz.sizeOf210
  v37:=Tryz.zeroValue210
  t46:=Tryz.underlying228
  a46:=Tryz.isAgg228
  z46:=Tryz.sizeOf228
  v46:=Tryz.zeroValue228
  t51:=Tryz.underlying274
  a51:=Tryz.isAgg274
  z51:=Tryz.sizeOf274
  v51:=Tryz.zeroValue274
  t53:=Tryz.underlying171
  a53:=Tryz.isAgg171
  z53:=Tryz.sizeOf171
  v53:=Tryz.zeroValue171
  t75:=Tryz.underlying175
  a75:=Tryz.isAgg175
  z75:=Tryz.sizeOf175
  v75:=Tryz.zeroValue175
  t76:=Tryz.underlying214
  a76:=Tryz.isAgg214
  z76:=Tryz.sizeOf214
  v76:=Tryz.zeroValue214
  t85:=Tryz.underlying306
  a85:=Tryz.isAgg306
  z85:=Tryz.sizeOf306
  v85:=Tryz.zeroValue306
  t127:=Tryz.underlying249
  a127:=Tryz.isAgg249
  z127:=Tryz.sizeOf249
  v127:=Tryz.zeroValue249
  t143:=Tryz.underlying318
  a143:=Tryz.isAgg318
  z143:=Tryz.sizeOf318
  v143:=Tryz.zeroValue318
  t145:=Tryz.underlying320
  a145:=Tryz.isAgg320
  z145:=Tryz.sizeOf320
  v145:=Tryz.zeroValue320
  t167:=Tryz.underlying257
  a167:=Tryz.isAgg257
  z167:=Tryz.sizeOf257
  v167:=Tryz.zeroValue257
  t168:=Tryz.underlying259
  a168:=Tryz.isAgg259
  z168:=Tryz.sizeOf259
  v168:=Tryz.zeroValue259
  t171:=Tryz.underlying277
  a171:=Tryz.isAgg277
  z171:=Tryz.sizeOf277
  v171:=Tryz.zeroValue277
  t173:=Tryz.underlying279
  a173:=Tryz.isAgg279
  z173:=Tryz.sizeOf279
  v173:=Tryz.zeroValue279
  t175:=Tryz.underlying176
  a175:=Tryz.isAgg176
  z175:=Tryz.sizeOf176
  v175:=Tryz.zeroValue176
  t210:=Tryz.underlying297
  a210:=Tryz.isAgg297
  z210:=Tryz.sizeOf297
  v210:=Tryz.zeroValue297
  t212:=Tryz.underlying309
  a212:=Tryz.isAgg309
  z212:=Tryz.sizeOf309
  v212:=Tryz.zeroValue309
  t213:=Tryz.underlying310
  a213:=Tryz.isAgg310
  z213:=Tryz.sizeOf310
  t232:=Tryz.underlying332
  a232:=Tryz.isAgg332
  z232:=Tryz.sizeOf332
  v232:=Tryz.zeroValue332
  t233:=Tryz.underlying333
  a233:=Tryz.isAgg333
  z233:=Tryz.sizeOf333
  v233:=Tryz.zeroValue333
  g15:=by kernel_rfl
  g16:=by kernel_rfl
  g17:=by kernel_rfl
  g18:=by kernel_rfl
  g19:=by kernel_rfl}
open Go.RowKit in
/-- strconv.Atoi: "Atoi is equivalent to ParseInt(s, 10, 0), converted to type int.": AT A DECIMAL NUMERAL OF AT MOST 18 BYTES: its value,and a nil error. The world behind the call: the one new row that the library's '[]byte(s)' lays. (LAID: no walk: one application.) -/
theorem Tryz.strconv_Atoi(s:ByteArray)(n:Int)(hl:s.size≤18)(h:Lib.atoi s.data.toList=some n)(w:World):
    Calls Tryz.prog 222 #[.string s] w fun e w'=>e=.returned (.tuple #[.int .i64 n,.nilIface])∧∃t,w'=Lib.bytesWorld w 5 t:=Any.strconv_Atoi Tryz.lays172 s n hl h w
def Tryz.lays283_ren:Go.Shelf.Ren:=⟨fun|283=>277|n=>n,fun|3=>3|9=>9|4=>4|n=>n,fun|n=>n⟩
theorem Tryz.lays283:Go.Proofs.Lays.n283 Tryz.prog Tryz.lays283_ren:={
  mixed:=by kernel_rfl
  f283:=Tryz.func277.trans (congrArg some (by kernel_rfl))
  t3:=Tryz.underlying3
  a3:=Tryz.isAgg3
  z3:=Tryz.sizeOf3
  v3:=Tryz.zeroValue3
  t4:=Tryz.underlying4
  a4:=Tryz.isAgg4
  z4:=Tryz.sizeOf4
  v4:=Tryz.zeroValue4
  t9:=Tryz.underlying9
  a9:=Tryz.isAgg9
  z9:=Tryz.sizeOf9
  v9:=Tryz.zeroValue9}
open Go.Lib in
/-- internal/strconv.small: "small returns the string for an i with 0 <= i < nSmalls.": i's decimal numeral. The world is as it was. (LAID: no walk: one application.) -/
theorem Tryz.internal_strconv_small(i:Nat)(h:i<100)(w:World):
    Calls Tryz.prog 277 #[.int .i64 i] w fun e w'=>e=.returned (.string ⟨(Lib.decDigits i).toArray⟩)∧w'=w:=Any.internal_strconv_small Tryz.lays283 i h w
def Tryz.laysM284_ren:Go.Shelf.Ren:=⟨fun|284=>278|129=>273|317=>307|318=>308|n=>n,fun|53=>171|3=>3|212=>309|0=>0|4=>4|46=>228|5=>5|9=>9|n=>n,fun|17=>2|n=>n⟩
theorem Tryz.laysM284:Go.Proofs.LaysM.n284 Tryz.prog Tryz.laysM284_ren:={
  mixed:=by kernel_rfl
  f129:=Tryz.func273.trans (congrArg some (by kernel_rfl))
  f284:=Tryz.func278.trans (congrArg some (by kernel_rfl))
  f317:=Tryz.func307.trans (congrArg some (by kernel_rfl))
  f318:=Tryz.func308.trans (congrArg some (by kernel_rfl))
  t0:=Tryz.underlying0
  a0:=Tryz.isAgg0
  z0:=Tryz.sizeOf0
  v0:=Tryz.zeroValue0
  t3:=Tryz.underlying3
  a3:=Tryz.isAgg3
  z3:=Tryz.sizeOf3
  v3:=Tryz.zeroValue3
  t4:=Tryz.underlying4
  a4:=Tryz.isAgg4
  z4:=Tryz.sizeOf4
  v4:=Tryz.zeroValue4
  t5:=Tryz.underlying5
  a5:=Tryz.isAgg5
  z5:=Tryz.sizeOf5
  v5:=Tryz.zeroValue5
  t9:=Tryz.underlying9
  a9:=Tryz.isAgg9
  z9:=Tryz.sizeOf9
  v9:=Tryz.zeroValue9
  t46:=Tryz.underlying228
  a46:=Tryz.isAgg228
  z46:=Tryz.sizeOf228
  v46:=Tryz.zeroValue228
  t53:=Tryz.underlying171
  a53:=Tryz.isAgg171
  z53:=Tryz.sizeOf171
  v53:=Tryz.zeroValue171
  t212:=Tryz.underlying309
  a212:=Tryz.isAgg309
  z212:=Tryz.sizeOf309
  v212:=Tryz.zeroValue309
  g17:=by kernel_rfl
  i0:=by kernel_rfl
  i3:=by kernel_rfl
  i4:=by kernel_rfl
  i5:=by kernel_rfl
  i9:=by kernel_rfl
  i46:=by kernel_rfl
  i53:=by kernel_rfl
  i212:=by kernel_rfl
  m17:=by kernel_rfl}
open Go.Lib in
/-- internal/strconv.numDigits,at a d that is not 0: THE NUMBER OF d's DECIMAL DIGITS. The world is as it was. (LAID: no walk: one application.) -/
theorem Tryz.internal_strconv_numDigits(u:Nat)(h1:1≤u)(h2:u<18446744073709551616)(w:World)(htab:Lib.TabIs Tryz.prog w "internal/strconv.uint64pow10" .u64 Lib.pow10Tab):
    Calls Tryz.prog 278 #[.int .u64 u] w fun e w'=>e=.returned (.int .i64 (Lib.nDigits u))∧w'=w:=Any.internal_strconv_numDigits Tryz.laysM284 u h1 h2 w htab
def Tryz.lays285_ren:Go.Shelf.Ren:=⟨fun|285=>279|n=>n,fun|37=>210|53=>171|3=>3|4=>4|51=>274|9=>9|5=>5|0=>0|n=>n,fun|n=>n⟩
theorem Tryz.lays285:Go.Proofs.Lays.n285 Tryz.prog Tryz.lays285_ren:={
  mixed:=by kernel_rfl
  f285:=Tryz.func279.trans (congrArg some (by kernel_rfl))
  t0:=Tryz.underlying0
  a0:=Tryz.isAgg0
  z0:=Tryz.sizeOf0
  v0:=Tryz.zeroValue0
  t3:=Tryz.underlying3
  a3:=Tryz.isAgg3
  z3:=Tryz.sizeOf3
  v3:=Tryz.zeroValue3
  t4:=Tryz.underlying4
  a4:=Tryz.isAgg4
  z4:=Tryz.sizeOf4
  v4:=Tryz.zeroValue4
  t5:=Tryz.underlying5
  a5:=Tryz.isAgg5
  z5:=Tryz.sizeOf5
  v5:=Tryz.zeroValue5
  t9:=Tryz.underlying9
  a9:=Tryz.isAgg9
  z9:=Tryz.sizeOf9
  v9:=Tryz.zeroValue9
  t37:=Tryz.underlying210
  a37:=Tryz.isAgg210
  z37:=Tryz.sizeOf210
  v37:=Tryz.zeroValue210
  t51:=Tryz.underlying274
  a51:=Tryz.isAgg274
  z51:=Tryz.sizeOf274
  v51:=Tryz.zeroValue274
  t53:=Tryz.underlying171
  a53:=Tryz.isAgg171
  z53:=Tryz.sizeOf171
  v53:=Tryz.zeroValue171}
open Go.RowKit Go.Sort Go.Lib in
/-- internal/strconv.formatBase10: "formatBase10 formats the decimal representation of u into a. The caller is responsible for ensuring that a is big enough to hold u. If a is too big, leading zeros will be filled in as needed.": THE ROW HOLDS u's DIGITS ('FmtInv .. 0 ..': every place t holds 'dg u (len-1-t)');all else is as it was but for the count of draws. (LAID: no walk: one application.) -/
theorem Tryz.internal_strconv_formatBase10(blk off cap:Nat)(u:Nat)(d:Array UInt8)(w:World)(hH:Holds (fun (b:UInt8)=>Value.int .u8 (b.toNat:Int)) w blk off d)(hu:u<10^d.size)(hu64:u<18446744073709551616)(hsz:d.size<4611686018427387904):
    Calls Tryz.prog 279 #[.slice (some ⟨blk,off,none⟩) d.size cap,.int .u64 u] w fun e w' =>
      e=.returned (.tuple #[])∧∃(n v':Nat) (dk:Array UInt8),w'=(putRow (fun (b:UInt8)=>Value.int .u8 (b.toNat:Int)) w blk off dk).drewN n∧FmtInv d.size u 0 v' dk:=Any.internal_strconv_formatBase10 Tryz.lays285 blk off cap u d w hH hu hu64 hsz
def Tryz.laysM171_ren:Go.Shelf.Ren:=⟨fun|171=>100|243=>164|246=>224|283=>277|284=>278|285=>279|286=>280|129=>273|317=>307|318=>308|319=>309|320=>310|337=>329|338=>330|n=>n,fun|3=>3|9=>9|2=>2|4=>4|171=>277|0=>0|53=>171|37=>210|5=>5|173=>279|212=>309|51=>274|20=>20|213=>310|46=>228|232=>332|233=>333|n=>n,fun|17=>2|18=>6|19=>7|n=>n⟩
theorem Tryz.laysM171:Go.Proofs.LaysM.n171 Tryz.prog Tryz.laysM171_ren:={
  mixed:=by kernel_rfl
  f129:=Tryz.func273.trans (congrArg some (by kernel_rfl))
  f171:=Tryz.func100.trans (congrArg some (by kernel_rfl))
  f243:=Tryz.func164.trans (congrArg some (by kernel_rfl))
  f246:=Tryz.func224.trans (congrArg some (by kernel_rfl))
  f283:=Tryz.func277.trans (congrArg some (by kernel_rfl))
  f284:=Tryz.func278.trans (congrArg some (by kernel_rfl))
  f285:=Tryz.func279.trans (congrArg some (by kernel_rfl))
  f286:=Tryz.func280.trans (congrArg some (by kernel_rfl))
  f317:=Tryz.func307.trans (congrArg some (by kernel_rfl))
  f318:=Tryz.func308.trans (congrArg some (by kernel_rfl))
  f319:=Tryz.func309.trans (congrArg some (by kernel_rfl))
  f320:=Tryz.func310.trans (congrArg some (by kernel_rfl))
  f337:=Tryz.func329.trans (congrArg some (by kernel_rfl))
  f338:=Tryz.func330.trans (congrArg some (by kernel_rfl))
  t0:=Tryz.underlying0
  a0:=Tryz.isAgg0
  z0:=Tryz.sizeOf0
  v0:=Tryz.zeroValue0
  t2:=Tryz.underlying2
  a2:=Tryz.isAgg2
  z2:=Tryz.sizeOf2
  v2:=Tryz.zeroValue2
  t3:=Tryz.underlying3
  a3:=Tryz.isAgg3
  z3:=Tryz.sizeOf3
  v3:=Tryz.zeroValue3
  t4:=Tryz.underlying4
  a4:=Tryz.isAgg4
  z4:=Tryz.sizeOf4
  v4:=Tryz.zeroValue4
  t5:=Tryz.underlying5
  a5:=Tryz.isAgg5
  z5:=Tryz.sizeOf5
  v5:=Tryz.zeroValue5
  t9:=Tryz.underlying9
  a9:=Tryz.isAgg9
  z9:=Tryz.sizeOf9
  v9:=Tryz.zeroValue9
  t20:=Tryz.underlying20
  a20:=Tryz.isAgg20
  z20:=Tryz.sizeOf20
  v20:=Tryz.zeroValue20
  t37:=Tryz.underlying210
  a37:=Tryz.isAgg210
  z37:=Tryz.sizeOf210
  v37:=Tryz.zeroValue210
  t46:=Tryz.underlying228
  a46:=Tryz.isAgg228
  z46:=Tryz.sizeOf228
  v46:=Tryz.zeroValue228
  t51:=Tryz.underlying274
  a51:=Tryz.isAgg274
  z51:=Tryz.sizeOf274
  v51:=Tryz.zeroValue274
  t53:=Tryz.underlying171
  a53:=Tryz.isAgg171
  z53:=Tryz.sizeOf171
  v53:=Tryz.zeroValue171
  t171:=Tryz.underlying277
  a171:=Tryz.isAgg277
  z171:=Tryz.sizeOf277
  v171:=Tryz.zeroValue277
  t173:=Tryz.underlying279
  a173:=Tryz.isAgg279
  z173:=Tryz.sizeOf279
  v173:=Tryz.zeroValue279
  t212:=Tryz.underlying309
  a212:=Tryz.isAgg309
  z212:=Tryz.sizeOf309
  v212:=Tryz.zeroValue309
  t213:=Tryz.underlying310
  a213:=Tryz.isAgg310
  z213:=Tryz.sizeOf310
  t232:=Tryz.underlying332
  a232:=Tryz.isAgg332
  z232:=Tryz.sizeOf332
  v232:=Tryz.zeroValue332
  t233:=Tryz.underlying333
  a233:=Tryz.isAgg333
  z233:=Tryz.sizeOf333
  v233:=Tryz.zeroValue333
  g17:=by kernel_rfl
  g18:=by kernel_rfl
  g19:=by kernel_rfl
  i0:=by kernel_rfl
  i2:=by kernel_rfl
  i3:=by kernel_rfl
  i4:=by kernel_rfl
  i5:=by kernel_rfl
  i9:=by kernel_rfl
  i20:=by kernel_rfl
  i37:=by kernel_rfl
  i46:=by kernel_rfl
  i51:=by kernel_rfl
  i53:=by kernel_rfl
  i171:=by kernel_rfl
  i173:=by kernel_rfl
  i212:=by kernel_rfl
  i232:=by kernel_rfl
  i233:=by kernel_rfl
  m17:=by kernel_rfl
  m18:=by kernel_rfl
  m19:=by kernel_rfl}
open Go.RowKit Go.Sort Go.Lib in
/-- strconv.Itoa: "Itoa is equivalent to FormatInt(int64(i), 10).": i's DECIMAL NUMERAL ('Lib.itoa': a '-' where i is negative,then the digits),FOR EVERY int. The world behind the call: the world before it,new blocks behind the heap (the library's 'var a [24]byte'),draws. (LAID: no walk: one application.) -/
theorem Tryz.strconv_Itoa(n:Int)(h0:-9223372036854775808≤n)(h1:n≤9223372036854775807)(w:World)(htab:Lib.TabIs Tryz.prog w "internal/strconv.uint64pow10" .u64 Lib.pow10Tab):
    Calls Tryz.prog 100 #[.int .i64 n] w fun e w'=>e=.returned (.string ⟨(Lib.itoa n).toArray⟩)∧∃k os,w'=grow (w.drewN k) os:=Any.strconv_Itoa Tryz.laysM171 n h0 h1 w htab
def Tryz.laysC172_ren:Go.Shelf.Ren:=⟨fun|172=>222|244=>275|245=>210|247=>306|279=>256|280=>257|281=>258|282=>259|287=>209|316=>296|171=>100|205=>297|321=>254|322=>255|243=>164|246=>224|283=>277|284=>278|285=>279|286=>280|129=>273|317=>307|318=>308|319=>309|320=>310|337=>329|338=>330|n=>n,fun|9=>9|3=>3|75=>175|76=>214|4=>4|5=>5|167=>257|37=>210|0=>0|85=>306|2=>2|168=>259|53=>171|175=>176|46=>228|210=>297|127=>249|145=>320|143=>318|21=>21|171=>277|173=>279|212=>309|51=>274|20=>20|213=>310|232=>332|233=>333|80=>217|n=>n,fun|15=>0|16=>1|17=>2|18=>6|19=>7|n=>n⟩
theorem Tryz.laysC172:Go.Proofs.LaysC.n172 Tryz.prog Tryz.laysC172_ren:={
  mixed:=by kernel_rfl
  f129:=Tryz.func273.trans (congrArg some (by kernel_rfl))
  f171:=Tryz.func100.trans (congrArg some (by kernel_rfl))
  f172:=Tryz.func222.trans (congrArg some (by kernel_rfl))
  f205:=Tryz.func297.trans (congrArg some (by kernel_rfl))
  f243:=Tryz.func164.trans (congrArg some (by kernel_rfl))
  f244:=Tryz.func275.trans (congrArg some (by kernel_rfl))
  f245:=Tryz.func210.trans (congrArg some (by kernel_rfl))
  f246:=Tryz.func224.trans (congrArg some (by kernel_rfl))
  f247:=Tryz.func306.trans (congrArg some (by kernel_rfl))
  f279:=Tryz.func256.trans (congrArg some (by kernel_rfl))
  f280:=Tryz.func257.trans (congrArg some (by kernel_rfl))
  f281:=Tryz.func258.trans (congrArg some (by kernel_rfl))
  f282:=Tryz.func259.trans (congrArg some (by kernel_rfl))
  f283:=Tryz.func277.trans (congrArg some (by kernel_rfl))
  f284:=Tryz.func278.trans (congrArg some (by kernel_rfl))
  f285:=Tryz.func279.trans (congrArg some (by kernel_rfl))
  f286:=Tryz.func280.trans (congrArg some (by kernel_rfl))
  f287:=Tryz.func209.trans (congrArg some (by kernel_rfl))
  f316:=Tryz.func296.trans (congrArg some (by kernel_rfl))
  f317:=Tryz.func307.trans (congrArg some (by kernel_rfl))
  f318:=Tryz.func308.trans (congrArg some (by kernel_rfl))
  f319:=Tryz.func309.trans (congrArg some (by kernel_rfl))
  f320:=Tryz.func310.trans (congrArg some (by kernel_rfl))
  f321:=Tryz.func254.trans (congrArg some (by kernel_rfl))
  f322:=Tryz.func255.trans (congrArg some (by kernel_rfl))
  f337:=Tryz.func329.trans (congrArg some (by kernel_rfl))
  f338:=Tryz.func330.trans (congrArg some (by kernel_rfl))
  t0:=Tryz.underlying0
  a0:=Tryz.isAgg0
  z0:=Tryz.sizeOf0
  v0:=Tryz.zeroValue0
  t2:=Tryz.underlying2
  a2:=Tryz.isAgg2
  z2:=Tryz.sizeOf2
  v2:=Tryz.zeroValue2
  t3:=Tryz.underlying3
  a3:=Tryz.isAgg3
  z3:=Tryz.sizeOf3
  v3:=Tryz.zeroValue3
  t4:=Tryz.underlying4
  a4:=Tryz.isAgg4
  z4:=Tryz.sizeOf4
  v4:=Tryz.zeroValue4
  t5:=Tryz.underlying5
  a5:=Tryz.isAgg5
  z5:=Tryz.sizeOf5
  v5:=Tryz.zeroValue5
  t9:=Tryz.underlying9
  a9:=Tryz.isAgg9
  z9:=Tryz.sizeOf9
  v9:=Tryz.zeroValue9
  t20:=Tryz.underlying20
  a20:=Tryz.isAgg20
  z20:=Tryz.sizeOf20
  v20:=Tryz.zeroValue20
  t21:=Tryz.underlying21
  a21:=Tryz.isAgg21
  z21:=Tryz.sizeOf21
  v21:=Tryz.zeroValue21
  t37:=Tryz.underlying210
  a37:=Tryz.isAgg210
  z37:=Tryz.sizeOf210
  v37:=Tryz.zeroValue210
  t46:=Tryz.underlying228
  a46:=Tryz.isAgg228
  z46:=Tryz.sizeOf228
  v46:=Tryz.zeroValue228
  t51:=Tryz.underlying274
  a51:=Tryz.isAgg274
  z51:=Tryz.sizeOf274
  v51:=Tryz.zeroValue274
  t53:=Tryz.underlying171
  a53:=Tryz.isAgg171
  z53:=Tryz.sizeOf171
  v53:=Tryz.zeroValue171
  t75:=Tryz.underlying175
  a75:=Tryz.isAgg175
  z75:=Tryz.sizeOf175
  v75:=Tryz.zeroValue175
  t76:=Tryz.underlying214
  a76:=Tryz.isAgg214
  z76:=Tryz.sizeOf214
  v76:=Tryz.zeroValue214
  t85:=Tryz.underlying306
  a85:=Tryz.isAgg306
  z85:=Tryz.sizeOf306
  v85:=Tryz.zeroValue306
  t127:=Tryz.underlying249
  a127:=Tryz.isAgg249
  z127:=Tryz.sizeOf249
  v127:=Tryz.zeroValue249
  t143:=Tryz.underlying318
  a143:=Tryz.isAgg318
  z143:=Tryz.sizeOf318
  v143:=Tryz.zeroValue318
  t145:=Tryz.underlying320
  a145:=Tryz.isAgg320
  z145:=Tryz.sizeOf320
  v145:=Tryz.zeroValue320
  t167:=Tryz.underlying257
  a167:=Tryz.isAgg257
  z167:=Tryz.sizeOf257
  v167:=Tryz.zeroValue257
  t168:=Tryz.underlying259
  a168:=Tryz.isAgg259
  z168:=Tryz.sizeOf259
  v168:=Tryz.zeroValue259
  t171:=Tryz.underlying277
  a171:=Tryz.isAgg277
  z171:=Tryz.sizeOf277
  v171:=Tryz.zeroValue277
  t173:=Tryz.underlying279
  a173:=Tryz.isAgg279
  z173:=Tryz.sizeOf279
  v173:=Tryz.zeroValue279
  t175:=Tryz.underlying176
  a175:=Tryz.isAgg176
  z175:=Tryz.sizeOf176
  v175:=Tryz.zeroValue176
  t210:=Tryz.underlying297
  a210:=Tryz.isAgg297
  z210:=Tryz.sizeOf297
  v210:=Tryz.zeroValue297
  t212:=Tryz.underlying309
  a212:=Tryz.isAgg309
  z212:=Tryz.sizeOf309
  v212:=Tryz.zeroValue309
  t213:=Tryz.underlying310
  a213:=Tryz.isAgg310
  z213:=Tryz.sizeOf310
  t232:=Tryz.underlying332
  a232:=Tryz.isAgg332
  z232:=Tryz.sizeOf332
  v232:=Tryz.zeroValue332
  t233:=Tryz.underlying333
  a233:=Tryz.isAgg333
  z233:=Tryz.sizeOf333
  v233:=Tryz.zeroValue333
  g15:=by kernel_rfl
  g16:=by kernel_rfl
  g17:=by kernel_rfl
  g18:=by kernel_rfl
  g19:=by kernel_rfl
  t80:=Tryz.underlying217
  a80:=Tryz.isAgg217
  z80:=Tryz.sizeOf217
  v80:=Tryz.zeroValue217
  i0:=by kernel_rfl
  i2:=by kernel_rfl
  i3:=by kernel_rfl
  i4:=by kernel_rfl
  i5:=by kernel_rfl
  i9:=by kernel_rfl
  i20:=by kernel_rfl
  i21:=by kernel_rfl
  i37:=by kernel_rfl
  i46:=by kernel_rfl
  i51:=by kernel_rfl
  i53:=by kernel_rfl
  i75:=by kernel_rfl
  i76:=by kernel_rfl
  i80:=by kernel_rfl
  i85:=by kernel_rfl
  i127:=by kernel_rfl
  i143:=by kernel_rfl
  i145:=by kernel_rfl
  i167:=by kernel_rfl
  i168:=by kernel_rfl
  i171:=by kernel_rfl
  i173:=by kernel_rfl
  i175:=by kernel_rfl
  i210:=by kernel_rfl
  i212:=by kernel_rfl
  i232:=by kernel_rfl
  i233:=by kernel_rfl
  m15:=by kernel_rfl
  m16:=by kernel_rfl
  m17:=by kernel_rfl
  m18:=by kernel_rfl
  m19:=by kernel_rfl
  c0:=by kernel_rfl
  c2:=by kernel_rfl
  c3:=by kernel_rfl
  c4:=by kernel_rfl
  c5:=by kernel_rfl
  c9:=by kernel_rfl
  c20:=by kernel_rfl
  c21:=by kernel_rfl
  c37:=by kernel_rfl
  c46:=by kernel_rfl
  c51:=by kernel_rfl
  c53:=by kernel_rfl
  c75:=by kernel_rfl
  c76:=by kernel_rfl
  c80:=by kernel_rfl
  c85:=by kernel_rfl
  c127:=by kernel_rfl
  c143:=by kernel_rfl
  c145:=by kernel_rfl
  c167:=by kernel_rfl
  c168:=by kernel_rfl
  c171:=by kernel_rfl
  c173:=by kernel_rfl
  c175:=by kernel_rfl
  c210:=by kernel_rfl
  c212:=by kernel_rfl
  c213:=by kernel_rfl
  c232:=by kernel_rfl
  c233:=by kernel_rfl}
open Go.RowKit in
/-- strconv.Atoi,AT EVERY STRING THAT SPELLS AN int ('Lib.atoiAll ..=.ok v';of whatever length: leading zeros count): v,AND NO ERROR. The world: as it was,or with the one new row that '[]byte(..)' lays. (LAID: no walk: one application.) -/
theorem Tryz.strconv_Atoi_ok(s:ByteArray)(hmax:s.size≤9223372036854775806)(v:Int)(h:Lib.atoiAll s.data.toList=.ok v)(w:World):
    Calls Tryz.prog 222 #[.string s] w fun e w'=>e=.returned (.tuple #[.int .i64 v,.nilIface])∧(w'=w∨∃t,w'=Lib.bytesWorld w 5 t):=Any.strconv_Atoi_ok Tryz.laysC172 s hmax v h w
open Go.RowKit in
theorem Tryz.strconv_Atoi_syntax_var(s:ByteArray)(hlim:s.size≤281474976710656)(h1:∀v,Lib.atoiAll s.data.toList≠.ok v)(h2:Lib.atoiAll s.data.toList≠.range)(tp:TypeId)(p:Value)(w:World)(hvar:w.var? Tryz.prog "strconv.ErrSyntax"=some #[.iface tp p]):
    Calls Tryz.prog 222 #[.string s] w fun e w'=>∃N,e=.returned (.tuple #[.int .i64 0,.iface 259 (.pointer (some ⟨N,0,none⟩))])∧w.heap.size≤N∧w'.heap[N]?=some (.cells #[.string ⟨#[65,116,111,105]⟩,.string s,.iface tp p] 297 (0,0))∧Below w.heap.size w w':=Any.strconv_Atoi_syntax_var Tryz.laysC172 s hlim (by cases hx:Lib.atoiAll s.data.toList with|ok v=>exact (h1 v hx).elim|range=>exact (h2 hx).elim|_=>rfl) tp p w hvar
open Go.RowKit in
theorem Tryz.strconv_Atoi_range_var(s:ByteArray)(hlim:s.size≤281474976710656)(h:Lib.atoiAll s.data.toList=.range)(tp:TypeId)(p:Value)(w:World)(hvar:w.var? Tryz.prog "strconv.ErrRange"=some #[.iface tp p]):
    Calls Tryz.prog 222 #[.string s] w fun e w'=>∃N,e=.returned (.tuple #[.int .i64 (Lib.atoiSat s.data.toList),.iface 259 (.pointer (some ⟨N,0,none⟩))])∧w.heap.size≤N∧w'.heap[N]?=some (.cells #[.string ⟨#[65,116,111,105]⟩,.string s,.iface tp p] 297 (0,0))∧Below w.heap.size w w':=Any.strconv_Atoi_range_var Tryz.laysC172 s hlim h tp p w hvar
def Tryz.laysPu14_ren:Go.Shelf.Ren:=⟨fun|14=>146|16=>209|17=>210|19=>254|20=>255|21=>256|22=>257|23=>258|24=>259|25=>296|27=>100|26=>297|28=>164|29=>224|30=>277|31=>278|32=>279|33=>280|35=>273|34=>307|36=>308|37=>309|38=>310|39=>329|40=>330|n=>n,fun|9=>9|3=>3|22=>171|24=>175|25=>176|4=>4|34=>257|5=>5|36=>228|37=>210|0=>0|39=>259|21=>21|44=>297|47=>249|50=>320|48=>318|2=>2|52=>277|55=>279|59=>309|60=>274|20=>20|61=>310|65=>332|66=>333|67=>217|n=>n,fun|0=>0|1=>1|2=>2|3=>6|4=>7|n=>n⟩
theorem Tryz.laysPu14:Go.Proofs.LaysPu.n14 Tryz.prog Tryz.laysPu14_ren:={
  mixed:=by kernel_rfl
  f14:=Tryz.func146.trans (congrArg some (by kernel_rfl))
  f16:=Tryz.func209.trans (congrArg some (by kernel_rfl))
  f17:=Tryz.func210.trans (congrArg some (by kernel_rfl))
  f19:=Tryz.func254.trans (congrArg some (by kernel_rfl))
  f20:=Tryz.func255.trans (congrArg some (by kernel_rfl))
  f21:=Tryz.func256.trans (congrArg some (by kernel_rfl))
  f22:=Tryz.func257.trans (congrArg some (by kernel_rfl))
  f23:=Tryz.func258.trans (congrArg some (by kernel_rfl))
  f24:=Tryz.func259.trans (congrArg some (by kernel_rfl))
  f25:=Tryz.func296.trans (congrArg some (by kernel_rfl))
  f26:=Tryz.func297.trans (congrArg some (by kernel_rfl))
  f27:=Tryz.func100.trans (congrArg some (by kernel_rfl))
  f28:=Tryz.func164.trans (congrArg some (by kernel_rfl))
  f29:=Tryz.func224.trans (congrArg some (by kernel_rfl))
  f30:=Tryz.func277.trans (congrArg some (by kernel_rfl))
  f31:=Tryz.func278.trans (congrArg some (by kernel_rfl))
  f32:=Tryz.func279.trans (congrArg some (by kernel_rfl))
  f33:=Tryz.func280.trans (congrArg some (by kernel_rfl))
  f34:=Tryz.func307.trans (congrArg some (by kernel_rfl))
  f35:=Tryz.func273.trans (congrArg some (by kernel_rfl))
  f36:=Tryz.func308.trans (congrArg some (by kernel_rfl))
  f37:=Tryz.func309.trans (congrArg some (by kernel_rfl))
  f38:=Tryz.func310.trans (congrArg some (by kernel_rfl))
  f39:=Tryz.func329.trans (congrArg some (by kernel_rfl))
  f40:=Tryz.func330.trans (congrArg some (by kernel_rfl))
  t0:=Tryz.underlying0
  a0:=Tryz.isAgg0
  z0:=Tryz.sizeOf0
  v0:=Tryz.zeroValue0
  i0:=by kernel_rfl
  t2:=Tryz.underlying2
  a2:=Tryz.isAgg2
  z2:=Tryz.sizeOf2
  v2:=Tryz.zeroValue2
  i2:=by kernel_rfl
  t3:=Tryz.underlying3
  a3:=Tryz.isAgg3
  z3:=Tryz.sizeOf3
  v3:=Tryz.zeroValue3
  i3:=by kernel_rfl
  t4:=Tryz.underlying4
  a4:=Tryz.isAgg4
  z4:=Tryz.sizeOf4
  v4:=Tryz.zeroValue4
  i4:=by kernel_rfl
  t5:=Tryz.underlying5
  a5:=Tryz.isAgg5
  z5:=Tryz.sizeOf5
  v5:=Tryz.zeroValue5
  i5:=by kernel_rfl
  t9:=Tryz.underlying9
  a9:=Tryz.isAgg9
  z9:=Tryz.sizeOf9
  v9:=Tryz.zeroValue9
  i9:=by kernel_rfl
  t20:=Tryz.underlying20
  a20:=Tryz.isAgg20
  z20:=Tryz.sizeOf20
  v20:=Tryz.zeroValue20
  i20:=by kernel_rfl
  t21:=Tryz.underlying21
  a21:=Tryz.isAgg21
  z21:=Tryz.sizeOf21
  v21:=Tryz.zeroValue21
  i21:=by kernel_rfl
  t22:=Tryz.underlying171
  a22:=Tryz.isAgg171
  z22:=Tryz.sizeOf171
  v22:=Tryz.zeroValue171
  i22:=by kernel_rfl
  t24:=Tryz.underlying175
  a24:=Tryz.isAgg175
  z24:=Tryz.sizeOf175
  v24:=Tryz.zeroValue175
  i24:=by kernel_rfl
  t25:=Tryz.underlying176
  a25:=Tryz.isAgg176
  z25:=Tryz.sizeOf176
  v25:=Tryz.zeroValue176
  i25:=by kernel_rfl
  t34:=Tryz.underlying257
  a34:=Tryz.isAgg257
  z34:=Tryz.sizeOf257
  v34:=Tryz.zeroValue257
  i34:=by kernel_rfl
  c34:=by kernel_rfl
  t36:=Tryz.underlying228
  a36:=Tryz.isAgg228
  z36:=Tryz.sizeOf228
  v36:=Tryz.zeroValue228
  i36:=by kernel_rfl
  t37:=Tryz.underlying210
  a37:=Tryz.isAgg210
  z37:=Tryz.sizeOf210
  v37:=Tryz.zeroValue210
  i37:=by kernel_rfl
  t39:=Tryz.underlying259
  a39:=Tryz.isAgg259
  z39:=Tryz.sizeOf259
  v39:=Tryz.zeroValue259
  i39:=by kernel_rfl
  t44:=Tryz.underlying297
  a44:=Tryz.isAgg297
  z44:=Tryz.sizeOf297
  v44:=Tryz.zeroValue297
  i44:=by kernel_rfl
  t47:=Tryz.underlying249
  a47:=Tryz.isAgg249
  z47:=Tryz.sizeOf249
  v47:=Tryz.zeroValue249
  i47:=by kernel_rfl
  t48:=Tryz.underlying318
  a48:=Tryz.isAgg318
  z48:=Tryz.sizeOf318
  v48:=Tryz.zeroValue318
  i48:=by kernel_rfl
  t50:=Tryz.underlying320
  a50:=Tryz.isAgg320
  z50:=Tryz.sizeOf320
  v50:=Tryz.zeroValue320
  i50:=by kernel_rfl
  t52:=Tryz.underlying277
  a52:=Tryz.isAgg277
  z52:=Tryz.sizeOf277
  v52:=Tryz.zeroValue277
  i52:=by kernel_rfl
  t55:=Tryz.underlying279
  a55:=Tryz.isAgg279
  z55:=Tryz.sizeOf279
  v55:=Tryz.zeroValue279
  i55:=by kernel_rfl
  t59:=Tryz.underlying309
  a59:=Tryz.isAgg309
  z59:=Tryz.sizeOf309
  v59:=Tryz.zeroValue309
  i59:=by kernel_rfl
  t60:=Tryz.underlying274
  a60:=Tryz.isAgg274
  z60:=Tryz.sizeOf274
  v60:=Tryz.zeroValue274
  i60:=by kernel_rfl
  t61:=Tryz.underlying310
  a61:=Tryz.isAgg310
  z61:=Tryz.sizeOf310
  t65:=Tryz.underlying332
  a65:=Tryz.isAgg332
  z65:=Tryz.sizeOf332
  v65:=Tryz.zeroValue332
  i65:=by kernel_rfl
  t66:=Tryz.underlying333
  a66:=Tryz.isAgg333
  z66:=Tryz.sizeOf333
  v66:=Tryz.zeroValue333
  i66:=by kernel_rfl
  t67:=Tryz.underlying217
  a67:=Tryz.isAgg217
  z67:=Tryz.sizeOf217
  v67:=Tryz.zeroValue217
  i67:=by kernel_rfl
  g0:=by kernel_rfl
  m0:=by kernel_rfl
  g1:=by kernel_rfl
  m1:=by kernel_rfl
  g2:=by kernel_rfl
  m2:=by kernel_rfl
  g3:=by kernel_rfl
  m3:=by kernel_rfl
  g4:=by kernel_rfl
  m4:=by kernel_rfl}
open Go.RowKit in
/-- strconv.ParseUint(s,10,64),AT EVERY STRING THAT SPELLS A uint64 ('Lib.parseUintB 64 s.data.toList=.ok u'): u,AND NO ERROR. (LAID: no walk: one application.) -/
theorem Tryz.strconv_ParseUint_10_at64_ok(s:ByteArray)(hmax:s.size≤9223372036854775806)(u:Nat)(h:Lib.parseUintB 64 s.data.toList=.ok u)(w:World):
    Calls Tryz.prog 146 #[.string s,.int .i64 10,.int .i64 64] w fun e w'=>e=.returned (.tuple #[.int .u64 u,.nilIface])∧(w'=w∨w'=Lib.bytesWorld w 5 s):=Any.strconv_ParseUint_10_at64_ok Tryz.laysPu14 s hmax u h w
def Tryz.lays145_ren:Go.Shelf.Ren:=⟨fun|145=>221|220=>274|219=>305|217=>325|225=>326|224=>327|267=>328|266=>337|314=>338|n=>n,fun|9=>9|4=>4|59=>229|3=>3|5=>5|46=>228|146=>283|51=>274|n=>n,fun|1=>3|n=>n⟩
theorem Tryz.lays145:Go.Proofs.Lays.n145 Tryz.prog Tryz.lays145_ren:={
  mixed:=by kernel_rfl
  f145:=Tryz.func221.trans (congrArg some (by kernel_rfl))
  f217:=Tryz.func325.trans (congrArg some (by kernel_rfl))
  f219:=Tryz.func305.trans (congrArg some (by kernel_rfl))
  f220:=Tryz.func274.trans (congrArg some (by kernel_rfl))
  f224:=Tryz.func327.trans (congrArg some (by kernel_rfl))
  f225:=Tryz.func326.trans (congrArg some (by kernel_rfl))
  f266:=Tryz.func337.trans (congrArg some (by kernel_rfl))
  f267:=Tryz.func328.trans (congrArg some (by kernel_rfl))
  f314:=Tryz.func338.trans (congrArg some (by kernel_rfl))
  t3:=Tryz.underlying3
  a3:=Tryz.isAgg3
  z3:=Tryz.sizeOf3
  v3:=Tryz.zeroValue3
  t4:=Tryz.underlying4
  a4:=Tryz.isAgg4
  z4:=Tryz.sizeOf4
  v4:=Tryz.zeroValue4
  t5:=Tryz.underlying5
  a5:=Tryz.isAgg5
  z5:=Tryz.sizeOf5
  v5:=Tryz.zeroValue5
  t9:=Tryz.underlying9
  a9:=Tryz.isAgg9
  z9:=Tryz.sizeOf9
  v9:=Tryz.zeroValue9
  t46:=Tryz.underlying228
  a46:=Tryz.isAgg228
  z46:=Tryz.sizeOf228
  v46:=Tryz.zeroValue228
  t51:=Tryz.underlying274
  a51:=Tryz.isAgg274
  z51:=Tryz.sizeOf274
  v51:=Tryz.zeroValue274
  t59:=Tryz.underlying229
  a59:=Tryz.isAgg229
  z59:=Tryz.sizeOf229
  v59:=Tryz.zeroValue229
  t146:=Tryz.underlying283
  a146:=Tryz.isAgg283
  z146:=Tryz.sizeOf283
  v146:=Tryz.zeroValue283
  g1:=by kernel_rfl}
open Go.RowKit Go.Lib in
/-- strings.Cut: "Cut slices s around the first instance of sep, returning the text before and after sep. The found result reports whether sep appears in s. If sep does not appear in s, cut returns s, "", false.": IT RETURNS 'Lib.cut s sep';the world is as it was but for the count of draws. (LAID: no walk: one application.) -/
theorem Tryz.strings_Cut(s sep:ByteArray)(m:Int)(w:World)(hs:s.size<4294967281)(hm:w.cell? ⟨3,0,none⟩=some (.int .i64 m)):
    Calls Tryz.prog 221 #[.string s,.string sep] w fun e w'=>e=.returned (.tuple #[.string ⟨(Lib.cut s.data.toList sep.data.toList).1.toArray⟩,.string ⟨(Lib.cut s.data.toList sep.data.toList).2.1.toArray⟩,.bool (Lib.cut s.data.toList sep.data.toList).2.2])∧∃n,w'=w.drewN n:=Any.strings_Cut Tryz.lays145 s sep m w hs hm
def Tryz.lays105_ren:Go.Shelf.Ren:=⟨fun|105=>174|212=>229|99=>230|165=>231|166=>192|170=>232|169=>194|263=>282|264=>283|206=>284|240=>243|241=>285|276=>291|277=>317|n=>n,fun|9=>9|3=>3|4=>4|20=>20|0=>0|46=>228|109=>238|5=>5|72=>212|76=>214|51=>274|146=>283|53=>171|148=>285|70=>209|37=>210|75=>175|127=>249|164=>289|80=>217|n=>n,fun|n=>n⟩
theorem Tryz.lays105:Go.Proofs.Lays.n105 Tryz.prog Tryz.lays105_ren:={
  mixed:=by kernel_rfl
  f99:=Tryz.func230.trans (congrArg some (by kernel_rfl))
  f105:=Tryz.func174.trans (congrArg some (by kernel_rfl))
  f165:=Tryz.func231.trans (congrArg some (by kernel_rfl))
  f166:=Tryz.func192.trans (congrArg some (by kernel_rfl))
  f169:=Tryz.func194.trans (congrArg some (by kernel_rfl))
  f170:=Tryz.func232.trans (congrArg some (by kernel_rfl))
  f206:=Tryz.func284.trans (congrArg some (by kernel_rfl))
  f212:=Tryz.func229.trans (congrArg some (by kernel_rfl))
  f240:=Tryz.func243.trans (congrArg some (by kernel_rfl))
  f241:=Tryz.func285.trans (congrArg some (by kernel_rfl))
  f263:=Tryz.func282.trans (congrArg some (by kernel_rfl))
  f264:=Tryz.func283.trans (congrArg some (by kernel_rfl))
  f276:=Tryz.func291.trans (congrArg some (by kernel_rfl))
  f277:=Tryz.func317.trans (congrArg some (by kernel_rfl))
  t0:=Tryz.underlying0
  a0:=Tryz.isAgg0
  z0:=Tryz.sizeOf0
  v0:=Tryz.zeroValue0
  t3:=Tryz.underlying3
  a3:=Tryz.isAgg3
  z3:=Tryz.sizeOf3
  v3:=Tryz.zeroValue3
  t4:=Tryz.underlying4
  a4:=Tryz.isAgg4
  z4:=Tryz.sizeOf4
  v4:=Tryz.zeroValue4
  t5:=Tryz.underlying5
  a5:=Tryz.isAgg5
  z5:=Tryz.sizeOf5
  v5:=Tryz.zeroValue5
  t9:=Tryz.underlying9
  a9:=Tryz.isAgg9
  z9:=Tryz.sizeOf9
  v9:=Tryz.zeroValue9
  t20:=Tryz.underlying20
  a20:=Tryz.isAgg20
  z20:=Tryz.sizeOf20
  v20:=Tryz.zeroValue20
  t37:=Tryz.underlying210
  a37:=Tryz.isAgg210
  z37:=Tryz.sizeOf210
  v37:=Tryz.zeroValue210
  t46:=Tryz.underlying228
  a46:=Tryz.isAgg228
  z46:=Tryz.sizeOf228
  v46:=Tryz.zeroValue228
  t51:=Tryz.underlying274
  a51:=Tryz.isAgg274
  z51:=Tryz.sizeOf274
  v51:=Tryz.zeroValue274
  t53:=Tryz.underlying171
  a53:=Tryz.isAgg171
  z53:=Tryz.sizeOf171
  v53:=Tryz.zeroValue171
  t70:=Tryz.underlying209
  a70:=Tryz.isAgg209
  z70:=Tryz.sizeOf209
  v70:=Tryz.zeroValue209
  t72:=Tryz.underlying212
  a72:=Tryz.isAgg212
  z72:=Tryz.sizeOf212
  v72:=Tryz.zeroValue212
  t75:=Tryz.underlying175
  a75:=Tryz.isAgg175
  z75:=Tryz.sizeOf175
  v75:=Tryz.zeroValue175
  t76:=Tryz.underlying214
  a76:=Tryz.isAgg214
  z76:=Tryz.sizeOf214
  v76:=Tryz.zeroValue214
  t109:=Tryz.underlying238
  a109:=Tryz.isAgg238
  z109:=Tryz.sizeOf238
  v109:=Tryz.zeroValue238
  t127:=Tryz.underlying249
  a127:=Tryz.isAgg249
  z127:=Tryz.sizeOf249
  v127:=Tryz.zeroValue249
  t146:=Tryz.underlying283
  a146:=Tryz.isAgg283
  z146:=Tryz.sizeOf283
  v146:=Tryz.zeroValue283
  t148:=Tryz.underlying285
  a148:=Tryz.isAgg285
  z148:=Tryz.sizeOf285
  v148:=Tryz.zeroValue285
  t164:=Tryz.underlying289
  a164:=Tryz.isAgg289
  z164:=Tryz.sizeOf289
  v164:=Tryz.zeroValue289}
theorem Tryz.Builder_Extra_105:Builder.Extra Tryz.prog Tryz.lays105_ren:={
  sizeBuilder:=by kernel_rfl
  liesBuilder:=by kernel_rfl
  t5:=Tryz.underlying5
  a5:=Tryz.isAgg5
  z5:=Tryz.sizeOf5
  v5:=Tryz.zeroValue5
  infoByte:=by kernel_rfl
  cellsByte:=by kernel_rfl
  sizeByte:=by kernel_rfl
  neB5:=by decide}
open Go.RowKit Go.Lib in
/-- **strings.Repeat: count≥0,the result within one allocation: count copies of s.** (LAID: no walk: one application.) -/
theorem Tryz.strings_Repeat(s:ByteArray)(c:Nat)(w:World)(hc:c≤9223372036854775807)(hlen:s.size*c≤140737488355328):
    Calls Tryz.prog 174 #[.string s,.int .i64 c] w fun e w'=>e=.returned (.string ⟨(Lib.repeatL s.data.toList c).toArray⟩)∧Below w.heap.size w w':=Any.strings_Repeat Tryz.lays105 Tryz.Builder_Extra_105 s c w hc hlen
def Tryz.lays107_ren:Go.Shelf.Ren:=⟨fun|107=>261|108=>298|n=>n,fun|28=>163|3=>3|4=>4|0=>0|n=>n,fun|n=>n⟩
theorem Tryz.lays107:Go.Proofs.Lays.n107 Tryz.prog Tryz.lays107_ren:={
  mixed:=by kernel_rfl
  f107:=Tryz.func261.trans (congrArg some (by kernel_rfl))
  f108:=Tryz.func298.trans (congrArg some (by kernel_rfl))
  t0:=Tryz.underlying0
  a0:=Tryz.isAgg0
  z0:=Tryz.sizeOf0
  v0:=Tryz.zeroValue0
  t3:=Tryz.underlying3
  a3:=Tryz.isAgg3
  z3:=Tryz.sizeOf3
  v3:=Tryz.zeroValue3
  t4:=Tryz.underlying4
  a4:=Tryz.isAgg4
  z4:=Tryz.sizeOf4
  v4:=Tryz.zeroValue4
  t28:=Tryz.underlying163
  a28:=Tryz.isAgg163
  z28:=Tryz.sizeOf163
  v28:=Tryz.zeroValue163}
open Go.Lib in
/-- slices.Contains at []int: "Contains reports whether v is present in s.": IT RETURNS 'elements.contains v';the world is as it was. ITS CALLEE slices.Index IS MET BY ITS OWN CONTRACT OFF THE SHELF (lay that first): no loop is walked here. (LAID: no walk: one application.) -/
theorem Tryz.slices_Contains_int(b off n c:Nat)(zs:List Int)(x:Int)(w:World)(hz:n≤zs.length)(hbig:n≤9223372036854775807)(hc:∀j,j<zs.length→w.cell? ⟨b,off+j,none⟩=some (.int .i64 (zs.getD j 0))):
    Calls Tryz.prog 261 #[.slice (some ⟨b,off,none⟩) n c,.int .i64 x] w fun e w'=>e=.returned (.bool ((zs.take n).contains x))∧w'=w:=Any.slices_Contains_int Tryz.lays107 b off n c zs x w hz hbig hc
end Go.Proofs
