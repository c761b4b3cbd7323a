/-
  DERIVED: THE SHELF's CONTRACTS AT THIS DUMP,IN PLAIN WORDS (tools/lay-plain.mjs out of 'TryzShelf.lean',which tools/lay-shelf.mjs wrote): THE SAME DECLARATIONS UNDER THE SAME NAMES: 'import','namespace','open','def','theorem' AND NOTHING ELSE: no command of the shelf's: FOR A HAND-IN. Each laying: the table of numbers ('.._ren') and one theorem,a field a fact of the dump's own or the kernel's comparison;each contract: ONE APPLICATION.
-/
import Derived.Shelf.Strings.Builder1
import Derived.Shelf.Strings.Builder2
import Derived.Shelf.Strings.Trim
import Derived.Shelf.Small.Utf8
import Derived.Shelf.Small.Strs
import Derived.Shelf.Small.Wraps
import Derived.Shelf.Strings.BuilderF
import Derived.Shelf.Strings.BuilderK
import Derived.Shelf.Strings.Builder2Cap
import Derived.Shelf.Strconv.Atoi
import Derived.Shelf.Strconv.Itoa0
import Derived.Shelf.Strconv.Itoa1
import Derived.Shelf.LaysM
import Derived.Shelf.Strconv.Itoa2
import Derived.Shelf.Strconv.Itoa3
import Derived.Shelf.Strconv.AtoiErrFast
import Derived.Shelf.Strconv.ParseIntEmpty
import Derived.Shelf.Strconv.AtoiFail
import Derived.Shelf.Strconv.Clone
import Derived.Shelf.Strconv.SyntaxError
import Derived.Shelf.LaysC
import Derived.Shelf.Strconv.ToError
import Derived.Shelf.Strconv.AtoiErr
import Derived.Shelf.Strconv.ErrVar
import Derived.Shelf.Strconv.Lower
import Derived.Shelf.Strconv.ParseUint10
import Derived.Shelf.Strconv.ParseUint10Empty
import Derived.Shelf.Strconv.ParseUint10Any
import Derived.Shelf.Strconv.ParseInt10
import Derived.Shelf.Strconv.AtoiLong
import Derived.Shelf.Strconv.AtoiInnerAll
import Derived.Shelf.Strconv.RangeError
import Derived.Shelf.Strconv.ToErrorRange
import Derived.Shelf.Strconv.AtoiAll
import Derived.Shelf.Strconv.ErrVarAll
import Derived.Shelf.Strconv.ParseUintEmpty
import Derived.Shelf.Strconv.ParseUint10b64
import Derived.Shelf.Strconv.ParseUint10b32
import Derived.Shelf.Strconv.ParseUint10b16
import Derived.Shelf.Strconv.ParseUint10b8
import Derived.Shelf.Strconv.ParseUint10At
import Derived.Shelf.Strconv.ParseInt10At64
import Derived.Shelf.Strconv.ParseInt10At32
import Derived.Shelf.Strconv.ParseInt10At16
import Derived.Shelf.Strconv.ParseInt10At8
import Derived.Shelf.Strconv.ParseInt10All
import Derived.Ground.MpProg
import Derived.Shelf.Pu.ParseUintPublic10
import Derived.Shelf.Pu.ErrVarParseUint
import Derived.Shelf.Strings.Search1
import Derived.Shelf.Strings.Search2
import Derived.Shelf.Strings.Cut
import Derived.Shelf.Strings.Shaped
import Derived.Shelf.Strings.Prefix
import Derived.Shelf.Unicode.Decode
import Derived.Shelf.Strings.Runes
import Derived.Shelf.Strings.AsciiSet
import Derived.Shelf.Bits.Mul64
import Derived.Shelf.Strings.Repeat
import Derived.Shelf.Unicode.DecodeSlow
import Derived.Shelf.Unicode.DecodeAny
import Derived.Shelf.Unicode.DecodeLast
import Derived.Shelf.Strings.BuilderCap
import Derived.Shelf.Slices.Turned
import Derived.Test.YteennkgpeiafaaaGreatDoorProg
set_option linter.unusedVariables false
set_option linter.unusedSimpArgs false
namespace Go.Proofs
open Go.Shelf
def Tryz.lays169_ren:Go.Shelf.Ren:=⟨fun|169=>234|n=>n,fun|70=>232|9=>9|0=>0|72=>234|37=>217|127=>277|3=>3|5=>5|n=>n,fun|n=>n⟩
theorem Tryz.lays169:Go.Proofs.Lays.n169 Tryz.prog Tryz.lays169_ren:={
  mixed:=by kernel_rfl
  f169:=Tryz.func234.trans (congrArg some (by kernel_rfl))
  t0:=Tryz.underlying0
  a0:=Tryz.isAgg0
  z0:=Tryz.sizeOf0
  v0:=Tryz.zeroValue0
  t3:=Tryz.underlying3
  a3:=Tryz.isAgg3
  z3:=Tryz.sizeOf3
  v3:=Tryz.zeroValue3
  t9:=Tryz.underlying9
  a9:=Tryz.isAgg9
  z9:=Tryz.sizeOf9
  v9:=Tryz.zeroValue9
  t37:=Tryz.underlying217
  a37:=Tryz.isAgg217
  z37:=Tryz.sizeOf217
  v37:=Tryz.zeroValue217
  t70:=Tryz.underlying232
  a70:=Tryz.isAgg232
  z70:=Tryz.sizeOf232
  v70:=Tryz.zeroValue232
  t72:=Tryz.underlying234
  a72:=Tryz.isAgg234
  z72:=Tryz.sizeOf234
  v72:=Tryz.zeroValue234
  t127:=Tryz.underlying277
  a127:=Tryz.isAgg277
  z127:=Tryz.sizeOf277
  v127:=Tryz.zeroValue277}
theorem Tryz.Builder_Extra_169:Builder.Extra Tryz.prog Tryz.lays169_ren:={
  sizeBuilder:=by kernel_rfl
  liesBuilder:=by kernel_rfl
  t5:=Tryz.underlying5
  a5:=Tryz.isAgg5
  z5:=Tryz.sizeOf5
  v5:=Tryz.zeroValue5
  infoByte:=by kernel_rfl
  cellsByte:=by kernel_rfl
  sizeByte:=by kernel_rfl
  neB5:=by decide}
open Go.RowKit in
/-- (*strings.Builder).String: "String returns the accumulated string.": WHATEVER THE BUILDER HOLDS. (LAID: no walk: one application.) -/
theorem Tryz.Builder_String_any(B b:Nat)(l:List UInt8)(w:World)(h:Lib.IsBuilder 234 5 B b (Lib.byteCells l) w)(hBw:B≤w.heap.size):
    Calls Tryz.prog 234 #[.pointer (some ⟨b,0,none⟩)] w fun e w'=>e=.returned (.string ⟨l.toArray⟩)∧Below B w w':=Any.Builder_String_any Tryz.lays169 Tryz.Builder_Extra_169 B b l w h hBw
def Tryz.lays161_ren:Go.Shelf.Ren:=⟨fun|161=>248|231=>288|227=>290|233=>291|235=>293|228=>323|197=>324|151=>325|260=>343|152=>344|137=>355|119=>356|224=>348|225=>347|217=>346|266=>357|n=>n,fun|9=>9|4=>4|3=>3|5=>5|117=>281|116=>280|0=>0|124=>284|105=>312|21=>21|119=>337|46=>221|139=>340|138=>339|n=>n,fun|3=>4|4=>5|n=>n⟩
theorem Tryz.lays161:Go.Proofs.Lays.n161 Tryz.prog Tryz.lays161_ren:={
  mixed:=by kernel_rfl
  f119:=Tryz.func356.trans (congrArg some (by kernel_rfl))
  f137:=Tryz.func355.trans (congrArg some (by kernel_rfl))
  f151:=Tryz.func325.trans (congrArg some (by kernel_rfl))
  f152:=Tryz.func344.trans (congrArg some (by kernel_rfl))
  f161:=Tryz.func248.trans (congrArg some (by kernel_rfl))
  f197:=Tryz.func324.trans (congrArg some (by kernel_rfl))
  f217:=Tryz.func346.trans (congrArg some (by kernel_rfl))
  f224:=Tryz.func348.trans (congrArg some (by kernel_rfl))
  f225:=Tryz.func347.trans (congrArg some (by kernel_rfl))
  f227:=Tryz.func290.trans (congrArg some (by kernel_rfl))
  f228:=Tryz.func323.trans (congrArg some (by kernel_rfl))
  f231:=Tryz.func288.trans (congrArg some (by kernel_rfl))
  f233:=Tryz.func291.trans (congrArg some (by kernel_rfl))
  f235:=Tryz.func293.trans (congrArg some (by kernel_rfl))
  f260:=Tryz.func343.trans (congrArg some (by kernel_rfl))
  f266:=Tryz.func357.trans (congrArg some (by kernel_rfl))
  t0:=Tryz.underlying0
  a0:=Tryz.isAgg0
  z0:=Tryz.sizeOf0
  v0:=Tryz.zeroValue0
  t3:=Tryz.underlying3
  a3:=Tryz.isAgg3
  z3:=Tryz.sizeOf3
  v3:=Tryz.zeroValue3
  t4:=Tryz.underlying4
  a4:=Tryz.isAgg4
  z4:=Tryz.sizeOf4
  v4:=Tryz.zeroValue4
  t5:=Tryz.underlying5
  a5:=Tryz.isAgg5
  z5:=Tryz.sizeOf5
  v5:=Tryz.zeroValue5
  t9:=Tryz.underlying9
  a9:=Tryz.isAgg9
  z9:=Tryz.sizeOf9
  v9:=Tryz.zeroValue9
  t21:=Tryz.underlying21
  a21:=Tryz.isAgg21
  z21:=Tryz.sizeOf21
  v21:=Tryz.zeroValue21
  t46:=Tryz.underlying221
  a46:=Tryz.isAgg221
  z46:=Tryz.sizeOf221
  v46:=Tryz.zeroValue221
  t105:=Tryz.underlying312
  a105:=Tryz.isAgg312
  z105:=Tryz.sizeOf312
  v105:=Tryz.zeroValue312
  t116:=Tryz.underlying280
  a116:=Tryz.isAgg280
  z116:=Tryz.sizeOf280
  t117:=Tryz.underlying281
  a117:=Tryz.isAgg281
  z117:=Tryz.sizeOf281
  v117:=Tryz.zeroValue281
  t119:=Tryz.underlying337
  a119:=Tryz.isAgg337
  z119:=Tryz.sizeOf337
  t124:=Tryz.underlying284
  a124:=Tryz.isAgg284
  z124:=Tryz.sizeOf284
  v124:=Tryz.zeroValue284
  t138:=Tryz.underlying339
  a138:=Tryz.isAgg339
  z138:=Tryz.sizeOf339
  v138:=Tryz.zeroValue339
  t139:=Tryz.underlying340
  a139:=Tryz.isAgg340
  z139:=Tryz.sizeOf340
  v139:=Tryz.zeroValue340
  g3:=by kernel_rfl
  g4:=by kernel_rfl}
open Go.RowKit in
/-- strings.TrimLeft: "TrimLeft returns a slice of the string s with all leading Unicode code points contained in cutset removed.": AT A cutset OF ONE ASCII BYTE. The world is as it was. (LAID: no walk: one application.) -/
theorem Tryz.strings_TrimLeft_one(s:ByteArray)(c:UInt8)(hc:c.toNat<128)(w:World):
    Calls Tryz.prog 248 #[.string s,.string ⟨#[c]⟩] w fun e w'=>e=.returned (.string ⟨(Lib.trimLeftB s.data.toList c).toArray⟩)∧w'=w:=Any.strings_TrimLeft_one Tryz.lays161 s c hc w
def Tryz.lays160_ren:Go.Shelf.Ren:=⟨fun|160=>247|232=>289|231=>288|227=>290|234=>292|233=>291|236=>294|235=>293|228=>323|271=>326|151=>325|197=>324|120=>345|152=>344|260=>343|137=>355|119=>356|224=>348|225=>347|217=>346|266=>357|n=>n,fun|9=>9|4=>4|3=>3|5=>5|117=>281|116=>280|0=>0|124=>284|21=>21|105=>312|46=>221|119=>337|139=>340|138=>339|n=>n,fun|3=>4|4=>5|n=>n⟩
theorem Tryz.lays160:Go.Proofs.Lays.n160 Tryz.prog Tryz.lays160_ren:={
  mixed:=by kernel_rfl
  f119:=Tryz.func356.trans (congrArg some (by kernel_rfl))
  f120:=Tryz.func345.trans (congrArg some (by kernel_rfl))
  f137:=Tryz.func355.trans (congrArg some (by kernel_rfl))
  f151:=Tryz.func325.trans (congrArg some (by kernel_rfl))
  f152:=Tryz.func344.trans (congrArg some (by kernel_rfl))
  f160:=Tryz.func247.trans (congrArg some (by kernel_rfl))
  f197:=Tryz.func324.trans (congrArg some (by kernel_rfl))
  f217:=Tryz.func346.trans (congrArg some (by kernel_rfl))
  f224:=Tryz.func348.trans (congrArg some (by kernel_rfl))
  f225:=Tryz.func347.trans (congrArg some (by kernel_rfl))
  f227:=Tryz.func290.trans (congrArg some (by kernel_rfl))
  f228:=Tryz.func323.trans (congrArg some (by kernel_rfl))
  f231:=Tryz.func288.trans (congrArg some (by kernel_rfl))
  f232:=Tryz.func289.trans (congrArg some (by kernel_rfl))
  f233:=Tryz.func291.trans (congrArg some (by kernel_rfl))
  f234:=Tryz.func292.trans (congrArg some (by kernel_rfl))
  f235:=Tryz.func293.trans (congrArg some (by kernel_rfl))
  f236:=Tryz.func294.trans (congrArg some (by kernel_rfl))
  f260:=Tryz.func343.trans (congrArg some (by kernel_rfl))
  f266:=Tryz.func357.trans (congrArg some (by kernel_rfl))
  f271:=Tryz.func326.trans (congrArg some (by kernel_rfl))
  t0:=Tryz.underlying0
  a0:=Tryz.isAgg0
  z0:=Tryz.sizeOf0
  v0:=Tryz.zeroValue0
  t3:=Tryz.underlying3
  a3:=Tryz.isAgg3
  z3:=Tryz.sizeOf3
  v3:=Tryz.zeroValue3
  t4:=Tryz.underlying4
  a4:=Tryz.isAgg4
  z4:=Tryz.sizeOf4
  v4:=Tryz.zeroValue4
  t5:=Tryz.underlying5
  a5:=Tryz.isAgg5
  z5:=Tryz.sizeOf5
  v5:=Tryz.zeroValue5
  t9:=Tryz.underlying9
  a9:=Tryz.isAgg9
  z9:=Tryz.sizeOf9
  v9:=Tryz.zeroValue9
  t21:=Tryz.underlying21
  a21:=Tryz.isAgg21
  z21:=Tryz.sizeOf21
  v21:=Tryz.zeroValue21
  t46:=Tryz.underlying221
  a46:=Tryz.isAgg221
  z46:=Tryz.sizeOf221
  v46:=Tryz.zeroValue221
  t105:=Tryz.underlying312
  a105:=Tryz.isAgg312
  z105:=Tryz.sizeOf312
  v105:=Tryz.zeroValue312
  t116:=Tryz.underlying280
  a116:=Tryz.isAgg280
  z116:=Tryz.sizeOf280
  t117:=Tryz.underlying281
  a117:=Tryz.isAgg281
  z117:=Tryz.sizeOf281
  v117:=Tryz.zeroValue281
  t119:=Tryz.underlying337
  a119:=Tryz.isAgg337
  z119:=Tryz.sizeOf337
  t124:=Tryz.underlying284
  a124:=Tryz.isAgg284
  z124:=Tryz.sizeOf284
  v124:=Tryz.zeroValue284
  t138:=Tryz.underlying339
  a138:=Tryz.isAgg339
  z138:=Tryz.sizeOf339
  v138:=Tryz.zeroValue339
  t139:=Tryz.underlying340
  a139:=Tryz.isAgg340
  z139:=Tryz.sizeOf340
  v139:=Tryz.zeroValue340
  g3:=by kernel_rfl
  g4:=by kernel_rfl}
def Tryz.lays103_ren:Go.Shelf.Ren:=⟨fun|103=>246|210=>287|206=>320|n=>n,fun|9=>9|4=>4|24=>197|3=>3|n=>n,fun|n=>n⟩
theorem Tryz.lays103:Go.Proofs.Lays.n103 Tryz.prog Tryz.lays103_ren:={
  mixed:=by kernel_rfl
  f103:=Tryz.func246.trans (congrArg some (by kernel_rfl))
  f206:=Tryz.func320.trans (congrArg some (by kernel_rfl))
  f210:=Tryz.func287.trans (congrArg some (by kernel_rfl))
  t3:=Tryz.underlying3
  a3:=Tryz.isAgg3
  z3:=Tryz.sizeOf3
  v3:=Tryz.zeroValue3
  t4:=Tryz.underlying4
  a4:=Tryz.isAgg4
  z4:=Tryz.sizeOf4
  v4:=Tryz.zeroValue4
  t9:=Tryz.underlying9
  a9:=Tryz.isAgg9
  z9:=Tryz.sizeOf9
  v9:=Tryz.zeroValue9
  t24:=Tryz.underlying197
  a24:=Tryz.isAgg197
  z24:=Tryz.sizeOf197
  v24:=Tryz.zeroValue197}
open Go.RowKit in
/-- strings.CutPrefix: "CutPrefix returns s without the provided leading prefix string and reports whether it found the prefix. If s doesn't start with prefix, CutPrefix returns s, false. If prefix is the empty string, CutPrefix returns s, true.": IT RETURNS '(Lib.trimPrefix s p,Lib.hasPrefix s p)';the world is as it was. (LAID: no walk: one application.) -/
theorem Tryz.strings_CutPrefix(s p:ByteArray)(w:World):
    Calls Tryz.prog 246 #[.string s,.string p] w fun e w'=>e=.returned (.tuple #[.string ⟨(Lib.trimPrefix s.data.toList p.data.toList).toArray⟩,.bool (Lib.hasPrefix s.data.toList p.data.toList)])∧w'=w:=Any.strings_CutPrefix Tryz.lays103 s p w
def Tryz.lays172_ren:Go.Shelf.Ren:=⟨fun|172=>252|244=>302|245=>250|247=>330|279=>297|280=>298|281=>299|282=>300|287=>249|316=>327|171=>144|205=>328|321=>295|322=>296|243=>204|246=>261|283=>306|284=>307|285=>308|286=>309|129=>275|317=>337|318=>338|319=>339|320=>340|337=>353|338=>354|n=>n,fun|9=>9|3=>3|75=>200|76=>236|4=>4|5=>5|167=>285|37=>217|0=>0|85=>320|2=>2|168=>287|53=>196|175=>201|46=>221|210=>317|127=>277|145=>335|143=>333|21=>21|171=>295|173=>297|212=>326|51=>268|20=>20|213=>327|232=>343|233=>344|80=>239|n=>n,fun|15=>0|16=>1|17=>2|18=>6|19=>7|n=>n⟩
theorem Tryz.lays172:Go.Proofs.Lays.n172 Tryz.prog Tryz.lays172_ren:={
  mixed:=by kernel_rfl
  f129:=Tryz.func275.trans (congrArg some (by kernel_rfl))
  f171:=Tryz.func144.trans (congrArg some (by kernel_rfl))
  f172:=Tryz.func252.trans (congrArg some (by kernel_rfl))
  f205:=Tryz.func328.trans (congrArg some (by kernel_rfl))
  f243:=Tryz.func204.trans (congrArg some (by kernel_rfl))
  f244:=Tryz.func302.trans (congrArg some (by kernel_rfl))
  f245:=Tryz.func250.trans (congrArg some (by kernel_rfl))
  f246:=Tryz.func261.trans (congrArg some (by kernel_rfl))
  f247:=Tryz.func330.trans (congrArg some (by kernel_rfl))
  f279:=Tryz.func297.trans (congrArg some (by kernel_rfl))
  f280:=Tryz.func298.trans (congrArg some (by kernel_rfl))
  f281:=Tryz.func299.trans (congrArg some (by kernel_rfl))
  f282:=Tryz.func300.trans (congrArg some (by kernel_rfl))
  f283:=Tryz.func306.trans (congrArg some (by kernel_rfl))
  f284:=Tryz.func307.trans (congrArg some (by kernel_rfl))
  f285:=Tryz.func308.trans (congrArg some (by kernel_rfl))
  f286:=Tryz.func309.trans (congrArg some (by kernel_rfl))
  f287:=Tryz.func249.trans (congrArg some (by kernel_rfl))
  f316:=Tryz.func327.trans (congrArg some (by kernel_rfl))
  f317:=Tryz.func337.trans (congrArg some (by kernel_rfl))
  f318:=Tryz.func338.trans (congrArg some (by kernel_rfl))
  f319:=Tryz.func339.trans (congrArg some (by kernel_rfl))
  f320:=Tryz.func340.trans (congrArg some (by kernel_rfl))
  f321:=Tryz.func295.trans (congrArg some (by kernel_rfl))
  f322:=Tryz.func296.trans (congrArg some (by kernel_rfl))
  f337:=Tryz.func353.trans (congrArg some (by kernel_rfl))
  f338:=Tryz.func354.trans (congrArg some (by kernel_rfl))
  t0:=Tryz.underlying0
  a0:=Tryz.isAgg0
  z0:=Tryz.sizeOf0
  v0:=Tryz.zeroValue0
  t2:=Tryz.underlying2
  a2:=Tryz.isAgg2
  z2:=Tryz.sizeOf2
  v2:=Tryz.zeroValue2
  t3:=Tryz.underlying3
  a3:=Tryz.isAgg3
  z3:=Tryz.sizeOf3
  v3:=Tryz.zeroValue3
  t4:=Tryz.underlying4
  a4:=Tryz.isAgg4
  z4:=Tryz.sizeOf4
  v4:=Tryz.zeroValue4
  t5:=Tryz.underlying5
  a5:=Tryz.isAgg5
  z5:=Tryz.sizeOf5
  v5:=Tryz.zeroValue5
  t9:=Tryz.underlying9
  a9:=Tryz.isAgg9
  z9:=Tryz.sizeOf9
  v9:=Tryz.zeroValue9
  t20:=Tryz.underlying20
  a20:=Tryz.isAgg20
  z20:=Tryz.sizeOf20
  v20:=Tryz.zeroValue20
  t21:=Tryz.underlying21
  a21:=Tryz.isAgg21
  z21:=Tryz.sizeOf21
  v21:=Tryz.zeroValue21
  t37:=Tryz.underlying217
  a37:=Tryz.isAgg217
  z37:=Tryz.sizeOf217
  v37:=Tryz.zeroValue217
  t46:=Tryz.underlying221
  a46:=Tryz.isAgg221
  z46:=Tryz.sizeOf221
  v46:=Tryz.zeroValue221
  t51:=Tryz.underlying268
  a51:=Tryz.isAgg268
  z51:=Tryz.sizeOf268
  v51:=Tryz.zeroValue268
  t53:=Tryz.underlying196
  a53:=Tryz.isAgg196
  z53:=Tryz.sizeOf196
  v53:=Tryz.zeroValue196
  t75:=Tryz.underlying200
  a75:=Tryz.isAgg200
  z75:=Tryz.sizeOf200
  v75:=Tryz.zeroValue200
  t76:=Tryz.underlying236
  a76:=Tryz.isAgg236
  z76:=Tryz.sizeOf236
  v76:=Tryz.zeroValue236
  t85:=Tryz.underlying320
  a85:=Tryz.isAgg320
  z85:=Tryz.sizeOf320
  v85:=Tryz.zeroValue320
  t127:=Tryz.underlying277
  a127:=Tryz.isAgg277
  z127:=Tryz.sizeOf277
  v127:=Tryz.zeroValue277
  t143:=Tryz.underlying333
  a143:=Tryz.isAgg333
  z143:=Tryz.sizeOf333
  v143:=Tryz.zeroValue333
  t145:=Tryz.underlying335
  a145:=Tryz.isAgg335
  z145:=Tryz.sizeOf335
  v145:=Tryz.zeroValue335
  t167:=Tryz.underlying285
  a167:=Tryz.isAgg285
  z167:=Tryz.sizeOf285
  v167:=Tryz.zeroValue285
  t168:=Tryz.underlying287
  a168:=Tryz.isAgg287
  z168:=Tryz.sizeOf287
  v168:=Tryz.zeroValue287
  t171:=Tryz.underlying295
  a171:=Tryz.isAgg295
  z171:=Tryz.sizeOf295
  v171:=Tryz.zeroValue295
  t173:=Tryz.underlying297
  a173:=Tryz.isAgg297
  z173:=Tryz.sizeOf297
  v173:=Tryz.zeroValue297
  t175:=Tryz.underlying201
  a175:=Tryz.isAgg201
  z175:=Tryz.sizeOf201
  v175:=Tryz.zeroValue201
  t210:=Tryz.underlying317
  a210:=Tryz.isAgg317
  z210:=Tryz.sizeOf317
  v210:=Tryz.zeroValue317
  t212:=Tryz.underlying326
  a212:=Tryz.isAgg326
  z212:=Tryz.sizeOf326
  v212:=Tryz.zeroValue326
  t213:=Tryz.underlying327
  a213:=Tryz.isAgg327
  z213:=Tryz.sizeOf327
  t232:=Tryz.underlying343
  a232:=Tryz.isAgg343
  z232:=Tryz.sizeOf343
  v232:=Tryz.zeroValue343
  t233:=Tryz.underlying344
  a233:=Tryz.isAgg344
  z233:=Tryz.sizeOf344
  v233:=Tryz.zeroValue344
  g15:=by kernel_rfl
  g16:=by kernel_rfl
  g17:=by kernel_rfl
  g18:=by kernel_rfl
  g19:=by kernel_rfl}
open Go.RowKit in
/-- strconv.Atoi: "Atoi is equivalent to ParseInt(s, 10, 0), converted to type int.": AT A DECIMAL NUMERAL OF AT MOST 18 BYTES: its value,and a nil error. The world behind the call: the one new row that the library's '[]byte(s)' lays. (LAID: no walk: one application.) -/
theorem Tryz.strconv_Atoi(s:ByteArray)(n:Int)(hl:s.size≤18)(h:Lib.atoi s.data.toList=some n)(w:World):
    Calls Tryz.prog 252 #[.string s] w fun e w'=>e=.returned (.tuple #[.int .i64 n,.nilIface])∧∃t,w'=Lib.bytesWorld w 5 t:=Any.strconv_Atoi Tryz.lays172 s n hl h w
def Tryz.lays283_ren:Go.Shelf.Ren:=⟨fun|283=>306|n=>n,fun|3=>3|9=>9|4=>4|n=>n,fun|n=>n⟩
theorem Tryz.lays283:Go.Proofs.Lays.n283 Tryz.prog Tryz.lays283_ren:={
  mixed:=by kernel_rfl
  f283:=Tryz.func306.trans (congrArg some (by kernel_rfl))
  t3:=Tryz.underlying3
  a3:=Tryz.isAgg3
  z3:=Tryz.sizeOf3
  v3:=Tryz.zeroValue3
  t4:=Tryz.underlying4
  a4:=Tryz.isAgg4
  z4:=Tryz.sizeOf4
  v4:=Tryz.zeroValue4
  t9:=Tryz.underlying9
  a9:=Tryz.isAgg9
  z9:=Tryz.sizeOf9
  v9:=Tryz.zeroValue9}
open Go.Lib in
/-- internal/strconv.small: "small returns the string for an i with 0 <= i < nSmalls.": i's decimal numeral. The world is as it was. (LAID: no walk: one application.) -/
theorem Tryz.internal_strconv_small(i:Nat)(h:i<100)(w:World):
    Calls Tryz.prog 306 #[.int .i64 i] w fun e w'=>e=.returned (.string ⟨(Lib.decDigits i).toArray⟩)∧w'=w:=Any.internal_strconv_small Tryz.lays283 i h w
def Tryz.laysM284_ren:Go.Shelf.Ren:=⟨fun|284=>307|129=>275|317=>337|318=>338|n=>n,fun|53=>196|3=>3|212=>326|0=>0|4=>4|46=>221|5=>5|9=>9|n=>n,fun|17=>2|n=>n⟩
theorem Tryz.laysM284:Go.Proofs.LaysM.n284 Tryz.prog Tryz.laysM284_ren:={
  mixed:=by kernel_rfl
  f129:=Tryz.func275.trans (congrArg some (by kernel_rfl))
  f284:=Tryz.func307.trans (congrArg some (by kernel_rfl))
  f317:=Tryz.func337.trans (congrArg some (by kernel_rfl))
  f318:=Tryz.func338.trans (congrArg some (by kernel_rfl))
  t0:=Tryz.underlying0
  a0:=Tryz.isAgg0
  z0:=Tryz.sizeOf0
  v0:=Tryz.zeroValue0
  t3:=Tryz.underlying3
  a3:=Tryz.isAgg3
  z3:=Tryz.sizeOf3
  v3:=Tryz.zeroValue3
  t4:=Tryz.underlying4
  a4:=Tryz.isAgg4
  z4:=Tryz.sizeOf4
  v4:=Tryz.zeroValue4
  t5:=Tryz.underlying5
  a5:=Tryz.isAgg5
  z5:=Tryz.sizeOf5
  v5:=Tryz.zeroValue5
  t9:=Tryz.underlying9
  a9:=Tryz.isAgg9
  z9:=Tryz.sizeOf9
  v9:=Tryz.zeroValue9
  t46:=Tryz.underlying221
  a46:=Tryz.isAgg221
  z46:=Tryz.sizeOf221
  v46:=Tryz.zeroValue221
  t53:=Tryz.underlying196
  a53:=Tryz.isAgg196
  z53:=Tryz.sizeOf196
  v53:=Tryz.zeroValue196
  t212:=Tryz.underlying326
  a212:=Tryz.isAgg326
  z212:=Tryz.sizeOf326
  v212:=Tryz.zeroValue326
  g17:=by kernel_rfl
  i0:=by kernel_rfl
  i3:=by kernel_rfl
  i4:=by kernel_rfl
  i5:=by kernel_rfl
  i9:=by kernel_rfl
  i46:=by kernel_rfl
  i53:=by kernel_rfl
  i212:=by kernel_rfl
  m17:=by kernel_rfl}
open Go.Lib in
/-- internal/strconv.numDigits,at a d that is not 0: THE NUMBER OF d's DECIMAL DIGITS. The world is as it was. (LAID: no walk: one application.) -/
theorem Tryz.internal_strconv_numDigits(u:Nat)(h1:1≤u)(h2:u<18446744073709551616)(w:World)(htab:Lib.TabIs Tryz.prog w "internal/strconv.uint64pow10" .u64 Lib.pow10Tab):
    Calls Tryz.prog 307 #[.int .u64 u] w fun e w'=>e=.returned (.int .i64 (Lib.nDigits u))∧w'=w:=Any.internal_strconv_numDigits Tryz.laysM284 u h1 h2 w htab
def Tryz.lays285_ren:Go.Shelf.Ren:=⟨fun|285=>308|n=>n,fun|37=>217|53=>196|3=>3|4=>4|51=>268|9=>9|5=>5|0=>0|n=>n,fun|n=>n⟩
theorem Tryz.lays285:Go.Proofs.Lays.n285 Tryz.prog Tryz.lays285_ren:={
  mixed:=by kernel_rfl
  f285:=Tryz.func308.trans (congrArg some (by kernel_rfl))
  t0:=Tryz.underlying0
  a0:=Tryz.isAgg0
  z0:=Tryz.sizeOf0
  v0:=Tryz.zeroValue0
  t3:=Tryz.underlying3
  a3:=Tryz.isAgg3
  z3:=Tryz.sizeOf3
  v3:=Tryz.zeroValue3
  t4:=Tryz.underlying4
  a4:=Tryz.isAgg4
  z4:=Tryz.sizeOf4
  v4:=Tryz.zeroValue4
  t5:=Tryz.underlying5
  a5:=Tryz.isAgg5
  z5:=Tryz.sizeOf5
  v5:=Tryz.zeroValue5
  t9:=Tryz.underlying9
  a9:=Tryz.isAgg9
  z9:=Tryz.sizeOf9
  v9:=Tryz.zeroValue9
  t37:=Tryz.underlying217
  a37:=Tryz.isAgg217
  z37:=Tryz.sizeOf217
  v37:=Tryz.zeroValue217
  t51:=Tryz.underlying268
  a51:=Tryz.isAgg268
  z51:=Tryz.sizeOf268
  v51:=Tryz.zeroValue268
  t53:=Tryz.underlying196
  a53:=Tryz.isAgg196
  z53:=Tryz.sizeOf196
  v53:=Tryz.zeroValue196}
open Go.RowKit Go.Sort Go.Lib in
/-- internal/strconv.formatBase10: "formatBase10 formats the decimal representation of u into a. The caller is responsible for ensuring that a is big enough to hold u. If a is too big, leading zeros will be filled in as needed.": THE ROW HOLDS u's DIGITS ('FmtInv .. 0 ..': every place t holds 'dg u (len-1-t)');all else is as it was but for the count of draws. (LAID: no walk: one application.) -/
theorem Tryz.internal_strconv_formatBase10(blk off cap:Nat)(u:Nat)(d:Array UInt8)(w:World)(hH:Holds (fun (b:UInt8)=>Value.int .u8 (b.toNat:Int)) w blk off d)(hu:u<10^d.size)(hu64:u<18446744073709551616)(hsz:d.size<4611686018427387904):
    Calls Tryz.prog 308 #[.slice (some ⟨blk,off,none⟩) d.size cap,.int .u64 u] w fun e w' =>
      e=.returned (.tuple #[])∧∃(n v':Nat) (dk:Array UInt8),w'=(putRow (fun (b:UInt8)=>Value.int .u8 (b.toNat:Int)) w blk off dk).drewN n∧FmtInv d.size u 0 v' dk:=Any.internal_strconv_formatBase10 Tryz.lays285 blk off cap u d w hH hu hu64 hsz
def Tryz.laysM171_ren:Go.Shelf.Ren:=⟨fun|171=>144|243=>204|246=>261|283=>306|284=>307|285=>308|286=>309|129=>275|317=>337|318=>338|319=>339|320=>340|337=>353|338=>354|n=>n,fun|3=>3|9=>9|2=>2|4=>4|171=>295|0=>0|53=>196|37=>217|5=>5|173=>297|212=>326|51=>268|20=>20|213=>327|46=>221|232=>343|233=>344|n=>n,fun|17=>2|18=>6|19=>7|n=>n⟩
theorem Tryz.laysM171:Go.Proofs.LaysM.n171 Tryz.prog Tryz.laysM171_ren:={
  mixed:=by kernel_rfl
  f129:=Tryz.func275.trans (congrArg some (by kernel_rfl))
  f171:=Tryz.func144.trans (congrArg some (by kernel_rfl))
  f243:=Tryz.func204.trans (congrArg some (by kernel_rfl))
  f246:=Tryz.func261.trans (congrArg some (by kernel_rfl))
  f283:=Tryz.func306.trans (congrArg some (by kernel_rfl))
  f284:=Tryz.func307.trans (congrArg some (by kernel_rfl))
  f285:=Tryz.func308.trans (congrArg some (by kernel_rfl))
  f286:=Tryz.func309.trans (congrArg some (by kernel_rfl))
  f317:=Tryz.func337.trans (congrArg some (by kernel_rfl))
  f318:=Tryz.func338.trans (congrArg some (by kernel_rfl))
  f319:=Tryz.func339.trans (congrArg some (by kernel_rfl))
  f320:=Tryz.func340.trans (congrArg some (by kernel_rfl))
  f337:=Tryz.func353.trans (congrArg some (by kernel_rfl))
  f338:=Tryz.func354.trans (congrArg some (by kernel_rfl))
  t0:=Tryz.underlying0
  a0:=Tryz.isAgg0
  z0:=Tryz.sizeOf0
  v0:=Tryz.zeroValue0
  t2:=Tryz.underlying2
  a2:=Tryz.isAgg2
  z2:=Tryz.sizeOf2
  v2:=Tryz.zeroValue2
  t3:=Tryz.underlying3
  a3:=Tryz.isAgg3
  z3:=Tryz.sizeOf3
  v3:=Tryz.zeroValue3
  t4:=Tryz.underlying4
  a4:=Tryz.isAgg4
  z4:=Tryz.sizeOf4
  v4:=Tryz.zeroValue4
  t5:=Tryz.underlying5
  a5:=Tryz.isAgg5
  z5:=Tryz.sizeOf5
  v5:=Tryz.zeroValue5
  t9:=Tryz.underlying9
  a9:=Tryz.isAgg9
  z9:=Tryz.sizeOf9
  v9:=Tryz.zeroValue9
  t20:=Tryz.underlying20
  a20:=Tryz.isAgg20
  z20:=Tryz.sizeOf20
  v20:=Tryz.zeroValue20
  t37:=Tryz.underlying217
  a37:=Tryz.isAgg217
  z37:=Tryz.sizeOf217
  v37:=Tryz.zeroValue217
  t46:=Tryz.underlying221
  a46:=Tryz.isAgg221
  z46:=Tryz.sizeOf221
  v46:=Tryz.zeroValue221
  t51:=Tryz.underlying268
  a51:=Tryz.isAgg268
  z51:=Tryz.sizeOf268
  v51:=Tryz.zeroValue268
  t53:=Tryz.underlying196
  a53:=Tryz.isAgg196
  z53:=Tryz.sizeOf196
  v53:=Tryz.zeroValue196
  t171:=Tryz.underlying295
  a171:=Tryz.isAgg295
  z171:=Tryz.sizeOf295
  v171:=Tryz.zeroValue295
  t173:=Tryz.underlying297
  a173:=Tryz.isAgg297
  z173:=Tryz.sizeOf297
  v173:=Tryz.zeroValue297
  t212:=Tryz.underlying326
  a212:=Tryz.isAgg326
  z212:=Tryz.sizeOf326
  v212:=Tryz.zeroValue326
  t213:=Tryz.underlying327
  a213:=Tryz.isAgg327
  z213:=Tryz.sizeOf327
  t232:=Tryz.underlying343
  a232:=Tryz.isAgg343
  z232:=Tryz.sizeOf343
  v232:=Tryz.zeroValue343
  t233:=Tryz.underlying344
  a233:=Tryz.isAgg344
  z233:=Tryz.sizeOf344
  v233:=Tryz.zeroValue344
  g17:=by kernel_rfl
  g18:=by kernel_rfl
  g19:=by kernel_rfl
  i0:=by kernel_rfl
  i2:=by kernel_rfl
  i3:=by kernel_rfl
  i4:=by kernel_rfl
  i5:=by kernel_rfl
  i9:=by kernel_rfl
  i20:=by kernel_rfl
  i37:=by kernel_rfl
  i46:=by kernel_rfl
  i51:=by kernel_rfl
  i53:=by kernel_rfl
  i171:=by kernel_rfl
  i173:=by kernel_rfl
  i212:=by kernel_rfl
  i232:=by kernel_rfl
  i233:=by kernel_rfl
  m17:=by kernel_rfl
  m18:=by kernel_rfl
  m19:=by kernel_rfl}
open Go.RowKit Go.Sort Go.Lib in
/-- strconv.Itoa: "Itoa is equivalent to FormatInt(int64(i), 10).": i's DECIMAL NUMERAL ('Lib.itoa': a '-' where i is negative,then the digits),FOR EVERY int. The world behind the call: the world before it,new blocks behind the heap (the library's 'var a [24]byte'),draws. (LAID: no walk: one application.) -/
theorem Tryz.strconv_Itoa(n:Int)(h0:-9223372036854775808≤n)(h1:n≤9223372036854775807)(w:World)(htab:Lib.TabIs Tryz.prog w "internal/strconv.uint64pow10" .u64 Lib.pow10Tab):
    Calls Tryz.prog 144 #[.int .i64 n] w fun e w'=>e=.returned (.string ⟨(Lib.itoa n).toArray⟩)∧∃k os,w'=grow (w.drewN k) os:=Any.strconv_Itoa Tryz.laysM171 n h0 h1 w htab
def Tryz.laysC172_ren:Go.Shelf.Ren:=⟨fun|172=>252|244=>302|245=>250|247=>330|279=>297|280=>298|281=>299|282=>300|287=>249|316=>327|171=>144|205=>328|321=>295|322=>296|243=>204|246=>261|283=>306|284=>307|285=>308|286=>309|129=>275|317=>337|318=>338|319=>339|320=>340|337=>353|338=>354|n=>n,fun|9=>9|3=>3|75=>200|76=>236|4=>4|5=>5|167=>285|37=>217|0=>0|85=>320|2=>2|168=>287|53=>196|175=>201|46=>221|210=>317|127=>277|145=>335|143=>333|21=>21|171=>295|173=>297|212=>326|51=>268|20=>20|213=>327|232=>343|233=>344|80=>239|n=>n,fun|15=>0|16=>1|17=>2|18=>6|19=>7|n=>n⟩
theorem Tryz.laysC172:Go.Proofs.LaysC.n172 Tryz.prog Tryz.laysC172_ren:={
  mixed:=by kernel_rfl
  f129:=Tryz.func275.trans (congrArg some (by kernel_rfl))
  f171:=Tryz.func144.trans (congrArg some (by kernel_rfl))
  f172:=Tryz.func252.trans (congrArg some (by kernel_rfl))
  f205:=Tryz.func328.trans (congrArg some (by kernel_rfl))
  f243:=Tryz.func204.trans (congrArg some (by kernel_rfl))
  f244:=Tryz.func302.trans (congrArg some (by kernel_rfl))
  f245:=Tryz.func250.trans (congrArg some (by kernel_rfl))
  f246:=Tryz.func261.trans (congrArg some (by kernel_rfl))
  f247:=Tryz.func330.trans (congrArg some (by kernel_rfl))
  f279:=Tryz.func297.trans (congrArg some (by kernel_rfl))
  f280:=Tryz.func298.trans (congrArg some (by kernel_rfl))
  f281:=Tryz.func299.trans (congrArg some (by kernel_rfl))
  f282:=Tryz.func300.trans (congrArg some (by kernel_rfl))
  f283:=Tryz.func306.trans (congrArg some (by kernel_rfl))
  f284:=Tryz.func307.trans (congrArg some (by kernel_rfl))
  f285:=Tryz.func308.trans (congrArg some (by kernel_rfl))
  f286:=Tryz.func309.trans (congrArg some (by kernel_rfl))
  f287:=Tryz.func249.trans (congrArg some (by kernel_rfl))
  f316:=Tryz.func327.trans (congrArg some (by kernel_rfl))
  f317:=Tryz.func337.trans (congrArg some (by kernel_rfl))
  f318:=Tryz.func338.trans (congrArg some (by kernel_rfl))
  f319:=Tryz.func339.trans (congrArg some (by kernel_rfl))
  f320:=Tryz.func340.trans (congrArg some (by kernel_rfl))
  f321:=Tryz.func295.trans (congrArg some (by kernel_rfl))
  f322:=Tryz.func296.trans (congrArg some (by kernel_rfl))
  f337:=Tryz.func353.trans (congrArg some (by kernel_rfl))
  f338:=Tryz.func354.trans (congrArg some (by kernel_rfl))
  t0:=Tryz.underlying0
  a0:=Tryz.isAgg0
  z0:=Tryz.sizeOf0
  v0:=Tryz.zeroValue0
  t2:=Tryz.underlying2
  a2:=Tryz.isAgg2
  z2:=Tryz.sizeOf2
  v2:=Tryz.zeroValue2
  t3:=Tryz.underlying3
  a3:=Tryz.isAgg3
  z3:=Tryz.sizeOf3
  v3:=Tryz.zeroValue3
  t4:=Tryz.underlying4
  a4:=Tryz.isAgg4
  z4:=Tryz.sizeOf4
  v4:=Tryz.zeroValue4
  t5:=Tryz.underlying5
  a5:=Tryz.isAgg5
  z5:=Tryz.sizeOf5
  v5:=Tryz.zeroValue5
  t9:=Tryz.underlying9
  a9:=Tryz.isAgg9
  z9:=Tryz.sizeOf9
  v9:=Tryz.zeroValue9
  t20:=Tryz.underlying20
  a20:=Tryz.isAgg20
  z20:=Tryz.sizeOf20
  v20:=Tryz.zeroValue20
  t21:=Tryz.underlying21
  a21:=Tryz.isAgg21
  z21:=Tryz.sizeOf21
  v21:=Tryz.zeroValue21
  t37:=Tryz.underlying217
  a37:=Tryz.isAgg217
  z37:=Tryz.sizeOf217
  v37:=Tryz.zeroValue217
  t46:=Tryz.underlying221
  a46:=Tryz.isAgg221
  z46:=Tryz.sizeOf221
  v46:=Tryz.zeroValue221
  t51:=Tryz.underlying268
  a51:=Tryz.isAgg268
  z51:=Tryz.sizeOf268
  v51:=Tryz.zeroValue268
  t53:=Tryz.underlying196
  a53:=Tryz.isAgg196
  z53:=Tryz.sizeOf196
  v53:=Tryz.zeroValue196
  t75:=Tryz.underlying200
  a75:=Tryz.isAgg200
  z75:=Tryz.sizeOf200
  v75:=Tryz.zeroValue200
  t76:=Tryz.underlying236
  a76:=Tryz.isAgg236
  z76:=Tryz.sizeOf236
  v76:=Tryz.zeroValue236
  t85:=Tryz.underlying320
  a85:=Tryz.isAgg320
  z85:=Tryz.sizeOf320
  v85:=Tryz.zeroValue320
  t127:=Tryz.underlying277
  a127:=Tryz.isAgg277
  z127:=Tryz.sizeOf277
  v127:=Tryz.zeroValue277
  t143:=Tryz.underlying333
  a143:=Tryz.isAgg333
  z143:=Tryz.sizeOf333
  v143:=Tryz.zeroValue333
  t145:=Tryz.underlying335
  a145:=Tryz.isAgg335
  z145:=Tryz.sizeOf335
  v145:=Tryz.zeroValue335
  t167:=Tryz.underlying285
  a167:=Tryz.isAgg285
  z167:=Tryz.sizeOf285
  v167:=Tryz.zeroValue285
  t168:=Tryz.underlying287
  a168:=Tryz.isAgg287
  z168:=Tryz.sizeOf287
  v168:=Tryz.zeroValue287
  t171:=Tryz.underlying295
  a171:=Tryz.isAgg295
  z171:=Tryz.sizeOf295
  v171:=Tryz.zeroValue295
  t173:=Tryz.underlying297
  a173:=Tryz.isAgg297
  z173:=Tryz.sizeOf297
  v173:=Tryz.zeroValue297
  t175:=Tryz.underlying201
  a175:=Tryz.isAgg201
  z175:=Tryz.sizeOf201
  v175:=Tryz.zeroValue201
  t210:=Tryz.underlying317
  a210:=Tryz.isAgg317
  z210:=Tryz.sizeOf317
  v210:=Tryz.zeroValue317
  t212:=Tryz.underlying326
  a212:=Tryz.isAgg326
  z212:=Tryz.sizeOf326
  v212:=Tryz.zeroValue326
  t213:=Tryz.underlying327
  a213:=Tryz.isAgg327
  z213:=Tryz.sizeOf327
  t232:=Tryz.underlying343
  a232:=Tryz.isAgg343
  z232:=Tryz.sizeOf343
  v232:=Tryz.zeroValue343
  t233:=Tryz.underlying344
  a233:=Tryz.isAgg344
  z233:=Tryz.sizeOf344
  v233:=Tryz.zeroValue344
  g15:=by kernel_rfl
  g16:=by kernel_rfl
  g17:=by kernel_rfl
  g18:=by kernel_rfl
  g19:=by kernel_rfl
  t80:=Tryz.underlying239
  a80:=Tryz.isAgg239
  z80:=Tryz.sizeOf239
  v80:=Tryz.zeroValue239
  i0:=by kernel_rfl
  i2:=by kernel_rfl
  i3:=by kernel_rfl
  i4:=by kernel_rfl
  i5:=by kernel_rfl
  i9:=by kernel_rfl
  i20:=by kernel_rfl
  i21:=by kernel_rfl
  i37:=by kernel_rfl
  i46:=by kernel_rfl
  i51:=by kernel_rfl
  i53:=by kernel_rfl
  i75:=by kernel_rfl
  i76:=by kernel_rfl
  i80:=by kernel_rfl
  i85:=by kernel_rfl
  i127:=by kernel_rfl
  i143:=by kernel_rfl
  i145:=by kernel_rfl
  i167:=by kernel_rfl
  i168:=by kernel_rfl
  i171:=by kernel_rfl
  i173:=by kernel_rfl
  i175:=by kernel_rfl
  i210:=by kernel_rfl
  i212:=by kernel_rfl
  i232:=by kernel_rfl
  i233:=by kernel_rfl
  m15:=by kernel_rfl
  m16:=by kernel_rfl
  m17:=by kernel_rfl
  m18:=by kernel_rfl
  m19:=by kernel_rfl
  c0:=by kernel_rfl
  c2:=by kernel_rfl
  c3:=by kernel_rfl
  c4:=by kernel_rfl
  c5:=by kernel_rfl
  c9:=by kernel_rfl
  c20:=by kernel_rfl
  c21:=by kernel_rfl
  c37:=by kernel_rfl
  c46:=by kernel_rfl
  c51:=by kernel_rfl
  c53:=by kernel_rfl
  c75:=by kernel_rfl
  c76:=by kernel_rfl
  c80:=by kernel_rfl
  c85:=by kernel_rfl
  c127:=by kernel_rfl
  c143:=by kernel_rfl
  c145:=by kernel_rfl
  c167:=by kernel_rfl
  c168:=by kernel_rfl
  c171:=by kernel_rfl
  c173:=by kernel_rfl
  c175:=by kernel_rfl
  c210:=by kernel_rfl
  c212:=by kernel_rfl
  c213:=by kernel_rfl
  c232:=by kernel_rfl
  c233:=by kernel_rfl}
open Go.RowKit in
/-- strconv.Atoi,AT EVERY STRING THAT SPELLS AN int ('Lib.atoiAll ..=.ok v';of whatever length: leading zeros count): v,AND NO ERROR. The world: as it was,or with the one new row that '[]byte(..)' lays. (LAID: no walk: one application.) -/
theorem Tryz.strconv_Atoi_ok(s:ByteArray)(hmax:s.size≤9223372036854775806)(v:Int)(h:Lib.atoiAll s.data.toList=.ok v)(w:World):
    Calls Tryz.prog 252 #[.string s] w fun e w'=>e=.returned (.tuple #[.int .i64 v,.nilIface])∧(w'=w∨∃t,w'=Lib.bytesWorld w 5 t):=Any.strconv_Atoi_ok Tryz.laysC172 s hmax v h w
open Go.RowKit in
theorem Tryz.strconv_Atoi_syntax_var(s:ByteArray)(hlim:s.size≤281474976710656)(h1:∀v,Lib.atoiAll s.data.toList≠.ok v)(h2:Lib.atoiAll s.data.toList≠.range)(tp:TypeId)(p:Value)(w:World)(hvar:w.var? Tryz.prog "strconv.ErrSyntax"=some #[.iface tp p]):
    Calls Tryz.prog 252 #[.string s] w fun e w'=>∃N,e=.returned (.tuple #[.int .i64 0,.iface 287 (.pointer (some ⟨N,0,none⟩))])∧w.heap.size≤N∧w'.heap[N]?=some (.cells #[.string ⟨#[65,116,111,105]⟩,.string s,.iface tp p] 317 (0,0))∧Below w.heap.size w w':=Any.strconv_Atoi_syntax_var Tryz.laysC172 s hlim (by cases hx:Lib.atoiAll s.data.toList with|ok v=>exact (h1 v hx).elim|range=>exact (h2 hx).elim|_=>rfl) tp p w hvar
open Go.RowKit in
theorem Tryz.strconv_Atoi_range_var(s:ByteArray)(hlim:s.size≤281474976710656)(h:Lib.atoiAll s.data.toList=.range)(tp:TypeId)(p:Value)(w:World)(hvar:w.var? Tryz.prog "strconv.ErrRange"=some #[.iface tp p]):
    Calls Tryz.prog 252 #[.string s] w fun e w'=>∃N,e=.returned (.tuple #[.int .i64 (Lib.atoiSat s.data.toList),.iface 287 (.pointer (some ⟨N,0,none⟩))])∧w.heap.size≤N∧w'.heap[N]?=some (.cells #[.string ⟨#[65,116,111,105]⟩,.string s,.iface tp p] 317 (0,0))∧Below w.heap.size w w':=Any.strconv_Atoi_range_var Tryz.laysC172 s hlim h tp p w hvar
def Tryz.laysPu14_ren:Go.Shelf.Ren:=⟨fun|14=>185|16=>249|17=>250|19=>295|20=>296|21=>297|22=>298|23=>299|24=>300|25=>327|27=>144|26=>328|28=>204|29=>261|30=>306|31=>307|32=>308|33=>309|35=>275|34=>337|36=>338|37=>339|38=>340|39=>353|40=>354|n=>n,fun|9=>9|3=>3|22=>196|24=>200|25=>201|4=>4|34=>285|5=>5|36=>221|37=>217|0=>0|39=>287|21=>21|44=>317|47=>277|50=>335|48=>333|2=>2|52=>295|55=>297|59=>326|60=>268|20=>20|61=>327|65=>343|66=>344|67=>239|n=>n,fun|0=>0|1=>1|2=>2|3=>6|4=>7|n=>n⟩
theorem Tryz.laysPu14:Go.Proofs.LaysPu.n14 Tryz.prog Tryz.laysPu14_ren:={
  mixed:=by kernel_rfl
  f14:=Tryz.func185.trans (congrArg some (by kernel_rfl))
  f16:=Tryz.func249.trans (congrArg some (by kernel_rfl))
  f17:=Tryz.func250.trans (congrArg some (by kernel_rfl))
  f19:=Tryz.func295.trans (congrArg some (by kernel_rfl))
  f20:=Tryz.func296.trans (congrArg some (by kernel_rfl))
  f21:=Tryz.func297.trans (congrArg some (by kernel_rfl))
  f22:=Tryz.func298.trans (congrArg some (by kernel_rfl))
  f23:=Tryz.func299.trans (congrArg some (by kernel_rfl))
  f24:=Tryz.func300.trans (congrArg some (by kernel_rfl))
  f25:=Tryz.func327.trans (congrArg some (by kernel_rfl))
  f26:=Tryz.func328.trans (congrArg some (by kernel_rfl))
  f27:=Tryz.func144.trans (congrArg some (by kernel_rfl))
  f28:=Tryz.func204.trans (congrArg some (by kernel_rfl))
  f29:=Tryz.func261.trans (congrArg some (by kernel_rfl))
  f30:=Tryz.func306.trans (congrArg some (by kernel_rfl))
  f31:=Tryz.func307.trans (congrArg some (by kernel_rfl))
  f32:=Tryz.func308.trans (congrArg some (by kernel_rfl))
  f33:=Tryz.func309.trans (congrArg some (by kernel_rfl))
  f34:=Tryz.func337.trans (congrArg some (by kernel_rfl))
  f35:=Tryz.func275.trans (congrArg some (by kernel_rfl))
  f36:=Tryz.func338.trans (congrArg some (by kernel_rfl))
  f37:=Tryz.func339.trans (congrArg some (by kernel_rfl))
  f38:=Tryz.func340.trans (congrArg some (by kernel_rfl))
  f39:=Tryz.func353.trans (congrArg some (by kernel_rfl))
  f40:=Tryz.func354.trans (congrArg some (by kernel_rfl))
  t0:=Tryz.underlying0
  a0:=Tryz.isAgg0
  z0:=Tryz.sizeOf0
  v0:=Tryz.zeroValue0
  i0:=by kernel_rfl
  t2:=Tryz.underlying2
  a2:=Tryz.isAgg2
  z2:=Tryz.sizeOf2
  v2:=Tryz.zeroValue2
  i2:=by kernel_rfl
  t3:=Tryz.underlying3
  a3:=Tryz.isAgg3
  z3:=Tryz.sizeOf3
  v3:=Tryz.zeroValue3
  i3:=by kernel_rfl
  t4:=Tryz.underlying4
  a4:=Tryz.isAgg4
  z4:=Tryz.sizeOf4
  v4:=Tryz.zeroValue4
  i4:=by kernel_rfl
  t5:=Tryz.underlying5
  a5:=Tryz.isAgg5
  z5:=Tryz.sizeOf5
  v5:=Tryz.zeroValue5
  i5:=by kernel_rfl
  t9:=Tryz.underlying9
  a9:=Tryz.isAgg9
  z9:=Tryz.sizeOf9
  v9:=Tryz.zeroValue9
  i9:=by kernel_rfl
  t20:=Tryz.underlying20
  a20:=Tryz.isAgg20
  z20:=Tryz.sizeOf20
  v20:=Tryz.zeroValue20
  i20:=by kernel_rfl
  t21:=Tryz.underlying21
  a21:=Tryz.isAgg21
  z21:=Tryz.sizeOf21
  v21:=Tryz.zeroValue21
  i21:=by kernel_rfl
  t22:=Tryz.underlying196
  a22:=Tryz.isAgg196
  z22:=Tryz.sizeOf196
  v22:=Tryz.zeroValue196
  i22:=by kernel_rfl
  t24:=Tryz.underlying200
  a24:=Tryz.isAgg200
  z24:=Tryz.sizeOf200
  v24:=Tryz.zeroValue200
  i24:=by kernel_rfl
  t25:=Tryz.underlying201
  a25:=Tryz.isAgg201
  z25:=Tryz.sizeOf201
  v25:=Tryz.zeroValue201
  i25:=by kernel_rfl
  t34:=Tryz.underlying285
  a34:=Tryz.isAgg285
  z34:=Tryz.sizeOf285
  v34:=Tryz.zeroValue285
  i34:=by kernel_rfl
  c34:=by kernel_rfl
  t36:=Tryz.underlying221
  a36:=Tryz.isAgg221
  z36:=Tryz.sizeOf221
  v36:=Tryz.zeroValue221
  i36:=by kernel_rfl
  t37:=Tryz.underlying217
  a37:=Tryz.isAgg217
  z37:=Tryz.sizeOf217
  v37:=Tryz.zeroValue217
  i37:=by kernel_rfl
  t39:=Tryz.underlying287
  a39:=Tryz.isAgg287
  z39:=Tryz.sizeOf287
  v39:=Tryz.zeroValue287
  i39:=by kernel_rfl
  t44:=Tryz.underlying317
  a44:=Tryz.isAgg317
  z44:=Tryz.sizeOf317
  v44:=Tryz.zeroValue317
  i44:=by kernel_rfl
  t47:=Tryz.underlying277
  a47:=Tryz.isAgg277
  z47:=Tryz.sizeOf277
  v47:=Tryz.zeroValue277
  i47:=by kernel_rfl
  t48:=Tryz.underlying333
  a48:=Tryz.isAgg333
  z48:=Tryz.sizeOf333
  v48:=Tryz.zeroValue333
  i48:=by kernel_rfl
  t50:=Tryz.underlying335
  a50:=Tryz.isAgg335
  z50:=Tryz.sizeOf335
  v50:=Tryz.zeroValue335
  i50:=by kernel_rfl
  t52:=Tryz.underlying295
  a52:=Tryz.isAgg295
  z52:=Tryz.sizeOf295
  v52:=Tryz.zeroValue295
  i52:=by kernel_rfl
  t55:=Tryz.underlying297
  a55:=Tryz.isAgg297
  z55:=Tryz.sizeOf297
  v55:=Tryz.zeroValue297
  i55:=by kernel_rfl
  t59:=Tryz.underlying326
  a59:=Tryz.isAgg326
  z59:=Tryz.sizeOf326
  v59:=Tryz.zeroValue326
  i59:=by kernel_rfl
  t60:=Tryz.underlying268
  a60:=Tryz.isAgg268
  z60:=Tryz.sizeOf268
  v60:=Tryz.zeroValue268
  i60:=by kernel_rfl
  t61:=Tryz.underlying327
  a61:=Tryz.isAgg327
  z61:=Tryz.sizeOf327
  t65:=Tryz.underlying343
  a65:=Tryz.isAgg343
  z65:=Tryz.sizeOf343
  v65:=Tryz.zeroValue343
  i65:=by kernel_rfl
  t66:=Tryz.underlying344
  a66:=Tryz.isAgg344
  z66:=Tryz.sizeOf344
  v66:=Tryz.zeroValue344
  i66:=by kernel_rfl
  t67:=Tryz.underlying239
  a67:=Tryz.isAgg239
  z67:=Tryz.sizeOf239
  v67:=Tryz.zeroValue239
  i67:=by kernel_rfl
  g0:=by kernel_rfl
  m0:=by kernel_rfl
  g1:=by kernel_rfl
  m1:=by kernel_rfl
  g2:=by kernel_rfl
  m2:=by kernel_rfl
  g3:=by kernel_rfl
  m3:=by kernel_rfl
  g4:=by kernel_rfl
  m4:=by kernel_rfl}
open Go.RowKit in
/-- strconv.ParseUint(s,10,64),AT EVERY STRING THAT SPELLS A uint64 ('Lib.parseUintB 64 s.data.toList=.ok u'): u,AND NO ERROR. (LAID: no walk: one application.) -/
theorem Tryz.strconv_ParseUint_10_at64_ok(s:ByteArray)(hmax:s.size≤9223372036854775806)(u:Nat)(h:Lib.parseUintB 64 s.data.toList=.ok u)(w:World):
    Calls Tryz.prog 185 #[.string s,.int .i64 10,.int .i64 64] w fun e w'=>e=.returned (.tuple #[.int .u64 u,.nilIface])∧(w'=w∨w'=Lib.bytesWorld w 5 s):=Any.strconv_ParseUint_10_at64_ok Tryz.laysPu14 s hmax u h w
def Tryz.lays145_ren:Go.Shelf.Ren:=⟨fun|145=>251|220=>301|219=>329|217=>346|225=>347|224=>348|267=>349|266=>357|314=>358|n=>n,fun|9=>9|4=>4|59=>246|3=>3|5=>5|46=>221|146=>305|51=>268|n=>n,fun|1=>3|n=>n⟩
theorem Tryz.lays145:Go.Proofs.Lays.n145 Tryz.prog Tryz.lays145_ren:={
  mixed:=by kernel_rfl
  f145:=Tryz.func251.trans (congrArg some (by kernel_rfl))
  f217:=Tryz.func346.trans (congrArg some (by kernel_rfl))
  f219:=Tryz.func329.trans (congrArg some (by kernel_rfl))
  f220:=Tryz.func301.trans (congrArg some (by kernel_rfl))
  f224:=Tryz.func348.trans (congrArg some (by kernel_rfl))
  f225:=Tryz.func347.trans (congrArg some (by kernel_rfl))
  f266:=Tryz.func357.trans (congrArg some (by kernel_rfl))
  f267:=Tryz.func349.trans (congrArg some (by kernel_rfl))
  f314:=Tryz.func358.trans (congrArg some (by kernel_rfl))
  t3:=Tryz.underlying3
  a3:=Tryz.isAgg3
  z3:=Tryz.sizeOf3
  v3:=Tryz.zeroValue3
  t4:=Tryz.underlying4
  a4:=Tryz.isAgg4
  z4:=Tryz.sizeOf4
  v4:=Tryz.zeroValue4
  t5:=Tryz.underlying5
  a5:=Tryz.isAgg5
  z5:=Tryz.sizeOf5
  v5:=Tryz.zeroValue5
  t9:=Tryz.underlying9
  a9:=Tryz.isAgg9
  z9:=Tryz.sizeOf9
  v9:=Tryz.zeroValue9
  t46:=Tryz.underlying221
  a46:=Tryz.isAgg221
  z46:=Tryz.sizeOf221
  v46:=Tryz.zeroValue221
  t51:=Tryz.underlying268
  a51:=Tryz.isAgg268
  z51:=Tryz.sizeOf268
  v51:=Tryz.zeroValue268
  t59:=Tryz.underlying246
  a59:=Tryz.isAgg246
  z59:=Tryz.sizeOf246
  v59:=Tryz.zeroValue246
  t146:=Tryz.underlying305
  a146:=Tryz.isAgg305
  z146:=Tryz.sizeOf305
  v146:=Tryz.zeroValue305
  g1:=by kernel_rfl}
open Go.RowKit Go.Lib in
/-- strings.Cut: "Cut slices s around the first instance of sep, returning the text before and after sep. The found result reports whether sep appears in s. If sep does not appear in s, cut returns s, "", false.": IT RETURNS 'Lib.cut s sep';the world is as it was but for the count of draws. (LAID: no walk: one application.) -/
theorem Tryz.strings_Cut(s sep:ByteArray)(m:Int)(w:World)(hs:s.size<4294967281)(hm:w.cell? ⟨3,0,none⟩=some (.int .i64 m)):
    Calls Tryz.prog 251 #[.string s,.string sep] w fun e w'=>e=.returned (.tuple #[.string ⟨(Lib.cut s.data.toList sep.data.toList).1.toArray⟩,.string ⟨(Lib.cut s.data.toList sep.data.toList).2.1.toArray⟩,.bool (Lib.cut s.data.toList sep.data.toList).2.2])∧∃n,w'=w.drewN n:=Any.strings_Cut Tryz.lays145 s sep m w hs hm
def Tryz.lays105_ren:Go.Shelf.Ren:=⟨fun|105=>225|212=>278|99=>279|165=>280|166=>232|170=>281|169=>234|263=>318|264=>319|206=>320|240=>284|241=>321|276=>322|277=>342|n=>n,fun|9=>9|3=>3|4=>4|20=>20|0=>0|46=>221|109=>271|5=>5|72=>234|76=>236|51=>268|146=>305|53=>196|148=>307|70=>232|37=>217|75=>200|127=>277|164=>309|80=>239|n=>n,fun|n=>n⟩
theorem Tryz.lays105:Go.Proofs.Lays.n105 Tryz.prog Tryz.lays105_ren:={
  mixed:=by kernel_rfl
  f99:=Tryz.func279.trans (congrArg some (by kernel_rfl))
  f105:=Tryz.func225.trans (congrArg some (by kernel_rfl))
  f165:=Tryz.func280.trans (congrArg some (by kernel_rfl))
  f166:=Tryz.func232.trans (congrArg some (by kernel_rfl))
  f169:=Tryz.func234.trans (congrArg some (by kernel_rfl))
  f170:=Tryz.func281.trans (congrArg some (by kernel_rfl))
  f206:=Tryz.func320.trans (congrArg some (by kernel_rfl))
  f212:=Tryz.func278.trans (congrArg some (by kernel_rfl))
  f240:=Tryz.func284.trans (congrArg some (by kernel_rfl))
  f241:=Tryz.func321.trans (congrArg some (by kernel_rfl))
  f263:=Tryz.func318.trans (congrArg some (by kernel_rfl))
  f264:=Tryz.func319.trans (congrArg some (by kernel_rfl))
  f276:=Tryz.func322.trans (congrArg some (by kernel_rfl))
  f277:=Tryz.func342.trans (congrArg some (by kernel_rfl))
  t0:=Tryz.underlying0
  a0:=Tryz.isAgg0
  z0:=Tryz.sizeOf0
  v0:=Tryz.zeroValue0
  t3:=Tryz.underlying3
  a3:=Tryz.isAgg3
  z3:=Tryz.sizeOf3
  v3:=Tryz.zeroValue3
  t4:=Tryz.underlying4
  a4:=Tryz.isAgg4
  z4:=Tryz.sizeOf4
  v4:=Tryz.zeroValue4
  t5:=Tryz.underlying5
  a5:=Tryz.isAgg5
  z5:=Tryz.sizeOf5
  v5:=Tryz.zeroValue5
  t9:=Tryz.underlying9
  a9:=Tryz.isAgg9
  z9:=Tryz.sizeOf9
  v9:=Tryz.zeroValue9
  t20:=Tryz.underlying20
  a20:=Tryz.isAgg20
  z20:=Tryz.sizeOf20
  v20:=Tryz.zeroValue20
  t37:=Tryz.underlying217
  a37:=Tryz.isAgg217
  z37:=Tryz.sizeOf217
  v37:=Tryz.zeroValue217
  t46:=Tryz.underlying221
  a46:=Tryz.isAgg221
  z46:=Tryz.sizeOf221
  v46:=Tryz.zeroValue221
  t51:=Tryz.underlying268
  a51:=Tryz.isAgg268
  z51:=Tryz.sizeOf268
  v51:=Tryz.zeroValue268
  t53:=Tryz.underlying196
  a53:=Tryz.isAgg196
  z53:=Tryz.sizeOf196
  v53:=Tryz.zeroValue196
  t70:=Tryz.underlying232
  a70:=Tryz.isAgg232
  z70:=Tryz.sizeOf232
  v70:=Tryz.zeroValue232
  t72:=Tryz.underlying234
  a72:=Tryz.isAgg234
  z72:=Tryz.sizeOf234
  v72:=Tryz.zeroValue234
  t75:=Tryz.underlying200
  a75:=Tryz.isAgg200
  z75:=Tryz.sizeOf200
  v75:=Tryz.zeroValue200
  t76:=Tryz.underlying236
  a76:=Tryz.isAgg236
  z76:=Tryz.sizeOf236
  v76:=Tryz.zeroValue236
  t109:=Tryz.underlying271
  a109:=Tryz.isAgg271
  z109:=Tryz.sizeOf271
  v109:=Tryz.zeroValue271
  t127:=Tryz.underlying277
  a127:=Tryz.isAgg277
  z127:=Tryz.sizeOf277
  v127:=Tryz.zeroValue277
  t146:=Tryz.underlying305
  a146:=Tryz.isAgg305
  z146:=Tryz.sizeOf305
  v146:=Tryz.zeroValue305
  t148:=Tryz.underlying307
  a148:=Tryz.isAgg307
  z148:=Tryz.sizeOf307
  v148:=Tryz.zeroValue307
  t164:=Tryz.underlying309
  a164:=Tryz.isAgg309
  z164:=Tryz.sizeOf309
  v164:=Tryz.zeroValue309}
theorem Tryz.Builder_Extra_105:Builder.Extra Tryz.prog Tryz.lays105_ren:={
  sizeBuilder:=by kernel_rfl
  liesBuilder:=by kernel_rfl
  t5:=Tryz.underlying5
  a5:=Tryz.isAgg5
  z5:=Tryz.sizeOf5
  v5:=Tryz.zeroValue5
  infoByte:=by kernel_rfl
  cellsByte:=by kernel_rfl
  sizeByte:=by kernel_rfl
  neB5:=by decide}
open Go.RowKit Go.Lib in
/-- **strings.Repeat: count≥0,the result within one allocation: count copies of s.** (LAID: no walk: one application.) -/
theorem Tryz.strings_Repeat(s:ByteArray)(c:Nat)(w:World)(hc:c≤9223372036854775807)(hlen:s.size*c≤140737488355328):
    Calls Tryz.prog 225 #[.string s,.int .i64 c] w fun e w'=>e=.returned (.string ⟨(Lib.repeatL s.data.toList c).toArray⟩)∧Below w.heap.size w w':=Any.strings_Repeat Tryz.lays105 Tryz.Builder_Extra_105 s c w hc hlen
def Tryz.lays107_ren:Go.Shelf.Ren:=⟨fun|107=>263|108=>310|n=>n,fun|28=>188|3=>3|4=>4|0=>0|n=>n,fun|n=>n⟩
theorem Tryz.lays107:Go.Proofs.Lays.n107 Tryz.prog Tryz.lays107_ren:={
  mixed:=by kernel_rfl
  f107:=Tryz.func263.trans (congrArg some (by kernel_rfl))
  f108:=Tryz.func310.trans (congrArg some (by kernel_rfl))
  t0:=Tryz.underlying0
  a0:=Tryz.isAgg0
  z0:=Tryz.sizeOf0
  v0:=Tryz.zeroValue0
  t3:=Tryz.underlying3
  a3:=Tryz.isAgg3
  z3:=Tryz.sizeOf3
  v3:=Tryz.zeroValue3
  t4:=Tryz.underlying4
  a4:=Tryz.isAgg4
  z4:=Tryz.sizeOf4
  v4:=Tryz.zeroValue4
  t28:=Tryz.underlying188
  a28:=Tryz.isAgg188
  z28:=Tryz.sizeOf188
  v28:=Tryz.zeroValue188}
open Go.Lib in
/-- slices.Contains at []int: "Contains reports whether v is present in s.": IT RETURNS 'elements.contains v';the world is as it was. ITS CALLEE slices.Index IS MET BY ITS OWN CONTRACT OFF THE SHELF (lay that first): no loop is walked here. (LAID: no walk: one application.) -/
theorem Tryz.slices_Contains_int(b off n c:Nat)(zs:List Int)(x:Int)(w:World)(hz:n≤zs.length)(hbig:n≤9223372036854775807)(hc:∀j,j<zs.length→w.cell? ⟨b,off+j,none⟩=some (.int .i64 (zs.getD j 0))):
    Calls Tryz.prog 263 #[.slice (some ⟨b,off,none⟩) n c,.int .i64 x] w fun e w'=>e=.returned (.bool ((zs.take n).contains x))∧w'=w:=Any.slices_Contains_int Tryz.lays107 b off n c zs x w hz hbig hc
end Go.Proofs
