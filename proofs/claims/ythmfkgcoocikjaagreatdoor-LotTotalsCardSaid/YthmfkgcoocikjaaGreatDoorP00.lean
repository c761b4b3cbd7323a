/-
  DERIVED: THE SHELF's CONTRACTS AT THIS DUMP, IN PLAIN WORDS (tools/lay-plain.mjs out of 'TryzShelf.lean', which tools/lay-shelf.mjs wrote): THE SAME DECLARATIONS UNDER THE SAME NAMES: 'import', 'namespace', 'open', 'def', 'theorem' AND NOTHING ELSE: no command of the shelf's: FOR A HAND-IN. Each laying: the table of numbers ('.._ren') and one theorem, a field a fact of the dump's own or the kernel's comparison; each contract: ONE APPLICATION.
-/
import Derived.Shelf.Strings.Builder1
import Derived.Shelf.Strings.Builder2
import Derived.Shelf.Strings.Trim
import Derived.Shelf.Small.Utf8
import Derived.Shelf.Small.Strs
import Derived.Shelf.Small.Wraps
import Derived.Shelf.Strings.BuilderF
import Derived.Shelf.Strings.BuilderK
import Derived.Shelf.Strings.Builder2Cap
import Derived.Shelf.Strconv.Atoi
import Derived.Shelf.Strconv.Itoa0
import Derived.Shelf.Strconv.Itoa1
import Derived.Shelf.LaysM
import Derived.Shelf.Strconv.Itoa2
import Derived.Shelf.Strconv.Itoa3
import Derived.Shelf.Strconv.AtoiErrFast
import Derived.Shelf.Strconv.ParseIntEmpty
import Derived.Shelf.Strconv.AtoiFail
import Derived.Shelf.Strconv.Clone
import Derived.Shelf.Strconv.SyntaxError
import Derived.Shelf.LaysC
import Derived.Shelf.Strconv.ToError
import Derived.Shelf.Strconv.AtoiErr
import Derived.Shelf.Strconv.ErrVar
import Derived.Shelf.Strconv.Lower
import Derived.Shelf.Strconv.ParseUint10
import Derived.Shelf.Strconv.ParseUint10Empty
import Derived.Shelf.Strconv.ParseUint10Any
import Derived.Shelf.Strconv.ParseInt10
import Derived.Shelf.Strconv.AtoiLong
import Derived.Shelf.Strconv.AtoiInnerAll
import Derived.Shelf.Strconv.RangeError
import Derived.Shelf.Strconv.ToErrorRange
import Derived.Shelf.Strconv.AtoiAll
import Derived.Shelf.Strconv.ErrVarAll
import Derived.Shelf.Strconv.ParseUintEmpty
import Derived.Shelf.Strconv.ParseUint10b64
import Derived.Shelf.Strconv.ParseUint10b32
import Derived.Shelf.Strconv.ParseUint10b16
import Derived.Shelf.Strconv.ParseUint10b8
import Derived.Shelf.Strconv.ParseUint10At
import Derived.Shelf.Strconv.ParseInt10At64
import Derived.Shelf.Strconv.ParseInt10At32
import Derived.Shelf.Strconv.ParseInt10At16
import Derived.Shelf.Strconv.ParseInt10At8
import Derived.Shelf.Strconv.ParseInt10All
import Derived.Ground.MpProg
import Derived.Shelf.Pu.ParseUintPublic10
import Derived.Shelf.Pu.ErrVarParseUint
import Derived.Shelf.Strings.Search1
import Derived.Shelf.Strings.Search2
import Derived.Shelf.Strings.Cut
import Derived.Shelf.Strings.Shaped
import Derived.Shelf.Strings.Prefix
import Derived.Shelf.Unicode.Decode
import Derived.Shelf.Strings.Runes
import Derived.Shelf.Strings.AsciiSet
import Derived.Shelf.Bits.Mul64
import Derived.Shelf.Strings.Repeat
import Derived.Shelf.Unicode.DecodeSlow
import Derived.Shelf.Unicode.DecodeAny
import Derived.Shelf.Unicode.DecodeLast
import Derived.Shelf.Strings.BuilderCap
import Derived.Ground.SlgmProg
import Derived.Shelf.SortM.Plain
import Derived.Shelf.SortM.SortNone
import Derived.Test.YthmfkgcoocikjaaGreatDoorProg
set_option linter.unusedVariables false
set_option linter.unusedSimpArgs false
namespace Go.Proofs
open Go.Shelf
def Tryz.lays169_ren : Go.Shelf.Ren := ⟨fun | 169 => 113 | n => n, fun | 70 => 131 | 9 => 9 | 0 => 0 | 72 => 134 | 37 => 132 | 127 => 162 | 3 => 3 | 5 => 5 | n => n, fun | n => n⟩
theorem Tryz.lays169 : Go.Proofs.Lays.n169 Tryz.prog Tryz.lays169_ren := {
  mixed := by kernel_rfl
  f169 := Tryz.func113.trans (congrArg some (by kernel_rfl))
  t0 := Tryz.underlying0
  a0 := Tryz.isAgg0
  z0 := Tryz.sizeOf0
  v0 := Tryz.zeroValue0
  t3 := Tryz.underlying3
  a3 := Tryz.isAgg3
  z3 := Tryz.sizeOf3
  v3 := Tryz.zeroValue3
  t9 := Tryz.underlying9
  a9 := Tryz.isAgg9
  z9 := Tryz.sizeOf9
  v9 := Tryz.zeroValue9
  t37 := Tryz.underlying132
  a37 := Tryz.isAgg132
  z37 := Tryz.sizeOf132
  v37 := Tryz.zeroValue132
  t70 := Tryz.underlying131
  a70 := Tryz.isAgg131
  z70 := Tryz.sizeOf131
  v70 := Tryz.zeroValue131
  t72 := Tryz.underlying134
  a72 := Tryz.isAgg134
  z72 := Tryz.sizeOf134
  v72 := Tryz.zeroValue134
  t127 := Tryz.underlying162
  a127 := Tryz.isAgg162
  z127 := Tryz.sizeOf162
  v127 := Tryz.zeroValue162 }
theorem Tryz.Builder_Extra_169 : Builder.Extra Tryz.prog Tryz.lays169_ren := {
  sizeBuilder := by kernel_rfl
  liesBuilder := by kernel_rfl
  t5 := Tryz.underlying5
  a5 := Tryz.isAgg5
  z5 := Tryz.sizeOf5
  v5 := Tryz.zeroValue5
  infoByte := by kernel_rfl
  cellsByte := by kernel_rfl
  sizeByte := by kernel_rfl
  neB5 := by decide }
open Go.RowKit in
/-- (*strings.Builder).String: "String returns the accumulated string.": WHATEVER THE BUILDER HOLDS. (LAID: no walk: one application.) -/
theorem Tryz.Builder_String_any (B b : Nat) (l : List UInt8) (w : World) (h : Lib.IsBuilder 134 5 B b (Lib.byteCells l) w) (hBw : B ≤ w.heap.size) :
    Calls Tryz.prog 113 #[.pointer (some ⟨b, 0, none⟩)] w fun e w' => e = .returned (.string ⟨l.toArray⟩) ∧ Below B w w' := Any.Builder_String_any Tryz.lays169 Tryz.Builder_Extra_169 B b l w h hBw
def Tryz.lays161_ren : Go.Shelf.Ren := ⟨fun | 161 => 143 | 231 => 180 | 227 => 182 | 233 => 183 | 235 => 185 | 228 => 220 | 197 => 221 | 151 => 222 | 260 => 237 | 152 => 238 | 137 => 244 | 119 => 245 | 224 => 233 | 225 => 232 | 217 => 231 | 266 => 242 | n => n, fun | 9 => 9 | 4 => 4 | 3 => 3 | 5 => 5 | 117 => 184 | 116 => 183 | 0 => 0 | 124 => 187 | 105 => 218 | 21 => 21 | 119 => 241 | 46 => 150 | 139 => 244 | 138 => 243 | n => n, fun | 3 => 4 | 4 => 5 | n => n⟩
theorem Tryz.lays161 : Go.Proofs.Lays.n161 Tryz.prog Tryz.lays161_ren := {
  mixed := by kernel_rfl
  f119 := Tryz.func245.trans (congrArg some (by kernel_rfl))
  f137 := Tryz.func244.trans (congrArg some (by kernel_rfl))
  f151 := Tryz.func222.trans (congrArg some (by kernel_rfl))
  f152 := Tryz.func238.trans (congrArg some (by kernel_rfl))
  f161 := Tryz.func143.trans (congrArg some (by kernel_rfl))
  f197 := Tryz.func221.trans (congrArg some (by kernel_rfl))
  f217 := Tryz.func231.trans (congrArg some (by kernel_rfl))
  f224 := Tryz.func233.trans (congrArg some (by kernel_rfl))
  f225 := Tryz.func232.trans (congrArg some (by kernel_rfl))
  f227 := Tryz.func182.trans (congrArg some (by kernel_rfl))
  f228 := Tryz.func220.trans (congrArg some (by kernel_rfl))
  f231 := Tryz.func180.trans (congrArg some (by kernel_rfl))
  f233 := Tryz.func183.trans (congrArg some (by kernel_rfl))
  f235 := Tryz.func185.trans (congrArg some (by kernel_rfl))
  f260 := Tryz.func237.trans (congrArg some (by kernel_rfl))
  f266 := Tryz.func242.trans (congrArg some (by kernel_rfl))
  t0 := Tryz.underlying0
  a0 := Tryz.isAgg0
  z0 := Tryz.sizeOf0
  v0 := Tryz.zeroValue0
  t3 := Tryz.underlying3
  a3 := Tryz.isAgg3
  z3 := Tryz.sizeOf3
  v3 := Tryz.zeroValue3
  t4 := Tryz.underlying4
  a4 := Tryz.isAgg4
  z4 := Tryz.sizeOf4
  v4 := Tryz.zeroValue4
  t5 := Tryz.underlying5
  a5 := Tryz.isAgg5
  z5 := Tryz.sizeOf5
  v5 := Tryz.zeroValue5
  t9 := Tryz.underlying9
  a9 := Tryz.isAgg9
  z9 := Tryz.sizeOf9
  v9 := Tryz.zeroValue9
  t21 := Tryz.underlying21
  a21 := Tryz.isAgg21
  z21 := Tryz.sizeOf21
  v21 := Tryz.zeroValue21
  t46 := Tryz.underlying150
  a46 := Tryz.isAgg150
  z46 := Tryz.sizeOf150
  v46 := Tryz.zeroValue150
  t105 := Tryz.underlying218
  a105 := Tryz.isAgg218
  z105 := Tryz.sizeOf218
  v105 := Tryz.zeroValue218
  t116 := Tryz.underlying183
  a116 := Tryz.isAgg183
  z116 := Tryz.sizeOf183
  t117 := Tryz.underlying184
  a117 := Tryz.isAgg184
  z117 := Tryz.sizeOf184
  v117 := Tryz.zeroValue184
  t119 := Tryz.underlying241
  a119 := Tryz.isAgg241
  z119 := Tryz.sizeOf241
  t124 := Tryz.underlying187
  a124 := Tryz.isAgg187
  z124 := Tryz.sizeOf187
  v124 := Tryz.zeroValue187
  t138 := Tryz.underlying243
  a138 := Tryz.isAgg243
  z138 := Tryz.sizeOf243
  v138 := Tryz.zeroValue243
  t139 := Tryz.underlying244
  a139 := Tryz.isAgg244
  z139 := Tryz.sizeOf244
  v139 := Tryz.zeroValue244
  g3 := by kernel_rfl
  g4 := by kernel_rfl }
open Go.RowKit in
/-- strings.TrimLeft: "TrimLeft returns a slice of the string s with all leading Unicode code points contained in cutset removed.": AT A cutset OF ONE ASCII BYTE. The world is as it was. (LAID: no walk: one application.) -/
theorem Tryz.strings_TrimLeft_one (s : ByteArray) (c : UInt8) (hc : c.toNat < 128) (w : World) :
    Calls Tryz.prog 143 #[.string s, .string ⟨#[c]⟩] w fun e w' => e = .returned (.string ⟨(Lib.trimLeftB s.data.toList c).toArray⟩) ∧ w' = w := Any.strings_TrimLeft_one Tryz.lays161 s c hc w
def Tryz.lays160_ren : Go.Shelf.Ren := ⟨fun | 160 => 142 | 232 => 181 | 231 => 180 | 227 => 182 | 234 => 184 | 233 => 183 | 236 => 186 | 235 => 185 | 228 => 220 | 271 => 223 | 151 => 222 | 197 => 221 | 120 => 239 | 152 => 238 | 260 => 237 | 137 => 244 | 119 => 245 | 224 => 233 | 225 => 232 | 217 => 231 | 266 => 242 | n => n, fun | 9 => 9 | 4 => 4 | 3 => 3 | 5 => 5 | 117 => 184 | 116 => 183 | 0 => 0 | 124 => 187 | 21 => 21 | 105 => 218 | 46 => 150 | 119 => 241 | 139 => 244 | 138 => 243 | n => n, fun | 3 => 4 | 4 => 5 | n => n⟩
theorem Tryz.lays160 : Go.Proofs.Lays.n160 Tryz.prog Tryz.lays160_ren := {
  mixed := by kernel_rfl
  f119 := Tryz.func245.trans (congrArg some (by kernel_rfl))
  f120 := Tryz.func239.trans (congrArg some (by kernel_rfl))
  f137 := Tryz.func244.trans (congrArg some (by kernel_rfl))
  f151 := Tryz.func222.trans (congrArg some (by kernel_rfl))
  f152 := Tryz.func238.trans (congrArg some (by kernel_rfl))
  f160 := Tryz.func142.trans (congrArg some (by kernel_rfl))
  f197 := Tryz.func221.trans (congrArg some (by kernel_rfl))
  f217 := Tryz.func231.trans (congrArg some (by kernel_rfl))
  f224 := Tryz.func233.trans (congrArg some (by kernel_rfl))
  f225 := Tryz.func232.trans (congrArg some (by kernel_rfl))
  f227 := Tryz.func182.trans (congrArg some (by kernel_rfl))
  f228 := Tryz.func220.trans (congrArg some (by kernel_rfl))
  f231 := Tryz.func180.trans (congrArg some (by kernel_rfl))
  f232 := Tryz.func181.trans (congrArg some (by kernel_rfl))
  f233 := Tryz.func183.trans (congrArg some (by kernel_rfl))
  f234 := Tryz.func184.trans (congrArg some (by kernel_rfl))
  f235 := Tryz.func185.trans (congrArg some (by kernel_rfl))
  f236 := Tryz.func186.trans (congrArg some (by kernel_rfl))
  f260 := Tryz.func237.trans (congrArg some (by kernel_rfl))
  f266 := Tryz.func242.trans (congrArg some (by kernel_rfl))
  f271 := Tryz.func223.trans (congrArg some (by kernel_rfl))
  t0 := Tryz.underlying0
  a0 := Tryz.isAgg0
  z0 := Tryz.sizeOf0
  v0 := Tryz.zeroValue0
  t3 := Tryz.underlying3
  a3 := Tryz.isAgg3
  z3 := Tryz.sizeOf3
  v3 := Tryz.zeroValue3
  t4 := Tryz.underlying4
  a4 := Tryz.isAgg4
  z4 := Tryz.sizeOf4
  v4 := Tryz.zeroValue4
  t5 := Tryz.underlying5
  a5 := Tryz.isAgg5
  z5 := Tryz.sizeOf5
  v5 := Tryz.zeroValue5
  t9 := Tryz.underlying9
  a9 := Tryz.isAgg9
  z9 := Tryz.sizeOf9
  v9 := Tryz.zeroValue9
  t21 := Tryz.underlying21
  a21 := Tryz.isAgg21
  z21 := Tryz.sizeOf21
  v21 := Tryz.zeroValue21
  t46 := Tryz.underlying150
  a46 := Tryz.isAgg150
  z46 := Tryz.sizeOf150
  v46 := Tryz.zeroValue150
  t105 := Tryz.underlying218
  a105 := Tryz.isAgg218
  z105 := Tryz.sizeOf218
  v105 := Tryz.zeroValue218
  t116 := Tryz.underlying183
  a116 := Tryz.isAgg183
  z116 := Tryz.sizeOf183
  t117 := Tryz.underlying184
  a117 := Tryz.isAgg184
  z117 := Tryz.sizeOf184
  v117 := Tryz.zeroValue184
  t119 := Tryz.underlying241
  a119 := Tryz.isAgg241
  z119 := Tryz.sizeOf241
  t124 := Tryz.underlying187
  a124 := Tryz.isAgg187
  z124 := Tryz.sizeOf187
  v124 := Tryz.zeroValue187
  t138 := Tryz.underlying243
  a138 := Tryz.isAgg243
  z138 := Tryz.sizeOf243
  v138 := Tryz.zeroValue243
  t139 := Tryz.underlying244
  a139 := Tryz.isAgg244
  z139 := Tryz.sizeOf244
  v139 := Tryz.zeroValue244
  g3 := by kernel_rfl
  g4 := by kernel_rfl }
def Tryz.lays103_ren : Go.Shelf.Ren := ⟨fun | 103 => 141 | 210 => 179 | 206 => 200 | n => n, fun | 9 => 9 | 4 => 4 | 24 => 122 | 3 => 3 | n => n, fun | n => n⟩
theorem Tryz.lays103 : Go.Proofs.Lays.n103 Tryz.prog Tryz.lays103_ren := {
  mixed := by kernel_rfl
  f103 := Tryz.func141.trans (congrArg some (by kernel_rfl))
  f206 := Tryz.func200.trans (congrArg some (by kernel_rfl))
  f210 := Tryz.func179.trans (congrArg some (by kernel_rfl))
  t3 := Tryz.underlying3
  a3 := Tryz.isAgg3
  z3 := Tryz.sizeOf3
  v3 := Tryz.zeroValue3
  t4 := Tryz.underlying4
  a4 := Tryz.isAgg4
  z4 := Tryz.sizeOf4
  v4 := Tryz.zeroValue4
  t9 := Tryz.underlying9
  a9 := Tryz.isAgg9
  z9 := Tryz.sizeOf9
  v9 := Tryz.zeroValue9
  t24 := Tryz.underlying122
  a24 := Tryz.isAgg122
  z24 := Tryz.sizeOf122
  v24 := Tryz.zeroValue122 }
open Go.RowKit in
/-- strings.CutPrefix: "CutPrefix returns s without the provided leading prefix string and reports whether it found the prefix. If s doesn't start with prefix, CutPrefix returns s, false. If prefix is the empty string, CutPrefix returns s, true.": IT RETURNS '(Lib.trimPrefix s p, Lib.hasPrefix s p)'; the world is as it was. (LAID: no walk: one application.) -/
theorem Tryz.strings_CutPrefix (s p : ByteArray) (w : World) :
    Calls Tryz.prog 141 #[.string s, .string p] w fun e w' => e = .returned (.tuple #[.string ⟨(Lib.trimPrefix s.data.toList p.data.toList).toArray⟩, .bool (Lib.hasPrefix s.data.toList p.data.toList)]) ∧ w' = w := Any.strings_CutPrefix Tryz.lays103 s p w
def Tryz.lays172_ren : Go.Shelf.Ren := ⟨fun | 172 => 119 | 244 => 153 | 245 => 145 | 247 => 203 | 279 => 189 | 280 => 190 | 281 => 191 | 282 => 192 | 287 => 144 | 316 => 224 | 171 => 120 | 205 => 225 | 321 => 187 | 322 => 188 | 243 => 154 | 246 => 204 | 283 => 194 | 284 => 195 | 285 => 196 | 286 => 197 | 129 => 169 | 317 => 226 | 318 => 227 | 319 => 228 | 320 => 229 | 337 => 240 | 338 => 241 | n => n, fun | 9 => 9 | 3 => 3 | 75 => 127 | 76 => 136 | 4 => 4 | 5 => 5 | 167 => 188 | 37 => 132 | 0 => 0 | 85 => 204 | 2 => 2 | 168 => 190 | 53 => 125 | 175 => 128 | 46 => 150 | 210 => 223 | 127 => 162 | 145 => 239 | 143 => 237 | 21 => 21 | 171 => 195 | 173 => 197 | 212 => 227 | 51 => 173 | 20 => 20 | 213 => 228 | 232 => 246 | 233 => 247 | 80 => 140 | n => n, fun | 15 => 0 | 16 => 1 | 17 => 2 | 18 => 6 | 19 => 7 | n => n⟩
theorem Tryz.lays172 : Go.Proofs.Lays.n172 Tryz.prog Tryz.lays172_ren := {
  mixed := by kernel_rfl
  f129 := Tryz.func169.trans (congrArg some (by kernel_rfl))
  f171 := Tryz.func120.trans (congrArg some (by kernel_rfl))
  f172 := Tryz.func119.trans (congrArg some (by kernel_rfl))
  f205 := Tryz.func225.trans (congrArg some (by kernel_rfl))
  f243 := Tryz.func154.trans (congrArg some (by kernel_rfl))
  f244 := Tryz.func153.trans (congrArg some (by kernel_rfl))
  f245 := Tryz.func145.trans (congrArg some (by kernel_rfl))
  f246 := Tryz.func204.trans (congrArg some (by kernel_rfl))
  f247 := Tryz.func203.trans (congrArg some (by kernel_rfl))
  f279 := Tryz.func189.trans (congrArg some (by kernel_rfl))
  f280 := Tryz.func190.trans (congrArg some (by kernel_rfl))
  f281 := Tryz.func191.trans (congrArg some (by kernel_rfl))
  f282 := Tryz.func192.trans (congrArg some (by kernel_rfl))
  f283 := Tryz.func194.trans (congrArg some (by kernel_rfl))
  f284 := Tryz.func195.trans (congrArg some (by kernel_rfl))
  f285 := Tryz.func196.trans (congrArg some (by kernel_rfl))
  f286 := Tryz.func197.trans (congrArg some (by kernel_rfl))
  f287 := Tryz.func144.trans (congrArg some (by kernel_rfl))
  f316 := Tryz.func224.trans (congrArg some (by kernel_rfl))
  f317 := Tryz.func226.trans (congrArg some (by kernel_rfl))
  f318 := Tryz.func227.trans (congrArg some (by kernel_rfl))
  f319 := Tryz.func228.trans (congrArg some (by kernel_rfl))
  f320 := Tryz.func229.trans (congrArg some (by kernel_rfl))
  f321 := Tryz.func187.trans (congrArg some (by kernel_rfl))
  f322 := Tryz.func188.trans (congrArg some (by kernel_rfl))
  f337 := Tryz.func240.trans (congrArg some (by kernel_rfl))
  f338 := Tryz.func241.trans (congrArg some (by kernel_rfl))
  t0 := Tryz.underlying0
  a0 := Tryz.isAgg0
  z0 := Tryz.sizeOf0
  v0 := Tryz.zeroValue0
  t2 := Tryz.underlying2
  a2 := Tryz.isAgg2
  z2 := Tryz.sizeOf2
  v2 := Tryz.zeroValue2
  t3 := Tryz.underlying3
  a3 := Tryz.isAgg3
  z3 := Tryz.sizeOf3
  v3 := Tryz.zeroValue3
  t4 := Tryz.underlying4
  a4 := Tryz.isAgg4
  z4 := Tryz.sizeOf4
  v4 := Tryz.zeroValue4
  t5 := Tryz.underlying5
  a5 := Tryz.isAgg5
  z5 := Tryz.sizeOf5
  v5 := Tryz.zeroValue5
  t9 := Tryz.underlying9
  a9 := Tryz.isAgg9
  z9 := Tryz.sizeOf9
  v9 := Tryz.zeroValue9
  t20 := Tryz.underlying20
  a20 := Tryz.isAgg20
  z20 := Tryz.sizeOf20
  v20 := Tryz.zeroValue20
  t21 := Tryz.underlying21
  a21 := Tryz.isAgg21
  z21 := Tryz.sizeOf21
  v21 := Tryz.zeroValue21
  t37 := Tryz.underlying132
  a37 := Tryz.isAgg132
  z37 := Tryz.sizeOf132
  v37 := Tryz.zeroValue132
  t46 := Tryz.underlying150
  a46 := Tryz.isAgg150
  z46 := Tryz.sizeOf150
  v46 := Tryz.zeroValue150
  t51 := Tryz.underlying173
  a51 := Tryz.isAgg173
  z51 := Tryz.sizeOf173
  v51 := Tryz.zeroValue173
  t53 := Tryz.underlying125
  a53 := Tryz.isAgg125
  z53 := Tryz.sizeOf125
  v53 := Tryz.zeroValue125
  t75 := Tryz.underlying127
  a75 := Tryz.isAgg127
  z75 := Tryz.sizeOf127
  v75 := Tryz.zeroValue127
  t76 := Tryz.underlying136
  a76 := Tryz.isAgg136
  z76 := Tryz.sizeOf136
  v76 := Tryz.zeroValue136
  t85 := Tryz.underlying204
  a85 := Tryz.isAgg204
  z85 := Tryz.sizeOf204
  v85 := Tryz.zeroValue204
  t127 := Tryz.underlying162
  a127 := Tryz.isAgg162
  z127 := Tryz.sizeOf162
  v127 := Tryz.zeroValue162
  t143 := Tryz.underlying237
  a143 := Tryz.isAgg237
  z143 := Tryz.sizeOf237
  v143 := Tryz.zeroValue237
  t145 := Tryz.underlying239
  a145 := Tryz.isAgg239
  z145 := Tryz.sizeOf239
  v145 := Tryz.zeroValue239
  t167 := Tryz.underlying188
  a167 := Tryz.isAgg188
  z167 := Tryz.sizeOf188
  v167 := Tryz.zeroValue188
  t168 := Tryz.underlying190
  a168 := Tryz.isAgg190
  z168 := Tryz.sizeOf190
  v168 := Tryz.zeroValue190
  t171 := Tryz.underlying195
  a171 := Tryz.isAgg195
  z171 := Tryz.sizeOf195
  v171 := Tryz.zeroValue195
  t173 := Tryz.underlying197
  a173 := Tryz.isAgg197
  z173 := Tryz.sizeOf197
  v173 := Tryz.zeroValue197
  t175 := Tryz.underlying128
  a175 := Tryz.isAgg128
  z175 := Tryz.sizeOf128
  v175 := Tryz.zeroValue128
  t210 := Tryz.underlying223
  a210 := Tryz.isAgg223
  z210 := Tryz.sizeOf223
  v210 := Tryz.zeroValue223
  t212 := Tryz.underlying227
  a212 := Tryz.isAgg227
  z212 := Tryz.sizeOf227
  v212 := Tryz.zeroValue227
  t213 := Tryz.underlying228
  a213 := Tryz.isAgg228
  z213 := Tryz.sizeOf228
  t232 := Tryz.underlying246
  a232 := Tryz.isAgg246
  z232 := Tryz.sizeOf246
  v232 := Tryz.zeroValue246
  t233 := Tryz.underlying247
  a233 := Tryz.isAgg247
  z233 := Tryz.sizeOf247
  v233 := Tryz.zeroValue247
  g15 := by kernel_rfl
  g16 := by kernel_rfl
  g17 := by kernel_rfl
  g18 := by kernel_rfl
  g19 := by kernel_rfl }
open Go.RowKit in
/-- strconv.Atoi: "Atoi is equivalent to ParseInt(s, 10, 0), converted to type int.": AT A DECIMAL NUMERAL OF AT MOST 18 BYTES: its value, and a nil error. The world behind the call: the one new row that the library's '[]byte(s)' lays. (LAID: no walk: one application.) -/
theorem Tryz.strconv_Atoi (s : ByteArray) (n : Int) (hl : s.size ≤ 18) (h : Lib.atoi s.data.toList = some n) (w : World) :
    Calls Tryz.prog 119 #[.string s] w fun e w' => e = .returned (.tuple #[.int .i64 n, .nilIface]) ∧ ∃ t, w' = Lib.bytesWorld w 5 t := Any.strconv_Atoi Tryz.lays172 s n hl h w
def Tryz.lays283_ren : Go.Shelf.Ren := ⟨fun | 283 => 194 | n => n, fun | 3 => 3 | 9 => 9 | 4 => 4 | n => n, fun | n => n⟩
theorem Tryz.lays283 : Go.Proofs.Lays.n283 Tryz.prog Tryz.lays283_ren := {
  mixed := by kernel_rfl
  f283 := Tryz.func194.trans (congrArg some (by kernel_rfl))
  t3 := Tryz.underlying3
  a3 := Tryz.isAgg3
  z3 := Tryz.sizeOf3
  v3 := Tryz.zeroValue3
  t4 := Tryz.underlying4
  a4 := Tryz.isAgg4
  z4 := Tryz.sizeOf4
  v4 := Tryz.zeroValue4
  t9 := Tryz.underlying9
  a9 := Tryz.isAgg9
  z9 := Tryz.sizeOf9
  v9 := Tryz.zeroValue9 }
open Go.Lib in
/-- internal/strconv.small: "small returns the string for an i with 0 <= i < nSmalls.": i's decimal numeral. The world is as it was. (LAID: no walk: one application.) -/
theorem Tryz.internal_strconv_small (i : Nat) (h : i < 100) (w : World) :
    Calls Tryz.prog 194 #[.int .i64 i] w fun e w' => e = .returned (.string ⟨(Lib.decDigits i).toArray⟩) ∧ w' = w := Any.internal_strconv_small Tryz.lays283 i h w
def Tryz.laysM284_ren : Go.Shelf.Ren := ⟨fun | 284 => 195 | 129 => 169 | 317 => 226 | 318 => 227 | n => n, fun | 53 => 125 | 3 => 3 | 212 => 227 | 0 => 0 | 4 => 4 | 46 => 150 | 5 => 5 | 9 => 9 | n => n, fun | 17 => 2 | n => n⟩
theorem Tryz.laysM284 : Go.Proofs.LaysM.n284 Tryz.prog Tryz.laysM284_ren := {
  mixed := by kernel_rfl
  f129 := Tryz.func169.trans (congrArg some (by kernel_rfl))
  f284 := Tryz.func195.trans (congrArg some (by kernel_rfl))
  f317 := Tryz.func226.trans (congrArg some (by kernel_rfl))
  f318 := Tryz.func227.trans (congrArg some (by kernel_rfl))
  t0 := Tryz.underlying0
  a0 := Tryz.isAgg0
  z0 := Tryz.sizeOf0
  v0 := Tryz.zeroValue0
  t3 := Tryz.underlying3
  a3 := Tryz.isAgg3
  z3 := Tryz.sizeOf3
  v3 := Tryz.zeroValue3
  t4 := Tryz.underlying4
  a4 := Tryz.isAgg4
  z4 := Tryz.sizeOf4
  v4 := Tryz.zeroValue4
  t5 := Tryz.underlying5
  a5 := Tryz.isAgg5
  z5 := Tryz.sizeOf5
  v5 := Tryz.zeroValue5
  t9 := Tryz.underlying9
  a9 := Tryz.isAgg9
  z9 := Tryz.sizeOf9
  v9 := Tryz.zeroValue9
  t46 := Tryz.underlying150
  a46 := Tryz.isAgg150
  z46 := Tryz.sizeOf150
  v46 := Tryz.zeroValue150
  t53 := Tryz.underlying125
  a53 := Tryz.isAgg125
  z53 := Tryz.sizeOf125
  v53 := Tryz.zeroValue125
  t212 := Tryz.underlying227
  a212 := Tryz.isAgg227
  z212 := Tryz.sizeOf227
  v212 := Tryz.zeroValue227
  g17 := by kernel_rfl
  i0 := by kernel_rfl
  i3 := by kernel_rfl
  i4 := by kernel_rfl
  i5 := by kernel_rfl
  i9 := by kernel_rfl
  i46 := by kernel_rfl
  i53 := by kernel_rfl
  i212 := by kernel_rfl
  m17 := by kernel_rfl }
open Go.Lib in
/-- internal/strconv.numDigits, at a d that is not 0: THE NUMBER OF d's DECIMAL DIGITS. The world is as it was. (LAID: no walk: one application.) -/
theorem Tryz.internal_strconv_numDigits (u : Nat) (h1 : 1 ≤ u) (h2 : u < 18446744073709551616) (w : World) (htab : Lib.TabIs Tryz.prog w "internal/strconv.uint64pow10" .u64 Lib.pow10Tab) :
    Calls Tryz.prog 195 #[.int .u64 u] w fun e w' => e = .returned (.int .i64 (Lib.nDigits u)) ∧ w' = w := Any.internal_strconv_numDigits Tryz.laysM284 u h1 h2 w htab
def Tryz.lays285_ren : Go.Shelf.Ren := ⟨fun | 285 => 196 | n => n, fun | 37 => 132 | 53 => 125 | 3 => 3 | 4 => 4 | 51 => 173 | 9 => 9 | 5 => 5 | 0 => 0 | n => n, fun | n => n⟩
theorem Tryz.lays285 : Go.Proofs.Lays.n285 Tryz.prog Tryz.lays285_ren := {
  mixed := by kernel_rfl
  f285 := Tryz.func196.trans (congrArg some (by kernel_rfl))
  t0 := Tryz.underlying0
  a0 := Tryz.isAgg0
  z0 := Tryz.sizeOf0
  v0 := Tryz.zeroValue0
  t3 := Tryz.underlying3
  a3 := Tryz.isAgg3
  z3 := Tryz.sizeOf3
  v3 := Tryz.zeroValue3
  t4 := Tryz.underlying4
  a4 := Tryz.isAgg4
  z4 := Tryz.sizeOf4
  v4 := Tryz.zeroValue4
  t5 := Tryz.underlying5
  a5 := Tryz.isAgg5
  z5 := Tryz.sizeOf5
  v5 := Tryz.zeroValue5
  t9 := Tryz.underlying9
  a9 := Tryz.isAgg9
  z9 := Tryz.sizeOf9
  v9 := Tryz.zeroValue9
  t37 := Tryz.underlying132
  a37 := Tryz.isAgg132
  z37 := Tryz.sizeOf132
  v37 := Tryz.zeroValue132
  t51 := Tryz.underlying173
  a51 := Tryz.isAgg173
  z51 := Tryz.sizeOf173
  v51 := Tryz.zeroValue173
  t53 := Tryz.underlying125
  a53 := Tryz.isAgg125
  z53 := Tryz.sizeOf125
  v53 := Tryz.zeroValue125 }
open Go.RowKit Go.Sort Go.Lib in
/-- internal/strconv.formatBase10: "formatBase10 formats the decimal representation of u into a. The caller is responsible for ensuring that a is big enough to hold u. If a is too big, leading zeros will be filled in as needed.": THE ROW HOLDS u's DIGITS ('FmtInv .. 0 ..': every place t holds 'dg u (len - 1 - t)'); all else is as it was but for the count of draws. (LAID: no walk: one application.) -/
theorem Tryz.internal_strconv_formatBase10 (blk off cap : Nat) (u : Nat) (d : Array UInt8) (w : World) (hH : Holds (fun (b : UInt8) => Value.int .u8 (b.toNat : Int)) w blk off d) (hu : u < 10 ^ d.size) (hu64 : u < 18446744073709551616) (hsz : d.size < 4611686018427387904) :
    Calls Tryz.prog 196 #[.slice (some ⟨blk, off, none⟩) d.size cap, .int .u64 u] w fun e w' =>
      e = .returned (.tuple #[]) ∧ ∃ (n v' : Nat) (dk : Array UInt8), w' = (putRow (fun (b : UInt8) => Value.int .u8 (b.toNat : Int)) w blk off dk).drewN n ∧ FmtInv d.size u 0 v' dk := Any.internal_strconv_formatBase10 Tryz.lays285 blk off cap u d w hH hu hu64 hsz
def Tryz.laysM171_ren : Go.Shelf.Ren := ⟨fun | 171 => 120 | 243 => 154 | 246 => 204 | 283 => 194 | 284 => 195 | 285 => 196 | 286 => 197 | 129 => 169 | 317 => 226 | 318 => 227 | 319 => 228 | 320 => 229 | 337 => 240 | 338 => 241 | n => n, fun | 3 => 3 | 9 => 9 | 2 => 2 | 4 => 4 | 171 => 195 | 0 => 0 | 53 => 125 | 37 => 132 | 5 => 5 | 173 => 197 | 212 => 227 | 51 => 173 | 20 => 20 | 213 => 228 | 46 => 150 | 232 => 246 | 233 => 247 | n => n, fun | 17 => 2 | 18 => 6 | 19 => 7 | n => n⟩
theorem Tryz.laysM171 : Go.Proofs.LaysM.n171 Tryz.prog Tryz.laysM171_ren := {
  mixed := by kernel_rfl
  f129 := Tryz.func169.trans (congrArg some (by kernel_rfl))
  f171 := Tryz.func120.trans (congrArg some (by kernel_rfl))
  f243 := Tryz.func154.trans (congrArg some (by kernel_rfl))
  f246 := Tryz.func204.trans (congrArg some (by kernel_rfl))
  f283 := Tryz.func194.trans (congrArg some (by kernel_rfl))
  f284 := Tryz.func195.trans (congrArg some (by kernel_rfl))
  f285 := Tryz.func196.trans (congrArg some (by kernel_rfl))
  f286 := Tryz.func197.trans (congrArg some (by kernel_rfl))
  f317 := Tryz.func226.trans (congrArg some (by kernel_rfl))
  f318 := Tryz.func227.trans (congrArg some (by kernel_rfl))
  f319 := Tryz.func228.trans (congrArg some (by kernel_rfl))
  f320 := Tryz.func229.trans (congrArg some (by kernel_rfl))
  f337 := Tryz.func240.trans (congrArg some (by kernel_rfl))
  f338 := Tryz.func241.trans (congrArg some (by kernel_rfl))
  t0 := Tryz.underlying0
  a0 := Tryz.isAgg0
  z0 := Tryz.sizeOf0
  v0 := Tryz.zeroValue0
  t2 := Tryz.underlying2
  a2 := Tryz.isAgg2
  z2 := Tryz.sizeOf2
  v2 := Tryz.zeroValue2
  t3 := Tryz.underlying3
  a3 := Tryz.isAgg3
  z3 := Tryz.sizeOf3
  v3 := Tryz.zeroValue3
  t4 := Tryz.underlying4
  a4 := Tryz.isAgg4
  z4 := Tryz.sizeOf4
  v4 := Tryz.zeroValue4
  t5 := Tryz.underlying5
  a5 := Tryz.isAgg5
  z5 := Tryz.sizeOf5
  v5 := Tryz.zeroValue5
  t9 := Tryz.underlying9
  a9 := Tryz.isAgg9
  z9 := Tryz.sizeOf9
  v9 := Tryz.zeroValue9
  t20 := Tryz.underlying20
  a20 := Tryz.isAgg20
  z20 := Tryz.sizeOf20
  v20 := Tryz.zeroValue20
  t37 := Tryz.underlying132
  a37 := Tryz.isAgg132
  z37 := Tryz.sizeOf132
  v37 := Tryz.zeroValue132
  t46 := Tryz.underlying150
  a46 := Tryz.isAgg150
  z46 := Tryz.sizeOf150
  v46 := Tryz.zeroValue150
  t51 := Tryz.underlying173
  a51 := Tryz.isAgg173
  z51 := Tryz.sizeOf173
  v51 := Tryz.zeroValue173
  t53 := Tryz.underlying125
  a53 := Tryz.isAgg125
  z53 := Tryz.sizeOf125
  v53 := Tryz.zeroValue125
  t171 := Tryz.underlying195
  a171 := Tryz.isAgg195
  z171 := Tryz.sizeOf195
  v171 := Tryz.zeroValue195
  t173 := Tryz.underlying197
  a173 := Tryz.isAgg197
  z173 := Tryz.sizeOf197
  v173 := Tryz.zeroValue197
  t212 := Tryz.underlying227
  a212 := Tryz.isAgg227
  z212 := Tryz.sizeOf227
  v212 := Tryz.zeroValue227
  t213 := Tryz.underlying228
  a213 := Tryz.isAgg228
  z213 := Tryz.sizeOf228
  t232 := Tryz.underlying246
  a232 := Tryz.isAgg246
  z232 := Tryz.sizeOf246
  v232 := Tryz.zeroValue246
  t233 := Tryz.underlying247
  a233 := Tryz.isAgg247
  z233 := Tryz.sizeOf247
  v233 := Tryz.zeroValue247
  g17 := by kernel_rfl
  g18 := by kernel_rfl
  g19 := by kernel_rfl
  i0 := by kernel_rfl
  i2 := by kernel_rfl
  i3 := by kernel_rfl
  i4 := by kernel_rfl
  i5 := by kernel_rfl
  i9 := by kernel_rfl
  i20 := by kernel_rfl
  i37 := by kernel_rfl
  i46 := by kernel_rfl
  i51 := by kernel_rfl
  i53 := by kernel_rfl
  i171 := by kernel_rfl
  i173 := by kernel_rfl
  i212 := by kernel_rfl
  i232 := by kernel_rfl
  i233 := by kernel_rfl
  m17 := by kernel_rfl
  m18 := by kernel_rfl
  m19 := by kernel_rfl }
open Go.RowKit Go.Sort Go.Lib in
/-- strconv.Itoa: "Itoa is equivalent to FormatInt(int64(i), 10).": i's DECIMAL NUMERAL ('Lib.itoa': a '-' where i is negative, then the digits), FOR EVERY int. The world behind the call: the world before it, new blocks behind the heap (the library's 'var a [24]byte'), draws. (LAID: no walk: one application.) -/
theorem Tryz.strconv_Itoa (n : Int) (h0 : -9223372036854775808 ≤ n) (h1 : n ≤ 9223372036854775807) (w : World) (htab : Lib.TabIs Tryz.prog w "internal/strconv.uint64pow10" .u64 Lib.pow10Tab) :
    Calls Tryz.prog 120 #[.int .i64 n] w fun e w' => e = .returned (.string ⟨(Lib.itoa n).toArray⟩) ∧ ∃ k os, w' = grow (w.drewN k) os := Any.strconv_Itoa Tryz.laysM171 n h0 h1 w htab
def Tryz.laysC172_ren : Go.Shelf.Ren := ⟨fun | 172 => 119 | 244 => 153 | 245 => 145 | 247 => 203 | 279 => 189 | 280 => 190 | 281 => 191 | 282 => 192 | 287 => 144 | 316 => 224 | 171 => 120 | 205 => 225 | 321 => 187 | 322 => 188 | 243 => 154 | 246 => 204 | 283 => 194 | 284 => 195 | 285 => 196 | 286 => 197 | 129 => 169 | 317 => 226 | 318 => 227 | 319 => 228 | 320 => 229 | 337 => 240 | 338 => 241 | n => n, fun | 9 => 9 | 3 => 3 | 75 => 127 | 76 => 136 | 4 => 4 | 5 => 5 | 167 => 188 | 37 => 132 | 0 => 0 | 85 => 204 | 2 => 2 | 168 => 190 | 53 => 125 | 175 => 128 | 46 => 150 | 210 => 223 | 127 => 162 | 145 => 239 | 143 => 237 | 21 => 21 | 171 => 195 | 173 => 197 | 212 => 227 | 51 => 173 | 20 => 20 | 213 => 228 | 232 => 246 | 233 => 247 | 80 => 140 | n => n, fun | 15 => 0 | 16 => 1 | 17 => 2 | 18 => 6 | 19 => 7 | n => n⟩
theorem Tryz.laysC172 : Go.Proofs.LaysC.n172 Tryz.prog Tryz.laysC172_ren := {
  mixed := by kernel_rfl
  f129 := Tryz.func169.trans (congrArg some (by kernel_rfl))
  f171 := Tryz.func120.trans (congrArg some (by kernel_rfl))
  f172 := Tryz.func119.trans (congrArg some (by kernel_rfl))
  f205 := Tryz.func225.trans (congrArg some (by kernel_rfl))
  f243 := Tryz.func154.trans (congrArg some (by kernel_rfl))
  f244 := Tryz.func153.trans (congrArg some (by kernel_rfl))
  f245 := Tryz.func145.trans (congrArg some (by kernel_rfl))
  f246 := Tryz.func204.trans (congrArg some (by kernel_rfl))
  f247 := Tryz.func203.trans (congrArg some (by kernel_rfl))
  f279 := Tryz.func189.trans (congrArg some (by kernel_rfl))
  f280 := Tryz.func190.trans (congrArg some (by kernel_rfl))
  f281 := Tryz.func191.trans (congrArg some (by kernel_rfl))
  f282 := Tryz.func192.trans (congrArg some (by kernel_rfl))
  f283 := Tryz.func194.trans (congrArg some (by kernel_rfl))
  f284 := Tryz.func195.trans (congrArg some (by kernel_rfl))
  f285 := Tryz.func196.trans (congrArg some (by kernel_rfl))
  f286 := Tryz.func197.trans (congrArg some (by kernel_rfl))
  f287 := Tryz.func144.trans (congrArg some (by kernel_rfl))
  f316 := Tryz.func224.trans (congrArg some (by kernel_rfl))
  f317 := Tryz.func226.trans (congrArg some (by kernel_rfl))
  f318 := Tryz.func227.trans (congrArg some (by kernel_rfl))
  f319 := Tryz.func228.trans (congrArg some (by kernel_rfl))
  f320 := Tryz.func229.trans (congrArg some (by kernel_rfl))
  f321 := Tryz.func187.trans (congrArg some (by kernel_rfl))
  f322 := Tryz.func188.trans (congrArg some (by kernel_rfl))
  f337 := Tryz.func240.trans (congrArg some (by kernel_rfl))
  f338 := Tryz.func241.trans (congrArg some (by kernel_rfl))
  t0 := Tryz.underlying0
  a0 := Tryz.isAgg0
  z0 := Tryz.sizeOf0
  v0 := Tryz.zeroValue0
  t2 := Tryz.underlying2
  a2 := Tryz.isAgg2
  z2 := Tryz.sizeOf2
  v2 := Tryz.zeroValue2
  t3 := Tryz.underlying3
  a3 := Tryz.isAgg3
  z3 := Tryz.sizeOf3
  v3 := Tryz.zeroValue3
  t4 := Tryz.underlying4
  a4 := Tryz.isAgg4
  z4 := Tryz.sizeOf4
  v4 := Tryz.zeroValue4
  t5 := Tryz.underlying5
  a5 := Tryz.isAgg5
  z5 := Tryz.sizeOf5
  v5 := Tryz.zeroValue5
  t9 := Tryz.underlying9
  a9 := Tryz.isAgg9
  z9 := Tryz.sizeOf9
  v9 := Tryz.zeroValue9
  t20 := Tryz.underlying20
  a20 := Tryz.isAgg20
  z20 := Tryz.sizeOf20
  v20 := Tryz.zeroValue20
  t21 := Tryz.underlying21
  a21 := Tryz.isAgg21
  z21 := Tryz.sizeOf21
  v21 := Tryz.zeroValue21
  t37 := Tryz.underlying132
  a37 := Tryz.isAgg132
  z37 := Tryz.sizeOf132
  v37 := Tryz.zeroValue132
  t46 := Tryz.underlying150
  a46 := Tryz.isAgg150
  z46 := Tryz.sizeOf150
  v46 := Tryz.zeroValue150
  t51 := Tryz.underlying173
  a51 := Tryz.isAgg173
  z51 := Tryz.sizeOf173
  v51 := Tryz.zeroValue173
  t53 := Tryz.underlying125
  a53 := Tryz.isAgg125
  z53 := Tryz.sizeOf125
  v53 := Tryz.zeroValue125
  t75 := Tryz.underlying127
  a75 := Tryz.isAgg127
  z75 := Tryz.sizeOf127
  v75 := Tryz.zeroValue127
  t76 := Tryz.underlying136
  a76 := Tryz.isAgg136
  z76 := Tryz.sizeOf136
  v76 := Tryz.zeroValue136
  t85 := Tryz.underlying204
  a85 := Tryz.isAgg204
  z85 := Tryz.sizeOf204
  v85 := Tryz.zeroValue204
  t127 := Tryz.underlying162
  a127 := Tryz.isAgg162
  z127 := Tryz.sizeOf162
  v127 := Tryz.zeroValue162
  t143 := Tryz.underlying237
  a143 := Tryz.isAgg237
  z143 := Tryz.sizeOf237
  v143 := Tryz.zeroValue237
  t145 := Tryz.underlying239
  a145 := Tryz.isAgg239
  z145 := Tryz.sizeOf239
  v145 := Tryz.zeroValue239
  t167 := Tryz.underlying188
  a167 := Tryz.isAgg188
  z167 := Tryz.sizeOf188
  v167 := Tryz.zeroValue188
  t168 := Tryz.underlying190
  a168 := Tryz.isAgg190
  z168 := Tryz.sizeOf190
  v168 := Tryz.zeroValue190
  t171 := Tryz.underlying195
  a171 := Tryz.isAgg195
  z171 := Tryz.sizeOf195
  v171 := Tryz.zeroValue195
  t173 := Tryz.underlying197
  a173 := Tryz.isAgg197
  z173 := Tryz.sizeOf197
  v173 := Tryz.zeroValue197
  t175 := Tryz.underlying128
  a175 := Tryz.isAgg128
  z175 := Tryz.sizeOf128
  v175 := Tryz.zeroValue128
  t210 := Tryz.underlying223
  a210 := Tryz.isAgg223
  z210 := Tryz.sizeOf223
  v210 := Tryz.zeroValue223
  t212 := Tryz.underlying227
  a212 := Tryz.isAgg227
  z212 := Tryz.sizeOf227
  v212 := Tryz.zeroValue227
  t213 := Tryz.underlying228
  a213 := Tryz.isAgg228
  z213 := Tryz.sizeOf228
  t232 := Tryz.underlying246
  a232 := Tryz.isAgg246
  z232 := Tryz.sizeOf246
  v232 := Tryz.zeroValue246
  t233 := Tryz.underlying247
  a233 := Tryz.isAgg247
  z233 := Tryz.sizeOf247
  v233 := Tryz.zeroValue247
  g15 := by kernel_rfl
  g16 := by kernel_rfl
  g17 := by kernel_rfl
  g18 := by kernel_rfl
  g19 := by kernel_rfl
  t80 := Tryz.underlying140
  a80 := Tryz.isAgg140
  z80 := Tryz.sizeOf140
  v80 := Tryz.zeroValue140
  i0 := by kernel_rfl
  i2 := by kernel_rfl
  i3 := by kernel_rfl
  i4 := by kernel_rfl
  i5 := by kernel_rfl
  i9 := by kernel_rfl
  i20 := by kernel_rfl
  i21 := by kernel_rfl
  i37 := by kernel_rfl
  i46 := by kernel_rfl
  i51 := by kernel_rfl
  i53 := by kernel_rfl
  i75 := by kernel_rfl
  i76 := by kernel_rfl
  i80 := by kernel_rfl
  i85 := by kernel_rfl
  i127 := by kernel_rfl
  i143 := by kernel_rfl
  i145 := by kernel_rfl
  i167 := by kernel_rfl
  i168 := by kernel_rfl
  i171 := by kernel_rfl
  i173 := by kernel_rfl
  i175 := by kernel_rfl
  i210 := by kernel_rfl
  i212 := by kernel_rfl
  i232 := by kernel_rfl
  i233 := by kernel_rfl
  m15 := by kernel_rfl
  m16 := by kernel_rfl
  m17 := by kernel_rfl
  m18 := by kernel_rfl
  m19 := by kernel_rfl
  c0 := by kernel_rfl
  c2 := by kernel_rfl
  c3 := by kernel_rfl
  c4 := by kernel_rfl
  c5 := by kernel_rfl
  c9 := by kernel_rfl
  c20 := by kernel_rfl
  c21 := by kernel_rfl
  c37 := by kernel_rfl
  c46 := by kernel_rfl
  c51 := by kernel_rfl
  c53 := by kernel_rfl
  c75 := by kernel_rfl
  c76 := by kernel_rfl
  c80 := by kernel_rfl
  c85 := by kernel_rfl
  c127 := by kernel_rfl
  c143 := by kernel_rfl
  c145 := by kernel_rfl
  c167 := by kernel_rfl
  c168 := by kernel_rfl
  c171 := by kernel_rfl
  c173 := by kernel_rfl
  c175 := by kernel_rfl
  c210 := by kernel_rfl
  c212 := by kernel_rfl
  c213 := by kernel_rfl
  c232 := by kernel_rfl
  c233 := by kernel_rfl }
open Go.RowKit in
/-- strconv.Atoi, AT EVERY STRING THAT SPELLS AN int ('Lib.atoiAll .. = .ok v'; of whatever length: leading zeros count): v, AND NO ERROR. The world: as it was, or with the one new row that '[]byte(..)' lays. (LAID: no walk: one application.) -/
theorem Tryz.strconv_Atoi_ok (s : ByteArray) (hmax : s.size ≤ 9223372036854775806) (v : Int) (h : Lib.atoiAll s.data.toList = .ok v) (w : World) :
    Calls Tryz.prog 119 #[.string s] w fun e w' => e = .returned (.tuple #[.int .i64 v, .nilIface]) ∧ (w' = w ∨ ∃ t, w' = Lib.bytesWorld w 5 t) := Any.strconv_Atoi_ok Tryz.laysC172 s hmax v h w
open Go.RowKit in
theorem Tryz.strconv_Atoi_syntax_var (s : ByteArray) (hlim : s.size ≤ 281474976710656) (h1 : ∀ v, Lib.atoiAll s.data.toList ≠ .ok v) (h2 : Lib.atoiAll s.data.toList ≠ .range) (tp : TypeId) (p : Value) (w : World) (hvar : w.var? Tryz.prog "strconv.ErrSyntax" = some #[.iface tp p]) :
    Calls Tryz.prog 119 #[.string s] w fun e w' => ∃ N, e = .returned (.tuple #[.int .i64 0, .iface 190 (.pointer (some ⟨N, 0, none⟩))]) ∧ w.heap.size ≤ N ∧ w'.heap[N]? = some (.cells #[.string ⟨#[65, 116, 111, 105]⟩, .string s, .iface tp p] 223 (0, 0)) ∧ Below w.heap.size w w' := Any.strconv_Atoi_syntax_var Tryz.laysC172 s hlim (by cases hx : Lib.atoiAll s.data.toList with | ok v => exact (h1 v hx).elim | range => exact (h2 hx).elim | _ => rfl) tp p w hvar
open Go.RowKit in
theorem Tryz.strconv_Atoi_range_var (s : ByteArray) (hlim : s.size ≤ 281474976710656) (h : Lib.atoiAll s.data.toList = .range) (tp : TypeId) (p : Value) (w : World) (hvar : w.var? Tryz.prog "strconv.ErrRange" = some #[.iface tp p]) :
    Calls Tryz.prog 119 #[.string s] w fun e w' => ∃ N, e = .returned (.tuple #[.int .i64 (Lib.atoiSat s.data.toList), .iface 190 (.pointer (some ⟨N, 0, none⟩))]) ∧ w.heap.size ≤ N ∧ w'.heap[N]? = some (.cells #[.string ⟨#[65, 116, 111, 105]⟩, .string s, .iface tp p] 223 (0, 0)) ∧ Below w.heap.size w w' := Any.strconv_Atoi_range_var Tryz.laysC172 s hlim h tp p w hvar
def Tryz.laysPu14_ren : Go.Shelf.Ren := ⟨fun | 14 => 107 | 16 => 144 | 17 => 145 | 19 => 187 | 20 => 188 | 21 => 189 | 22 => 190 | 23 => 191 | 24 => 192 | 25 => 224 | 27 => 120 | 26 => 225 | 28 => 154 | 29 => 204 | 30 => 194 | 31 => 195 | 32 => 196 | 33 => 197 | 35 => 169 | 34 => 226 | 36 => 227 | 37 => 228 | 38 => 229 | 39 => 240 | 40 => 241 | n => n, fun | 9 => 9 | 3 => 3 | 22 => 125 | 24 => 127 | 25 => 128 | 4 => 4 | 34 => 188 | 5 => 5 | 36 => 150 | 37 => 132 | 0 => 0 | 39 => 190 | 21 => 21 | 44 => 223 | 47 => 162 | 50 => 239 | 48 => 237 | 2 => 2 | 52 => 195 | 55 => 197 | 59 => 227 | 60 => 173 | 20 => 20 | 61 => 228 | 65 => 246 | 66 => 247 | 67 => 140 | n => n, fun | 0 => 0 | 1 => 1 | 2 => 2 | 3 => 6 | 4 => 7 | n => n⟩
theorem Tryz.laysPu14 : Go.Proofs.LaysPu.n14 Tryz.prog Tryz.laysPu14_ren := {
  mixed := by kernel_rfl
  f14 := Tryz.func107.trans (congrArg some (by kernel_rfl))
  f16 := Tryz.func144.trans (congrArg some (by kernel_rfl))
  f17 := Tryz.func145.trans (congrArg some (by kernel_rfl))
  f19 := Tryz.func187.trans (congrArg some (by kernel_rfl))
  f20 := Tryz.func188.trans (congrArg some (by kernel_rfl))
  f21 := Tryz.func189.trans (congrArg some (by kernel_rfl))
  f22 := Tryz.func190.trans (congrArg some (by kernel_rfl))
  f23 := Tryz.func191.trans (congrArg some (by kernel_rfl))
  f24 := Tryz.func192.trans (congrArg some (by kernel_rfl))
  f25 := Tryz.func224.trans (congrArg some (by kernel_rfl))
  f26 := Tryz.func225.trans (congrArg some (by kernel_rfl))
  f27 := Tryz.func120.trans (congrArg some (by kernel_rfl))
  f28 := Tryz.func154.trans (congrArg some (by kernel_rfl))
  f29 := Tryz.func204.trans (congrArg some (by kernel_rfl))
  f30 := Tryz.func194.trans (congrArg some (by kernel_rfl))
  f31 := Tryz.func195.trans (congrArg some (by kernel_rfl))
  f32 := Tryz.func196.trans (congrArg some (by kernel_rfl))
  f33 := Tryz.func197.trans (congrArg some (by kernel_rfl))
  f34 := Tryz.func226.trans (congrArg some (by kernel_rfl))
  f35 := Tryz.func169.trans (congrArg some (by kernel_rfl))
  f36 := Tryz.func227.trans (congrArg some (by kernel_rfl))
  f37 := Tryz.func228.trans (congrArg some (by kernel_rfl))
  f38 := Tryz.func229.trans (congrArg some (by kernel_rfl))
  f39 := Tryz.func240.trans (congrArg some (by kernel_rfl))
  f40 := Tryz.func241.trans (congrArg some (by kernel_rfl))
  t0 := Tryz.underlying0
  a0 := Tryz.isAgg0
  z0 := Tryz.sizeOf0
  v0 := Tryz.zeroValue0
  i0 := by kernel_rfl
  t2 := Tryz.underlying2
  a2 := Tryz.isAgg2
  z2 := Tryz.sizeOf2
  v2 := Tryz.zeroValue2
  i2 := by kernel_rfl
  t3 := Tryz.underlying3
  a3 := Tryz.isAgg3
  z3 := Tryz.sizeOf3
  v3 := Tryz.zeroValue3
  i3 := by kernel_rfl
  t4 := Tryz.underlying4
  a4 := Tryz.isAgg4
  z4 := Tryz.sizeOf4
  v4 := Tryz.zeroValue4
  i4 := by kernel_rfl
  t5 := Tryz.underlying5
  a5 := Tryz.isAgg5
  z5 := Tryz.sizeOf5
  v5 := Tryz.zeroValue5
  i5 := by kernel_rfl
  t9 := Tryz.underlying9
  a9 := Tryz.isAgg9
  z9 := Tryz.sizeOf9
  v9 := Tryz.zeroValue9
  i9 := by kernel_rfl
  t20 := Tryz.underlying20
  a20 := Tryz.isAgg20
  z20 := Tryz.sizeOf20
  v20 := Tryz.zeroValue20
  i20 := by kernel_rfl
  t21 := Tryz.underlying21
  a21 := Tryz.isAgg21
  z21 := Tryz.sizeOf21
  v21 := Tryz.zeroValue21
  i21 := by kernel_rfl
  t22 := Tryz.underlying125
  a22 := Tryz.isAgg125
  z22 := Tryz.sizeOf125
  v22 := Tryz.zeroValue125
  i22 := by kernel_rfl
  t24 := Tryz.underlying127
  a24 := Tryz.isAgg127
  z24 := Tryz.sizeOf127
  v24 := Tryz.zeroValue127
  i24 := by kernel_rfl
  t25 := Tryz.underlying128
  a25 := Tryz.isAgg128
  z25 := Tryz.sizeOf128
  v25 := Tryz.zeroValue128
  i25 := by kernel_rfl
  t34 := Tryz.underlying188
  a34 := Tryz.isAgg188
  z34 := Tryz.sizeOf188
  v34 := Tryz.zeroValue188
  i34 := by kernel_rfl
  c34 := by kernel_rfl
  t36 := Tryz.underlying150
  a36 := Tryz.isAgg150
  z36 := Tryz.sizeOf150
  v36 := Tryz.zeroValue150
  i36 := by kernel_rfl
  t37 := Tryz.underlying132
  a37 := Tryz.isAgg132
  z37 := Tryz.sizeOf132
  v37 := Tryz.zeroValue132
  i37 := by kernel_rfl
  t39 := Tryz.underlying190
  a39 := Tryz.isAgg190
  z39 := Tryz.sizeOf190
  v39 := Tryz.zeroValue190
  i39 := by kernel_rfl
  t44 := Tryz.underlying223
  a44 := Tryz.isAgg223
  z44 := Tryz.sizeOf223
  v44 := Tryz.zeroValue223
  i44 := by kernel_rfl
  t47 := Tryz.underlying162
  a47 := Tryz.isAgg162
  z47 := Tryz.sizeOf162
  v47 := Tryz.zeroValue162
  i47 := by kernel_rfl
  t48 := Tryz.underlying237
  a48 := Tryz.isAgg237
  z48 := Tryz.sizeOf237
  v48 := Tryz.zeroValue237
  i48 := by kernel_rfl
  t50 := Tryz.underlying239
  a50 := Tryz.isAgg239
  z50 := Tryz.sizeOf239
  v50 := Tryz.zeroValue239
  i50 := by kernel_rfl
  t52 := Tryz.underlying195
  a52 := Tryz.isAgg195
  z52 := Tryz.sizeOf195
  v52 := Tryz.zeroValue195
  i52 := by kernel_rfl
  t55 := Tryz.underlying197
  a55 := Tryz.isAgg197
  z55 := Tryz.sizeOf197
  v55 := Tryz.zeroValue197
  i55 := by kernel_rfl
  t59 := Tryz.underlying227
  a59 := Tryz.isAgg227
  z59 := Tryz.sizeOf227
  v59 := Tryz.zeroValue227
  i59 := by kernel_rfl
  t60 := Tryz.underlying173
  a60 := Tryz.isAgg173
  z60 := Tryz.sizeOf173
  v60 := Tryz.zeroValue173
  i60 := by kernel_rfl
  t61 := Tryz.underlying228
  a61 := Tryz.isAgg228
  z61 := Tryz.sizeOf228
  t65 := Tryz.underlying246
  a65 := Tryz.isAgg246
  z65 := Tryz.sizeOf246
  v65 := Tryz.zeroValue246
  i65 := by kernel_rfl
  t66 := Tryz.underlying247
  a66 := Tryz.isAgg247
  z66 := Tryz.sizeOf247
  v66 := Tryz.zeroValue247
  i66 := by kernel_rfl
  t67 := Tryz.underlying140
  a67 := Tryz.isAgg140
  z67 := Tryz.sizeOf140
  v67 := Tryz.zeroValue140
  i67 := by kernel_rfl
  g0 := by kernel_rfl
  m0 := by kernel_rfl
  g1 := by kernel_rfl
  m1 := by kernel_rfl
  g2 := by kernel_rfl
  m2 := by kernel_rfl
  g3 := by kernel_rfl
  m3 := by kernel_rfl
  g4 := by kernel_rfl
  m4 := by kernel_rfl }
open Go.RowKit in
/-- strconv.ParseUint(s, 10, 64), AT EVERY STRING THAT SPELLS A uint64 ('Lib.parseUintB 64 s.data.toList = .ok u'): u, AND NO ERROR. (LAID: no walk: one application.) -/
theorem Tryz.strconv_ParseUint_10_at64_ok (s : ByteArray) (hmax : s.size ≤ 9223372036854775806) (u : Nat) (h : Lib.parseUintB 64 s.data.toList = .ok u) (w : World) :
    Calls Tryz.prog 107 #[.string s, .int .i64 10, .int .i64 64] w fun e w' => e = .returned (.tuple #[.int .u64 u, .nilIface]) ∧ (w' = w ∨ w' = Lib.bytesWorld w 5 s) := Any.strconv_ParseUint_10_at64_ok Tryz.laysPu14 s hmax u h w
def Tryz.lays145_ren : Go.Shelf.Ren := ⟨fun | 145 => 118 | 220 => 152 | 219 => 202 | 217 => 231 | 225 => 232 | 224 => 233 | 267 => 234 | 266 => 242 | 314 => 243 | n => n, fun | 9 => 9 | 4 => 4 | 59 => 141 | 3 => 3 | 5 => 5 | 46 => 150 | 146 => 199 | 51 => 173 | n => n, fun | 1 => 3 | n => n⟩
theorem Tryz.lays145 : Go.Proofs.Lays.n145 Tryz.prog Tryz.lays145_ren := {
  mixed := by kernel_rfl
  f145 := Tryz.func118.trans (congrArg some (by kernel_rfl))
  f217 := Tryz.func231.trans (congrArg some (by kernel_rfl))
  f219 := Tryz.func202.trans (congrArg some (by kernel_rfl))
  f220 := Tryz.func152.trans (congrArg some (by kernel_rfl))
  f224 := Tryz.func233.trans (congrArg some (by kernel_rfl))
  f225 := Tryz.func232.trans (congrArg some (by kernel_rfl))
  f266 := Tryz.func242.trans (congrArg some (by kernel_rfl))
  f267 := Tryz.func234.trans (congrArg some (by kernel_rfl))
  f314 := Tryz.func243.trans (congrArg some (by kernel_rfl))
  t3 := Tryz.underlying3
  a3 := Tryz.isAgg3
  z3 := Tryz.sizeOf3
  v3 := Tryz.zeroValue3
  t4 := Tryz.underlying4
  a4 := Tryz.isAgg4
  z4 := Tryz.sizeOf4
  v4 := Tryz.zeroValue4
  t5 := Tryz.underlying5
  a5 := Tryz.isAgg5
  z5 := Tryz.sizeOf5
  v5 := Tryz.zeroValue5
  t9 := Tryz.underlying9
  a9 := Tryz.isAgg9
  z9 := Tryz.sizeOf9
  v9 := Tryz.zeroValue9
  t46 := Tryz.underlying150
  a46 := Tryz.isAgg150
  z46 := Tryz.sizeOf150
  v46 := Tryz.zeroValue150
  t51 := Tryz.underlying173
  a51 := Tryz.isAgg173
  z51 := Tryz.sizeOf173
  v51 := Tryz.zeroValue173
  t59 := Tryz.underlying141
  a59 := Tryz.isAgg141
  z59 := Tryz.sizeOf141
  v59 := Tryz.zeroValue141
  t146 := Tryz.underlying199
  a146 := Tryz.isAgg199
  z146 := Tryz.sizeOf199
  v146 := Tryz.zeroValue199
  g1 := by kernel_rfl }
open Go.RowKit Go.Lib in
/-- strings.Cut: "Cut slices s around the first instance of sep, returning the text before and after sep. The found result reports whether sep appears in s. If sep does not appear in s, cut returns s, "", false.": IT RETURNS 'Lib.cut s sep'; the world is as it was but for the count of draws. (LAID: no walk: one application.) -/
theorem Tryz.strings_Cut (s sep : ByteArray) (m : Int) (w : World) (hs : s.size < 4294967281) (hm : w.cell? ⟨3, 0, none⟩ = some (.int .i64 m)) :
    Calls Tryz.prog 118 #[.string s, .string sep] w fun e w' => e = .returned (.tuple #[.string ⟨(Lib.cut s.data.toList sep.data.toList).1.toArray⟩, .string ⟨(Lib.cut s.data.toList sep.data.toList).2.1.toArray⟩, .bool (Lib.cut s.data.toList sep.data.toList).2.2]) ∧ ∃ n, w' = w.drewN n := Any.strings_Cut Tryz.lays145 s sep m w hs hm
def Tryz.lays105_ren : Go.Shelf.Ren := ⟨fun | 105 => 112 | 212 => 148 | 99 => 149 | 165 => 150 | 166 => 110 | 170 => 151 | 169 => 113 | 263 => 198 | 264 => 199 | 206 => 200 | 240 => 146 | 241 => 201 | 276 => 193 | 277 => 230 | n => n, fun | 9 => 9 | 3 => 3 | 4 => 4 | 20 => 20 | 0 => 0 | 46 => 150 | 109 => 157 | 5 => 5 | 72 => 134 | 76 => 136 | 51 => 173 | 146 => 199 | 53 => 125 | 148 => 201 | 70 => 131 | 37 => 132 | 75 => 127 | 127 => 162 | 164 => 193 | 80 => 140 | n => n, fun | n => n⟩
theorem Tryz.lays105 : Go.Proofs.Lays.n105 Tryz.prog Tryz.lays105_ren := {
  mixed := by kernel_rfl
  f99 := Tryz.func149.trans (congrArg some (by kernel_rfl))
  f105 := Tryz.func112.trans (congrArg some (by kernel_rfl))
  f165 := Tryz.func150.trans (congrArg some (by kernel_rfl))
  f166 := Tryz.func110.trans (congrArg some (by kernel_rfl))
  f169 := Tryz.func113.trans (congrArg some (by kernel_rfl))
  f170 := Tryz.func151.trans (congrArg some (by kernel_rfl))
  f206 := Tryz.func200.trans (congrArg some (by kernel_rfl))
  f212 := Tryz.func148.trans (congrArg some (by kernel_rfl))
  f240 := Tryz.func146.trans (congrArg some (by kernel_rfl))
  f241 := Tryz.func201.trans (congrArg some (by kernel_rfl))
  f263 := Tryz.func198.trans (congrArg some (by kernel_rfl))
  f264 := Tryz.func199.trans (congrArg some (by kernel_rfl))
  f276 := Tryz.func193.trans (congrArg some (by kernel_rfl))
  f277 := Tryz.func230.trans (congrArg some (by kernel_rfl))
  t0 := Tryz.underlying0
  a0 := Tryz.isAgg0
  z0 := Tryz.sizeOf0
  v0 := Tryz.zeroValue0
  t3 := Tryz.underlying3
  a3 := Tryz.isAgg3
  z3 := Tryz.sizeOf3
  v3 := Tryz.zeroValue3
  t4 := Tryz.underlying4
  a4 := Tryz.isAgg4
  z4 := Tryz.sizeOf4
  v4 := Tryz.zeroValue4
  t5 := Tryz.underlying5
  a5 := Tryz.isAgg5
  z5 := Tryz.sizeOf5
  v5 := Tryz.zeroValue5
  t9 := Tryz.underlying9
  a9 := Tryz.isAgg9
  z9 := Tryz.sizeOf9
  v9 := Tryz.zeroValue9
  t20 := Tryz.underlying20
  a20 := Tryz.isAgg20
  z20 := Tryz.sizeOf20
  v20 := Tryz.zeroValue20
  t37 := Tryz.underlying132
  a37 := Tryz.isAgg132
  z37 := Tryz.sizeOf132
  v37 := Tryz.zeroValue132
  t46 := Tryz.underlying150
  a46 := Tryz.isAgg150
  z46 := Tryz.sizeOf150
  v46 := Tryz.zeroValue150
  t51 := Tryz.underlying173
  a51 := Tryz.isAgg173
  z51 := Tryz.sizeOf173
  v51 := Tryz.zeroValue173
  t53 := Tryz.underlying125
  a53 := Tryz.isAgg125
  z53 := Tryz.sizeOf125
  v53 := Tryz.zeroValue125
  t70 := Tryz.underlying131
  a70 := Tryz.isAgg131
  z70 := Tryz.sizeOf131
  v70 := Tryz.zeroValue131
  t72 := Tryz.underlying134
  a72 := Tryz.isAgg134
  z72 := Tryz.sizeOf134
  v72 := Tryz.zeroValue134
  t75 := Tryz.underlying127
  a75 := Tryz.isAgg127
  z75 := Tryz.sizeOf127
  v75 := Tryz.zeroValue127
  t76 := Tryz.underlying136
  a76 := Tryz.isAgg136
  z76 := Tryz.sizeOf136
  v76 := Tryz.zeroValue136
  t109 := Tryz.underlying157
  a109 := Tryz.isAgg157
  z109 := Tryz.sizeOf157
  v109 := Tryz.zeroValue157
  t127 := Tryz.underlying162
  a127 := Tryz.isAgg162
  z127 := Tryz.sizeOf162
  v127 := Tryz.zeroValue162
  t146 := Tryz.underlying199
  a146 := Tryz.isAgg199
  z146 := Tryz.sizeOf199
  v146 := Tryz.zeroValue199
  t148 := Tryz.underlying201
  a148 := Tryz.isAgg201
  z148 := Tryz.sizeOf201
  v148 := Tryz.zeroValue201
  t164 := Tryz.underlying193
  a164 := Tryz.isAgg193
  z164 := Tryz.sizeOf193
  v164 := Tryz.zeroValue193 }
theorem Tryz.Builder_Extra_105 : Builder.Extra Tryz.prog Tryz.lays105_ren := {
  sizeBuilder := by kernel_rfl
  liesBuilder := by kernel_rfl
  t5 := Tryz.underlying5
  a5 := Tryz.isAgg5
  z5 := Tryz.sizeOf5
  v5 := Tryz.zeroValue5
  infoByte := by kernel_rfl
  cellsByte := by kernel_rfl
  sizeByte := by kernel_rfl
  neB5 := by decide }
open Go.RowKit Go.Lib in
/-- **strings.Repeat: count ≥ 0, the result within one allocation: count copies of s.** (LAID: no walk: one application.) -/
theorem Tryz.strings_Repeat (s : ByteArray) (c : Nat) (w : World) (hc : c ≤ 9223372036854775807) (hlen : s.size * c ≤ 140737488355328) :
    Calls Tryz.prog 112 #[.string s, .int .i64 c] w fun e w' => e = .returned (.string ⟨(Lib.repeatL s.data.toList c).toArray⟩) ∧ Below w.heap.size w w' := Any.strings_Repeat Tryz.lays105 Tryz.Builder_Extra_105 s c w hc hlen
end Go.Proofs
