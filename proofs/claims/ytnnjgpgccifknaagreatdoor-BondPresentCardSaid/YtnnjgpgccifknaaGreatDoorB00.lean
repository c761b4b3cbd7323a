/-
  DERIVED: THE SHELF's CONTRACTS AT THIS DUMP, IN PLAIN WORDS (tools/lay-plain.mjs out of 'TryzShelf.lean', which tools/lay-shelf.mjs wrote): THE SAME DECLARATIONS UNDER THE SAME NAMES: 'import', 'namespace', 'open', 'def', 'theorem' AND NOTHING ELSE: no command of the shelf's: FOR A HAND-IN. Each laying: the table of numbers ('.._ren') and one theorem, a field a fact of the dump's own or the kernel's comparison; each contract: ONE APPLICATION.
-/
import Derived.Shelf.Strings.Builder1
import Derived.Shelf.Strings.Builder2
import Derived.Shelf.Strings.Trim
import Derived.Shelf.Small.Utf8
import Derived.Shelf.Small.Bits
import Derived.Shelf.Small.Strs
import Derived.Shelf.Small.Wraps
import Derived.Shelf.Strings.BuilderF
import Derived.Shelf.Strings.BuilderK
import Derived.Shelf.Strings.Builder2Cap
import Derived.Shelf.Strconv.Atoi
import Derived.Shelf.Strconv.Itoa0
import Derived.Shelf.Strconv.Itoa1
import Derived.Shelf.LaysM
import Derived.Shelf.Strconv.Itoa2
import Derived.Shelf.Strconv.Itoa3
import Derived.Shelf.Strconv.AtoiErrFast
import Derived.Shelf.Strconv.ParseIntEmpty
import Derived.Shelf.Strconv.AtoiFail
import Derived.Shelf.Strconv.Clone
import Derived.Shelf.Strconv.SyntaxError
import Derived.Shelf.LaysC
import Derived.Shelf.Strconv.ToError
import Derived.Shelf.Strconv.AtoiErr
import Derived.Shelf.Strconv.ErrVar
import Derived.Shelf.Strconv.Lower
import Derived.Shelf.Strconv.ParseUint10
import Derived.Shelf.Strconv.ParseUint10Empty
import Derived.Shelf.Strconv.ParseUint10Any
import Derived.Shelf.Strconv.ParseInt10
import Derived.Shelf.Strconv.AtoiLong
import Derived.Shelf.Strconv.AtoiInnerAll
import Derived.Shelf.Strconv.RangeError
import Derived.Shelf.Strconv.ToErrorRange
import Derived.Shelf.Strconv.AtoiAll
import Derived.Shelf.Strconv.ErrVarAll
import Derived.Shelf.Strconv.ParseUintEmpty
import Derived.Shelf.Strconv.ParseUint10b64
import Derived.Shelf.Strconv.ParseUint10b32
import Derived.Shelf.Strconv.ParseUint10b16
import Derived.Shelf.Strconv.ParseUint10b8
import Derived.Shelf.Strconv.ParseUint10At
import Derived.Shelf.Strconv.ParseInt10At64
import Derived.Shelf.Strconv.ParseInt10At32
import Derived.Shelf.Strconv.ParseInt10At16
import Derived.Shelf.Strconv.ParseInt10At8
import Derived.Shelf.Strconv.ParseInt10All
import Derived.Ground.MpProg
import Derived.Shelf.Pu.ParseUintPublic10
import Derived.Shelf.Pu.ErrVarParseUint
import Derived.Shelf.Strings.Search1
import Derived.Shelf.Strings.Search2
import Derived.Shelf.Strings.Cut
import Derived.Shelf.Strings.Shaped
import Derived.Shelf.Strings.Prefix
import Derived.Shelf.Unicode.Decode
import Derived.Shelf.Strings.Runes
import Derived.Shelf.Strings.AsciiSet
import Derived.Shelf.Bits.Mul64
import Derived.Shelf.Strings.Repeat
import Derived.Shelf.Unicode.DecodeSlow
import Derived.Shelf.Unicode.DecodeAny
import Derived.Shelf.Unicode.DecodeLast
import Derived.Shelf.Strings.BuilderCap
import Derived.Shelf.Slices.Turned
import Derived.Test.YtnnjgpgccifknaaGreatDoorProg
set_option linter.unusedVariables false
set_option linter.unusedSimpArgs false
namespace Go.Proofs
open Go.Shelf
def Tryz.lays169_ren : Go.Shelf.Ren := ⟨fun | 169 => 236 | n => n, fun | 70 => 234 | 9 => 9 | 0 => 0 | 72 => 236 | 37 => 219 | 127 => 279 | 3 => 3 | 5 => 5 | n => n, fun | n => n⟩
theorem Tryz.lays169 : Go.Proofs.Lays.n169 Tryz.prog Tryz.lays169_ren := {
  mixed := by kernel_rfl
  f169 := Tryz.func236.trans (congrArg some (by kernel_rfl))
  t0 := Tryz.underlying0
  a0 := Tryz.isAgg0
  z0 := Tryz.sizeOf0
  v0 := Tryz.zeroValue0
  t3 := Tryz.underlying3
  a3 := Tryz.isAgg3
  z3 := Tryz.sizeOf3
  v3 := Tryz.zeroValue3
  t9 := Tryz.underlying9
  a9 := Tryz.isAgg9
  z9 := Tryz.sizeOf9
  v9 := Tryz.zeroValue9
  t37 := Tryz.underlying219
  a37 := Tryz.isAgg219
  z37 := Tryz.sizeOf219
  v37 := Tryz.zeroValue219
  t70 := Tryz.underlying234
  a70 := Tryz.isAgg234
  z70 := Tryz.sizeOf234
  v70 := Tryz.zeroValue234
  t72 := Tryz.underlying236
  a72 := Tryz.isAgg236
  z72 := Tryz.sizeOf236
  v72 := Tryz.zeroValue236
  t127 := Tryz.underlying279
  a127 := Tryz.isAgg279
  z127 := Tryz.sizeOf279
  v127 := Tryz.zeroValue279 }
theorem Tryz.Builder_Extra_169 : Builder.Extra Tryz.prog Tryz.lays169_ren := {
  sizeBuilder := by kernel_rfl
  liesBuilder := by kernel_rfl
  t5 := Tryz.underlying5
  a5 := Tryz.isAgg5
  z5 := Tryz.sizeOf5
  v5 := Tryz.zeroValue5
  infoByte := by kernel_rfl
  cellsByte := by kernel_rfl
  sizeByte := by kernel_rfl
  neB5 := by decide }
open Go.RowKit in
/-- (*strings.Builder).String: "String returns the accumulated string.": WHATEVER THE BUILDER HOLDS. (LAID: no walk: one application.) -/
theorem Tryz.Builder_String_any (B b : Nat) (l : List UInt8) (w : World) (h : Lib.IsBuilder 236 5 B b (Lib.byteCells l) w) (hBw : B ≤ w.heap.size) :
    Calls Tryz.prog 236 #[.pointer (some ⟨b, 0, none⟩)] w fun e w' => e = .returned (.string ⟨l.toArray⟩) ∧ Below B w w' := Any.Builder_String_any Tryz.lays169 Tryz.Builder_Extra_169 B b l w h hBw
def Tryz.lays161_ren : Go.Shelf.Ren := ⟨fun | 161 => 250 | 231 => 290 | 227 => 292 | 233 => 293 | 235 => 295 | 228 => 325 | 197 => 326 | 151 => 327 | 260 => 345 | 152 => 346 | 137 => 357 | 119 => 358 | 224 => 350 | 225 => 349 | 217 => 348 | 266 => 359 | n => n, fun | 9 => 9 | 4 => 4 | 3 => 3 | 5 => 5 | 117 => 283 | 116 => 282 | 0 => 0 | 124 => 286 | 105 => 314 | 21 => 21 | 119 => 339 | 46 => 223 | 139 => 342 | 138 => 341 | n => n, fun | 3 => 4 | 4 => 5 | n => n⟩
theorem Tryz.lays161 : Go.Proofs.Lays.n161 Tryz.prog Tryz.lays161_ren := {
  mixed := by kernel_rfl
  f119 := Tryz.func358.trans (congrArg some (by kernel_rfl))
  f137 := Tryz.func357.trans (congrArg some (by kernel_rfl))
  f151 := Tryz.func327.trans (congrArg some (by kernel_rfl))
  f152 := Tryz.func346.trans (congrArg some (by kernel_rfl))
  f161 := Tryz.func250.trans (congrArg some (by kernel_rfl))
  f197 := Tryz.func326.trans (congrArg some (by kernel_rfl))
  f217 := Tryz.func348.trans (congrArg some (by kernel_rfl))
  f224 := Tryz.func350.trans (congrArg some (by kernel_rfl))
  f225 := Tryz.func349.trans (congrArg some (by kernel_rfl))
  f227 := Tryz.func292.trans (congrArg some (by kernel_rfl))
  f228 := Tryz.func325.trans (congrArg some (by kernel_rfl))
  f231 := Tryz.func290.trans (congrArg some (by kernel_rfl))
  f233 := Tryz.func293.trans (congrArg some (by kernel_rfl))
  f235 := Tryz.func295.trans (congrArg some (by kernel_rfl))
  f260 := Tryz.func345.trans (congrArg some (by kernel_rfl))
  f266 := Tryz.func359.trans (congrArg some (by kernel_rfl))
  t0 := Tryz.underlying0
  a0 := Tryz.isAgg0
  z0 := Tryz.sizeOf0
  v0 := Tryz.zeroValue0
  t3 := Tryz.underlying3
  a3 := Tryz.isAgg3
  z3 := Tryz.sizeOf3
  v3 := Tryz.zeroValue3
  t4 := Tryz.underlying4
  a4 := Tryz.isAgg4
  z4 := Tryz.sizeOf4
  v4 := Tryz.zeroValue4
  t5 := Tryz.underlying5
  a5 := Tryz.isAgg5
  z5 := Tryz.sizeOf5
  v5 := Tryz.zeroValue5
  t9 := Tryz.underlying9
  a9 := Tryz.isAgg9
  z9 := Tryz.sizeOf9
  v9 := Tryz.zeroValue9
  t21 := Tryz.underlying21
  a21 := Tryz.isAgg21
  z21 := Tryz.sizeOf21
  v21 := Tryz.zeroValue21
  t46 := Tryz.underlying223
  a46 := Tryz.isAgg223
  z46 := Tryz.sizeOf223
  v46 := Tryz.zeroValue223
  t105 := Tryz.underlying314
  a105 := Tryz.isAgg314
  z105 := Tryz.sizeOf314
  v105 := Tryz.zeroValue314
  t116 := Tryz.underlying282
  a116 := Tryz.isAgg282
  z116 := Tryz.sizeOf282
  t117 := Tryz.underlying283
  a117 := Tryz.isAgg283
  z117 := Tryz.sizeOf283
  v117 := Tryz.zeroValue283
  t119 := Tryz.underlying339
  a119 := Tryz.isAgg339
  z119 := Tryz.sizeOf339
  t124 := Tryz.underlying286
  a124 := Tryz.isAgg286
  z124 := Tryz.sizeOf286
  v124 := Tryz.zeroValue286
  t138 := Tryz.underlying341
  a138 := Tryz.isAgg341
  z138 := Tryz.sizeOf341
  v138 := Tryz.zeroValue341
  t139 := Tryz.underlying342
  a139 := Tryz.isAgg342
  z139 := Tryz.sizeOf342
  v139 := Tryz.zeroValue342
  g3 := by kernel_rfl
  g4 := by kernel_rfl }
open Go.RowKit in
/-- strings.TrimLeft: "TrimLeft returns a slice of the string s with all leading Unicode code points contained in cutset removed.": AT A cutset OF ONE ASCII BYTE. The world is as it was. (LAID: no walk: one application.) -/
theorem Tryz.strings_TrimLeft_one (s : ByteArray) (c : UInt8) (hc : c.toNat < 128) (w : World) :
    Calls Tryz.prog 250 #[.string s, .string ⟨#[c]⟩] w fun e w' => e = .returned (.string ⟨(Lib.trimLeftB s.data.toList c).toArray⟩) ∧ w' = w := Any.strings_TrimLeft_one Tryz.lays161 s c hc w
def Tryz.lays160_ren : Go.Shelf.Ren := ⟨fun | 160 => 249 | 232 => 291 | 231 => 290 | 227 => 292 | 234 => 294 | 233 => 293 | 236 => 296 | 235 => 295 | 228 => 325 | 271 => 328 | 151 => 327 | 197 => 326 | 120 => 347 | 152 => 346 | 260 => 345 | 137 => 357 | 119 => 358 | 224 => 350 | 225 => 349 | 217 => 348 | 266 => 359 | n => n, fun | 9 => 9 | 4 => 4 | 3 => 3 | 5 => 5 | 117 => 283 | 116 => 282 | 0 => 0 | 124 => 286 | 21 => 21 | 105 => 314 | 46 => 223 | 119 => 339 | 139 => 342 | 138 => 341 | n => n, fun | 3 => 4 | 4 => 5 | n => n⟩
theorem Tryz.lays160 : Go.Proofs.Lays.n160 Tryz.prog Tryz.lays160_ren := {
  mixed := by kernel_rfl
  f119 := Tryz.func358.trans (congrArg some (by kernel_rfl))
  f120 := Tryz.func347.trans (congrArg some (by kernel_rfl))
  f137 := Tryz.func357.trans (congrArg some (by kernel_rfl))
  f151 := Tryz.func327.trans (congrArg some (by kernel_rfl))
  f152 := Tryz.func346.trans (congrArg some (by kernel_rfl))
  f160 := Tryz.func249.trans (congrArg some (by kernel_rfl))
  f197 := Tryz.func326.trans (congrArg some (by kernel_rfl))
  f217 := Tryz.func348.trans (congrArg some (by kernel_rfl))
  f224 := Tryz.func350.trans (congrArg some (by kernel_rfl))
  f225 := Tryz.func349.trans (congrArg some (by kernel_rfl))
  f227 := Tryz.func292.trans (congrArg some (by kernel_rfl))
  f228 := Tryz.func325.trans (congrArg some (by kernel_rfl))
  f231 := Tryz.func290.trans (congrArg some (by kernel_rfl))
  f232 := Tryz.func291.trans (congrArg some (by kernel_rfl))
  f233 := Tryz.func293.trans (congrArg some (by kernel_rfl))
  f234 := Tryz.func294.trans (congrArg some (by kernel_rfl))
  f235 := Tryz.func295.trans (congrArg some (by kernel_rfl))
  f236 := Tryz.func296.trans (congrArg some (by kernel_rfl))
  f260 := Tryz.func345.trans (congrArg some (by kernel_rfl))
  f266 := Tryz.func359.trans (congrArg some (by kernel_rfl))
  f271 := Tryz.func328.trans (congrArg some (by kernel_rfl))
  t0 := Tryz.underlying0
  a0 := Tryz.isAgg0
  z0 := Tryz.sizeOf0
  v0 := Tryz.zeroValue0
  t3 := Tryz.underlying3
  a3 := Tryz.isAgg3
  z3 := Tryz.sizeOf3
  v3 := Tryz.zeroValue3
  t4 := Tryz.underlying4
  a4 := Tryz.isAgg4
  z4 := Tryz.sizeOf4
  v4 := Tryz.zeroValue4
  t5 := Tryz.underlying5
  a5 := Tryz.isAgg5
  z5 := Tryz.sizeOf5
  v5 := Tryz.zeroValue5
  t9 := Tryz.underlying9
  a9 := Tryz.isAgg9
  z9 := Tryz.sizeOf9
  v9 := Tryz.zeroValue9
  t21 := Tryz.underlying21
  a21 := Tryz.isAgg21
  z21 := Tryz.sizeOf21
  v21 := Tryz.zeroValue21
  t46 := Tryz.underlying223
  a46 := Tryz.isAgg223
  z46 := Tryz.sizeOf223
  v46 := Tryz.zeroValue223
  t105 := Tryz.underlying314
  a105 := Tryz.isAgg314
  z105 := Tryz.sizeOf314
  v105 := Tryz.zeroValue314
  t116 := Tryz.underlying282
  a116 := Tryz.isAgg282
  z116 := Tryz.sizeOf282
  t117 := Tryz.underlying283
  a117 := Tryz.isAgg283
  z117 := Tryz.sizeOf283
  v117 := Tryz.zeroValue283
  t119 := Tryz.underlying339
  a119 := Tryz.isAgg339
  z119 := Tryz.sizeOf339
  t124 := Tryz.underlying286
  a124 := Tryz.isAgg286
  z124 := Tryz.sizeOf286
  v124 := Tryz.zeroValue286
  t138 := Tryz.underlying341
  a138 := Tryz.isAgg341
  z138 := Tryz.sizeOf341
  v138 := Tryz.zeroValue341
  t139 := Tryz.underlying342
  a139 := Tryz.isAgg342
  z139 := Tryz.sizeOf342
  v139 := Tryz.zeroValue342
  g3 := by kernel_rfl
  g4 := by kernel_rfl }
def Tryz.lays103_ren : Go.Shelf.Ren := ⟨fun | 103 => 248 | 210 => 289 | 206 => 322 | n => n, fun | 9 => 9 | 4 => 4 | 24 => 199 | 3 => 3 | n => n, fun | n => n⟩
theorem Tryz.lays103 : Go.Proofs.Lays.n103 Tryz.prog Tryz.lays103_ren := {
  mixed := by kernel_rfl
  f103 := Tryz.func248.trans (congrArg some (by kernel_rfl))
  f206 := Tryz.func322.trans (congrArg some (by kernel_rfl))
  f210 := Tryz.func289.trans (congrArg some (by kernel_rfl))
  t3 := Tryz.underlying3
  a3 := Tryz.isAgg3
  z3 := Tryz.sizeOf3
  v3 := Tryz.zeroValue3
  t4 := Tryz.underlying4
  a4 := Tryz.isAgg4
  z4 := Tryz.sizeOf4
  v4 := Tryz.zeroValue4
  t9 := Tryz.underlying9
  a9 := Tryz.isAgg9
  z9 := Tryz.sizeOf9
  v9 := Tryz.zeroValue9
  t24 := Tryz.underlying199
  a24 := Tryz.isAgg199
  z24 := Tryz.sizeOf199
  v24 := Tryz.zeroValue199 }
open Go.RowKit in
/-- strings.CutPrefix: "CutPrefix returns s without the provided leading prefix string and reports whether it found the prefix. If s doesn't start with prefix, CutPrefix returns s, false. If prefix is the empty string, CutPrefix returns s, true.": IT RETURNS '(Lib.trimPrefix s p, Lib.hasPrefix s p)'; the world is as it was. (LAID: no walk: one application.) -/
theorem Tryz.strings_CutPrefix (s p : ByteArray) (w : World) :
    Calls Tryz.prog 248 #[.string s, .string p] w fun e w' => e = .returned (.tuple #[.string ⟨(Lib.trimPrefix s.data.toList p.data.toList).toArray⟩, .bool (Lib.hasPrefix s.data.toList p.data.toList)]) ∧ w' = w := Any.strings_CutPrefix Tryz.lays103 s p w
def Tryz.lays172_ren : Go.Shelf.Ren := ⟨fun | 172 => 254 | 244 => 304 | 245 => 252 | 247 => 332 | 279 => 299 | 280 => 300 | 281 => 301 | 282 => 302 | 287 => 251 | 316 => 329 | 171 => 146 | 205 => 330 | 321 => 297 | 322 => 298 | 243 => 206 | 246 => 263 | 283 => 308 | 284 => 309 | 285 => 310 | 286 => 311 | 129 => 277 | 317 => 339 | 318 => 340 | 319 => 341 | 320 => 342 | 337 => 355 | 338 => 356 | n => n, fun | 9 => 9 | 3 => 3 | 75 => 202 | 76 => 238 | 4 => 4 | 5 => 5 | 167 => 287 | 37 => 219 | 0 => 0 | 85 => 322 | 2 => 2 | 168 => 289 | 53 => 198 | 175 => 203 | 46 => 223 | 210 => 319 | 127 => 279 | 145 => 337 | 143 => 335 | 21 => 21 | 171 => 297 | 173 => 299 | 212 => 328 | 51 => 270 | 20 => 20 | 213 => 329 | 232 => 345 | 233 => 346 | 80 => 241 | n => n, fun | 15 => 0 | 16 => 1 | 17 => 2 | 18 => 6 | 19 => 7 | n => n⟩
theorem Tryz.lays172 : Go.Proofs.Lays.n172 Tryz.prog Tryz.lays172_ren := {
  mixed := by kernel_rfl
  f129 := Tryz.func277.trans (congrArg some (by kernel_rfl))
  f171 := Tryz.func146.trans (congrArg some (by kernel_rfl))
  f172 := Tryz.func254.trans (congrArg some (by kernel_rfl))
  f205 := Tryz.func330.trans (congrArg some (by kernel_rfl))
  f243 := Tryz.func206.trans (congrArg some (by kernel_rfl))
  f244 := Tryz.func304.trans (congrArg some (by kernel_rfl))
  f245 := Tryz.func252.trans (congrArg some (by kernel_rfl))
  f246 := Tryz.func263.trans (congrArg some (by kernel_rfl))
  f247 := Tryz.func332.trans (congrArg some (by kernel_rfl))
  f279 := Tryz.func299.trans (congrArg some (by kernel_rfl))
  f280 := Tryz.func300.trans (congrArg some (by kernel_rfl))
  f281 := Tryz.func301.trans (congrArg some (by kernel_rfl))
  f282 := Tryz.func302.trans (congrArg some (by kernel_rfl))
  f283 := Tryz.func308.trans (congrArg some (by kernel_rfl))
  f284 := Tryz.func309.trans (congrArg some (by kernel_rfl))
  f285 := Tryz.func310.trans (congrArg some (by kernel_rfl))
  f286 := Tryz.func311.trans (congrArg some (by kernel_rfl))
  f287 := Tryz.func251.trans (congrArg some (by kernel_rfl))
  f316 := Tryz.func329.trans (congrArg some (by kernel_rfl))
  f317 := Tryz.func339.trans (congrArg some (by kernel_rfl))
  f318 := Tryz.func340.trans (congrArg some (by kernel_rfl))
  f319 := Tryz.func341.trans (congrArg some (by kernel_rfl))
  f320 := Tryz.func342.trans (congrArg some (by kernel_rfl))
  f321 := Tryz.func297.trans (congrArg some (by kernel_rfl))
  f322 := Tryz.func298.trans (congrArg some (by kernel_rfl))
  f337 := Tryz.func355.trans (congrArg some (by kernel_rfl))
  f338 := Tryz.func356.trans (congrArg some (by kernel_rfl))
  t0 := Tryz.underlying0
  a0 := Tryz.isAgg0
  z0 := Tryz.sizeOf0
  v0 := Tryz.zeroValue0
  t2 := Tryz.underlying2
  a2 := Tryz.isAgg2
  z2 := Tryz.sizeOf2
  v2 := Tryz.zeroValue2
  t3 := Tryz.underlying3
  a3 := Tryz.isAgg3
  z3 := Tryz.sizeOf3
  v3 := Tryz.zeroValue3
  t4 := Tryz.underlying4
  a4 := Tryz.isAgg4
  z4 := Tryz.sizeOf4
  v4 := Tryz.zeroValue4
  t5 := Tryz.underlying5
  a5 := Tryz.isAgg5
  z5 := Tryz.sizeOf5
  v5 := Tryz.zeroValue5
  t9 := Tryz.underlying9
  a9 := Tryz.isAgg9
  z9 := Tryz.sizeOf9
  v9 := Tryz.zeroValue9
  t20 := Tryz.underlying20
  a20 := Tryz.isAgg20
  z20 := Tryz.sizeOf20
  v20 := Tryz.zeroValue20
  t21 := Tryz.underlying21
  a21 := Tryz.isAgg21
  z21 := Tryz.sizeOf21
  v21 := Tryz.zeroValue21
  t37 := Tryz.underlying219
  a37 := Tryz.isAgg219
  z37 := Tryz.sizeOf219
  v37 := Tryz.zeroValue219
  t46 := Tryz.underlying223
  a46 := Tryz.isAgg223
  z46 := Tryz.sizeOf223
  v46 := Tryz.zeroValue223
  t51 := Tryz.underlying270
  a51 := Tryz.isAgg270
  z51 := Tryz.sizeOf270
  v51 := Tryz.zeroValue270
  t53 := Tryz.underlying198
  a53 := Tryz.isAgg198
  z53 := Tryz.sizeOf198
  v53 := Tryz.zeroValue198
  t75 := Tryz.underlying202
  a75 := Tryz.isAgg202
  z75 := Tryz.sizeOf202
  v75 := Tryz.zeroValue202
  t76 := Tryz.underlying238
  a76 := Tryz.isAgg238
  z76 := Tryz.sizeOf238
  v76 := Tryz.zeroValue238
  t85 := Tryz.underlying322
  a85 := Tryz.isAgg322
  z85 := Tryz.sizeOf322
  v85 := Tryz.zeroValue322
  t127 := Tryz.underlying279
  a127 := Tryz.isAgg279
  z127 := Tryz.sizeOf279
  v127 := Tryz.zeroValue279
  t143 := Tryz.underlying335
  a143 := Tryz.isAgg335
  z143 := Tryz.sizeOf335
  v143 := Tryz.zeroValue335
  t145 := Tryz.underlying337
  a145 := Tryz.isAgg337
  z145 := Tryz.sizeOf337
  v145 := Tryz.zeroValue337
  t167 := Tryz.underlying287
  a167 := Tryz.isAgg287
  z167 := Tryz.sizeOf287
  v167 := Tryz.zeroValue287
  t168 := Tryz.underlying289
  a168 := Tryz.isAgg289
  z168 := Tryz.sizeOf289
  v168 := Tryz.zeroValue289
  t171 := Tryz.underlying297
  a171 := Tryz.isAgg297
  z171 := Tryz.sizeOf297
  v171 := Tryz.zeroValue297
  t173 := Tryz.underlying299
  a173 := Tryz.isAgg299
  z173 := Tryz.sizeOf299
  v173 := Tryz.zeroValue299
  t175 := Tryz.underlying203
  a175 := Tryz.isAgg203
  z175 := Tryz.sizeOf203
  v175 := Tryz.zeroValue203
  t210 := Tryz.underlying319
  a210 := Tryz.isAgg319
  z210 := Tryz.sizeOf319
  v210 := Tryz.zeroValue319
  t212 := Tryz.underlying328
  a212 := Tryz.isAgg328
  z212 := Tryz.sizeOf328
  v212 := Tryz.zeroValue328
  t213 := Tryz.underlying329
  a213 := Tryz.isAgg329
  z213 := Tryz.sizeOf329
  t232 := Tryz.underlying345
  a232 := Tryz.isAgg345
  z232 := Tryz.sizeOf345
  v232 := Tryz.zeroValue345
  t233 := Tryz.underlying346
  a233 := Tryz.isAgg346
  z233 := Tryz.sizeOf346
  v233 := Tryz.zeroValue346
  g15 := by kernel_rfl
  g16 := by kernel_rfl
  g17 := by kernel_rfl
  g18 := by kernel_rfl
  g19 := by kernel_rfl }
open Go.RowKit in
/-- strconv.Atoi: "Atoi is equivalent to ParseInt(s, 10, 0), converted to type int.": AT A DECIMAL NUMERAL OF AT MOST 18 BYTES: its value, and a nil error. The world behind the call: the one new row that the library's '[]byte(s)' lays. (LAID: no walk: one application.) -/
theorem Tryz.strconv_Atoi (s : ByteArray) (n : Int) (hl : s.size ≤ 18) (h : Lib.atoi s.data.toList = some n) (w : World) :
    Calls Tryz.prog 254 #[.string s] w fun e w' => e = .returned (.tuple #[.int .i64 n, .nilIface]) ∧ ∃ t, w' = Lib.bytesWorld w 5 t := Any.strconv_Atoi Tryz.lays172 s n hl h w
def Tryz.lays283_ren : Go.Shelf.Ren := ⟨fun | 283 => 308 | n => n, fun | 3 => 3 | 9 => 9 | 4 => 4 | n => n, fun | n => n⟩
theorem Tryz.lays283 : Go.Proofs.Lays.n283 Tryz.prog Tryz.lays283_ren := {
  mixed := by kernel_rfl
  f283 := Tryz.func308.trans (congrArg some (by kernel_rfl))
  t3 := Tryz.underlying3
  a3 := Tryz.isAgg3
  z3 := Tryz.sizeOf3
  v3 := Tryz.zeroValue3
  t4 := Tryz.underlying4
  a4 := Tryz.isAgg4
  z4 := Tryz.sizeOf4
  v4 := Tryz.zeroValue4
  t9 := Tryz.underlying9
  a9 := Tryz.isAgg9
  z9 := Tryz.sizeOf9
  v9 := Tryz.zeroValue9 }
open Go.Lib in
/-- internal/strconv.small: "small returns the string for an i with 0 <= i < nSmalls.": i's decimal numeral. The world is as it was. (LAID: no walk: one application.) -/
theorem Tryz.internal_strconv_small (i : Nat) (h : i < 100) (w : World) :
    Calls Tryz.prog 308 #[.int .i64 i] w fun e w' => e = .returned (.string ⟨(Lib.decDigits i).toArray⟩) ∧ w' = w := Any.internal_strconv_small Tryz.lays283 i h w
def Tryz.laysM284_ren : Go.Shelf.Ren := ⟨fun | 284 => 309 | 129 => 277 | 317 => 339 | 318 => 340 | n => n, fun | 53 => 198 | 3 => 3 | 212 => 328 | 0 => 0 | 4 => 4 | 46 => 223 | 5 => 5 | 9 => 9 | n => n, fun | 17 => 2 | n => n⟩
theorem Tryz.laysM284 : Go.Proofs.LaysM.n284 Tryz.prog Tryz.laysM284_ren := {
  mixed := by kernel_rfl
  f129 := Tryz.func277.trans (congrArg some (by kernel_rfl))
  f284 := Tryz.func309.trans (congrArg some (by kernel_rfl))
  f317 := Tryz.func339.trans (congrArg some (by kernel_rfl))
  f318 := Tryz.func340.trans (congrArg some (by kernel_rfl))
  t0 := Tryz.underlying0
  a0 := Tryz.isAgg0
  z0 := Tryz.sizeOf0
  v0 := Tryz.zeroValue0
  t3 := Tryz.underlying3
  a3 := Tryz.isAgg3
  z3 := Tryz.sizeOf3
  v3 := Tryz.zeroValue3
  t4 := Tryz.underlying4
  a4 := Tryz.isAgg4
  z4 := Tryz.sizeOf4
  v4 := Tryz.zeroValue4
  t5 := Tryz.underlying5
  a5 := Tryz.isAgg5
  z5 := Tryz.sizeOf5
  v5 := Tryz.zeroValue5
  t9 := Tryz.underlying9
  a9 := Tryz.isAgg9
  z9 := Tryz.sizeOf9
  v9 := Tryz.zeroValue9
  t46 := Tryz.underlying223
  a46 := Tryz.isAgg223
  z46 := Tryz.sizeOf223
  v46 := Tryz.zeroValue223
  t53 := Tryz.underlying198
  a53 := Tryz.isAgg198
  z53 := Tryz.sizeOf198
  v53 := Tryz.zeroValue198
  t212 := Tryz.underlying328
  a212 := Tryz.isAgg328
  z212 := Tryz.sizeOf328
  v212 := Tryz.zeroValue328
  g17 := by kernel_rfl
  i0 := by kernel_rfl
  i3 := by kernel_rfl
  i4 := by kernel_rfl
  i5 := by kernel_rfl
  i9 := by kernel_rfl
  i46 := by kernel_rfl
  i53 := by kernel_rfl
  i212 := by kernel_rfl
  m17 := by kernel_rfl }
open Go.Lib in
/-- internal/strconv.numDigits, at a d that is not 0: THE NUMBER OF d's DECIMAL DIGITS. The world is as it was. (LAID: no walk: one application.) -/
theorem Tryz.internal_strconv_numDigits (u : Nat) (h1 : 1 ≤ u) (h2 : u < 18446744073709551616) (w : World) (htab : Lib.TabIs Tryz.prog w "internal/strconv.uint64pow10" .u64 Lib.pow10Tab) :
    Calls Tryz.prog 309 #[.int .u64 u] w fun e w' => e = .returned (.int .i64 (Lib.nDigits u)) ∧ w' = w := Any.internal_strconv_numDigits Tryz.laysM284 u h1 h2 w htab
def Tryz.lays285_ren : Go.Shelf.Ren := ⟨fun | 285 => 310 | n => n, fun | 37 => 219 | 53 => 198 | 3 => 3 | 4 => 4 | 51 => 270 | 9 => 9 | 5 => 5 | 0 => 0 | n => n, fun | n => n⟩
theorem Tryz.lays285 : Go.Proofs.Lays.n285 Tryz.prog Tryz.lays285_ren := {
  mixed := by kernel_rfl
  f285 := Tryz.func310.trans (congrArg some (by kernel_rfl))
  t0 := Tryz.underlying0
  a0 := Tryz.isAgg0
  z0 := Tryz.sizeOf0
  v0 := Tryz.zeroValue0
  t3 := Tryz.underlying3
  a3 := Tryz.isAgg3
  z3 := Tryz.sizeOf3
  v3 := Tryz.zeroValue3
  t4 := Tryz.underlying4
  a4 := Tryz.isAgg4
  z4 := Tryz.sizeOf4
  v4 := Tryz.zeroValue4
  t5 := Tryz.underlying5
  a5 := Tryz.isAgg5
  z5 := Tryz.sizeOf5
  v5 := Tryz.zeroValue5
  t9 := Tryz.underlying9
  a9 := Tryz.isAgg9
  z9 := Tryz.sizeOf9
  v9 := Tryz.zeroValue9
  t37 := Tryz.underlying219
  a37 := Tryz.isAgg219
  z37 := Tryz.sizeOf219
  v37 := Tryz.zeroValue219
  t51 := Tryz.underlying270
  a51 := Tryz.isAgg270
  z51 := Tryz.sizeOf270
  v51 := Tryz.zeroValue270
  t53 := Tryz.underlying198
  a53 := Tryz.isAgg198
  z53 := Tryz.sizeOf198
  v53 := Tryz.zeroValue198 }
open Go.RowKit Go.Sort Go.Lib in
/-- internal/strconv.formatBase10: "formatBase10 formats the decimal representation of u into a. The caller is responsible for ensuring that a is big enough to hold u. If a is too big, leading zeros will be filled in as needed.": THE ROW HOLDS u's DIGITS ('FmtInv .. 0 ..': every place t holds 'dg u (len - 1 - t)'); all else is as it was but for the count of draws. (LAID: no walk: one application.) -/
theorem Tryz.internal_strconv_formatBase10 (blk off cap : Nat) (u : Nat) (d : Array UInt8) (w : World) (hH : Holds (fun (b : UInt8) => Value.int .u8 (b.toNat : Int)) w blk off d) (hu : u < 10 ^ d.size) (hu64 : u < 18446744073709551616) (hsz : d.size < 4611686018427387904) :
    Calls Tryz.prog 310 #[.slice (some ⟨blk, off, none⟩) d.size cap, .int .u64 u] w fun e w' =>
      e = .returned (.tuple #[]) ∧ ∃ (n v' : Nat) (dk : Array UInt8), w' = (putRow (fun (b : UInt8) => Value.int .u8 (b.toNat : Int)) w blk off dk).drewN n ∧ FmtInv d.size u 0 v' dk := Any.internal_strconv_formatBase10 Tryz.lays285 blk off cap u d w hH hu hu64 hsz
def Tryz.laysM171_ren : Go.Shelf.Ren := ⟨fun | 171 => 146 | 243 => 206 | 246 => 263 | 283 => 308 | 284 => 309 | 285 => 310 | 286 => 311 | 129 => 277 | 317 => 339 | 318 => 340 | 319 => 341 | 320 => 342 | 337 => 355 | 338 => 356 | n => n, fun | 3 => 3 | 9 => 9 | 2 => 2 | 4 => 4 | 171 => 297 | 0 => 0 | 53 => 198 | 37 => 219 | 5 => 5 | 173 => 299 | 212 => 328 | 51 => 270 | 20 => 20 | 213 => 329 | 46 => 223 | 232 => 345 | 233 => 346 | n => n, fun | 17 => 2 | 18 => 6 | 19 => 7 | n => n⟩
theorem Tryz.laysM171 : Go.Proofs.LaysM.n171 Tryz.prog Tryz.laysM171_ren := {
  mixed := by kernel_rfl
  f129 := Tryz.func277.trans (congrArg some (by kernel_rfl))
  f171 := Tryz.func146.trans (congrArg some (by kernel_rfl))
  f243 := Tryz.func206.trans (congrArg some (by kernel_rfl))
  f246 := Tryz.func263.trans (congrArg some (by kernel_rfl))
  f283 := Tryz.func308.trans (congrArg some (by kernel_rfl))
  f284 := Tryz.func309.trans (congrArg some (by kernel_rfl))
  f285 := Tryz.func310.trans (congrArg some (by kernel_rfl))
  f286 := Tryz.func311.trans (congrArg some (by kernel_rfl))
  f317 := Tryz.func339.trans (congrArg some (by kernel_rfl))
  f318 := Tryz.func340.trans (congrArg some (by kernel_rfl))
  f319 := Tryz.func341.trans (congrArg some (by kernel_rfl))
  f320 := Tryz.func342.trans (congrArg some (by kernel_rfl))
  f337 := Tryz.func355.trans (congrArg some (by kernel_rfl))
  f338 := Tryz.func356.trans (congrArg some (by kernel_rfl))
  t0 := Tryz.underlying0
  a0 := Tryz.isAgg0
  z0 := Tryz.sizeOf0
  v0 := Tryz.zeroValue0
  t2 := Tryz.underlying2
  a2 := Tryz.isAgg2
  z2 := Tryz.sizeOf2
  v2 := Tryz.zeroValue2
  t3 := Tryz.underlying3
  a3 := Tryz.isAgg3
  z3 := Tryz.sizeOf3
  v3 := Tryz.zeroValue3
  t4 := Tryz.underlying4
  a4 := Tryz.isAgg4
  z4 := Tryz.sizeOf4
  v4 := Tryz.zeroValue4
  t5 := Tryz.underlying5
  a5 := Tryz.isAgg5
  z5 := Tryz.sizeOf5
  v5 := Tryz.zeroValue5
  t9 := Tryz.underlying9
  a9 := Tryz.isAgg9
  z9 := Tryz.sizeOf9
  v9 := Tryz.zeroValue9
  t20 := Tryz.underlying20
  a20 := Tryz.isAgg20
  z20 := Tryz.sizeOf20
  v20 := Tryz.zeroValue20
  t37 := Tryz.underlying219
  a37 := Tryz.isAgg219
  z37 := Tryz.sizeOf219
  v37 := Tryz.zeroValue219
  t46 := Tryz.underlying223
  a46 := Tryz.isAgg223
  z46 := Tryz.sizeOf223
  v46 := Tryz.zeroValue223
  t51 := Tryz.underlying270
  a51 := Tryz.isAgg270
  z51 := Tryz.sizeOf270
  v51 := Tryz.zeroValue270
  t53 := Tryz.underlying198
  a53 := Tryz.isAgg198
  z53 := Tryz.sizeOf198
  v53 := Tryz.zeroValue198
  t171 := Tryz.underlying297
  a171 := Tryz.isAgg297
  z171 := Tryz.sizeOf297
  v171 := Tryz.zeroValue297
  t173 := Tryz.underlying299
  a173 := Tryz.isAgg299
  z173 := Tryz.sizeOf299
  v173 := Tryz.zeroValue299
  t212 := Tryz.underlying328
  a212 := Tryz.isAgg328
  z212 := Tryz.sizeOf328
  v212 := Tryz.zeroValue328
  t213 := Tryz.underlying329
  a213 := Tryz.isAgg329
  z213 := Tryz.sizeOf329
  t232 := Tryz.underlying345
  a232 := Tryz.isAgg345
  z232 := Tryz.sizeOf345
  v232 := Tryz.zeroValue345
  t233 := Tryz.underlying346
  a233 := Tryz.isAgg346
  z233 := Tryz.sizeOf346
  v233 := Tryz.zeroValue346
  g17 := by kernel_rfl
  g18 := by kernel_rfl
  g19 := by kernel_rfl
  i0 := by kernel_rfl
  i2 := by kernel_rfl
  i3 := by kernel_rfl
  i4 := by kernel_rfl
  i5 := by kernel_rfl
  i9 := by kernel_rfl
  i20 := by kernel_rfl
  i37 := by kernel_rfl
  i46 := by kernel_rfl
  i51 := by kernel_rfl
  i53 := by kernel_rfl
  i171 := by kernel_rfl
  i173 := by kernel_rfl
  i212 := by kernel_rfl
  i232 := by kernel_rfl
  i233 := by kernel_rfl
  m17 := by kernel_rfl
  m18 := by kernel_rfl
  m19 := by kernel_rfl }
open Go.RowKit Go.Sort Go.Lib in
/-- strconv.Itoa: "Itoa is equivalent to FormatInt(int64(i), 10).": i's DECIMAL NUMERAL ('Lib.itoa': a '-' where i is negative, then the digits), FOR EVERY int. The world behind the call: the world before it, new blocks behind the heap (the library's 'var a [24]byte'), draws. (LAID: no walk: one application.) -/
theorem Tryz.strconv_Itoa (n : Int) (h0 : -9223372036854775808 ≤ n) (h1 : n ≤ 9223372036854775807) (w : World) (htab : Lib.TabIs Tryz.prog w "internal/strconv.uint64pow10" .u64 Lib.pow10Tab) :
    Calls Tryz.prog 146 #[.int .i64 n] w fun e w' => e = .returned (.string ⟨(Lib.itoa n).toArray⟩) ∧ ∃ k os, w' = grow (w.drewN k) os := Any.strconv_Itoa Tryz.laysM171 n h0 h1 w htab
def Tryz.laysPu14_ren : Go.Shelf.Ren := ⟨fun | 14 => 187 | 16 => 251 | 17 => 252 | 19 => 297 | 20 => 298 | 21 => 299 | 22 => 300 | 23 => 301 | 24 => 302 | 25 => 329 | 27 => 146 | 26 => 330 | 28 => 206 | 29 => 263 | 30 => 308 | 31 => 309 | 32 => 310 | 33 => 311 | 35 => 277 | 34 => 339 | 36 => 340 | 37 => 341 | 38 => 342 | 39 => 355 | 40 => 356 | n => n, fun | 9 => 9 | 3 => 3 | 22 => 198 | 24 => 202 | 25 => 203 | 4 => 4 | 34 => 287 | 5 => 5 | 36 => 223 | 37 => 219 | 0 => 0 | 39 => 289 | 21 => 21 | 44 => 319 | 47 => 279 | 50 => 337 | 48 => 335 | 2 => 2 | 52 => 297 | 55 => 299 | 59 => 328 | 60 => 270 | 20 => 20 | 61 => 329 | 65 => 345 | 66 => 346 | 67 => 241 | n => n, fun | 0 => 0 | 1 => 1 | 2 => 2 | 3 => 6 | 4 => 7 | n => n⟩
theorem Tryz.laysPu14 : Go.Proofs.LaysPu.n14 Tryz.prog Tryz.laysPu14_ren := {
  mixed := by kernel_rfl
  f14 := Tryz.func187.trans (congrArg some (by kernel_rfl))
  f16 := Tryz.func251.trans (congrArg some (by kernel_rfl))
  f17 := Tryz.func252.trans (congrArg some (by kernel_rfl))
  f19 := Tryz.func297.trans (congrArg some (by kernel_rfl))
  f20 := Tryz.func298.trans (congrArg some (by kernel_rfl))
  f21 := Tryz.func299.trans (congrArg some (by kernel_rfl))
  f22 := Tryz.func300.trans (congrArg some (by kernel_rfl))
  f23 := Tryz.func301.trans (congrArg some (by kernel_rfl))
  f24 := Tryz.func302.trans (congrArg some (by kernel_rfl))
  f25 := Tryz.func329.trans (congrArg some (by kernel_rfl))
  f26 := Tryz.func330.trans (congrArg some (by kernel_rfl))
  f27 := Tryz.func146.trans (congrArg some (by kernel_rfl))
  f28 := Tryz.func206.trans (congrArg some (by kernel_rfl))
  f29 := Tryz.func263.trans (congrArg some (by kernel_rfl))
  f30 := Tryz.func308.trans (congrArg some (by kernel_rfl))
  f31 := Tryz.func309.trans (congrArg some (by kernel_rfl))
  f32 := Tryz.func310.trans (congrArg some (by kernel_rfl))
  f33 := Tryz.func311.trans (congrArg some (by kernel_rfl))
  f34 := Tryz.func339.trans (congrArg some (by kernel_rfl))
  f35 := Tryz.func277.trans (congrArg some (by kernel_rfl))
  f36 := Tryz.func340.trans (congrArg some (by kernel_rfl))
  f37 := Tryz.func341.trans (congrArg some (by kernel_rfl))
  f38 := Tryz.func342.trans (congrArg some (by kernel_rfl))
  f39 := Tryz.func355.trans (congrArg some (by kernel_rfl))
  f40 := Tryz.func356.trans (congrArg some (by kernel_rfl))
  t0 := Tryz.underlying0
  a0 := Tryz.isAgg0
  z0 := Tryz.sizeOf0
  v0 := Tryz.zeroValue0
  i0 := by kernel_rfl
  t2 := Tryz.underlying2
  a2 := Tryz.isAgg2
  z2 := Tryz.sizeOf2
  v2 := Tryz.zeroValue2
  i2 := by kernel_rfl
  t3 := Tryz.underlying3
  a3 := Tryz.isAgg3
  z3 := Tryz.sizeOf3
  v3 := Tryz.zeroValue3
  i3 := by kernel_rfl
  t4 := Tryz.underlying4
  a4 := Tryz.isAgg4
  z4 := Tryz.sizeOf4
  v4 := Tryz.zeroValue4
  i4 := by kernel_rfl
  t5 := Tryz.underlying5
  a5 := Tryz.isAgg5
  z5 := Tryz.sizeOf5
  v5 := Tryz.zeroValue5
  i5 := by kernel_rfl
  t9 := Tryz.underlying9
  a9 := Tryz.isAgg9
  z9 := Tryz.sizeOf9
  v9 := Tryz.zeroValue9
  i9 := by kernel_rfl
  t20 := Tryz.underlying20
  a20 := Tryz.isAgg20
  z20 := Tryz.sizeOf20
  v20 := Tryz.zeroValue20
  i20 := by kernel_rfl
  t21 := Tryz.underlying21
  a21 := Tryz.isAgg21
  z21 := Tryz.sizeOf21
  v21 := Tryz.zeroValue21
  i21 := by kernel_rfl
  t22 := Tryz.underlying198
  a22 := Tryz.isAgg198
  z22 := Tryz.sizeOf198
  v22 := Tryz.zeroValue198
  i22 := by kernel_rfl
  t24 := Tryz.underlying202
  a24 := Tryz.isAgg202
  z24 := Tryz.sizeOf202
  v24 := Tryz.zeroValue202
  i24 := by kernel_rfl
  t25 := Tryz.underlying203
  a25 := Tryz.isAgg203
  z25 := Tryz.sizeOf203
  v25 := Tryz.zeroValue203
  i25 := by kernel_rfl
  t34 := Tryz.underlying287
  a34 := Tryz.isAgg287
  z34 := Tryz.sizeOf287
  v34 := Tryz.zeroValue287
  i34 := by kernel_rfl
  c34 := by kernel_rfl
  t36 := Tryz.underlying223
  a36 := Tryz.isAgg223
  z36 := Tryz.sizeOf223
  v36 := Tryz.zeroValue223
  i36 := by kernel_rfl
  t37 := Tryz.underlying219
  a37 := Tryz.isAgg219
  z37 := Tryz.sizeOf219
  v37 := Tryz.zeroValue219
  i37 := by kernel_rfl
  t39 := Tryz.underlying289
  a39 := Tryz.isAgg289
  z39 := Tryz.sizeOf289
  v39 := Tryz.zeroValue289
  i39 := by kernel_rfl
  t44 := Tryz.underlying319
  a44 := Tryz.isAgg319
  z44 := Tryz.sizeOf319
  v44 := Tryz.zeroValue319
  i44 := by kernel_rfl
  t47 := Tryz.underlying279
  a47 := Tryz.isAgg279
  z47 := Tryz.sizeOf279
  v47 := Tryz.zeroValue279
  i47 := by kernel_rfl
  t48 := Tryz.underlying335
  a48 := Tryz.isAgg335
  z48 := Tryz.sizeOf335
  v48 := Tryz.zeroValue335
  i48 := by kernel_rfl
  t50 := Tryz.underlying337
  a50 := Tryz.isAgg337
  z50 := Tryz.sizeOf337
  v50 := Tryz.zeroValue337
  i50 := by kernel_rfl
  t52 := Tryz.underlying297
  a52 := Tryz.isAgg297
  z52 := Tryz.sizeOf297
  v52 := Tryz.zeroValue297
  i52 := by kernel_rfl
  t55 := Tryz.underlying299
  a55 := Tryz.isAgg299
  z55 := Tryz.sizeOf299
  v55 := Tryz.zeroValue299
  i55 := by kernel_rfl
  t59 := Tryz.underlying328
  a59 := Tryz.isAgg328
  z59 := Tryz.sizeOf328
  v59 := Tryz.zeroValue328
  i59 := by kernel_rfl
  t60 := Tryz.underlying270
  a60 := Tryz.isAgg270
  z60 := Tryz.sizeOf270
  v60 := Tryz.zeroValue270
  i60 := by kernel_rfl
  t61 := Tryz.underlying329
  a61 := Tryz.isAgg329
  z61 := Tryz.sizeOf329
  t65 := Tryz.underlying345
  a65 := Tryz.isAgg345
  z65 := Tryz.sizeOf345
  v65 := Tryz.zeroValue345
  i65 := by kernel_rfl
  t66 := Tryz.underlying346
  a66 := Tryz.isAgg346
  z66 := Tryz.sizeOf346
  v66 := Tryz.zeroValue346
  i66 := by kernel_rfl
  t67 := Tryz.underlying241
  a67 := Tryz.isAgg241
  z67 := Tryz.sizeOf241
  v67 := Tryz.zeroValue241
  i67 := by kernel_rfl
  g0 := by kernel_rfl
  m0 := by kernel_rfl
  g1 := by kernel_rfl
  m1 := by kernel_rfl
  g2 := by kernel_rfl
  m2 := by kernel_rfl
  g3 := by kernel_rfl
  m3 := by kernel_rfl
  g4 := by kernel_rfl
  m4 := by kernel_rfl }
open Go.RowKit in
/-- strconv.ParseUint(s, 10, 64), AT EVERY STRING THAT SPELLS A uint64 ('Lib.parseUintB 64 s.data.toList = .ok u'): u, AND NO ERROR. (LAID: no walk: one application.) -/
theorem Tryz.strconv_ParseUint_10_at64_ok (s : ByteArray) (hmax : s.size ≤ 9223372036854775806) (u : Nat) (h : Lib.parseUintB 64 s.data.toList = .ok u) (w : World) :
    Calls Tryz.prog 187 #[.string s, .int .i64 10, .int .i64 64] w fun e w' => e = .returned (.tuple #[.int .u64 u, .nilIface]) ∧ (w' = w ∨ w' = Lib.bytesWorld w 5 s) := Any.strconv_ParseUint_10_at64_ok Tryz.laysPu14 s hmax u h w
def Tryz.lays145_ren : Go.Shelf.Ren := ⟨fun | 145 => 253 | 220 => 303 | 219 => 331 | 217 => 348 | 225 => 349 | 224 => 350 | 267 => 351 | 266 => 359 | 314 => 360 | n => n, fun | 9 => 9 | 4 => 4 | 59 => 248 | 3 => 3 | 5 => 5 | 46 => 223 | 146 => 307 | 51 => 270 | n => n, fun | 1 => 3 | n => n⟩
theorem Tryz.lays145 : Go.Proofs.Lays.n145 Tryz.prog Tryz.lays145_ren := {
  mixed := by kernel_rfl
  f145 := Tryz.func253.trans (congrArg some (by kernel_rfl))
  f217 := Tryz.func348.trans (congrArg some (by kernel_rfl))
  f219 := Tryz.func331.trans (congrArg some (by kernel_rfl))
  f220 := Tryz.func303.trans (congrArg some (by kernel_rfl))
  f224 := Tryz.func350.trans (congrArg some (by kernel_rfl))
  f225 := Tryz.func349.trans (congrArg some (by kernel_rfl))
  f266 := Tryz.func359.trans (congrArg some (by kernel_rfl))
  f267 := Tryz.func351.trans (congrArg some (by kernel_rfl))
  f314 := Tryz.func360.trans (congrArg some (by kernel_rfl))
  t3 := Tryz.underlying3
  a3 := Tryz.isAgg3
  z3 := Tryz.sizeOf3
  v3 := Tryz.zeroValue3
  t4 := Tryz.underlying4
  a4 := Tryz.isAgg4
  z4 := Tryz.sizeOf4
  v4 := Tryz.zeroValue4
  t5 := Tryz.underlying5
  a5 := Tryz.isAgg5
  z5 := Tryz.sizeOf5
  v5 := Tryz.zeroValue5
  t9 := Tryz.underlying9
  a9 := Tryz.isAgg9
  z9 := Tryz.sizeOf9
  v9 := Tryz.zeroValue9
  t46 := Tryz.underlying223
  a46 := Tryz.isAgg223
  z46 := Tryz.sizeOf223
  v46 := Tryz.zeroValue223
  t51 := Tryz.underlying270
  a51 := Tryz.isAgg270
  z51 := Tryz.sizeOf270
  v51 := Tryz.zeroValue270
  t59 := Tryz.underlying248
  a59 := Tryz.isAgg248
  z59 := Tryz.sizeOf248
  v59 := Tryz.zeroValue248
  t146 := Tryz.underlying307
  a146 := Tryz.isAgg307
  z146 := Tryz.sizeOf307
  v146 := Tryz.zeroValue307
  g1 := by kernel_rfl }
open Go.RowKit Go.Lib in
/-- strings.Cut: "Cut slices s around the first instance of sep, returning the text before and after sep. The found result reports whether sep appears in s. If sep does not appear in s, cut returns s, "", false.": IT RETURNS 'Lib.cut s sep'; the world is as it was but for the count of draws. (LAID: no walk: one application.) -/
theorem Tryz.strings_Cut (s sep : ByteArray) (m : Int) (w : World) (hs : s.size < 4294967281) (hm : w.cell? ⟨3, 0, none⟩ = some (.int .i64 m)) :
    Calls Tryz.prog 253 #[.string s, .string sep] w fun e w' => e = .returned (.tuple #[.string ⟨(Lib.cut s.data.toList sep.data.toList).1.toArray⟩, .string ⟨(Lib.cut s.data.toList sep.data.toList).2.1.toArray⟩, .bool (Lib.cut s.data.toList sep.data.toList).2.2]) ∧ ∃ n, w' = w.drewN n := Any.strings_Cut Tryz.lays145 s sep m w hs hm
def Tryz.lays105_ren : Go.Shelf.Ren := ⟨fun | 105 => 227 | 212 => 280 | 99 => 281 | 165 => 282 | 166 => 234 | 170 => 283 | 169 => 236 | 263 => 320 | 264 => 321 | 206 => 322 | 240 => 286 | 241 => 323 | 276 => 324 | 277 => 344 | n => n, fun | 9 => 9 | 3 => 3 | 4 => 4 | 20 => 20 | 0 => 0 | 46 => 223 | 109 => 273 | 5 => 5 | 72 => 236 | 76 => 238 | 51 => 270 | 146 => 307 | 53 => 198 | 148 => 309 | 70 => 234 | 37 => 219 | 75 => 202 | 127 => 279 | 164 => 311 | 80 => 241 | n => n, fun | n => n⟩
theorem Tryz.lays105 : Go.Proofs.Lays.n105 Tryz.prog Tryz.lays105_ren := {
  mixed := by kernel_rfl
  f99 := Tryz.func281.trans (congrArg some (by kernel_rfl))
  f105 := Tryz.func227.trans (congrArg some (by kernel_rfl))
  f165 := Tryz.func282.trans (congrArg some (by kernel_rfl))
  f166 := Tryz.func234.trans (congrArg some (by kernel_rfl))
  f169 := Tryz.func236.trans (congrArg some (by kernel_rfl))
  f170 := Tryz.func283.trans (congrArg some (by kernel_rfl))
  f206 := Tryz.func322.trans (congrArg some (by kernel_rfl))
  f212 := Tryz.func280.trans (congrArg some (by kernel_rfl))
  f240 := Tryz.func286.trans (congrArg some (by kernel_rfl))
  f241 := Tryz.func323.trans (congrArg some (by kernel_rfl))
  f263 := Tryz.func320.trans (congrArg some (by kernel_rfl))
  f264 := Tryz.func321.trans (congrArg some (by kernel_rfl))
  f276 := Tryz.func324.trans (congrArg some (by kernel_rfl))
  f277 := Tryz.func344.trans (congrArg some (by kernel_rfl))
  t0 := Tryz.underlying0
  a0 := Tryz.isAgg0
  z0 := Tryz.sizeOf0
  v0 := Tryz.zeroValue0
  t3 := Tryz.underlying3
  a3 := Tryz.isAgg3
  z3 := Tryz.sizeOf3
  v3 := Tryz.zeroValue3
  t4 := Tryz.underlying4
  a4 := Tryz.isAgg4
  z4 := Tryz.sizeOf4
  v4 := Tryz.zeroValue4
  t5 := Tryz.underlying5
  a5 := Tryz.isAgg5
  z5 := Tryz.sizeOf5
  v5 := Tryz.zeroValue5
  t9 := Tryz.underlying9
  a9 := Tryz.isAgg9
  z9 := Tryz.sizeOf9
  v9 := Tryz.zeroValue9
  t20 := Tryz.underlying20
  a20 := Tryz.isAgg20
  z20 := Tryz.sizeOf20
  v20 := Tryz.zeroValue20
  t37 := Tryz.underlying219
  a37 := Tryz.isAgg219
  z37 := Tryz.sizeOf219
  v37 := Tryz.zeroValue219
  t46 := Tryz.underlying223
  a46 := Tryz.isAgg223
  z46 := Tryz.sizeOf223
  v46 := Tryz.zeroValue223
  t51 := Tryz.underlying270
  a51 := Tryz.isAgg270
  z51 := Tryz.sizeOf270
  v51 := Tryz.zeroValue270
  t53 := Tryz.underlying198
  a53 := Tryz.isAgg198
  z53 := Tryz.sizeOf198
  v53 := Tryz.zeroValue198
  t70 := Tryz.underlying234
  a70 := Tryz.isAgg234
  z70 := Tryz.sizeOf234
  v70 := Tryz.zeroValue234
  t72 := Tryz.underlying236
  a72 := Tryz.isAgg236
  z72 := Tryz.sizeOf236
  v72 := Tryz.zeroValue236
  t75 := Tryz.underlying202
  a75 := Tryz.isAgg202
  z75 := Tryz.sizeOf202
  v75 := Tryz.zeroValue202
  t76 := Tryz.underlying238
  a76 := Tryz.isAgg238
  z76 := Tryz.sizeOf238
  v76 := Tryz.zeroValue238
  t109 := Tryz.underlying273
  a109 := Tryz.isAgg273
  z109 := Tryz.sizeOf273
  v109 := Tryz.zeroValue273
  t127 := Tryz.underlying279
  a127 := Tryz.isAgg279
  z127 := Tryz.sizeOf279
  v127 := Tryz.zeroValue279
  t146 := Tryz.underlying307
  a146 := Tryz.isAgg307
  z146 := Tryz.sizeOf307
  v146 := Tryz.zeroValue307
  t148 := Tryz.underlying309
  a148 := Tryz.isAgg309
  z148 := Tryz.sizeOf309
  v148 := Tryz.zeroValue309
  t164 := Tryz.underlying311
  a164 := Tryz.isAgg311
  z164 := Tryz.sizeOf311
  v164 := Tryz.zeroValue311 }
theorem Tryz.Builder_Extra_105 : Builder.Extra Tryz.prog Tryz.lays105_ren := {
  sizeBuilder := by kernel_rfl
  liesBuilder := by kernel_rfl
  t5 := Tryz.underlying5
  a5 := Tryz.isAgg5
  z5 := Tryz.sizeOf5
  v5 := Tryz.zeroValue5
  infoByte := by kernel_rfl
  cellsByte := by kernel_rfl
  sizeByte := by kernel_rfl
  neB5 := by decide }
open Go.RowKit Go.Lib in
/-- **strings.Repeat: count ≥ 0, the result within one allocation: count copies of s.** (LAID: no walk: one application.) -/
theorem Tryz.strings_Repeat (s : ByteArray) (c : Nat) (w : World) (hc : c ≤ 9223372036854775807) (hlen : s.size * c ≤ 140737488355328) :
    Calls Tryz.prog 227 #[.string s, .int .i64 c] w fun e w' => e = .returned (.string ⟨(Lib.repeatL s.data.toList c).toArray⟩) ∧ Below w.heap.size w w' := Any.strings_Repeat Tryz.lays105 Tryz.Builder_Extra_105 s c w hc hlen
def Tryz.lays107_ren : Go.Shelf.Ren := ⟨fun | 107 => 265 | 108 => 312 | n => n, fun | 28 => 190 | 3 => 3 | 4 => 4 | 0 => 0 | n => n, fun | n => n⟩
theorem Tryz.lays107 : Go.Proofs.Lays.n107 Tryz.prog Tryz.lays107_ren := {
  mixed := by kernel_rfl
  f107 := Tryz.func265.trans (congrArg some (by kernel_rfl))
  f108 := Tryz.func312.trans (congrArg some (by kernel_rfl))
  t0 := Tryz.underlying0
  a0 := Tryz.isAgg0
  z0 := Tryz.sizeOf0
  v0 := Tryz.zeroValue0
  t3 := Tryz.underlying3
  a3 := Tryz.isAgg3
  z3 := Tryz.sizeOf3
  v3 := Tryz.zeroValue3
  t4 := Tryz.underlying4
  a4 := Tryz.isAgg4
  z4 := Tryz.sizeOf4
  v4 := Tryz.zeroValue4
  t28 := Tryz.underlying190
  a28 := Tryz.isAgg190
  z28 := Tryz.sizeOf190
  v28 := Tryz.zeroValue190 }
open Go.Lib in
/-- slices.Contains at []int: "Contains reports whether v is present in s.": IT RETURNS 'elements.contains v'; the world is as it was. ITS CALLEE slices.Index IS MET BY ITS OWN CONTRACT OFF THE SHELF (lay that first): no loop is walked here. (LAID: no walk: one application.) -/
theorem Tryz.slices_Contains_int (b off n c : Nat) (zs : List Int) (x : Int) (w : World) (hz : n ≤ zs.length) (hbig : n ≤ 9223372036854775807) (hc : ∀ j, j < zs.length → w.cell? ⟨b, off + j, none⟩ = some (.int .i64 (zs.getD j 0))) :
    Calls Tryz.prog 265 #[.slice (some ⟨b, off, none⟩) n c, .int .i64 x] w fun e w' => e = .returned (.bool ((zs.take n).contains x)) ∧ w' = w := Any.slices_Contains_int Tryz.lays107 b off n c zs x w hz hbig hc
end Go.Proofs
