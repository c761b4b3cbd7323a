/-
  DERIVED: THE SHELF's CONTRACTS AT THIS DUMP, IN PLAIN WORDS (tools/lay-plain.mjs out of 'TryzDsortLay.lean', which tools/lay-shelf.mjs wrote): THE SAME DECLARATIONS UNDER THE SAME NAMES: 'import', 'namespace', 'open', 'def', 'theorem' AND NOTHING ELSE: no command of the shelf's: FOR A HAND-IN. Each laying: the table of numbers ('.._ren') and one theorem, a field a fact of the dump's own or the kernel's comparison; each contract: ONE APPLICATION.
-/
import Derived.Shelf.SortM.Plain
import Derived.Shelf.SortM.SortNone
import Derived.Ground.SlgmProg
import Derived.Test.YtnnjgpgccifknaaGreatDoorProg
set_option linter.unusedVariables false
set_option linter.unusedSimpArgs false
namespace Go.Proofs
open Go.Shelf
def Tryz.laysSort_ren : Go.Shelf.Ren := ⟨fun | 5 => 160 | 8 => 217 | 7 => 216 | 19 => 276 | 20 => 277 | 10 => 267 | 11 => 268 | 12 => 269 | 13 => 270 | 14 => 271 | 15 => 272 | 16 => 273 | 17 => 274 | 18 => 275 | 30 => 313 | 31 => 314 | 32 => 315 | 33 => 316 | 34 => 317 | 35 => 318 | 40 => 343 | n => n, fun | 23 => 176 | 25 => 22 | 3 => 3 | 32 => 223 | 22 => 176 | 0 => 0 | 44 => 270 | 46 => 198 | 4 => 4 | 36 => 263 | 35 => 262 | 41 => 77 | 5 => 5 | 9 => 9 | 53 => 301 | 57 => 305 | 63 => 330 | 64 => 331 | n => n, fun | n => n⟩
theorem Tryz.laysSort : Go.Proofs.SlLaysM.n5 Tryz.prog Tryz.laysSort_ren := {
  mixed := by kernel_rfl
  f5 := ⟨Tryz.f160.name, by decide, Tryz.func160.trans (congrArg some (by kernel_rfl))⟩
  f7 := ⟨Tryz.f216.name, by decide, Tryz.func216.trans (congrArg some (by kernel_rfl))⟩
  f8 := Tryz.func217.trans (congrArg some (by kernel_rfl))
  f10 := ⟨Tryz.f267.name, by decide, Tryz.func267.trans (congrArg some (by kernel_rfl))⟩
  f11 := ⟨Tryz.f268.name, by decide, Tryz.func268.trans (congrArg some (by kernel_rfl))⟩
  f12 := ⟨Tryz.f269.name, by decide, Tryz.func269.trans (congrArg some (by kernel_rfl))⟩
  f13 := ⟨Tryz.f270.name, by decide, Tryz.func270.trans (congrArg some (by kernel_rfl))⟩
  f14 := ⟨Tryz.f271.name, by decide, Tryz.func271.trans (congrArg some (by kernel_rfl))⟩
  f15 := ⟨Tryz.f272.name, by decide, Tryz.func272.trans (congrArg some (by kernel_rfl))⟩
  f16 := ⟨Tryz.f273.name, by decide, Tryz.func273.trans (congrArg some (by kernel_rfl))⟩
  f17 := ⟨Tryz.f274.name, by decide, Tryz.func274.trans (congrArg some (by kernel_rfl))⟩
  f18 := ⟨Tryz.f275.name, by decide, Tryz.func275.trans (congrArg some (by kernel_rfl))⟩
  f19 := Tryz.func276.trans (congrArg some (by kernel_rfl))
  f20 := Tryz.func277.trans (congrArg some (by kernel_rfl))
  f30 := ⟨Tryz.f313.name, by decide, Tryz.func313.trans (congrArg some (by kernel_rfl))⟩
  f31 := Tryz.func314.trans (congrArg some (by kernel_rfl))
  f32 := Tryz.func315.trans (congrArg some (by kernel_rfl))
  f33 := ⟨Tryz.f316.name, by decide, Tryz.func316.trans (congrArg some (by kernel_rfl))⟩
  f34 := ⟨Tryz.f317.name, by decide, Tryz.func317.trans (congrArg some (by kernel_rfl))⟩
  f35 := ⟨Tryz.f318.name, by decide, Tryz.func318.trans (congrArg some (by kernel_rfl))⟩
  f40 := ⟨Tryz.f343.name, by decide, Tryz.func343.trans (congrArg some (by kernel_rfl))⟩
  t0 := Tryz.underlying0
  a0 := Tryz.isAgg0
  z0 := Tryz.sizeOf0
  v0 := Tryz.zeroValue0
  t3 := Tryz.underlying3
  a3 := Tryz.isAgg3
  z3 := Tryz.sizeOf3
  v3 := Tryz.zeroValue3
  t4 := Tryz.underlying4
  a4 := Tryz.isAgg4
  z4 := Tryz.sizeOf4
  v4 := Tryz.zeroValue4
  t5 := Tryz.underlying5
  a5 := Tryz.isAgg5
  z5 := Tryz.sizeOf5
  v5 := Tryz.zeroValue5
  t9 := Tryz.underlying9
  a9 := Tryz.isAgg9
  z9 := Tryz.sizeOf9
  v9 := Tryz.zeroValue9
  t22 := Tryz.underlying176
  a22 := Tryz.isAgg176
  z22 := Tryz.sizeOf176
  v22 := Tryz.zeroValue176
  t23 := Tryz.underlying176
  a23 := Tryz.isAgg176
  z23 := Tryz.sizeOf176
  v23 := Tryz.zeroValue176
  t25 := Tryz.underlying22
  a25 := Tryz.isAgg22
  z25 := Tryz.sizeOf22
  v25 := Tryz.zeroValue22
  t32 := Tryz.underlying223
  a32 := Tryz.isAgg223
  z32 := Tryz.sizeOf223
  v32 := Tryz.zeroValue223
  t35 := Tryz.underlying262
  a35 := Tryz.isAgg262
  z35 := Tryz.sizeOf262
  v35 := Tryz.zeroValue262
  t36 := Tryz.underlying263
  a36 := Tryz.isAgg263
  z36 := Tryz.sizeOf263
  v36 := Tryz.zeroValue263
  t41 := Tryz.underlying77
  a41 := Tryz.isAgg77
  z41 := Tryz.sizeOf77
  v41 := Tryz.zeroValue77
  t44 := Tryz.underlying270
  a44 := Tryz.isAgg270
  z44 := Tryz.sizeOf270
  v44 := Tryz.zeroValue270
  t46 := Tryz.underlying198
  a46 := Tryz.isAgg198
  z46 := Tryz.sizeOf198
  v46 := Tryz.zeroValue198
  t53 := Tryz.underlying301
  a53 := Tryz.isAgg301
  z53 := Tryz.sizeOf301
  v53 := Tryz.zeroValue301
  t57 := Tryz.underlying305
  a57 := Tryz.isAgg305
  z57 := Tryz.sizeOf305
  v57 := Tryz.zeroValue305
  t63 := Tryz.underlying330
  a63 := Tryz.isAgg330
  z63 := Tryz.sizeOf330
  v63 := Tryz.zeroValue330
  t64 := Tryz.underlying331
  a64 := Tryz.isAgg331
  z64 := Tryz.sizeOf331
  v64 := Tryz.zeroValue331 }
open Go.RowKit Go.Sort
theorem Tryz.sortDays (blk off cap : Nat) (zs : List Int) (w : World) (hH : Holds (Value.int .i64) w blk off zs.toArray) (hblk : blk < w.heap.size) (hsz : zs.length < 4611686018427387904) :
    Calls Tryz.prog 160 #[.slice (some ⟨blk, off, none⟩) zs.length cap] w fun e w' =>
      e = .returned (.tuple #[]) ∧ ∃ n os, w' = grow (putRow (Value.int .i64) (Sort.ahead w n) blk off (zs.mergeSort fun x y => decide (x ≤ y)).toArray) os := AnyM.slices_Sort_int Tryz.laysSort blk off cap zs w hH hblk hsz
end Go.Proofs
