/-
  DERIVED: THE SHELF's CONTRACTS AT THIS DUMP, IN PLAIN WORDS (tools/lay-plain.mjs out of 'TryzIterLay.lean', which tools/lay-shelf.mjs wrote): THE SAME DECLARATIONS UNDER THE SAME NAMES: 'import', 'namespace', 'open', 'def', 'theorem' AND NOTHING ELSE: no command of the shelf's: FOR A HAND-IN. Each laying: the table of numbers ('.._ren') and one theorem, a field a fact of the dump's own or the kernel's comparison; each contract: ONE APPLICATION.
-/
import Derived.Shelf.SlIter.Nil
import Derived.Shelf.SortM.Plain
import Derived.Shelf.SortM.SortNone
import Derived.Ground.GgzProg
import Derived.Ground.SlgmProg
import Derived.Test.YtdnmpgoigagjmaaGreatDoorProg
set_option linter.unusedVariables false
set_option linter.unusedSimpArgs false
set_option maxHeartbeats 16000000
set_option maxRecDepth 100000
namespace Go.Proofs
open Go.Shelf
def Tryz.keys121_ren : Go.Shelf.Ren := ⟨fun | 7 => 121 | 10 => 159 | n => n, fun | 23 => 134 | 26 => 9 | 3 => 80 | 28 => 137 | 0 => 0 | 27 => 136 | 33 => 130 | 4 => 4 | n => n, fun | n => n⟩
theorem Tryz.keys121 : Go.Proofs.SlLaysZ.n7 Tryz.prog Tryz.keys121_ren := {
 mixed := by kernel_rfl
 f7 := ⟨Tryz.f121.name, by decide, Tryz.func121.trans (congrArg some (by kernel_rfl))⟩
 f10 := ⟨Tryz.f159.name, by decide, Tryz.func159.trans (congrArg some (by kernel_rfl))⟩
 t0 := Tryz.underlying0
 a0 := Tryz.isAgg0
 z0 := Tryz.sizeOf0
 v0 := Tryz.zeroValue0
 t4 := Tryz.underlying4
 a4 := Tryz.isAgg4
 z4 := Tryz.sizeOf4
 v4 := Tryz.zeroValue4
 t23 := Tryz.underlying134
 a23 := Tryz.isAgg134
 z23 := Tryz.sizeOf134
 v23 := Tryz.zeroValue134
 t26 := Tryz.underlying9
 a26 := Tryz.isAgg9
 z26 := Tryz.sizeOf9
 v26 := Tryz.zeroValue9
 t27 := Tryz.underlying136
 a27 := Tryz.isAgg136
 z27 := Tryz.sizeOf136
 v27 := Tryz.zeroValue136
 t28 := Tryz.underlying137
 a28 := Tryz.isAgg137
 z28 := Tryz.sizeOf137
 v28 := Tryz.zeroValue137
 t33 := Tryz.underlying130
 a33 := Tryz.isAgg130
 z33 := Tryz.sizeOf130
 v33 := Tryz.zeroValue130 }
def Tryz.sorted120_ren : Go.Shelf.Ren := ⟨fun | 6 => 120 | 8 => 157 | 9 => 158 | 11 => 197 | 13 => 199 | 12 => 198 | 23 => 249 | 24 => 250 | 14 => 240 | 15 => 241 | 16 => 242 | 17 => 243 | 18 => 244 | 19 => 245 | 20 => 246 | 21 => 247 | 22 => 248 | 25 => 276 | 26 => 277 | 27 => 278 | 28 => 279 | 29 => 280 | 30 => 281 | 31 => 298 | n => n, fun | 26 => 9 | 28 => 137 | 24 => 122 | 0 => 0 | 3 => 3 | 37 => 188 | 48 => 223 | 50 => 146 | 4 => 4 | 40 => 237 | 39 => 236 | 45 => 45 | 5 => 5 | 9 => 9 | 51 => 264 | 55 => 268 | 57 => 278 | 58 => 279 | 33 => 130 | n => n, fun | n => n⟩
theorem Tryz.sorted120 : Go.Proofs.SlLaysZ.n6 Tryz.prog Tryz.sorted120_ren := {
 mixed := by kernel_rfl
 f6 := ⟨Tryz.f120.name, by decide, Tryz.func120.trans (congrArg some (by kernel_rfl))⟩
 f8 := ⟨Tryz.f157.name, by decide, Tryz.func157.trans (congrArg some (by kernel_rfl))⟩
 f11 := ⟨Tryz.f197.name, by decide, Tryz.func197.trans (congrArg some (by kernel_rfl))⟩
 t0 := Tryz.underlying0
 a0 := Tryz.isAgg0
 z0 := Tryz.sizeOf0
 v0 := Tryz.zeroValue0
 t24 := Tryz.underlying122
 a24 := Tryz.isAgg122
 z24 := Tryz.sizeOf122
 v24 := Tryz.zeroValue122
 t26 := Tryz.underlying9
 a26 := Tryz.isAgg9
 z26 := Tryz.sizeOf9
 v26 := Tryz.zeroValue9
 t28 := Tryz.underlying137
 a28 := Tryz.isAgg137
 z28 := Tryz.sizeOf137
 v28 := Tryz.zeroValue137
 i26 := by kernel_rfl }
def Tryz.sort158_ren : Go.Shelf.Ren := ⟨fun | 6 => 158 | 8 => 199 | 9 => 198 | 19 => 249 | 20 => 250 | 21 => 240 | 22 => 241 | 23 => 242 | 24 => 243 | 25 => 244 | 26 => 245 | 27 => 246 | 28 => 247 | 29 => 248 | 36 => 276 | 31 => 277 | 32 => 278 | 37 => 279 | 38 => 280 | 39 => 281 | 41 => 298 | n => n, fun | 27 => 122 | 29 => 9 | 3 => 3 | 32 => 188 | 26 => 122 | 0 => 0 | 44 => 223 | 46 => 146 | 4 => 4 | 36 => 237 | 35 => 236 | 41 => 45 | 5 => 5 | 9 => 9 | 53 => 264 | 57 => 268 | 63 => 278 | 64 => 279 | n => n, fun | n => n⟩
theorem Tryz.sort158 : Go.Proofs.SlLaysM.n6 Tryz.prog Tryz.sort158_ren := {
 mixed := by kernel_rfl
 f6 := ⟨Tryz.f158.name, by decide, Tryz.func158.trans (congrArg some (by kernel_rfl))⟩
 f8 := Tryz.func199.trans (congrArg some (by kernel_rfl))
 f9 := ⟨Tryz.f198.name, by decide, Tryz.func198.trans (congrArg some (by kernel_rfl))⟩
 f19 := Tryz.func249.trans (congrArg some (by kernel_rfl))
 f20 := Tryz.func250.trans (congrArg some (by kernel_rfl))
 f21 := ⟨Tryz.f240.name, by decide, Tryz.func240.trans (congrArg some (by kernel_rfl))⟩
 f22 := ⟨Tryz.f241.name, by decide, Tryz.func241.trans (congrArg some (by kernel_rfl))⟩
 f23 := ⟨Tryz.f242.name, by decide, Tryz.func242.trans (congrArg some (by kernel_rfl))⟩
 f24 := ⟨Tryz.f243.name, by decide, Tryz.func243.trans (congrArg some (by kernel_rfl))⟩
 f25 := ⟨Tryz.f244.name, by decide, Tryz.func244.trans (congrArg some (by kernel_rfl))⟩
 f26 := ⟨Tryz.f245.name, by decide, Tryz.func245.trans (congrArg some (by kernel_rfl))⟩
 f27 := ⟨Tryz.f246.name, by decide, Tryz.func246.trans (congrArg some (by kernel_rfl))⟩
 f28 := ⟨Tryz.f247.name, by decide, Tryz.func247.trans (congrArg some (by kernel_rfl))⟩
 f29 := ⟨Tryz.f248.name, by decide, Tryz.func248.trans (congrArg some (by kernel_rfl))⟩
 f31 := Tryz.func277.trans (congrArg some (by kernel_rfl))
 f32 := Tryz.func278.trans (congrArg some (by kernel_rfl))
 f36 := ⟨Tryz.f276.name, by decide, Tryz.func276.trans (congrArg some (by kernel_rfl))⟩
 f37 := ⟨Tryz.f279.name, by decide, Tryz.func279.trans (congrArg some (by kernel_rfl))⟩
 f38 := ⟨Tryz.f280.name, by decide, Tryz.func280.trans (congrArg some (by kernel_rfl))⟩
 f39 := ⟨Tryz.f281.name, by decide, Tryz.func281.trans (congrArg some (by kernel_rfl))⟩
 f41 := ⟨Tryz.f298.name, by decide, Tryz.func298.trans (congrArg some (by kernel_rfl))⟩
 t0 := Tryz.underlying0
 a0 := Tryz.isAgg0
 z0 := Tryz.sizeOf0
 v0 := Tryz.zeroValue0
 t3 := Tryz.underlying3
 a3 := Tryz.isAgg3
 z3 := Tryz.sizeOf3
 v3 := Tryz.zeroValue3
 t4 := Tryz.underlying4
 a4 := Tryz.isAgg4
 z4 := Tryz.sizeOf4
 v4 := Tryz.zeroValue4
 t5 := Tryz.underlying5
 a5 := Tryz.isAgg5
 z5 := Tryz.sizeOf5
 v5 := Tryz.zeroValue5
 t9 := Tryz.underlying9
 a9 := Tryz.isAgg9
 z9 := Tryz.sizeOf9
 v9 := Tryz.zeroValue9
 t26 := Tryz.underlying122
 a26 := Tryz.isAgg122
 z26 := Tryz.sizeOf122
 v26 := Tryz.zeroValue122
 t27 := Tryz.underlying122
 a27 := Tryz.isAgg122
 z27 := Tryz.sizeOf122
 v27 := Tryz.zeroValue122
 t29 := Tryz.underlying9
 a29 := Tryz.isAgg9
 z29 := Tryz.sizeOf9
 v29 := Tryz.zeroValue9
 t32 := Tryz.underlying188
 a32 := Tryz.isAgg188
 z32 := Tryz.sizeOf188
 v32 := Tryz.zeroValue188
 t35 := Tryz.underlying236
 a35 := Tryz.isAgg236
 z35 := Tryz.sizeOf236
 v35 := Tryz.zeroValue236
 t36 := Tryz.underlying237
 a36 := Tryz.isAgg237
 z36 := Tryz.sizeOf237
 v36 := Tryz.zeroValue237
 t41 := Tryz.underlying45
 a41 := Tryz.isAgg45
 z41 := Tryz.sizeOf45
 v41 := Tryz.zeroValue45
 t44 := Tryz.underlying223
 a44 := Tryz.isAgg223
 z44 := Tryz.sizeOf223
 v44 := Tryz.zeroValue223
 t46 := Tryz.underlying146
 a46 := Tryz.isAgg146
 z46 := Tryz.sizeOf146
 v46 := Tryz.zeroValue146
 t53 := Tryz.underlying264
 a53 := Tryz.isAgg264
 z53 := Tryz.sizeOf264
 v53 := Tryz.zeroValue264
 t57 := Tryz.underlying268
 a57 := Tryz.isAgg268
 z57 := Tryz.sizeOf268
 v57 := Tryz.zeroValue268
 t63 := Tryz.underlying278
 a63 := Tryz.isAgg278
 z63 := Tryz.sizeOf278
 v63 := Tryz.zeroValue278
 t64 := Tryz.underlying279
 a64 := Tryz.isAgg279
 z64 := Tryz.sizeOf279
 v64 := Tryz.zeroValue279 }
open Go.RowKit Go.Maps Go.Sort
theorem Tryz.sorts120 (m : Nat) : AnyZ.SortsIn Tryz.prog Tryz.sorted120_ren Fence.wide m :=
 ⟨fun blk off cap ss W hH hblk hsz => callsIn_wide.2 (AnyM.slices_Sort_string Tryz.sort158 blk off cap ss W hH hblk hsz),
  fun p cap W => callsIn_wide.2 (AnyM.slices_Sort_string_none Tryz.sort158 p cap W)⟩
theorem Tryz.maps_Keys_121 (mb : Option Nat) (W : World) : CallsIn Fence.wide 5 Tryz.prog 121 #[.map mb] W fun e w' => e = .returned (.func (.func 159) #[] #[.pointer (some ⟨W.heap.size, 0, none⟩)]) ∧ w' = W.alloc (.cells #[.map mb] 134) :=
 AnyZ.keys_in Tryz.keys121 Fence.wide 5 trivial rfl mb W
theorem Tryz.slices_Sorted_keys_120_121 {H : Type} (b nn : Nat) (D0 : DataW H) (R : Value → Option (DataW H × List MemPlace)) (w : World) (hown : w.ownsMap Tryz.prog 9 R b nn D0) (hmax : Maps.size D0 ≤ maxLen) (hbytes : Maps.size D0 * 16 ≤ 140737488355328) :
 CallsIn Fence.wide 5 Tryz.prog 120 #[.func (.func 159) #[] #[.pointer (some ⟨w.heap.size, 0, none⟩)]] (w.alloc (.cells #[.map (some b)] 134)) fun e w' => ∃ (v : Value) (ss : List (List UInt8)), e = .returned v ∧ ss.Perm (strKeys D0) ∧
  w'.ownsRow (w.alloc (.cells #[.map (some b)] 134)).heap.size 9 1 v ss.length ((ss.mergeSort (fun x y => decide (x ≤ y))).map encStr) ∧ (v = .slice none 0 0 ↔ ss = []) ∧ Below (w.alloc (.cells #[.map (some b)] 134)).heap.size (w.alloc (.cells #[.map (some b)] 134)) w' := by
 have hbl := hown.lt
 have hseq : SeqGives Fence.wide 2 Tryz.prog 159 #[.pointer (some ⟨w.heap.size, 0, none⟩)] encStr (fun ss => ss.Perm (strKeys D0)) (Maps.size D0) (w.alloc (.cells #[.map (some b)] 134)) :=
  AnyZ.keys_gives (ρ := Tryz.keys121_ren) { Tryz.keys121 with } Fence.wide _ trivial rfl (by omega) w.heap.size b nn D0 _ (by simp) (by simp) (by
   obtain ⟨es, clock, hb, Ft, hs, hD⟩ := hown
   exact ⟨es, clock, (Below.heap_alloc _ _ b hbl).trans hb, Ft, hs, hD⟩)
 exact AnyZ.sorted_in Tryz.sorted120 Fence.wide 5 trivial trivial trivial trivial rfl (by omega) (Tryz.sorts120 _) (enters_of Tryz.func158 (by kernel_rfl) rfl) 159 #[.pointer (some ⟨w.heap.size, 0, none⟩)] trivial (enters_of Tryz.func159 (by kernel_rfl) rfl) _ _ hmax hbytes _ hseq
end Go.Proofs
