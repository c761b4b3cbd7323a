/-
  DERIVED: THE SHELF's CONTRACTS AT THIS DUMP, IN PLAIN WORDS (tools/lay-plain.mjs out of 'TryzIterLay.lean', which tools/lay-shelf.mjs wrote): THE SAME DECLARATIONS UNDER THE SAME NAMES: 'import', 'namespace', 'open', 'def', 'theorem' AND NOTHING ELSE: no command of the shelf's: FOR A HAND-IN. Each laying: the table of numbers ('.._ren') and one theorem, a field a fact of the dump's own or the kernel's comparison; each contract: ONE APPLICATION.
-/
import Derived.Shelf.SlIter.Nil
import Derived.Shelf.SortM.Plain
import Derived.Shelf.SortM.SortNone
import Derived.Ground.GgzProg
import Derived.Ground.SlgmProg
import Derived.Test.YthmfkgcoocikjaaGreatDoorProg
set_option linter.unusedVariables false
set_option linter.unusedSimpArgs false
namespace Go.Proofs
open Go.Shelf
def Tryz.keys50_ren : Go.Shelf.Ren := ⟨fun | 7 => 50 | 10 => 93 | n => n, fun | 23 => 70 | 26 => 9 | 3 => 53 | 28 => 74 | 0 => 0 | 27 => 73 | 33 => 97 | 4 => 4 | n => n, fun | n => n⟩
theorem Tryz.keys50 : Go.Proofs.SlLaysZ.n7 Tryz.prog Tryz.keys50_ren := {
  mixed := by kernel_rfl
  f7 := ⟨Tryz.f50.name, by decide, Tryz.func50.trans (congrArg some (by kernel_rfl))⟩
  f10 := ⟨Tryz.f93.name, by decide, Tryz.func93.trans (congrArg some (by kernel_rfl))⟩
  t0 := Tryz.underlying0
  a0 := Tryz.isAgg0
  z0 := Tryz.sizeOf0
  v0 := Tryz.zeroValue0
  t4 := Tryz.underlying4
  a4 := Tryz.isAgg4
  z4 := Tryz.sizeOf4
  v4 := Tryz.zeroValue4
  t23 := Tryz.underlying70
  a23 := Tryz.isAgg70
  z23 := Tryz.sizeOf70
  v23 := Tryz.zeroValue70
  t26 := Tryz.underlying9
  a26 := Tryz.isAgg9
  z26 := Tryz.sizeOf9
  v26 := Tryz.zeroValue9
  t27 := Tryz.underlying73
  a27 := Tryz.isAgg73
  z27 := Tryz.sizeOf73
  v27 := Tryz.zeroValue73
  t28 := Tryz.underlying74
  a28 := Tryz.isAgg74
  z28 := Tryz.sizeOf74
  v28 := Tryz.zeroValue74
  t33 := Tryz.underlying97
  a33 := Tryz.isAgg97
  z33 := Tryz.sizeOf97
  v33 := Tryz.zeroValue97 }
def Tryz.sorted49_ren : Go.Shelf.Ren := ⟨fun | 6 => 49 | 8 => 91 | 9 => 92 | 11 => 129 | 13 => 131 | 12 => 130 | 23 => 168 | 24 => 169 | 14 => 159 | 15 => 160 | 16 => 161 | 17 => 162 | 18 => 163 | 19 => 164 | 20 => 165 | 21 => 166 | 22 => 167 | 25 => 206 | 26 => 207 | 27 => 208 | 28 => 209 | 29 => 210 | 30 => 211 | 31 => 235 | n => n, fun | 26 => 9 | 28 => 74 | 24 => 71 | 0 => 0 | 3 => 3 | 37 => 150 | 48 => 173 | 50 => 125 | 4 => 4 | 40 => 167 | 39 => 166 | 45 => 59 | 5 => 5 | 9 => 9 | 51 => 208 | 55 => 212 | 57 => 231 | 58 => 232 | 33 => 97 | n => n, fun | n => n⟩
theorem Tryz.sorted49 : Go.Proofs.SlLaysZ.n6 Tryz.prog Tryz.sorted49_ren := {
  mixed := by kernel_rfl
  f6 := ⟨Tryz.f49.name, by decide, Tryz.func49.trans (congrArg some (by kernel_rfl))⟩
  f8 := ⟨Tryz.f91.name, by decide, Tryz.func91.trans (congrArg some (by kernel_rfl))⟩
  f11 := ⟨Tryz.f129.name, by decide, Tryz.func129.trans (congrArg some (by kernel_rfl))⟩
  t0 := Tryz.underlying0
  a0 := Tryz.isAgg0
  z0 := Tryz.sizeOf0
  v0 := Tryz.zeroValue0
  t24 := Tryz.underlying71
  a24 := Tryz.isAgg71
  z24 := Tryz.sizeOf71
  v24 := Tryz.zeroValue71
  t26 := Tryz.underlying9
  a26 := Tryz.isAgg9
  z26 := Tryz.sizeOf9
  v26 := Tryz.zeroValue9
  t28 := Tryz.underlying74
  a28 := Tryz.isAgg74
  z28 := Tryz.sizeOf74
  v28 := Tryz.zeroValue74
  i26 := by kernel_rfl }
def Tryz.sort92_ren : Go.Shelf.Ren := ⟨fun | 6 => 92 | 8 => 131 | 9 => 130 | 19 => 168 | 20 => 169 | 21 => 159 | 22 => 160 | 23 => 161 | 24 => 162 | 25 => 163 | 26 => 164 | 27 => 165 | 28 => 166 | 29 => 167 | 36 => 206 | 31 => 207 | 32 => 208 | 37 => 209 | 38 => 210 | 39 => 211 | 41 => 235 | n => n, fun | 27 => 71 | 29 => 9 | 3 => 3 | 32 => 150 | 26 => 71 | 0 => 0 | 44 => 173 | 46 => 125 | 4 => 4 | 36 => 167 | 35 => 166 | 41 => 59 | 5 => 5 | 9 => 9 | 53 => 208 | 57 => 212 | 63 => 231 | 64 => 232 | n => n, fun | n => n⟩
theorem Tryz.sort92 : Go.Proofs.SlLaysM.n6 Tryz.prog Tryz.sort92_ren := {
  mixed := by kernel_rfl
  f6 := ⟨Tryz.f92.name, by decide, Tryz.func92.trans (congrArg some (by kernel_rfl))⟩
  f8 := Tryz.func131.trans (congrArg some (by kernel_rfl))
  f9 := ⟨Tryz.f130.name, by decide, Tryz.func130.trans (congrArg some (by kernel_rfl))⟩
  f19 := Tryz.func168.trans (congrArg some (by kernel_rfl))
  f20 := Tryz.func169.trans (congrArg some (by kernel_rfl))
  f21 := ⟨Tryz.f159.name, by decide, Tryz.func159.trans (congrArg some (by kernel_rfl))⟩
  f22 := ⟨Tryz.f160.name, by decide, Tryz.func160.trans (congrArg some (by kernel_rfl))⟩
  f23 := ⟨Tryz.f161.name, by decide, Tryz.func161.trans (congrArg some (by kernel_rfl))⟩
  f24 := ⟨Tryz.f162.name, by decide, Tryz.func162.trans (congrArg some (by kernel_rfl))⟩
  f25 := ⟨Tryz.f163.name, by decide, Tryz.func163.trans (congrArg some (by kernel_rfl))⟩
  f26 := ⟨Tryz.f164.name, by decide, Tryz.func164.trans (congrArg some (by kernel_rfl))⟩
  f27 := ⟨Tryz.f165.name, by decide, Tryz.func165.trans (congrArg some (by kernel_rfl))⟩
  f28 := ⟨Tryz.f166.name, by decide, Tryz.func166.trans (congrArg some (by kernel_rfl))⟩
  f29 := ⟨Tryz.f167.name, by decide, Tryz.func167.trans (congrArg some (by kernel_rfl))⟩
  f31 := Tryz.func207.trans (congrArg some (by kernel_rfl))
  f32 := Tryz.func208.trans (congrArg some (by kernel_rfl))
  f36 := ⟨Tryz.f206.name, by decide, Tryz.func206.trans (congrArg some (by kernel_rfl))⟩
  f37 := ⟨Tryz.f209.name, by decide, Tryz.func209.trans (congrArg some (by kernel_rfl))⟩
  f38 := ⟨Tryz.f210.name, by decide, Tryz.func210.trans (congrArg some (by kernel_rfl))⟩
  f39 := ⟨Tryz.f211.name, by decide, Tryz.func211.trans (congrArg some (by kernel_rfl))⟩
  f41 := ⟨Tryz.f235.name, by decide, Tryz.func235.trans (congrArg some (by kernel_rfl))⟩
  t0 := Tryz.underlying0
  a0 := Tryz.isAgg0
  z0 := Tryz.sizeOf0
  v0 := Tryz.zeroValue0
  t3 := Tryz.underlying3
  a3 := Tryz.isAgg3
  z3 := Tryz.sizeOf3
  v3 := Tryz.zeroValue3
  t4 := Tryz.underlying4
  a4 := Tryz.isAgg4
  z4 := Tryz.sizeOf4
  v4 := Tryz.zeroValue4
  t5 := Tryz.underlying5
  a5 := Tryz.isAgg5
  z5 := Tryz.sizeOf5
  v5 := Tryz.zeroValue5
  t9 := Tryz.underlying9
  a9 := Tryz.isAgg9
  z9 := Tryz.sizeOf9
  v9 := Tryz.zeroValue9
  t26 := Tryz.underlying71
  a26 := Tryz.isAgg71
  z26 := Tryz.sizeOf71
  v26 := Tryz.zeroValue71
  t27 := Tryz.underlying71
  a27 := Tryz.isAgg71
  z27 := Tryz.sizeOf71
  v27 := Tryz.zeroValue71
  t29 := Tryz.underlying9
  a29 := Tryz.isAgg9
  z29 := Tryz.sizeOf9
  v29 := Tryz.zeroValue9
  t32 := Tryz.underlying150
  a32 := Tryz.isAgg150
  z32 := Tryz.sizeOf150
  v32 := Tryz.zeroValue150
  t35 := Tryz.underlying166
  a35 := Tryz.isAgg166
  z35 := Tryz.sizeOf166
  v35 := Tryz.zeroValue166
  t36 := Tryz.underlying167
  a36 := Tryz.isAgg167
  z36 := Tryz.sizeOf167
  v36 := Tryz.zeroValue167
  t41 := Tryz.underlying59
  a41 := Tryz.isAgg59
  z41 := Tryz.sizeOf59
  v41 := Tryz.zeroValue59
  t44 := Tryz.underlying173
  a44 := Tryz.isAgg173
  z44 := Tryz.sizeOf173
  v44 := Tryz.zeroValue173
  t46 := Tryz.underlying125
  a46 := Tryz.isAgg125
  z46 := Tryz.sizeOf125
  v46 := Tryz.zeroValue125
  t53 := Tryz.underlying208
  a53 := Tryz.isAgg208
  z53 := Tryz.sizeOf208
  v53 := Tryz.zeroValue208
  t57 := Tryz.underlying212
  a57 := Tryz.isAgg212
  z57 := Tryz.sizeOf212
  v57 := Tryz.zeroValue212
  t63 := Tryz.underlying231
  a63 := Tryz.isAgg231
  z63 := Tryz.sizeOf231
  v63 := Tryz.zeroValue231
  t64 := Tryz.underlying232
  a64 := Tryz.isAgg232
  z64 := Tryz.sizeOf232
  v64 := Tryz.zeroValue232 }
open Go.RowKit Go.Maps Go.Sort
theorem Tryz.sorts49 (m : Nat) : AnyZ.SortsIn Tryz.prog Tryz.sorted49_ren Fence.wide m :=
  ⟨fun blk off cap ss W hH hblk hsz => callsIn_wide.2 (AnyM.slices_Sort_string Tryz.sort92 blk off cap ss W hH hblk hsz),
   fun p cap W => callsIn_wide.2 (AnyM.slices_Sort_string_none Tryz.sort92 p cap W)⟩

theorem Tryz.maps_Keys_50 (mb : Option Nat) (W : World) : CallsIn Fence.wide 5 Tryz.prog 50 #[.map mb] W fun e w' => e = .returned (.func (.func 93) #[] #[.pointer (some ⟨W.heap.size, 0, none⟩)]) ∧ w' = W.alloc (.cells #[.map mb] 70) :=
  AnyZ.keys_in Tryz.keys50 Fence.wide 5 trivial rfl mb W

set_option maxHeartbeats 1000000 in
theorem Tryz.slices_Sorted_keys_49_50 {H : Type} (b nn : Nat) (D0 : DataW H) (R : Value → Option (DataW H × List MemPlace)) (w : World) (hown : w.ownsMap Tryz.prog 9 R b nn D0) (hmax : Maps.size D0 ≤ maxLen) (hbytes : Maps.size D0 * 16 ≤ 140737488355328) :
    CallsIn Fence.wide 5 Tryz.prog 49 #[.func (.func 93) #[] #[.pointer (some ⟨w.heap.size, 0, none⟩)]] (w.alloc (.cells #[.map (some b)] 70)) fun e w' => ∃ (v : Value) (ss : List (List UInt8)), e = .returned v ∧ ss.Perm (strKeys D0) ∧
      w'.ownsRow (w.alloc (.cells #[.map (some b)] 70)).heap.size 9 1 v ss.length ((ss.mergeSort (fun x y => decide (x ≤ y))).map encStr) ∧ (v = .slice none 0 0 ↔ ss = []) ∧ Below (w.alloc (.cells #[.map (some b)] 70)).heap.size (w.alloc (.cells #[.map (some b)] 70)) w' := by
  have hbl := hown.lt
  have hseq : SeqGives Fence.wide 2 Tryz.prog 93 #[.pointer (some ⟨w.heap.size, 0, none⟩)] encStr (fun ss => ss.Perm (strKeys D0)) (Maps.size D0) (w.alloc (.cells #[.map (some b)] 70)) :=
    AnyZ.keys_gives (ρ := Tryz.keys50_ren) { Tryz.keys50 with } Fence.wide _ trivial rfl (by omega) w.heap.size b nn D0 _ (by simp) (by simp) (by
      obtain ⟨es, clock, hb, Ft, hs, hD⟩ := hown
      exact ⟨es, clock, (Below.heap_alloc _ _ b hbl).trans hb, Ft, hs, hD⟩)
  exact AnyZ.sorted_in Tryz.sorted49 Fence.wide 5 trivial trivial trivial trivial rfl (by omega) (Tryz.sorts49 _) (enters_of Tryz.func92 (by kernel_rfl) rfl) 93 #[.pointer (some ⟨w.heap.size, 0, none⟩)] trivial (enters_of Tryz.func93 (by kernel_rfl) rfl) _ _ hmax hbytes _ hseq

set_option maxHeartbeats 1000000 in
theorem Tryz.slices_Sorted_keys_nil_49_50 (w : World) :
    CallsIn Fence.wide 5 Tryz.prog 49 #[.func (.func 93) #[] #[.pointer (some ⟨w.heap.size, 0, none⟩)]] (w.alloc (.cells #[.map none] 70)) fun e w' => ∃ (v : Value) (ss : List (List UInt8)), e = .returned v ∧ ss = [] ∧
      w'.ownsRow (w.alloc (.cells #[.map none] 70)).heap.size 9 1 v ss.length ((ss.mergeSort (fun x y => decide (x ≤ y))).map encStr) ∧ (v = .slice none 0 0 ↔ ss = []) ∧ Below (w.alloc (.cells #[.map none] 70)).heap.size (w.alloc (.cells #[.map none] 70)) w' := by
  have hseq : SeqGives Fence.wide 2 Tryz.prog 93 #[.pointer (some ⟨w.heap.size, 0, none⟩)] encStr (fun ss : List (List UInt8) => ss = []) 0 (w.alloc (.cells #[.map none] 70)) :=
    AnyZ.keys_gives_nil (ρ := Tryz.keys50_ren) { Tryz.keys50 with } Fence.wide _ trivial rfl w.heap.size _ (by simp) (by simp)
  exact AnyZ.sorted_in Tryz.sorted49 Fence.wide 5 trivial trivial trivial trivial rfl (by omega) (Tryz.sorts49 _) (enters_of Tryz.func92 (by kernel_rfl) rfl) 93 #[.pointer (some ⟨w.heap.size, 0, none⟩)] trivial (enters_of Tryz.func93 (by kernel_rfl) rfl) _ 0 (Nat.zero_le _) (by omega) _ hseq
end Go.Proofs
