/-
  DERIVED: THE SHELF's CONTRACTS AT THIS DUMP,IN PLAIN WORDS (tools/lay-plain.mjs out of 'TryzDsortLay.lean',which tools/lay-shelf.mjs wrote): THE SAME DECLARATIONS UNDER THE SAME NAMES: 'import','namespace','open','def','theorem' AND NOTHING ELSE: no command of the shelf's: FOR A HAND-IN. Each laying: the table of numbers ('.._ren') and one theorem,a field a fact of the dump's own or the kernel's comparison;each contract: ONE APPLICATION.
-/
import Derived.Shelf.SortM.Plain
import Derived.Shelf.SortM.SortNone
import Derived.Ground.SlgmProg
import Derived.Test.YtcnmoobojdopgaaGreatDoorProg
set_option linter.unusedVariables false
set_option linter.unusedSimpArgs false
namespace Go.Proofs
open Go.Shelf
def Tryz.laysSort_ren:Go.Shelf.Ren:=⟨fun|5=>155|8=>220|7=>219|19=>272|20=>273|10=>263|11=>264|12=>265|13=>266|14=>267|15=>268|16=>269|17=>270|18=>271|30=>299|31=>300|32=>301|33=>302|34=>303|35=>304|40=>324|n=>n,fun|23=>184|25=>22|3=>3|32=>228|22=>184|0=>0|44=>274|46=>171|4=>4|36=>267|35=>266|41=>66|5=>5|9=>9|53=>299|57=>303|63=>321|64=>322|n=>n,fun|n=>n⟩
theorem Tryz.laysSort:Go.Proofs.SlLaysM.n5 Tryz.prog Tryz.laysSort_ren:={
  mixed:=by kernel_rfl
  f5:=⟨Tryz.f155.name,by decide,Tryz.func155.trans (congrArg some (by kernel_rfl))⟩
  f7:=⟨Tryz.f219.name,by decide,Tryz.func219.trans (congrArg some (by kernel_rfl))⟩
  f8:=Tryz.func220.trans (congrArg some (by kernel_rfl))
  f10:=⟨Tryz.f263.name,by decide,Tryz.func263.trans (congrArg some (by kernel_rfl))⟩
  f11:=⟨Tryz.f264.name,by decide,Tryz.func264.trans (congrArg some (by kernel_rfl))⟩
  f12:=⟨Tryz.f265.name,by decide,Tryz.func265.trans (congrArg some (by kernel_rfl))⟩
  f13:=⟨Tryz.f266.name,by decide,Tryz.func266.trans (congrArg some (by kernel_rfl))⟩
  f14:=⟨Tryz.f267.name,by decide,Tryz.func267.trans (congrArg some (by kernel_rfl))⟩
  f15:=⟨Tryz.f268.name,by decide,Tryz.func268.trans (congrArg some (by kernel_rfl))⟩
  f16:=⟨Tryz.f269.name,by decide,Tryz.func269.trans (congrArg some (by kernel_rfl))⟩
  f17:=⟨Tryz.f270.name,by decide,Tryz.func270.trans (congrArg some (by kernel_rfl))⟩
  f18:=⟨Tryz.f271.name,by decide,Tryz.func271.trans (congrArg some (by kernel_rfl))⟩
  f19:=Tryz.func272.trans (congrArg some (by kernel_rfl))
  f20:=Tryz.func273.trans (congrArg some (by kernel_rfl))
  f30:=⟨Tryz.f299.name,by decide,Tryz.func299.trans (congrArg some (by kernel_rfl))⟩
  f31:=Tryz.func300.trans (congrArg some (by kernel_rfl))
  f32:=Tryz.func301.trans (congrArg some (by kernel_rfl))
  f33:=⟨Tryz.f302.name,by decide,Tryz.func302.trans (congrArg some (by kernel_rfl))⟩
  f34:=⟨Tryz.f303.name,by decide,Tryz.func303.trans (congrArg some (by kernel_rfl))⟩
  f35:=⟨Tryz.f304.name,by decide,Tryz.func304.trans (congrArg some (by kernel_rfl))⟩
  f40:=⟨Tryz.f324.name,by decide,Tryz.func324.trans (congrArg some (by kernel_rfl))⟩
  t0:=Tryz.underlying0
  a0:=Tryz.isAgg0
  z0:=Tryz.sizeOf0
  v0:=Tryz.zeroValue0
  t3:=Tryz.underlying3
  a3:=Tryz.isAgg3
  z3:=Tryz.sizeOf3
  v3:=Tryz.zeroValue3
  t4:=Tryz.underlying4
  a4:=Tryz.isAgg4
  z4:=Tryz.sizeOf4
  v4:=Tryz.zeroValue4
  t5:=Tryz.underlying5
  a5:=Tryz.isAgg5
  z5:=Tryz.sizeOf5
  v5:=Tryz.zeroValue5
  t9:=Tryz.underlying9
  a9:=Tryz.isAgg9
  z9:=Tryz.sizeOf9
  v9:=Tryz.zeroValue9
  t22:=Tryz.underlying184
  a22:=Tryz.isAgg184
  z22:=Tryz.sizeOf184
  v22:=Tryz.zeroValue184
  t23:=Tryz.underlying184
  a23:=Tryz.isAgg184
  z23:=Tryz.sizeOf184
  v23:=Tryz.zeroValue184
  t25:=Tryz.underlying22
  a25:=Tryz.isAgg22
  z25:=Tryz.sizeOf22
  v25:=Tryz.zeroValue22
  t32:=Tryz.underlying228
  a32:=Tryz.isAgg228
  z32:=Tryz.sizeOf228
  v32:=Tryz.zeroValue228
  t35:=Tryz.underlying266
  a35:=Tryz.isAgg266
  z35:=Tryz.sizeOf266
  v35:=Tryz.zeroValue266
  t36:=Tryz.underlying267
  a36:=Tryz.isAgg267
  z36:=Tryz.sizeOf267
  v36:=Tryz.zeroValue267
  t41:=Tryz.underlying66
  a41:=Tryz.isAgg66
  z41:=Tryz.sizeOf66
  v41:=Tryz.zeroValue66
  t44:=Tryz.underlying274
  a44:=Tryz.isAgg274
  z44:=Tryz.sizeOf274
  v44:=Tryz.zeroValue274
  t46:=Tryz.underlying171
  a46:=Tryz.isAgg171
  z46:=Tryz.sizeOf171
  v46:=Tryz.zeroValue171
  t53:=Tryz.underlying299
  a53:=Tryz.isAgg299
  z53:=Tryz.sizeOf299
  v53:=Tryz.zeroValue299
  t57:=Tryz.underlying303
  a57:=Tryz.isAgg303
  z57:=Tryz.sizeOf303
  v57:=Tryz.zeroValue303
  t63:=Tryz.underlying321
  a63:=Tryz.isAgg321
  z63:=Tryz.sizeOf321
  v63:=Tryz.zeroValue321
  t64:=Tryz.underlying322
  a64:=Tryz.isAgg322
  z64:=Tryz.sizeOf322
  v64:=Tryz.zeroValue322}
open Go.RowKit Go.Sort
theorem Tryz.sortDays(blk off cap:Nat)(zs:List Int)(w:World)(hH:Holds (Value.int .i64) w blk off zs.toArray)(hblk:blk<w.heap.size)(hsz:zs.length<4611686018427387904):
    Calls Tryz.prog 155 #[.slice (some ⟨blk,off,none⟩) zs.length cap] w fun e w' =>
      e=.returned (.tuple #[])∧∃n os,w'=grow (putRow (Value.int .i64) (Sort.ahead w n) blk off (zs.mergeSort fun x y=>decide (x≤y)).toArray) os:=AnyM.slices_Sort_int Tryz.laysSort blk off cap zs w hH hblk hsz
end Go.Proofs
