/-
  DERIVED: THE SHELF's CONTRACTS AT THIS DUMP,IN PLAIN WORDS (tools/lay-plain.mjs out of 'TryzDsortLay.lean',which tools/lay-shelf.mjs wrote): THE SAME DECLARATIONS UNDER THE SAME NAMES: 'import','namespace','open','def','theorem' AND NOTHING ELSE: no command of the shelf's: FOR A HAND-IN. Each laying: the table of numbers ('.._ren') and one theorem,a field a fact of the dump's own or the kernel's comparison;each contract: ONE APPLICATION.
-/
import Derived.Shelf.SortM.Plain
import Derived.Shelf.SortM.SortNone
import Derived.Ground.SlgmProg
import Derived.Test.YteennkgpeiafaaaGreatDoorProg
set_option linter.unusedVariables false
set_option linter.unusedSimpArgs false
namespace Go.Proofs
open Go.Shelf
def Tryz.laysSort_ren:Go.Shelf.Ren:=⟨fun|5=>158|8=>215|7=>214|19=>274|20=>275|10=>265|11=>266|12=>267|13=>268|14=>269|15=>270|16=>271|17=>272|18=>273|30=>311|31=>312|32=>313|33=>314|34=>315|35=>316|40=>341|n=>n,fun|23=>174|25=>22|3=>3|32=>221|22=>174|0=>0|44=>268|46=>196|4=>4|36=>261|35=>260|41=>75|5=>5|9=>9|53=>299|57=>303|63=>328|64=>329|n=>n,fun|n=>n⟩
theorem Tryz.laysSort:Go.Proofs.SlLaysM.n5 Tryz.prog Tryz.laysSort_ren:={
  mixed:=by kernel_rfl
  f5:=⟨Tryz.f158.name,by decide,Tryz.func158.trans (congrArg some (by kernel_rfl))⟩
  f7:=⟨Tryz.f214.name,by decide,Tryz.func214.trans (congrArg some (by kernel_rfl))⟩
  f8:=Tryz.func215.trans (congrArg some (by kernel_rfl))
  f10:=⟨Tryz.f265.name,by decide,Tryz.func265.trans (congrArg some (by kernel_rfl))⟩
  f11:=⟨Tryz.f266.name,by decide,Tryz.func266.trans (congrArg some (by kernel_rfl))⟩
  f12:=⟨Tryz.f267.name,by decide,Tryz.func267.trans (congrArg some (by kernel_rfl))⟩
  f13:=⟨Tryz.f268.name,by decide,Tryz.func268.trans (congrArg some (by kernel_rfl))⟩
  f14:=⟨Tryz.f269.name,by decide,Tryz.func269.trans (congrArg some (by kernel_rfl))⟩
  f15:=⟨Tryz.f270.name,by decide,Tryz.func270.trans (congrArg some (by kernel_rfl))⟩
  f16:=⟨Tryz.f271.name,by decide,Tryz.func271.trans (congrArg some (by kernel_rfl))⟩
  f17:=⟨Tryz.f272.name,by decide,Tryz.func272.trans (congrArg some (by kernel_rfl))⟩
  f18:=⟨Tryz.f273.name,by decide,Tryz.func273.trans (congrArg some (by kernel_rfl))⟩
  f19:=Tryz.func274.trans (congrArg some (by kernel_rfl))
  f20:=Tryz.func275.trans (congrArg some (by kernel_rfl))
  f30:=⟨Tryz.f311.name,by decide,Tryz.func311.trans (congrArg some (by kernel_rfl))⟩
  f31:=Tryz.func312.trans (congrArg some (by kernel_rfl))
  f32:=Tryz.func313.trans (congrArg some (by kernel_rfl))
  f33:=⟨Tryz.f314.name,by decide,Tryz.func314.trans (congrArg some (by kernel_rfl))⟩
  f34:=⟨Tryz.f315.name,by decide,Tryz.func315.trans (congrArg some (by kernel_rfl))⟩
  f35:=⟨Tryz.f316.name,by decide,Tryz.func316.trans (congrArg some (by kernel_rfl))⟩
  f40:=⟨Tryz.f341.name,by decide,Tryz.func341.trans (congrArg some (by kernel_rfl))⟩
  t0:=Tryz.underlying0
  a0:=Tryz.isAgg0
  z0:=Tryz.sizeOf0
  v0:=Tryz.zeroValue0
  t3:=Tryz.underlying3
  a3:=Tryz.isAgg3
  z3:=Tryz.sizeOf3
  v3:=Tryz.zeroValue3
  t4:=Tryz.underlying4
  a4:=Tryz.isAgg4
  z4:=Tryz.sizeOf4
  v4:=Tryz.zeroValue4
  t5:=Tryz.underlying5
  a5:=Tryz.isAgg5
  z5:=Tryz.sizeOf5
  v5:=Tryz.zeroValue5
  t9:=Tryz.underlying9
  a9:=Tryz.isAgg9
  z9:=Tryz.sizeOf9
  v9:=Tryz.zeroValue9
  t22:=Tryz.underlying174
  a22:=Tryz.isAgg174
  z22:=Tryz.sizeOf174
  v22:=Tryz.zeroValue174
  t23:=Tryz.underlying174
  a23:=Tryz.isAgg174
  z23:=Tryz.sizeOf174
  v23:=Tryz.zeroValue174
  t25:=Tryz.underlying22
  a25:=Tryz.isAgg22
  z25:=Tryz.sizeOf22
  v25:=Tryz.zeroValue22
  t32:=Tryz.underlying221
  a32:=Tryz.isAgg221
  z32:=Tryz.sizeOf221
  v32:=Tryz.zeroValue221
  t35:=Tryz.underlying260
  a35:=Tryz.isAgg260
  z35:=Tryz.sizeOf260
  v35:=Tryz.zeroValue260
  t36:=Tryz.underlying261
  a36:=Tryz.isAgg261
  z36:=Tryz.sizeOf261
  v36:=Tryz.zeroValue261
  t41:=Tryz.underlying75
  a41:=Tryz.isAgg75
  z41:=Tryz.sizeOf75
  v41:=Tryz.zeroValue75
  t44:=Tryz.underlying268
  a44:=Tryz.isAgg268
  z44:=Tryz.sizeOf268
  v44:=Tryz.zeroValue268
  t46:=Tryz.underlying196
  a46:=Tryz.isAgg196
  z46:=Tryz.sizeOf196
  v46:=Tryz.zeroValue196
  t53:=Tryz.underlying299
  a53:=Tryz.isAgg299
  z53:=Tryz.sizeOf299
  v53:=Tryz.zeroValue299
  t57:=Tryz.underlying303
  a57:=Tryz.isAgg303
  z57:=Tryz.sizeOf303
  v57:=Tryz.zeroValue303
  t63:=Tryz.underlying328
  a63:=Tryz.isAgg328
  z63:=Tryz.sizeOf328
  v63:=Tryz.zeroValue328
  t64:=Tryz.underlying329
  a64:=Tryz.isAgg329
  z64:=Tryz.sizeOf329
  v64:=Tryz.zeroValue329}
open Go.RowKit Go.Sort
theorem Tryz.sortDays(blk off cap:Nat)(zs:List Int)(w:World)(hH:Holds (Value.int .i64) w blk off zs.toArray)(hblk:blk<w.heap.size)(hsz:zs.length<4611686018427387904):
    Calls Tryz.prog 158 #[.slice (some ⟨blk,off,none⟩) zs.length cap] w fun e w' =>
      e=.returned (.tuple #[])∧∃n os,w'=grow (putRow (Value.int .i64) (Sort.ahead w n) blk off (zs.mergeSort fun x y=>decide (x≤y)).toArray) os:=AnyM.slices_Sort_int Tryz.laysSort blk off cap zs w hH hblk hsz
end Go.Proofs
