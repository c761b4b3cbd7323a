/-
  The walks of trancheref11.check,Periods,Coupon,after,Flows,Rest,Dirty,Accrued. (Printed by gen_rb5.py.)
-/
import Derived.Test.YtcnmoobojdopgaaGreatDoorI38
import Derived.Test.YtcnmoobojdopgaaGreatDoorI39
set_option linter.unusedVariables false
set_option linter.unusedSimpArgs false
set_option maxHeartbeats 16000000
set_option maxRecDepth 100000
namespace Go.Proofs.YtcnmoobojdopgaaGreatDoor
open Go.RowKit Tr Go.Shelf
attribute [local go_sem] Oper.semAt_some
theorem PerV.none{c:Int}{w W:World}(hb:Below w.heap.size w W)(hs:w.heap.size≤W.heap.size)(t:TypeId):PerV [] c w (.returned (.tuple #[.slice (some ⟨W.heap.size,0,none⟩) 0 0,.int .i64 c])) (W.alloc (.cells #[] t)) :=
 ⟨⟨_,0,rfl,Atu _ _ _,fun ad ha=>by injection ha with ha;rw[←ha];exact hs⟩,hb.alloc hs _⟩
theorem FlwV.none{c:Int}{w W:World}(hb:Below w.heap.size w W)(hs:w.heap.size≤W.heap.size)(t:TypeId):FlwV [] c w (.returned (.tuple #[.slice (some ⟨W.heap.size,0,none⟩) 0 0,.int .i64 c])) (W.alloc (.cells #[] t)) :=
 ⟨⟨_,0,rfl,Atv _ _ _⟩,hb.alloc hs _⟩
end Go.Proofs.YtcnmoobojdopgaaGreatDoor
namespace Go.Proofs.YtcnmoobojdopgaaGreatDoor
open Go.RowKit Tr Go.Shelf
attribute [local go_sem] Oper.semAt_some
end Go.Proofs.YtcnmoobojdopgaaGreatDoor
