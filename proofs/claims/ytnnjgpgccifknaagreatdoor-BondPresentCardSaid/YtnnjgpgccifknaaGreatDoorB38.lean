/-
  The walk of tranchelaw11.BondAccrued. (Printed by gen_law30.py.)
-/
import Derived.Test.YtnnjgpgccifknaaGreatDoorB36
set_option linter.unusedVariables false
set_option linter.unusedSimpArgs false
set_option maxHeartbeats 16000000
set_option maxRecDepth 100000
namespace Go.Proofs.YtnnjgpgccifknaaGreatDoor
open Go.RowKit Tr Go.Shelf
theorem num_nn {q : Rat} (h : 0 ≤ q) : 0 ≤ cmpI q.num 0 := by
 have := (cmpz q).2.2
 refine Int.not_lt.1 fun k => ?_
 exact absurd (this.1 k) (Rat.not_lt.2 h)
end Go.Proofs.YtnnjgpgccifknaaGreatDoor
