/-
  Fractions: what is exported. (Printed by gen_frac4.py.)
-/
import Derived.Test.YtcmgmemffncbhabGreatDoorT15
import Derived.Laws.EntriesVeiled
set_option linter.unusedVariables false
set_option linter.unusedSimpArgs false
set_option maxHeartbeats 16000000
set_option maxRecDepth 100000
namespace Go.Proofs.YtcmgmemffncbhabGreatDoor
open Go.RowKit Tr Go.Shelf
theorem two_lt(k:Nat){x:Nat}(h:x<10^k+10^k):x<10^(k+1):=by
 rw[Nat.pow_succ];omega
end Go.Proofs.YtcmgmemffncbhabGreatDoor
