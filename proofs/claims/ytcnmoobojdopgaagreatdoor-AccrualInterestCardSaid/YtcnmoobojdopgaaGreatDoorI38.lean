/-
  The walks of trancheref02.Quo,trancheref11.Interest,flow,index,AccruedOn,day. (Printed by gen_rb4.py.)
-/
import Derived.Test.YtcnmoobojdopgaaGreatDoorI37
import Derived.Test.YtcnmoobojdopgaaGreatDoorI33
import Derived.Deep.DeepCutAuto
set_option linter.unusedVariables false
set_option linter.unusedSimpArgs false
set_option maxHeartbeats 16000000
set_option maxRecDepth 100000
namespace Go.Proofs.YtcnmoobojdopgaaGreatDoor
open Go.RowKit Tr Go.Shelf
attribute [local go_sem] Oper.semAt_some
end Go.Proofs.YtcnmoobojdopgaaGreatDoor
