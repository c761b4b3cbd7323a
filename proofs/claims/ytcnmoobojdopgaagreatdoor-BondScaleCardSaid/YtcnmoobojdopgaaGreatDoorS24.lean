/-
  trancheref10.Check returns 0 exactly for valid instruments. (Printed by gen_ref17.py.)
-/
import Derived.Test.YtcnmoobojdopgaaGreatDoorS21
import Derived.Test.YtcnmoobojdopgaaGreatDoorS22
import Derived.Test.YtcnmoobojdopgaaGreatDoorS23
set_option linter.unusedVariables false
set_option linter.unusedSimpArgs false
set_option maxHeartbeats 16000000
set_option maxRecDepth 100000
namespace Go.Proofs.YtcnmoobojdopgaaGreatDoor
open Go.RowKit Tr Go.Shelf
theorem rCheck10_any (i : Inst) (hs : i.tiny) (w : World) :
 Calls Tryz.prog 38 #[i.enc] w (ChkPost w i.ok) := by
 by_cases h2 : i.kind = 2
 ·exact rCheck10_a i hs h2 w
 by_cases h5 : i.kind = 5
 ·exact rCheck10_b i hs h5 w
 exact rCheck10_c i hs ⟨h2, h5⟩ w
end Go.Proofs.YtcnmoobojdopgaaGreatDoor
