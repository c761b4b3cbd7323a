/-
  The walk of trancheref10.Check, where i.kind ≠ 2 ∧ i.kind ≠ 5. (Printed by gen_ref17.py.)
-/
import Derived.Test.YtdnmpgoigagjmaaGreatDoorA23
set_option linter.unusedVariables false
set_option linter.unusedSimpArgs false
namespace Go.Proofs.YtdnmpgoigagjmaaGreatDoor
open Go.RowKit Tr Go.Shelf
end Go.Proofs.YtdnmpgoigagjmaaGreatDoor
