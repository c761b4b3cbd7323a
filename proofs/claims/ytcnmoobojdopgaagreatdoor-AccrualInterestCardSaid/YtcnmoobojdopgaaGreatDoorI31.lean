/-
  The walk of bond.Present. (Printed by gen_bd15.py.)
-/
import Derived.Test.YtcnmoobojdopgaaGreatDoorI30
set_option linter.unusedVariables false
set_option linter.unusedSimpArgs false
set_option maxHeartbeats 16000000
set_option maxRecDepth 100000
namespace Go.Proofs.YtcnmoobojdopgaaGreatDoor
open Go.RowKit Tr Go.Shelf
attribute [local go_sem] Oper.semAt_some
theorem num_pos'{q:Rat}:0<q.num↔0<q:=by
 constructor
 ·intro h
  have h1:0≤q:=Rat.num_nonneg.1 (by omega)
  have h2:q≠0:=fun e=>by rw[e] at h;exact absurd h (by decide)
  grind
 ·intro h
  have h1:0≤q.num:=Rat.num_nonneg.2 (by grind)
  have h2:q.num≠0:=fun e=>by have:=Rat.num_eq_zero.1 e;grind
  omega
end Go.Proofs.YtcnmoobojdopgaaGreatDoor
