/-
  The walk of bond.Flows. (Printed by gen_bd12.py.)
-/
import Derived.Test.YtcnmoobojdopgaaGreatDoorI29
import Derived.Laws.StructEq
set_option linter.unusedVariables false
set_option linter.unusedSimpArgs false
set_option maxHeartbeats 16000000
set_option maxRecDepth 100000
namespace Go.Proofs.YtcnmoobojdopgaaGreatDoor
open Go.RowKit Tr Go.Shelf
attribute [local go_sem] Oper.semAt_some
theorem eqGuard_frac(op:BinOp)(x y:Operand)(xs ys:Array Value)(w:World):(eqGuard op 25 x y (.agg xs) (.agg ys)).run Tryz.prog w=.ok () w:=run_eqGuard_agg w op _ x y xs ys (by kernel_rfl)
attribute [local go_sem] eqGuard_frac
def flV(l:List (Int×Rat)):List Value:=l.flatMap fun f=>[.int .i64 f.1,.string (I f.2.num),.string (dn f.2)]
end Go.Proofs.YtcnmoobojdopgaaGreatDoor
