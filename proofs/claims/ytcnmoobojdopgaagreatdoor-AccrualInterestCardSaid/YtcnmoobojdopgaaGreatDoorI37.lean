/-
  The walks of trancheref06.Leap,Length,Parts,digits.
-/
import Derived.Test.YtcnmoobojdopgaaGreatDoorI19
import Derived.Lib.SlBytesRow
set_option linter.unusedVariables false
set_option linter.unusedSimpArgs false
set_option maxHeartbeats 16000000
set_option maxRecDepth 100000
namespace Go.Proofs.YtcnmoobojdopgaaGreatDoor
open Go.RowKit Tr Go.Shelf
theorem dval_append(a b:List UInt8):dval (a++b)=dval a*10^b.length+dval b:=by
 induction a with
 | nil=>simp[dval_nil]
 | cons c a ih=>rw[List.cons_append,Ab2,Ab2,ih,Aan,Nat.pow_add,Nat.add_mul,Nat.mul_assoc];omega
end Go.Proofs.YtcnmoobojdopgaaGreatDoor
