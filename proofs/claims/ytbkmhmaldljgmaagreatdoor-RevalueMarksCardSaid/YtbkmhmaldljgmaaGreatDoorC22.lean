/-
  The walks of trancheref39.Cause, Effect, SameEffect; of slices.Equal over integers. (Printed by gen_ref39.py.)
  Amortized, Plan, Effect of both sides in one form, on whatever is small. (Printed by gen_law8.py.)
-/
import Derived.Test.YtbkmhmaldljgmaaGreatDoorC19
import Derived.Test.YtbkmhmaldljgmaaGreatDoorC21
import Derived.Test.YtbkmhmaldljgmaaGreatDoorC15
import Derived.Test.YtbkmhmaldljgmaaGreatDoorC20
import Derived.Test.YtbkmhmaldljgmaaGreatDoorC17
import Derived.Test.YtbkmhmaldljgmaaGreatDoorC16
import Derived.Test.YtbkmhmaldljgmaaGreatDoorC04
import Derived.Deep.DeepCutAuto
import Derived.Test.YtbkmhmaldljgmaaGreatDoorC18
import Derived.Test.YtbkmhmaldljgmaaGreatDoorC11
import Derived.BigQuiet
import Derived.Test.YtbkmhmaldljgmaaGreatDoorC12
import Derived.Deep.QuietTactic
import Derived.Deep.RegionHeld3
import Derived.Test.YtbkmhmaldljgmaaGreatDoorC08
set_option linter.unusedVariables false
set_option linter.unusedSimpArgs false
set_option maxHeartbeats 16000000
set_option maxRecDepth 100000
namespace Go.Proofs.YtbkmhmaldljgmaaGreatDoor
open Go.RowKit Tr Go.Shelf
structure EB (w : World) (i : Inst) (W : World) : Prop where
 ib : InstBox W w.heap.size i
 rb : W.heap[w.heap.size + 1]? = some (.cells effZero 47 (0, 0))
 bel : Below w.heap.size w W
theorem EB.lt {w : World} {i : Inst} {W : World} (h : EB w i W) : w.heap.size + 1 < W.heap.size := (Array.getElem?_eq_some_iff.1 h.rb).1
def EBc (w : World) (i : Inst) (W : World) : Prop := W.cell? ⟨w.heap.size, 0, none⟩ = some (.string i.id) ∧ W.cell? ⟨w.heap.size, 2, none⟩ = some (.string i.cur)
theorem EB.cells {w : World} {i : Inst} {W : World} (h : EB w i W) : EBc w i W := ⟨Lib.cell_of_heap h.ib 0, Lib.cell_of_heap h.ib 2⟩
def RdP (w : World) (A : Option Addr) (f : Nat → ByteArray) (n : Nat) : Prop := n ≠ 0 → ∃ ad : Addr, A = some ad ∧ ad.block < w.heap.size ∧ ∀ k, k < n → w.cell? (ad.add k) = some (.string (f k))
theorem RdP.zero (w : World) (A : Option Addr) (f : Nat → ByteArray) : RdP w A f 0 := fun h => absurd rfl h
end Go.Proofs.YtbkmhmaldljgmaaGreatDoor
