/-
  tranchelaw19.awake returns true.
-/
import Derived.Test.YtcmgmemffncbhabGreatDoorT27
import Derived.Test.YtcmgmemffncbhabGreatDoorT28
set_option linter.unusedVariables false
set_option linter.unusedSimpArgs false
set_option maxHeartbeats 16000000
set_option maxRecDepth 100000
namespace Go.Proofs.YtcmgmemffncbhabGreatDoor
open Go.RowKit Tr Go.Shelf
def x0:Lot:=⟨⟨#[97,47,49]⟩,⟨#[97,98,99]⟩,0,0,⟨#[49,48]⟩,⟨#[50,53]⟩,⟨#[]⟩⟩
def xb:Lot:=⟨⟨#[97,47,49]⟩,⟨#[97,98,99]⟩,0,0,⟨#[53]⟩,⟨#[49,51]⟩,⟨#[]⟩⟩
theorem w10:vl ⟨#[49,48]⟩=10:=by decide
theorem w5:vl ⟨#[53]⟩=5:=by decide
theorem w12:vl ⟨#[49,50]⟩=12:=by decide
def p0:Pos:=⟨⟨#[97,98,99]⟩,⟨#[49,48]⟩,⟨#[50,53]⟩⟩
structure AW(w:World)(W:World):Prop where
 xb:LotBox W w.heap.size x0
 be:Below w.heap.size w W
theorem AW.below{w:World}{W W':World}(h:AW w W)(hb:Below W.heap.size W W'):AW w W':=⟨h.xb.below hb,h.be.trans (hb.mono h.be.size)⟩
end Go.Proofs.YtcmgmemffncbhabGreatDoor
