/-
  DERIVED. GIVEN WITH THE SEED: THE CARDS: each row of YtcmgmemffncbhabGreatDoorRows.lean that lists a variable, with what it lists TIED to the program's text (the seventh form; the later family's looks); each row that meets fmt, with fmt's text TOLD by the authors' own Lean function (tested against real Go, not proved from fmt's source: count such statements apart). THE CARD IS WHAT COUNTS. Prove the row's statement (the work); the ties are given (YtcmgmemffncbhabGreatDoorTie.lean); close each card by the builder's one call (the guide's Derived/Test/ToyasCard.lean, 'card_holds'). Laid BY PROGRAM, IN A SANDBOX (cutbox-door.mjs). By AI agents, Wed Nov 11 2026. No macro, syntax, notation, axiom, sorry.
-/
import Derived.Test.YtcmgmemffncbhabGreatDoorRows
import GoSem.ClaimSeven
namespace Go.Proofs.YtcmgmemffncbhabGreatDoor
namespace Rows

/-- THE TIED CARD OF 'tranchelaw20.ReliefTakes'. -/
def reliefTakesCard : Claim7 := { stood := { row := reliefTakesRow, standIns := [], harness := (true, "dc5c1cbe96cce8a40729ffa5beb4818067688fbef1ae58b5792dbbaa4a8fa260"), looks := true }, kinds := [], alts := [], laidByText := true, laidKinds := [.data, .data, .data, .data, .sentinel, .sentinel, .pinned], laidTests := true, laidLooks := .later }
def ReliefTakesCardSaid : Prop := Claim7.holds Tryz.pinned (.plain (OpenSpec.ofChange reliefTakesSpec)) reliefTakesCard

/-- THE SECOND FORM's CARD OF 'tranchelaw20.ReliefTakes'. -/
def reliefTakesUptoCard : Claim7 := { stood := { row := reliefTakesUptoRow, standIns := [], harness := (true, "dc5c1cbe96cce8a40729ffa5beb4818067688fbef1ae58b5792dbbaa4a8fa260"), looks := true }, kinds := [], alts := [], laidByText := true, laidKinds := [.data, .data, .data, .data, .sentinel, .sentinel, .pinned], laidTests := true, laidLooks := .later }
def ReliefTakesUptoCardSaid : Prop := Claim7.holds Tryz.pinned (.plain (OpenSpec.upto reliefTakesSpec)) reliefTakesUptoCard
end Rows
end Go.Proofs.YtcmgmemffncbhabGreatDoor
