/-
  DERIVED. GIVEN WITH THE SEED: THE CARDS: each row of YtjlakdocjpmblaaGreatDoorRows.lean that lists a variable, with what it lists TIED to the program's text (the seventh form; the later family's looks); each row that meets fmt, with fmt's text TOLD by the authors' own Lean function (tested against real Go, not proved from fmt's source: count such statements apart). THE CARD IS WHAT COUNTS. Prove the row's statement (the work); the ties are given (YtjlakdocjpmblaaGreatDoorTie.lean); close each card by the builder's one call (the guide's Derived/Test/ToyasCard.lean, 'card_holds'). Laid BY PROGRAM, IN A SANDBOX (cutbox-door.mjs). By AI agents, Wed Nov 11 2026. No macro, syntax, notation, axiom, sorry.
-/
import Derived.Test.YtjlakdocjpmblaaGreatDoorRows
import GoSem.ClaimSeven
namespace Go.Proofs.YtjlakdocjpmblaaGreatDoor
namespace Rows

/-- THE TIED CARD OF 'tranchelaw20.ReliefChoices'. -/
def reliefChoicesCard : Claim7 := { stood := { row := reliefChoicesRow, standIns := [], harness := (true, "67cf41c67eb497bf8d838e85f409c1095f791e9543087d330cf42706de4a0c2c"), looks := true }, kinds := [], alts := [], laidByText := true, laidKinds := [.data, .data, .data, .data, .sentinel, .sentinel, .pinned], laidTests := true, laidLooks := .later }
def ReliefChoicesCardSaid : Prop := Claim7.holds Tryz.pinned (.plain (OpenSpec.ofChange reliefChoicesSpec)) reliefChoicesCard

/-- THE TIED CARD OF 'tranchelaw20.ReliefTakes'. -/
def reliefTakesCard : Claim7 := { stood := { row := reliefTakesRow, standIns := [], harness := (true, "67cf41c67eb497bf8d838e85f409c1095f791e9543087d330cf42706de4a0c2c"), looks := true }, kinds := [], alts := [], laidByText := true, laidKinds := [.data, .data, .data, .data, .sentinel, .sentinel, .pinned], laidTests := true, laidLooks := .later }
def ReliefTakesCardSaid : Prop := Claim7.holds Tryz.pinned (.plain (OpenSpec.ofChange reliefTakesSpec)) reliefTakesCard

/-- THE SECOND FORM's CARD OF 'tranchelaw20.ReliefChoices'. -/
def reliefChoicesUptoCard : Claim7 := { stood := { row := reliefChoicesUptoRow, standIns := [], harness := (true, "67cf41c67eb497bf8d838e85f409c1095f791e9543087d330cf42706de4a0c2c"), looks := true }, kinds := [], alts := [], laidByText := true, laidKinds := [.data, .data, .data, .data, .sentinel, .sentinel, .pinned], laidTests := true, laidLooks := .later }
def ReliefChoicesUptoCardSaid : Prop := Claim7.holds Tryz.pinned (.plain (OpenSpec.upto reliefChoicesSpec)) reliefChoicesUptoCard

/-- THE SECOND FORM's CARD OF 'tranchelaw20.ReliefTakes'. -/
def reliefTakesUptoCard : Claim7 := { stood := { row := reliefTakesUptoRow, standIns := [], harness := (true, "67cf41c67eb497bf8d838e85f409c1095f791e9543087d330cf42706de4a0c2c"), looks := true }, kinds := [], alts := [], laidByText := true, laidKinds := [.data, .data, .data, .data, .sentinel, .sentinel, .pinned], laidTests := true, laidLooks := .later }
def ReliefTakesUptoCardSaid : Prop := Claim7.holds Tryz.pinned (.plain (OpenSpec.upto reliefTakesSpec)) reliefTakesUptoCard
end Rows
end Go.Proofs.YtjlakdocjpmblaaGreatDoor
