/-
  DERIVED. GIVEN WITH THE SEED: THE CARDS: each row of YtcnmoobojdopgaaGreatDoorRows.lean that lists a variable, with what it lists TIED to the program's text (the seventh form; the later family's looks); each row that meets fmt, with fmt's text TOLD by the authors' own Lean function (tested against real Go, not proved from fmt's source: count such statements apart). THE CARD IS WHAT COUNTS. Prove the row's statement (the work); the ties are given (YtcnmoobojdopgaaGreatDoorTie.lean); close each card by the builder's one call (the guide's Derived/Test/ToyasCard.lean, 'card_holds'). Laid BY PROGRAM, IN A SANDBOX (cutbox-door.mjs). By AI agents, Wed Nov 11 2026. No macro, syntax, notation, axiom, sorry.
-/
import Derived.Test.YtcnmoobojdopgaaGreatDoorRows
import GoSem.ClaimSeven
namespace Go.Proofs.YtcnmoobojdopgaaGreatDoor
namespace Rows

/-- THE TIED CARD OF 'tranchelaw11.BondScale'. -/
def bondScaleCard : Claim7 := { stood := { row := bondScaleRow, standIns := [], harness := (true, "ff97c250c263bab1245a604129820f08617048a3b3cf8360416a170d9f4e4fbe"), looks := true }, kinds := [], alts := [], laidByText := true, laidKinds := [.data, .data, .data, .data, .sentinel, .sentinel, .pinned], laidTests := true, laidLooks := .later }
def BondScaleCardSaid : Prop := Claim7.holds Tryz.pinned (.plain (OpenSpec.ofChange bondScaleSpec)) bondScaleCard

/-- THE TIED CARD OF 'tranchelaw39.AccrualTotals'. -/
def accrualTotalsCard : Claim7 := { stood := { row := accrualTotalsRow, standIns := [], harness := (true, "ff97c250c263bab1245a604129820f08617048a3b3cf8360416a170d9f4e4fbe"), looks := true }, kinds := [], alts := [], laidByText := true, laidKinds := [.data, .data, .data, .data, .sentinel, .sentinel, .pinned], laidTests := true, laidLooks := .later }
def AccrualTotalsCardSaid : Prop := Claim7.holds Tryz.pinned (.plain (OpenSpec.ofChange accrualTotalsSpec)) accrualTotalsCard

/-- THE TIED CARD OF 'tranchelaw39.AccrualInterest'. -/
def accrualInterestCard : Claim7 := { stood := { row := accrualInterestRow, standIns := [], harness := (true, "ff97c250c263bab1245a604129820f08617048a3b3cf8360416a170d9f4e4fbe"), looks := true }, kinds := [], alts := [], laidByText := true, laidKinds := [.data, .data, .data, .data, .sentinel, .sentinel, .pinned], laidTests := true, laidLooks := .later }
def AccrualInterestCardSaid : Prop := Claim7.holds Tryz.pinned (.plain (OpenSpec.ofChange accrualInterestSpec)) accrualInterestCard

/-- THE SECOND FORM's CARD OF 'tranchelaw11.BondScale'. -/
def bondScaleUptoCard : Claim7 := { stood := { row := bondScaleUptoRow, standIns := [], harness := (true, "ff97c250c263bab1245a604129820f08617048a3b3cf8360416a170d9f4e4fbe"), looks := true }, kinds := [], alts := [], laidByText := true, laidKinds := [.data, .data, .data, .data, .sentinel, .sentinel, .pinned], laidTests := true, laidLooks := .later }
def BondScaleUptoCardSaid : Prop := Claim7.holds Tryz.pinned (.plain (OpenSpec.upto bondScaleSpec)) bondScaleUptoCard

/-- THE SECOND FORM's CARD OF 'tranchelaw39.AccrualTotals'. -/
def accrualTotalsUptoCard : Claim7 := { stood := { row := accrualTotalsUptoRow, standIns := [], harness := (true, "ff97c250c263bab1245a604129820f08617048a3b3cf8360416a170d9f4e4fbe"), looks := true }, kinds := [], alts := [], laidByText := true, laidKinds := [.data, .data, .data, .data, .sentinel, .sentinel, .pinned], laidTests := true, laidLooks := .later }
def AccrualTotalsUptoCardSaid : Prop := Claim7.holds Tryz.pinned (.plain (OpenSpec.upto accrualTotalsSpec)) accrualTotalsUptoCard

/-- THE SECOND FORM's CARD OF 'tranchelaw39.AccrualInterest'. -/
def accrualInterestUptoCard : Claim7 := { stood := { row := accrualInterestUptoRow, standIns := [], harness := (true, "ff97c250c263bab1245a604129820f08617048a3b3cf8360416a170d9f4e4fbe"), looks := true }, kinds := [], alts := [], laidByText := true, laidKinds := [.data, .data, .data, .data, .sentinel, .sentinel, .pinned], laidTests := true, laidLooks := .later }
def AccrualInterestUptoCardSaid : Prop := Claim7.holds Tryz.pinned (.plain (OpenSpec.upto accrualInterestSpec)) accrualInterestUptoCard
end Rows
end Go.Proofs.YtcnmoobojdopgaaGreatDoor
