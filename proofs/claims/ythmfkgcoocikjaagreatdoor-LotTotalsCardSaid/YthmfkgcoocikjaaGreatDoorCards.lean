/-
  DERIVED. GIVEN WITH THE SEED: THE CARDS: each row of YthmfkgcoocikjaaGreatDoorRows.lean that lists a variable, with what it lists TIED to the program's text (the seventh form; the later family's looks); each row that meets fmt, with fmt's text TOLD by the authors' own Lean function (tested against real Go, not proved from fmt's source: count such statements apart). THE CARD IS WHAT COUNTS. Prove the row's statement (the work); the ties are given (YthmfkgcoocikjaaGreatDoorTie.lean); close each card by the builder's one call (the guide's Derived/Test/ToyasCard.lean, 'card_holds'). Laid BY PROGRAM, IN A SANDBOX (cutbox-door.mjs). By AI agents, Wed Nov 11 2026. No macro, syntax, notation, axiom, sorry.
-/
import Derived.Test.YthmfkgcoocikjaaGreatDoorRows
import GoSem.ClaimSeven
namespace Go.Proofs.YthmfkgcoocikjaaGreatDoor
namespace Rows

/-- THE TIED CARD OF 'tranchelaw19.LotReads'. -/
def lotReadsCard : Claim7 := { stood := { row := lotReadsRow, standIns := [], harness := (true, "ff60c094a6018693656a388f64f724ee262e50ce0351fa30e5fbb2cef27f8e3e"), looks := true }, kinds := [], alts := [], laidByText := true, laidKinds := [.data, .data, .data, .data, .sentinel, .sentinel, .pinned], laidTests := true, laidLooks := .later }
def LotReadsCardSaid : Prop := Claim7.holds Tryz.pinned (.plain (OpenSpec.ofChange lotReadsSpec)) lotReadsCard

/-- THE TIED CARD OF 'tranchelaw19.LotCut'. -/
def lotCutCard : Claim7 := { stood := { row := lotCutRow, standIns := [], harness := (true, "ff60c094a6018693656a388f64f724ee262e50ce0351fa30e5fbb2cef27f8e3e"), looks := true }, kinds := [], alts := [], laidByText := true, laidKinds := [.data, .data, .data, .data, .sentinel, .sentinel, .pinned], laidTests := true, laidLooks := .later }
def LotCutCardSaid : Prop := Claim7.holds Tryz.pinned (.plain (OpenSpec.ofChange lotCutSpec)) lotCutCard

/-- THE TIED CARD OF 'tranchelaw19.LotPositions'. -/
def lotPositionsCard : Claim7 := { stood := { row := lotPositionsRow, standIns := [], harness := (true, "ff60c094a6018693656a388f64f724ee262e50ce0351fa30e5fbb2cef27f8e3e"), looks := true }, kinds := [], alts := [], laidByText := true, laidKinds := [.data, .data, .data, .data, .sentinel, .sentinel, .pinned], laidTests := true, laidLooks := .later }
def LotPositionsCardSaid : Prop := Claim7.holds Tryz.pinned (.plain (OpenSpec.ofChange lotPositionsSpec)) lotPositionsCard

/-- THE TIED CARD OF 'tranchelaw19.LotTotals'. -/
def lotTotalsCard : Claim7 := { stood := { row := lotTotalsRow, standIns := [], harness := (true, "ff60c094a6018693656a388f64f724ee262e50ce0351fa30e5fbb2cef27f8e3e"), looks := true }, kinds := [], alts := [], laidByText := true, laidKinds := [.data, .data, .data, .data, .sentinel, .sentinel, .pinned], laidTests := true, laidLooks := .later }
def LotTotalsCardSaid : Prop := Claim7.holds Tryz.pinned (.plain (OpenSpec.ofChange lotTotalsSpec)) lotTotalsCard

/-- THE TIED CARD OF 'tranchelaw19.LotChecks'. -/
def lotChecksCard : Claim7 := { stood := { row := lotChecksRow, standIns := [], harness := (true, "ff60c094a6018693656a388f64f724ee262e50ce0351fa30e5fbb2cef27f8e3e"), looks := true }, kinds := [], alts := [], laidByText := true, laidKinds := [.data, .data, .data, .data, .sentinel, .sentinel, .pinned], laidTests := true, laidLooks := .later }
def LotChecksCardSaid : Prop := Claim7.holds Tryz.pinned (.plain (OpenSpec.ofChange lotChecksSpec)) lotChecksCard

/-- THE TIED CARD OF 'tranchelaw19.LotOpen'. -/
def lotOpenCard : Claim7 := { stood := { row := lotOpenRow, standIns := [], harness := (true, "ff60c094a6018693656a388f64f724ee262e50ce0351fa30e5fbb2cef27f8e3e"), looks := true }, kinds := [], alts := [], laidByText := true, laidKinds := [.data, .data, .data, .data, .sentinel, .sentinel, .pinned], laidTests := true, laidLooks := .later }
def LotOpenCardSaid : Prop := Claim7.holds Tryz.pinned (.plain (OpenSpec.ofChange lotOpenSpec)) lotOpenCard

/-- THE SECOND FORM's CARD OF 'tranchelaw19.LotReads'. -/
def lotReadsUptoCard : Claim7 := { stood := { row := lotReadsUptoRow, standIns := [], harness := (true, "ff60c094a6018693656a388f64f724ee262e50ce0351fa30e5fbb2cef27f8e3e"), looks := true }, kinds := [], alts := [], laidByText := true, laidKinds := [.data, .data, .data, .data, .sentinel, .sentinel, .pinned], laidTests := true, laidLooks := .later }
def LotReadsUptoCardSaid : Prop := Claim7.holds Tryz.pinned (.plain (OpenSpec.upto lotReadsSpec)) lotReadsUptoCard

/-- THE SECOND FORM's CARD OF 'tranchelaw19.LotCut'. -/
def lotCutUptoCard : Claim7 := { stood := { row := lotCutUptoRow, standIns := [], harness := (true, "ff60c094a6018693656a388f64f724ee262e50ce0351fa30e5fbb2cef27f8e3e"), looks := true }, kinds := [], alts := [], laidByText := true, laidKinds := [.data, .data, .data, .data, .sentinel, .sentinel, .pinned], laidTests := true, laidLooks := .later }
def LotCutUptoCardSaid : Prop := Claim7.holds Tryz.pinned (.plain (OpenSpec.upto lotCutSpec)) lotCutUptoCard

/-- THE SECOND FORM's CARD OF 'tranchelaw19.LotPositions'. -/
def lotPositionsUptoCard : Claim7 := { stood := { row := lotPositionsUptoRow, standIns := [], harness := (true, "ff60c094a6018693656a388f64f724ee262e50ce0351fa30e5fbb2cef27f8e3e"), looks := true }, kinds := [], alts := [], laidByText := true, laidKinds := [.data, .data, .data, .data, .sentinel, .sentinel, .pinned], laidTests := true, laidLooks := .later }
def LotPositionsUptoCardSaid : Prop := Claim7.holds Tryz.pinned (.plain (OpenSpec.upto lotPositionsSpec)) lotPositionsUptoCard

/-- THE SECOND FORM's CARD OF 'tranchelaw19.LotTotals'. -/
def lotTotalsUptoCard : Claim7 := { stood := { row := lotTotalsUptoRow, standIns := [], harness := (true, "ff60c094a6018693656a388f64f724ee262e50ce0351fa30e5fbb2cef27f8e3e"), looks := true }, kinds := [], alts := [], laidByText := true, laidKinds := [.data, .data, .data, .data, .sentinel, .sentinel, .pinned], laidTests := true, laidLooks := .later }
def LotTotalsUptoCardSaid : Prop := Claim7.holds Tryz.pinned (.plain (OpenSpec.upto lotTotalsSpec)) lotTotalsUptoCard

/-- THE SECOND FORM's CARD OF 'tranchelaw19.LotChecks'. -/
def lotChecksUptoCard : Claim7 := { stood := { row := lotChecksUptoRow, standIns := [], harness := (true, "ff60c094a6018693656a388f64f724ee262e50ce0351fa30e5fbb2cef27f8e3e"), looks := true }, kinds := [], alts := [], laidByText := true, laidKinds := [.data, .data, .data, .data, .sentinel, .sentinel, .pinned], laidTests := true, laidLooks := .later }
def LotChecksUptoCardSaid : Prop := Claim7.holds Tryz.pinned (.plain (OpenSpec.upto lotChecksSpec)) lotChecksUptoCard

/-- THE SECOND FORM's CARD OF 'tranchelaw19.LotOpen'. -/
def lotOpenUptoCard : Claim7 := { stood := { row := lotOpenUptoRow, standIns := [], harness := (true, "ff60c094a6018693656a388f64f724ee262e50ce0351fa30e5fbb2cef27f8e3e"), looks := true }, kinds := [], alts := [], laidByText := true, laidKinds := [.data, .data, .data, .data, .sentinel, .sentinel, .pinned], laidTests := true, laidLooks := .later }
def LotOpenUptoCardSaid : Prop := Claim7.holds Tryz.pinned (.plain (OpenSpec.upto lotOpenSpec)) lotOpenUptoCard
end Rows
end Go.Proofs.YthmfkgcoocikjaaGreatDoor
