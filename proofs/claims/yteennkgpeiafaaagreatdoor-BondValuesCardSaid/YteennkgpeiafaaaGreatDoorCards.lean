/-
  DERIVED. GIVEN WITH THE SEED: THE CARDS: each row of YteennkgpeiafaaaGreatDoorRows.lean that lists a variable, with what it lists TIED to the program's text (the seventh form; the later family's looks); each row that meets fmt, with fmt's text TOLD by the authors' own Lean function (tested against real Go, not proved from fmt's source: count such statements apart). THE CARD IS WHAT COUNTS. Prove the row's statement (the work); the ties are given (YteennkgpeiafaaaGreatDoorTie.lean); close each card by the builder's one call (the guide's Derived/Test/ToyasCard.lean, 'card_holds'). Laid BY PROGRAM, IN A SANDBOX (cutbox-door.mjs). By AI agents, Wed Nov 11 2026. No macro, syntax, notation, axiom, sorry.
-/
import Derived.Test.YteennkgpeiafaaaGreatDoorRows
import GoSem.ClaimSeven
namespace Go.Proofs.YteennkgpeiafaaaGreatDoor
namespace Rows

/-- THE TIED CARD OF 'tranchelaw11.BondValues'. -/
def bondValuesCard : Claim7 := { stood := { row := bondValuesRow, standIns := [], harness := (true, "ee20e1ec19698996c4dec333fc11cc253de3ed58ae289fc8a409db44b1a2bd8b"), looks := true }, kinds := [], alts := [], laidByText := true, laidKinds := [.data, .data, .data, .data, .sentinel, .sentinel, .pinned], laidTests := true, laidLooks := .later }
def BondValuesCardSaid : Prop := Claim7.holds Tryz.pinned (.plain (OpenSpec.ofChange bondValuesSpec)) bondValuesCard

/-- THE TIED CARD OF 'tranchelaw11.BondScale'. -/
def bondScaleCard : Claim7 := { stood := { row := bondScaleRow, standIns := [], harness := (true, "ee20e1ec19698996c4dec333fc11cc253de3ed58ae289fc8a409db44b1a2bd8b"), looks := true }, kinds := [], alts := [], laidByText := true, laidKinds := [.data, .data, .data, .data, .sentinel, .sentinel, .pinned], laidTests := true, laidLooks := .later }
def BondScaleCardSaid : Prop := Claim7.holds Tryz.pinned (.plain (OpenSpec.ofChange bondScaleSpec)) bondScaleCard

/-- THE TIED CARD OF 'tranchelaw11.BondSteps'. -/
def bondStepsCard : Claim7 := { stood := { row := bondStepsRow, standIns := [], harness := (true, "ee20e1ec19698996c4dec333fc11cc253de3ed58ae289fc8a409db44b1a2bd8b"), looks := true }, kinds := [], alts := [], laidByText := true, laidKinds := [.data, .data, .data, .data, .sentinel, .sentinel, .pinned], laidTests := true, laidLooks := .later }
def BondStepsCardSaid : Prop := Claim7.holds Tryz.pinned (.plain (OpenSpec.ofChange bondStepsSpec)) bondStepsCard

/-- THE TIED CARD OF 'tranchelaw11.BondPeriods'. -/
def bondPeriodsCard : Claim7 := { stood := { row := bondPeriodsRow, standIns := [], harness := (true, "ee20e1ec19698996c4dec333fc11cc253de3ed58ae289fc8a409db44b1a2bd8b"), looks := true }, kinds := [], alts := [], laidByText := true, laidKinds := [.data, .data, .data, .data, .sentinel, .sentinel, .pinned], laidTests := true, laidLooks := .later }
def BondPeriodsCardSaid : Prop := Claim7.holds Tryz.pinned (.plain (OpenSpec.ofChange bondPeriodsSpec)) bondPeriodsCard

/-- THE TIED CARD OF 'tranchelaw11.BondFlows'. -/
def bondFlowsCard : Claim7 := { stood := { row := bondFlowsRow, standIns := [], harness := (true, "ee20e1ec19698996c4dec333fc11cc253de3ed58ae289fc8a409db44b1a2bd8b"), looks := true }, kinds := [], alts := [], laidByText := true, laidKinds := [.data, .data, .data, .data, .sentinel, .sentinel, .pinned], laidTests := true, laidLooks := .later }
def BondFlowsCardSaid : Prop := Claim7.holds Tryz.pinned (.plain (OpenSpec.ofChange bondFlowsSpec)) bondFlowsCard

/-- THE TIED CARD OF 'tranchelaw39.AccrualTotals'. -/
def accrualTotalsCard : Claim7 := { stood := { row := accrualTotalsRow, standIns := [], harness := (true, "ee20e1ec19698996c4dec333fc11cc253de3ed58ae289fc8a409db44b1a2bd8b"), looks := true }, kinds := [], alts := [], laidByText := true, laidKinds := [.data, .data, .data, .data, .sentinel, .sentinel, .pinned], laidTests := true, laidLooks := .later }
def AccrualTotalsCardSaid : Prop := Claim7.holds Tryz.pinned (.plain (OpenSpec.ofChange accrualTotalsSpec)) accrualTotalsCard

/-- THE TIED CARD OF 'tranchelaw39.AccrualInterest'. -/
def accrualInterestCard : Claim7 := { stood := { row := accrualInterestRow, standIns := [], harness := (true, "ee20e1ec19698996c4dec333fc11cc253de3ed58ae289fc8a409db44b1a2bd8b"), looks := true }, kinds := [], alts := [], laidByText := true, laidKinds := [.data, .data, .data, .data, .sentinel, .sentinel, .pinned], laidTests := true, laidLooks := .later }
def AccrualInterestCardSaid : Prop := Claim7.holds Tryz.pinned (.plain (OpenSpec.ofChange accrualInterestSpec)) accrualInterestCard

/-- THE SECOND FORM's CARD OF 'tranchelaw11.BondValues'. -/
def bondValuesUptoCard : Claim7 := { stood := { row := bondValuesUptoRow, standIns := [], harness := (true, "ee20e1ec19698996c4dec333fc11cc253de3ed58ae289fc8a409db44b1a2bd8b"), looks := true }, kinds := [], alts := [], laidByText := true, laidKinds := [.data, .data, .data, .data, .sentinel, .sentinel, .pinned], laidTests := true, laidLooks := .later }
def BondValuesUptoCardSaid : Prop := Claim7.holds Tryz.pinned (.plain (OpenSpec.upto bondValuesSpec)) bondValuesUptoCard

/-- THE SECOND FORM's CARD OF 'tranchelaw11.BondScale'. -/
def bondScaleUptoCard : Claim7 := { stood := { row := bondScaleUptoRow, standIns := [], harness := (true, "ee20e1ec19698996c4dec333fc11cc253de3ed58ae289fc8a409db44b1a2bd8b"), looks := true }, kinds := [], alts := [], laidByText := true, laidKinds := [.data, .data, .data, .data, .sentinel, .sentinel, .pinned], laidTests := true, laidLooks := .later }
def BondScaleUptoCardSaid : Prop := Claim7.holds Tryz.pinned (.plain (OpenSpec.upto bondScaleSpec)) bondScaleUptoCard

/-- THE SECOND FORM's CARD OF 'tranchelaw11.BondSteps'. -/
def bondStepsUptoCard : Claim7 := { stood := { row := bondStepsUptoRow, standIns := [], harness := (true, "ee20e1ec19698996c4dec333fc11cc253de3ed58ae289fc8a409db44b1a2bd8b"), looks := true }, kinds := [], alts := [], laidByText := true, laidKinds := [.data, .data, .data, .data, .sentinel, .sentinel, .pinned], laidTests := true, laidLooks := .later }
def BondStepsUptoCardSaid : Prop := Claim7.holds Tryz.pinned (.plain (OpenSpec.upto bondStepsSpec)) bondStepsUptoCard

/-- THE SECOND FORM's CARD OF 'tranchelaw11.BondPeriods'. -/
def bondPeriodsUptoCard : Claim7 := { stood := { row := bondPeriodsUptoRow, standIns := [], harness := (true, "ee20e1ec19698996c4dec333fc11cc253de3ed58ae289fc8a409db44b1a2bd8b"), looks := true }, kinds := [], alts := [], laidByText := true, laidKinds := [.data, .data, .data, .data, .sentinel, .sentinel, .pinned], laidTests := true, laidLooks := .later }
def BondPeriodsUptoCardSaid : Prop := Claim7.holds Tryz.pinned (.plain (OpenSpec.upto bondPeriodsSpec)) bondPeriodsUptoCard

/-- THE SECOND FORM's CARD OF 'tranchelaw11.BondFlows'. -/
def bondFlowsUptoCard : Claim7 := { stood := { row := bondFlowsUptoRow, standIns := [], harness := (true, "ee20e1ec19698996c4dec333fc11cc253de3ed58ae289fc8a409db44b1a2bd8b"), looks := true }, kinds := [], alts := [], laidByText := true, laidKinds := [.data, .data, .data, .data, .sentinel, .sentinel, .pinned], laidTests := true, laidLooks := .later }
def BondFlowsUptoCardSaid : Prop := Claim7.holds Tryz.pinned (.plain (OpenSpec.upto bondFlowsSpec)) bondFlowsUptoCard

/-- THE SECOND FORM's CARD OF 'tranchelaw39.AccrualTotals'. -/
def accrualTotalsUptoCard : Claim7 := { stood := { row := accrualTotalsUptoRow, standIns := [], harness := (true, "ee20e1ec19698996c4dec333fc11cc253de3ed58ae289fc8a409db44b1a2bd8b"), looks := true }, kinds := [], alts := [], laidByText := true, laidKinds := [.data, .data, .data, .data, .sentinel, .sentinel, .pinned], laidTests := true, laidLooks := .later }
def AccrualTotalsUptoCardSaid : Prop := Claim7.holds Tryz.pinned (.plain (OpenSpec.upto accrualTotalsSpec)) accrualTotalsUptoCard

/-- THE SECOND FORM's CARD OF 'tranchelaw39.AccrualInterest'. -/
def accrualInterestUptoCard : Claim7 := { stood := { row := accrualInterestUptoRow, standIns := [], harness := (true, "ee20e1ec19698996c4dec333fc11cc253de3ed58ae289fc8a409db44b1a2bd8b"), looks := true }, kinds := [], alts := [], laidByText := true, laidKinds := [.data, .data, .data, .data, .sentinel, .sentinel, .pinned], laidTests := true, laidLooks := .later }
def AccrualInterestUptoCardSaid : Prop := Claim7.holds Tryz.pinned (.plain (OpenSpec.upto accrualInterestSpec)) accrualInterestUptoCard
end Rows
end Go.Proofs.YteennkgpeiafaaaGreatDoor
