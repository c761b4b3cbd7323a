/-
  DERIVED. GIVEN WITH THE SEED: THE CARDS: each row of YtpgjmdggblnfkaaGreatDoorRows.lean that lists a variable, with what it lists TIED to the program's text (the seventh form; the later family's looks); each row that meets fmt, with fmt's text TOLD by the authors' own Lean function (tested against real Go, not proved from fmt's source: count such statements apart). THE CARD IS WHAT COUNTS. Prove the row's statement (the work); the ties are given (YtpgjmdggblnfkaaGreatDoorTie.lean); close each card by the builder's one call (the guide's Derived/Test/ToyasCard.lean, 'card_holds'). Laid BY PROGRAM, IN A SANDBOX (cutbox-door.mjs). By AI agents, Wed Nov 11 2026. No macro, syntax, notation, axiom, sorry.
-/
import Derived.Test.YtpgjmdggblnfkaaGreatDoorRows
import GoSem.ClaimSeven
namespace Go.Proofs.YtpgjmdggblnfkaaGreatDoor
namespace Rows

/-- THE TIED CARD OF 'tranchelaw39.AccrualSums'. -/
def accrualSumsCard : Claim7 := { stood := { row := accrualSumsRow, standIns := [], harness := (true, "fa744705b71011b2cc207a88250e5c3eff1cf00c59268dde07cac504eb64182d"), looks := true }, kinds := [], alts := [], laidByText := true, laidKinds := [.data, .data, .data, .data, .sentinel, .sentinel, .pinned], laidTests := true, laidLooks := .later }
def AccrualSumsCardSaid : Prop := Claim7.holds Tryz.pinned (.plain (OpenSpec.ofChange accrualSumsSpec)) accrualSumsCard

/-- THE TIED CARD OF 'tranchelaw39.AccrualEffects'. -/
def accrualEffectsCard : Claim7 := { stood := { row := accrualEffectsRow, standIns := [], harness := (true, "fa744705b71011b2cc207a88250e5c3eff1cf00c59268dde07cac504eb64182d"), looks := true }, kinds := [], alts := [], laidByText := true, laidKinds := [.data, .data, .data, .data, .sentinel, .sentinel, .pinned], laidTests := true, laidLooks := .later }
def AccrualEffectsCardSaid : Prop := Claim7.holds Tryz.pinned (.plain (OpenSpec.ofChange accrualEffectsSpec)) accrualEffectsCard

/-- THE TIED CARD OF 'tranchelaw39.AccrualLots'. -/
def accrualLotsCard : Claim7 := { stood := { row := accrualLotsRow, standIns := [], harness := (true, "fa744705b71011b2cc207a88250e5c3eff1cf00c59268dde07cac504eb64182d"), looks := true }, kinds := [], alts := [], laidByText := true, laidKinds := [.data, .data, .data, .data, .sentinel, .sentinel, .pinned], laidTests := true, laidLooks := .later }
def AccrualLotsCardSaid : Prop := Claim7.holds Tryz.pinned (.plain (OpenSpec.ofChange accrualLotsSpec)) accrualLotsCard

/-- THE TIED CARD OF 'tranchelaw39.AccrualPlans'. -/
def accrualPlansCard : Claim7 := { stood := { row := accrualPlansRow, standIns := [], harness := (true, "fa744705b71011b2cc207a88250e5c3eff1cf00c59268dde07cac504eb64182d"), looks := true }, kinds := [], alts := [], laidByText := true, laidKinds := [.data, .data, .data, .data, .sentinel, .sentinel, .pinned], laidTests := true, laidLooks := .later }
def AccrualPlansCardSaid : Prop := Claim7.holds Tryz.pinned (.plain (OpenSpec.ofChange accrualPlansSpec)) accrualPlansCard

/-- THE SECOND FORM's CARD OF 'tranchelaw39.AccrualSums'. -/
def accrualSumsUptoCard : Claim7 := { stood := { row := accrualSumsUptoRow, standIns := [], harness := (true, "fa744705b71011b2cc207a88250e5c3eff1cf00c59268dde07cac504eb64182d"), looks := true }, kinds := [], alts := [], laidByText := true, laidKinds := [.data, .data, .data, .data, .sentinel, .sentinel, .pinned], laidTests := true, laidLooks := .later }
def AccrualSumsUptoCardSaid : Prop := Claim7.holds Tryz.pinned (.plain (OpenSpec.upto accrualSumsSpec)) accrualSumsUptoCard

/-- THE SECOND FORM's CARD OF 'tranchelaw39.AccrualEffects'. -/
def accrualEffectsUptoCard : Claim7 := { stood := { row := accrualEffectsUptoRow, standIns := [], harness := (true, "fa744705b71011b2cc207a88250e5c3eff1cf00c59268dde07cac504eb64182d"), looks := true }, kinds := [], alts := [], laidByText := true, laidKinds := [.data, .data, .data, .data, .sentinel, .sentinel, .pinned], laidTests := true, laidLooks := .later }
def AccrualEffectsUptoCardSaid : Prop := Claim7.holds Tryz.pinned (.plain (OpenSpec.upto accrualEffectsSpec)) accrualEffectsUptoCard

/-- THE SECOND FORM's CARD OF 'tranchelaw39.AccrualLots'. -/
def accrualLotsUptoCard : Claim7 := { stood := { row := accrualLotsUptoRow, standIns := [], harness := (true, "fa744705b71011b2cc207a88250e5c3eff1cf00c59268dde07cac504eb64182d"), looks := true }, kinds := [], alts := [], laidByText := true, laidKinds := [.data, .data, .data, .data, .sentinel, .sentinel, .pinned], laidTests := true, laidLooks := .later }
def AccrualLotsUptoCardSaid : Prop := Claim7.holds Tryz.pinned (.plain (OpenSpec.upto accrualLotsSpec)) accrualLotsUptoCard

/-- THE SECOND FORM's CARD OF 'tranchelaw39.AccrualPlans'. -/
def accrualPlansUptoCard : Claim7 := { stood := { row := accrualPlansUptoRow, standIns := [], harness := (true, "fa744705b71011b2cc207a88250e5c3eff1cf00c59268dde07cac504eb64182d"), looks := true }, kinds := [], alts := [], laidByText := true, laidKinds := [.data, .data, .data, .data, .sentinel, .sentinel, .pinned], laidTests := true, laidLooks := .later }
def AccrualPlansUptoCardSaid : Prop := Claim7.holds Tryz.pinned (.plain (OpenSpec.upto accrualPlansSpec)) accrualPlansUptoCard
end Rows
end Go.Proofs.YtpgjmdggblnfkaaGreatDoor
