/-
  DERIVED. GIVEN WITH THE SEED: THE CARDS: each row of YtbkmhmaldljgmaaGreatDoorRows.lean that lists a variable, with what it lists TIED to the program's text (the seventh form; the later family's looks); each row that meets fmt, with fmt's text TOLD by the authors' own Lean function (tested against real Go, not proved from fmt's source: count such statements apart). THE CARD IS WHAT COUNTS. Prove the row's statement (the work); the ties are given (YtbkmhmaldljgmaaGreatDoorTie.lean); close each card by the builder's one call (the guide's Derived/Test/ToyasCard.lean, 'card_holds'). Laid BY PROGRAM, IN A SANDBOX (cutbox-door.mjs). By AI agents, Wed Nov 11 2026. No macro, syntax, notation, axiom, sorry.
-/
import Derived.Test.YtbkmhmaldljgmaaGreatDoorRows
import GoSem.ClaimSeven
namespace Go.Proofs.YtbkmhmaldljgmaaGreatDoor
namespace Rows

/-- THE TIED CARD OF 'tranchelaw40.RevalueChanges'. -/
def revalueChangesCard : Claim7 := { stood := { row := revalueChangesRow, standIns := [], harness := (true, "07efac870963565f0849f13e4ac2c8922878a243ae29457bdc824c35af8af153"), looks := true }, kinds := [], alts := [], laidByText := true, laidKinds := [.data, .data, .data, .data, .sentinel, .sentinel, .pinned], laidTests := true, laidLooks := .later }
def RevalueChangesCardSaid : Prop := Claim7.holds Tryz.pinned (.plain (OpenSpec.ofChange revalueChangesSpec)) revalueChangesCard

/-- THE TIED CARD OF 'tranchelaw40.RevalueMarks'. -/
def revalueMarksCard : Claim7 := { stood := { row := revalueMarksRow, standIns := [], harness := (true, "07efac870963565f0849f13e4ac2c8922878a243ae29457bdc824c35af8af153"), looks := true }, kinds := [], alts := [], laidByText := true, laidKinds := [.data, .data, .data, .data, .sentinel, .sentinel, .pinned], laidTests := true, laidLooks := .later }
def RevalueMarksCardSaid : Prop := Claim7.holds Tryz.pinned (.plain (OpenSpec.ofChange revalueMarksSpec)) revalueMarksCard

/-- THE TIED CARD OF 'tranchelaw40.RevalueEffects'. -/
def revalueEffectsCard : Claim7 := { stood := { row := revalueEffectsRow, standIns := [], harness := (true, "07efac870963565f0849f13e4ac2c8922878a243ae29457bdc824c35af8af153"), looks := true }, kinds := [], alts := [], laidByText := true, laidKinds := [.data, .data, .data, .data, .sentinel, .sentinel, .pinned], laidTests := true, laidLooks := .later }
def RevalueEffectsCardSaid : Prop := Claim7.holds Tryz.pinned (.plain (OpenSpec.ofChange revalueEffectsSpec)) revalueEffectsCard

/-- THE SECOND FORM's CARD OF 'tranchelaw40.RevalueChanges'. -/
def revalueChangesUptoCard : Claim7 := { stood := { row := revalueChangesUptoRow, standIns := [], harness := (true, "07efac870963565f0849f13e4ac2c8922878a243ae29457bdc824c35af8af153"), looks := true }, kinds := [], alts := [], laidByText := true, laidKinds := [.data, .data, .data, .data, .sentinel, .sentinel, .pinned], laidTests := true, laidLooks := .later }
def RevalueChangesUptoCardSaid : Prop := Claim7.holds Tryz.pinned (.plain (OpenSpec.upto revalueChangesSpec)) revalueChangesUptoCard

/-- THE SECOND FORM's CARD OF 'tranchelaw40.RevalueMarks'. -/
def revalueMarksUptoCard : Claim7 := { stood := { row := revalueMarksUptoRow, standIns := [], harness := (true, "07efac870963565f0849f13e4ac2c8922878a243ae29457bdc824c35af8af153"), looks := true }, kinds := [], alts := [], laidByText := true, laidKinds := [.data, .data, .data, .data, .sentinel, .sentinel, .pinned], laidTests := true, laidLooks := .later }
def RevalueMarksUptoCardSaid : Prop := Claim7.holds Tryz.pinned (.plain (OpenSpec.upto revalueMarksSpec)) revalueMarksUptoCard

/-- THE SECOND FORM's CARD OF 'tranchelaw40.RevalueEffects'. -/
def revalueEffectsUptoCard : Claim7 := { stood := { row := revalueEffectsUptoRow, standIns := [], harness := (true, "07efac870963565f0849f13e4ac2c8922878a243ae29457bdc824c35af8af153"), looks := true }, kinds := [], alts := [], laidByText := true, laidKinds := [.data, .data, .data, .data, .sentinel, .sentinel, .pinned], laidTests := true, laidLooks := .later }
def RevalueEffectsUptoCardSaid : Prop := Claim7.holds Tryz.pinned (.plain (OpenSpec.upto revalueEffectsSpec)) revalueEffectsUptoCard
end Rows
end Go.Proofs.YtbkmhmaldljgmaaGreatDoor
