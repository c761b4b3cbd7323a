/-
  DERIVED. GIVEN WITH THE SEED: THE CARDS: each row of YtdnmpgoigagjmaaGreatDoorRows.lean that lists a variable, with what it lists TIED to the program's text (the seventh form; the later family's looks); each row that meets fmt, with fmt's text TOLD by the authors' own Lean function (tested against real Go, not proved from fmt's source: count such statements apart). THE CARD IS WHAT COUNTS. Prove the row's statement (the work); the ties are given (YtdnmpgoigagjmaaGreatDoorTie.lean); close each card by the builder's one call (the guide's Derived/Test/ToyasCard.lean, 'card_holds'). Laid BY PROGRAM, IN A SANDBOX (cutbox-door.mjs). By AI agents, Wed Nov 11 2026. No macro, syntax, notation, axiom, sorry.
-/
import Derived.Test.YtdnmpgoigagjmaaGreatDoorRows
import GoSem.ClaimSeven
namespace Go.Proofs.YtdnmpgoigagjmaaGreatDoor
namespace Rows

/-- THE TIED CARD OF 'tranchelaw20.ReliefEverything'. -/
def reliefEverythingCard : Claim7 := { stood := { row := reliefEverythingRow, standIns := [], harness := (true, "c465ccbfebff62d26863df13f83c48458130dc891c6675cb58010a7521502656"), looks := true }, kinds := [], alts := [], laidByText := true, laidKinds := [.data, .data, .data, .data, .sentinel, .sentinel, .pinned], laidTests := true, laidLooks := .later }
def ReliefEverythingCardSaid : Prop := Claim7.holds Tryz.pinned (.plain (OpenSpec.ofChange reliefEverythingSpec)) reliefEverythingCard

/-- THE TIED CARD OF 'tranchelaw20.ReliefSums'. -/
def reliefSumsCard : Claim7 := { stood := { row := reliefSumsRow, standIns := [], harness := (true, "c465ccbfebff62d26863df13f83c48458130dc891c6675cb58010a7521502656"), looks := true }, kinds := [], alts := [], laidByText := true, laidKinds := [.data, .data, .data, .data, .sentinel, .sentinel, .pinned], laidTests := true, laidLooks := .later }
def ReliefSumsCardSaid : Prop := Claim7.holds Tryz.pinned (.plain (OpenSpec.ofChange reliefSumsSpec)) reliefSumsCard

/-- THE TIED CARD OF 'tranchelaw20.ReliefNames'. -/
def reliefNamesCard : Claim7 := { stood := { row := reliefNamesRow, standIns := [], harness := (true, "c465ccbfebff62d26863df13f83c48458130dc891c6675cb58010a7521502656"), looks := true }, kinds := [], alts := [], laidByText := true, laidKinds := [.data, .data, .data, .data, .sentinel, .sentinel, .pinned], laidTests := true, laidLooks := .later }
def ReliefNamesCardSaid : Prop := Claim7.holds Tryz.pinned (.plain (OpenSpec.ofChange reliefNamesSpec)) reliefNamesCard

/-- THE TIED CARD OF 'tranchelaw20.ReliefExtremes'. -/
def reliefExtremesCard : Claim7 := { stood := { row := reliefExtremesRow, standIns := [], harness := (true, "c465ccbfebff62d26863df13f83c48458130dc891c6675cb58010a7521502656"), looks := true }, kinds := [], alts := [], laidByText := true, laidKinds := [.data, .data, .data, .data, .sentinel, .sentinel, .pinned], laidTests := true, laidLooks := .later }
def ReliefExtremesCardSaid : Prop := Claim7.holds Tryz.pinned (.plain (OpenSpec.ofChange reliefExtremesSpec)) reliefExtremesCard

/-- THE TIED CARD OF 'tranchelaw20.ReliefChoices'. -/
def reliefChoicesCard : Claim7 := { stood := { row := reliefChoicesRow, standIns := [], harness := (true, "c465ccbfebff62d26863df13f83c48458130dc891c6675cb58010a7521502656"), looks := true }, kinds := [], alts := [], laidByText := true, laidKinds := [.data, .data, .data, .data, .sentinel, .sentinel, .pinned], laidTests := true, laidLooks := .later }
def ReliefChoicesCardSaid : Prop := Claim7.holds Tryz.pinned (.plain (OpenSpec.ofChange reliefChoicesSpec)) reliefChoicesCard

/-- THE TIED CARD OF 'tranchelaw20.ReliefOrders'. -/
def reliefOrdersCard : Claim7 := { stood := { row := reliefOrdersRow, standIns := [], harness := (true, "c465ccbfebff62d26863df13f83c48458130dc891c6675cb58010a7521502656"), looks := true }, kinds := [], alts := [], laidByText := true, laidKinds := [.data, .data, .data, .data, .sentinel, .sentinel, .pinned], laidTests := true, laidLooks := .later }
def ReliefOrdersCardSaid : Prop := Claim7.holds Tryz.pinned (.plain (OpenSpec.ofChange reliefOrdersSpec)) reliefOrdersCard

/-- THE TIED CARD OF 'tranchelaw20.ReliefTakes'. -/
def reliefTakesCard : Claim7 := { stood := { row := reliefTakesRow, standIns := [], harness := (true, "c465ccbfebff62d26863df13f83c48458130dc891c6675cb58010a7521502656"), looks := true }, kinds := [], alts := [], laidByText := true, laidKinds := [.data, .data, .data, .data, .sentinel, .sentinel, .pinned], laidTests := true, laidLooks := .later }
def ReliefTakesCardSaid : Prop := Claim7.holds Tryz.pinned (.plain (OpenSpec.ofChange reliefTakesSpec)) reliefTakesCard

/-- THE TIED CARD OF 'tranchelaw19.LotChecks'. -/
def lotChecksCard : Claim7 := { stood := { row := lotChecksRow, standIns := [], harness := (true, "c465ccbfebff62d26863df13f83c48458130dc891c6675cb58010a7521502656"), looks := true }, kinds := [], alts := [], laidByText := true, laidKinds := [.data, .data, .data, .data, .sentinel, .sentinel, .pinned], laidTests := true, laidLooks := .later }
def LotChecksCardSaid : Prop := Claim7.holds Tryz.pinned (.plain (OpenSpec.ofChange lotChecksSpec)) lotChecksCard

/-- THE TIED CARD OF 'tranchelaw19.LotOpen'. -/
def lotOpenCard : Claim7 := { stood := { row := lotOpenRow, standIns := [], harness := (true, "c465ccbfebff62d26863df13f83c48458130dc891c6675cb58010a7521502656"), looks := true }, kinds := [], alts := [], laidByText := true, laidKinds := [.data, .data, .data, .data, .sentinel, .sentinel, .pinned], laidTests := true, laidLooks := .later }
def LotOpenCardSaid : Prop := Claim7.holds Tryz.pinned (.plain (OpenSpec.ofChange lotOpenSpec)) lotOpenCard

/-- THE TIED CARD OF 'tranchelaw20.ReliefConserves'. -/
def reliefConservesCard : Claim7 := { stood := { row := reliefConservesRow, standIns := [], harness := (true, "c465ccbfebff62d26863df13f83c48458130dc891c6675cb58010a7521502656"), looks := true }, kinds := [], alts := [], laidByText := true, laidKinds := [.data, .data, .data, .data, .sentinel, .sentinel, .pinned], laidTests := true, laidLooks := .later }
def ReliefConservesCardSaid : Prop := Claim7.holds Tryz.pinned (.plain (OpenSpec.ofChange reliefConservesSpec)) reliefConservesCard

/-- THE SECOND FORM's CARD OF 'tranchelaw20.ReliefEverything'. -/
def reliefEverythingUptoCard : Claim7 := { stood := { row := reliefEverythingUptoRow, standIns := [], harness := (true, "c465ccbfebff62d26863df13f83c48458130dc891c6675cb58010a7521502656"), looks := true }, kinds := [], alts := [], laidByText := true, laidKinds := [.data, .data, .data, .data, .sentinel, .sentinel, .pinned], laidTests := true, laidLooks := .later }
def ReliefEverythingUptoCardSaid : Prop := Claim7.holds Tryz.pinned (.plain (OpenSpec.upto reliefEverythingSpec)) reliefEverythingUptoCard

/-- THE SECOND FORM's CARD OF 'tranchelaw20.ReliefSums'. -/
def reliefSumsUptoCard : Claim7 := { stood := { row := reliefSumsUptoRow, standIns := [], harness := (true, "c465ccbfebff62d26863df13f83c48458130dc891c6675cb58010a7521502656"), looks := true }, kinds := [], alts := [], laidByText := true, laidKinds := [.data, .data, .data, .data, .sentinel, .sentinel, .pinned], laidTests := true, laidLooks := .later }
def ReliefSumsUptoCardSaid : Prop := Claim7.holds Tryz.pinned (.plain (OpenSpec.upto reliefSumsSpec)) reliefSumsUptoCard

/-- THE SECOND FORM's CARD OF 'tranchelaw20.ReliefNames'. -/
def reliefNamesUptoCard : Claim7 := { stood := { row := reliefNamesUptoRow, standIns := [], harness := (true, "c465ccbfebff62d26863df13f83c48458130dc891c6675cb58010a7521502656"), looks := true }, kinds := [], alts := [], laidByText := true, laidKinds := [.data, .data, .data, .data, .sentinel, .sentinel, .pinned], laidTests := true, laidLooks := .later }
def ReliefNamesUptoCardSaid : Prop := Claim7.holds Tryz.pinned (.plain (OpenSpec.upto reliefNamesSpec)) reliefNamesUptoCard

/-- THE SECOND FORM's CARD OF 'tranchelaw20.ReliefExtremes'. -/
def reliefExtremesUptoCard : Claim7 := { stood := { row := reliefExtremesUptoRow, standIns := [], harness := (true, "c465ccbfebff62d26863df13f83c48458130dc891c6675cb58010a7521502656"), looks := true }, kinds := [], alts := [], laidByText := true, laidKinds := [.data, .data, .data, .data, .sentinel, .sentinel, .pinned], laidTests := true, laidLooks := .later }
def ReliefExtremesUptoCardSaid : Prop := Claim7.holds Tryz.pinned (.plain (OpenSpec.upto reliefExtremesSpec)) reliefExtremesUptoCard

/-- THE SECOND FORM's CARD OF 'tranchelaw20.ReliefChoices'. -/
def reliefChoicesUptoCard : Claim7 := { stood := { row := reliefChoicesUptoRow, standIns := [], harness := (true, "c465ccbfebff62d26863df13f83c48458130dc891c6675cb58010a7521502656"), looks := true }, kinds := [], alts := [], laidByText := true, laidKinds := [.data, .data, .data, .data, .sentinel, .sentinel, .pinned], laidTests := true, laidLooks := .later }
def ReliefChoicesUptoCardSaid : Prop := Claim7.holds Tryz.pinned (.plain (OpenSpec.upto reliefChoicesSpec)) reliefChoicesUptoCard

/-- THE SECOND FORM's CARD OF 'tranchelaw20.ReliefOrders'. -/
def reliefOrdersUptoCard : Claim7 := { stood := { row := reliefOrdersUptoRow, standIns := [], harness := (true, "c465ccbfebff62d26863df13f83c48458130dc891c6675cb58010a7521502656"), looks := true }, kinds := [], alts := [], laidByText := true, laidKinds := [.data, .data, .data, .data, .sentinel, .sentinel, .pinned], laidTests := true, laidLooks := .later }
def ReliefOrdersUptoCardSaid : Prop := Claim7.holds Tryz.pinned (.plain (OpenSpec.upto reliefOrdersSpec)) reliefOrdersUptoCard

/-- THE SECOND FORM's CARD OF 'tranchelaw20.ReliefTakes'. -/
def reliefTakesUptoCard : Claim7 := { stood := { row := reliefTakesUptoRow, standIns := [], harness := (true, "c465ccbfebff62d26863df13f83c48458130dc891c6675cb58010a7521502656"), looks := true }, kinds := [], alts := [], laidByText := true, laidKinds := [.data, .data, .data, .data, .sentinel, .sentinel, .pinned], laidTests := true, laidLooks := .later }
def ReliefTakesUptoCardSaid : Prop := Claim7.holds Tryz.pinned (.plain (OpenSpec.upto reliefTakesSpec)) reliefTakesUptoCard

/-- THE SECOND FORM's CARD OF 'tranchelaw19.LotChecks'. -/
def lotChecksUptoCard : Claim7 := { stood := { row := lotChecksUptoRow, standIns := [], harness := (true, "c465ccbfebff62d26863df13f83c48458130dc891c6675cb58010a7521502656"), looks := true }, kinds := [], alts := [], laidByText := true, laidKinds := [.data, .data, .data, .data, .sentinel, .sentinel, .pinned], laidTests := true, laidLooks := .later }
def LotChecksUptoCardSaid : Prop := Claim7.holds Tryz.pinned (.plain (OpenSpec.upto lotChecksSpec)) lotChecksUptoCard

/-- THE SECOND FORM's CARD OF 'tranchelaw19.LotOpen'. -/
def lotOpenUptoCard : Claim7 := { stood := { row := lotOpenUptoRow, standIns := [], harness := (true, "c465ccbfebff62d26863df13f83c48458130dc891c6675cb58010a7521502656"), looks := true }, kinds := [], alts := [], laidByText := true, laidKinds := [.data, .data, .data, .data, .sentinel, .sentinel, .pinned], laidTests := true, laidLooks := .later }
def LotOpenUptoCardSaid : Prop := Claim7.holds Tryz.pinned (.plain (OpenSpec.upto lotOpenSpec)) lotOpenUptoCard

/-- THE SECOND FORM's CARD OF 'tranchelaw20.ReliefConserves'. -/
def reliefConservesUptoCard : Claim7 := { stood := { row := reliefConservesUptoRow, standIns := [], harness := (true, "c465ccbfebff62d26863df13f83c48458130dc891c6675cb58010a7521502656"), looks := true }, kinds := [], alts := [], laidByText := true, laidKinds := [.data, .data, .data, .data, .sentinel, .sentinel, .pinned], laidTests := true, laidLooks := .later }
def ReliefConservesUptoCardSaid : Prop := Claim7.holds Tryz.pinned (.plain (OpenSpec.upto reliefConservesSpec)) reliefConservesUptoCard
end Rows
end Go.Proofs.YtdnmpgoigagjmaaGreatDoor
