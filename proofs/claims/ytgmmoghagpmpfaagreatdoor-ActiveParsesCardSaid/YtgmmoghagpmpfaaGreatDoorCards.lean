/-
  DERIVED. GIVEN WITH THE SEED: THE CARDS: each row of YtgmmoghagpmpfaaGreatDoorRows.lean that lists a variable, with what it lists TIED to the program's text (the seventh form; the later family's looks); each row that meets fmt, with fmt's text TOLD by the authors' own Lean function (tested against real Go, not proved from fmt's source: count such statements apart). THE CARD IS WHAT COUNTS. Prove the row's statement (the work); the ties are given (YtgmmoghagpmpfaaGreatDoorTie.lean); close each card by the builder's one call (the guide's Derived/Test/ToyasCard.lean, 'card_holds'). Laid BY PROGRAM, IN A SANDBOX (cutbox-door.mjs). By AI agents, Wed Nov 11 2026. No macro, syntax, notation, axiom, sorry.
-/
import Derived.Test.YtgmmoghagpmpfaaGreatDoorRows
import GoSem.ClaimSeven
namespace Go.Proofs.YtgmmoghagpmpfaaGreatDoor
namespace Rows

/-- THE TIED CARD OF 'bulletinlaw27.ActiveParses'. -/
def activeParsesCard : Claim7 := { stood := { row := activeParsesRow, standIns := [], harness := (true, "9e001cb4c3d330b94f25ad9b67164cdb6b6dd3893450ad02975e6f7eeef08cf4"), looks := false }, kinds := [], alts := [], laidByText := true, laidKinds := [.data, .data, .data, .data, .pinned], laidTests := true, laidLooks := .later }
def ActiveParsesCardSaid : Prop := Claim7.holds Tryz.pinned (.plain (OpenSpec.ofChange activeParsesSpec)) activeParsesCard

/-- THE TIED CARD OF 'bulletinlaw27.ActiveOperations'. -/
def activeOperationsCard : Claim7 := { stood := { row := activeOperationsRow, standIns := [], harness := (true, "9e001cb4c3d330b94f25ad9b67164cdb6b6dd3893450ad02975e6f7eeef08cf4"), looks := false }, kinds := [], alts := [], laidByText := true, laidKinds := [.data, .data, .data, .data, .pinned], laidTests := true, laidLooks := .later }
def ActiveOperationsCardSaid : Prop := Claim7.holds Tryz.pinned (.plain (OpenSpec.ofChange activeOperationsSpec)) activeOperationsCard

/-- THE TIED CARD OF 'bulletinlaw27.ActivePrints'. -/
def activePrintsCard : Claim7 := { stood := { row := activePrintsRow, standIns := [], harness := (true, "9e001cb4c3d330b94f25ad9b67164cdb6b6dd3893450ad02975e6f7eeef08cf4"), looks := false }, kinds := [], alts := [], laidByText := true, laidKinds := [.data, .data, .data, .data, .pinned], laidTests := true, laidLooks := .later }
def ActivePrintsCardSaid : Prop := Claim7.holds Tryz.pinned (.plain (OpenSpec.ofChange activePrintsSpec)) activePrintsCard

/-- THE TIED CARD OF 'bulletinlaw27.ActiveLimits'. -/
def activeLimitsCard : Claim7 := { stood := { row := activeLimitsRow, standIns := [], harness := (true, "9e001cb4c3d330b94f25ad9b67164cdb6b6dd3893450ad02975e6f7eeef08cf4"), looks := false }, kinds := [], alts := [], laidByText := true, laidKinds := [.data, .data, .data, .data, .pinned], laidTests := true, laidLooks := .later }
def ActiveLimitsCardSaid : Prop := Claim7.holds Tryz.pinned (.plain (OpenSpec.ofChange activeLimitsSpec)) activeLimitsCard

/-- THE TIED CARD OF 'bulletinlaw27.ActiveOrder'. -/
def activeOrderCard : Claim7 := { stood := { row := activeOrderRow, standIns := [], harness := (true, "9e001cb4c3d330b94f25ad9b67164cdb6b6dd3893450ad02975e6f7eeef08cf4"), looks := false }, kinds := [], alts := [], laidByText := true, laidKinds := [.data, .data, .data, .data, .pinned], laidTests := true, laidLooks := .later }
def ActiveOrderCardSaid : Prop := Claim7.holds Tryz.pinned (.plain (OpenSpec.ofChange activeOrderSpec)) activeOrderCard

/-- THE TIED CARD OF 'bulletinlaw27.ActiveCrossposts'. -/
def activeCrosspostsCard : Claim7 := { stood := { row := activeCrosspostsRow, standIns := [], harness := (true, "9e001cb4c3d330b94f25ad9b67164cdb6b6dd3893450ad02975e6f7eeef08cf4"), looks := false }, kinds := [], alts := [], laidByText := true, laidKinds := [.data, .data, .data, .data, .pinned], laidTests := true, laidLooks := .later }
def ActiveCrosspostsCardSaid : Prop := Claim7.holds Tryz.pinned (.plain (OpenSpec.ofChange activeCrosspostsSpec)) activeCrosspostsCard

/-- THE TIED CARD OF 'bulletinlaw27.ActiveMarks'. -/
def activeMarksCard : Claim7 := { stood := { row := activeMarksRow, standIns := [], harness := (true, "9e001cb4c3d330b94f25ad9b67164cdb6b6dd3893450ad02975e6f7eeef08cf4"), looks := false }, kinds := [], alts := [], laidByText := true, laidKinds := [.data, .data, .data, .data, .pinned], laidTests := true, laidLooks := .later }
def ActiveMarksCardSaid : Prop := Claim7.holds Tryz.pinned (.plain (OpenSpec.ofChange activeMarksSpec)) activeMarksCard

/-- THE TIED CARD OF 'bulletinlaw27.ActiveClones'. -/
def activeClonesCard : Claim7 := { stood := { row := activeClonesRow, standIns := [], harness := (true, "9e001cb4c3d330b94f25ad9b67164cdb6b6dd3893450ad02975e6f7eeef08cf4"), looks := false }, kinds := [], alts := [], laidByText := true, laidKinds := [.data, .data, .data, .data, .pinned], laidTests := true, laidLooks := .later }
def ActiveClonesCardSaid : Prop := Claim7.holds Tryz.pinned (.plain (OpenSpec.ofChange activeClonesSpec)) activeClonesCard

/-- THE TIED CARD OF 'bulletinlaw27.ActiveNumbers'. -/
def activeNumbersCard : Claim7 := { stood := { row := activeNumbersRow, standIns := [], harness := (true, "9e001cb4c3d330b94f25ad9b67164cdb6b6dd3893450ad02975e6f7eeef08cf4"), looks := false }, kinds := [], alts := [], laidByText := true, laidKinds := [.data, .data, .data, .data, .pinned], laidTests := true, laidLooks := .later }
def ActiveNumbersCardSaid : Prop := Claim7.holds Tryz.pinned (.plain (OpenSpec.ofChange activeNumbersSpec)) activeNumbersCard

/-- THE TIED CARD OF 'bulletinlaw27.ActiveNil'. -/
def activeNilCard : Claim7 := { stood := { row := activeNilRow, standIns := [], harness := (true, "9e001cb4c3d330b94f25ad9b67164cdb6b6dd3893450ad02975e6f7eeef08cf4"), looks := false }, kinds := [], alts := [], laidByText := true, laidKinds := [.data, .data, .data, .data, .pinned], laidTests := true, laidLooks := .later }
def ActiveNilCardSaid : Prop := Claim7.holds Tryz.pinned (.plain (OpenSpec.ofChange activeNilSpec)) activeNilCard

/-- THE SECOND FORM's CARD OF 'bulletinlaw27.ActiveParses'. -/
def activeParsesUptoCard : Claim7 := { stood := { row := activeParsesUptoRow, standIns := [], harness := (true, "9e001cb4c3d330b94f25ad9b67164cdb6b6dd3893450ad02975e6f7eeef08cf4"), looks := false }, kinds := [], alts := [], laidByText := true, laidKinds := [.data, .data, .data, .data, .pinned], laidTests := true, laidLooks := .later }
def ActiveParsesUptoCardSaid : Prop := Claim7.holds Tryz.pinned (.plain (OpenSpec.upto activeParsesSpec)) activeParsesUptoCard

/-- THE SECOND FORM's CARD OF 'bulletinlaw27.ActiveOperations'. -/
def activeOperationsUptoCard : Claim7 := { stood := { row := activeOperationsUptoRow, standIns := [], harness := (true, "9e001cb4c3d330b94f25ad9b67164cdb6b6dd3893450ad02975e6f7eeef08cf4"), looks := false }, kinds := [], alts := [], laidByText := true, laidKinds := [.data, .data, .data, .data, .pinned], laidTests := true, laidLooks := .later }
def ActiveOperationsUptoCardSaid : Prop := Claim7.holds Tryz.pinned (.plain (OpenSpec.upto activeOperationsSpec)) activeOperationsUptoCard

/-- THE SECOND FORM's CARD OF 'bulletinlaw27.ActivePrints'. -/
def activePrintsUptoCard : Claim7 := { stood := { row := activePrintsUptoRow, standIns := [], harness := (true, "9e001cb4c3d330b94f25ad9b67164cdb6b6dd3893450ad02975e6f7eeef08cf4"), looks := false }, kinds := [], alts := [], laidByText := true, laidKinds := [.data, .data, .data, .data, .pinned], laidTests := true, laidLooks := .later }
def ActivePrintsUptoCardSaid : Prop := Claim7.holds Tryz.pinned (.plain (OpenSpec.upto activePrintsSpec)) activePrintsUptoCard

/-- THE SECOND FORM's CARD OF 'bulletinlaw27.ActiveLimits'. -/
def activeLimitsUptoCard : Claim7 := { stood := { row := activeLimitsUptoRow, standIns := [], harness := (true, "9e001cb4c3d330b94f25ad9b67164cdb6b6dd3893450ad02975e6f7eeef08cf4"), looks := false }, kinds := [], alts := [], laidByText := true, laidKinds := [.data, .data, .data, .data, .pinned], laidTests := true, laidLooks := .later }
def ActiveLimitsUptoCardSaid : Prop := Claim7.holds Tryz.pinned (.plain (OpenSpec.upto activeLimitsSpec)) activeLimitsUptoCard

/-- THE SECOND FORM's CARD OF 'bulletinlaw27.ActiveOrder'. -/
def activeOrderUptoCard : Claim7 := { stood := { row := activeOrderUptoRow, standIns := [], harness := (true, "9e001cb4c3d330b94f25ad9b67164cdb6b6dd3893450ad02975e6f7eeef08cf4"), looks := false }, kinds := [], alts := [], laidByText := true, laidKinds := [.data, .data, .data, .data, .pinned], laidTests := true, laidLooks := .later }
def ActiveOrderUptoCardSaid : Prop := Claim7.holds Tryz.pinned (.plain (OpenSpec.upto activeOrderSpec)) activeOrderUptoCard

/-- THE SECOND FORM's CARD OF 'bulletinlaw27.ActiveCrossposts'. -/
def activeCrosspostsUptoCard : Claim7 := { stood := { row := activeCrosspostsUptoRow, standIns := [], harness := (true, "9e001cb4c3d330b94f25ad9b67164cdb6b6dd3893450ad02975e6f7eeef08cf4"), looks := false }, kinds := [], alts := [], laidByText := true, laidKinds := [.data, .data, .data, .data, .pinned], laidTests := true, laidLooks := .later }
def ActiveCrosspostsUptoCardSaid : Prop := Claim7.holds Tryz.pinned (.plain (OpenSpec.upto activeCrosspostsSpec)) activeCrosspostsUptoCard

/-- THE SECOND FORM's CARD OF 'bulletinlaw27.ActiveMarks'. -/
def activeMarksUptoCard : Claim7 := { stood := { row := activeMarksUptoRow, standIns := [], harness := (true, "9e001cb4c3d330b94f25ad9b67164cdb6b6dd3893450ad02975e6f7eeef08cf4"), looks := false }, kinds := [], alts := [], laidByText := true, laidKinds := [.data, .data, .data, .data, .pinned], laidTests := true, laidLooks := .later }
def ActiveMarksUptoCardSaid : Prop := Claim7.holds Tryz.pinned (.plain (OpenSpec.upto activeMarksSpec)) activeMarksUptoCard

/-- THE SECOND FORM's CARD OF 'bulletinlaw27.ActiveClones'. -/
def activeClonesUptoCard : Claim7 := { stood := { row := activeClonesUptoRow, standIns := [], harness := (true, "9e001cb4c3d330b94f25ad9b67164cdb6b6dd3893450ad02975e6f7eeef08cf4"), looks := false }, kinds := [], alts := [], laidByText := true, laidKinds := [.data, .data, .data, .data, .pinned], laidTests := true, laidLooks := .later }
def ActiveClonesUptoCardSaid : Prop := Claim7.holds Tryz.pinned (.plain (OpenSpec.upto activeClonesSpec)) activeClonesUptoCard

/-- THE SECOND FORM's CARD OF 'bulletinlaw27.ActiveNumbers'. -/
def activeNumbersUptoCard : Claim7 := { stood := { row := activeNumbersUptoRow, standIns := [], harness := (true, "9e001cb4c3d330b94f25ad9b67164cdb6b6dd3893450ad02975e6f7eeef08cf4"), looks := false }, kinds := [], alts := [], laidByText := true, laidKinds := [.data, .data, .data, .data, .pinned], laidTests := true, laidLooks := .later }
def ActiveNumbersUptoCardSaid : Prop := Claim7.holds Tryz.pinned (.plain (OpenSpec.upto activeNumbersSpec)) activeNumbersUptoCard

/-- THE SECOND FORM's CARD OF 'bulletinlaw27.ActiveNil'. -/
def activeNilUptoCard : Claim7 := { stood := { row := activeNilUptoRow, standIns := [], harness := (true, "9e001cb4c3d330b94f25ad9b67164cdb6b6dd3893450ad02975e6f7eeef08cf4"), looks := false }, kinds := [], alts := [], laidByText := true, laidKinds := [.data, .data, .data, .data, .pinned], laidTests := true, laidLooks := .later }
def ActiveNilUptoCardSaid : Prop := Claim7.holds Tryz.pinned (.plain (OpenSpec.upto activeNilSpec)) activeNilUptoCard
end Rows
end Go.Proofs.YtgmmoghagpmpfaaGreatDoor
