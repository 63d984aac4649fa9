/-
  DERIVED. GIVEN WITH THE SEED: THE CARDS: each row of YtfacflbmlfbeeaaGreatDoorRows.lean that lists a variable, with what it lists TIED to the program's text (the seventh form; the later family's looks); each row that meets fmt, with fmt's text TOLD by the authors' own Lean function (tested against real Go, not proved from fmt's source: count such statements apart). THE CARD IS WHAT COUNTS. Prove the row's statement (the work); the ties are given (YtfacflbmlfbeeaaGreatDoorTie.lean); close each card by the builder's one call (the guide's Derived/Test/ToyasCard.lean, 'card_holds'). Laid BY PROGRAM, IN A SANDBOX (cutbox-door.mjs). By AI agents, Wed Nov 11 2026. No macro, syntax, notation, axiom, sorry.
-/
import Derived.Test.YtfacflbmlfbeeaaGreatDoorRows
import GoSem.ClaimSeven
namespace Go.Proofs.YtfacflbmlfbeeaaGreatDoor
namespace Rows

/-- THE TIED CARD OF 'bulletinlaw39.ModerationNew'. -/
def moderationNewCard : Claim7 := { stood := { row := moderationNewRow, standIns := [], harness := (true, "181391a57d151353930aee3a8e572ef3bbb9add7c5792a23d437d9f0dae9b131"), looks := false }, kinds := [], alts := [], laidByText := true, laidKinds := [.data, .pinned], laidTests := true, laidLooks := .later }
def ModerationNewCardSaid : Prop := Claim7.holds Tryz.pinned (.plain (OpenSpec.ofChange moderationNewSpec)) moderationNewCard

/-- THE TIED CARD OF 'bulletinlaw39.ModerationCommands'. -/
def moderationCommandsCard : Claim7 := { stood := { row := moderationCommandsRow, standIns := [], harness := (true, "181391a57d151353930aee3a8e572ef3bbb9add7c5792a23d437d9f0dae9b131"), looks := false }, kinds := [], alts := [], laidByText := true, laidKinds := [.data, .pinned], laidTests := true, laidLooks := .later }
def ModerationCommandsCardSaid : Prop := Claim7.holds Tryz.pinned (.plain (OpenSpec.ofChange moderationCommandsSpec)) moderationCommandsCard

/-- THE TIED CARD OF 'bulletinlaw39.ModerationOperations'. -/
def moderationOperationsCard : Claim7 := { stood := { row := moderationOperationsRow, standIns := [], harness := (true, "181391a57d151353930aee3a8e572ef3bbb9add7c5792a23d437d9f0dae9b131"), looks := false }, kinds := [], alts := [], laidByText := true, laidKinds := [.data, .pinned], laidTests := true, laidLooks := .later }
def ModerationOperationsCardSaid : Prop := Claim7.holds Tryz.pinned (.plain (OpenSpec.ofChange moderationOperationsSpec)) moderationOperationsCard

/-- THE TIED CARD OF 'bulletinlaw39.ModerationRoom'. -/
def moderationRoomCard : Claim7 := { stood := { row := moderationRoomRow, standIns := [], harness := (true, "181391a57d151353930aee3a8e572ef3bbb9add7c5792a23d437d9f0dae9b131"), looks := false }, kinds := [], alts := [], laidByText := true, laidKinds := [.data, .pinned], laidTests := true, laidLooks := .later }
def ModerationRoomCardSaid : Prop := Claim7.holds Tryz.pinned (.plain (OpenSpec.ofChange moderationRoomSpec)) moderationRoomCard

/-- THE TIED CARD OF 'bulletinlaw39.ModerationLapses'. -/
def moderationLapsesCard : Claim7 := { stood := { row := moderationLapsesRow, standIns := [], harness := (true, "181391a57d151353930aee3a8e572ef3bbb9add7c5792a23d437d9f0dae9b131"), looks := false }, kinds := [], alts := [], laidByText := true, laidKinds := [.data, .pinned], laidTests := true, laidLooks := .later }
def ModerationLapsesCardSaid : Prop := Claim7.holds Tryz.pinned (.plain (OpenSpec.ofChange moderationLapsesSpec)) moderationLapsesCard

/-- THE TIED CARD OF 'bulletinlaw39.ModerationDecisions'. -/
def moderationDecisionsCard : Claim7 := { stood := { row := moderationDecisionsRow, standIns := [], harness := (true, "181391a57d151353930aee3a8e572ef3bbb9add7c5792a23d437d9f0dae9b131"), looks := false }, kinds := [], alts := [], laidByText := true, laidKinds := [.data, .pinned], laidTests := true, laidLooks := .later }
def ModerationDecisionsCardSaid : Prop := Claim7.holds Tryz.pinned (.plain (OpenSpec.ofChange moderationDecisionsSpec)) moderationDecisionsCard

/-- THE TIED CARD OF 'bulletinlaw39.ModerationLeases'. -/
def moderationLeasesCard : Claim7 := { stood := { row := moderationLeasesRow, standIns := [], harness := (true, "181391a57d151353930aee3a8e572ef3bbb9add7c5792a23d437d9f0dae9b131"), looks := false }, kinds := [], alts := [], laidByText := true, laidKinds := [.data, .pinned], laidTests := true, laidLooks := .later }
def ModerationLeasesCardSaid : Prop := Claim7.holds Tryz.pinned (.plain (OpenSpec.ofChange moderationLeasesSpec)) moderationLeasesCard

/-- THE TIED CARD OF 'bulletinlaw39.ModerationStates'. -/
def moderationStatesCard : Claim7 := { stood := { row := moderationStatesRow, standIns := [], harness := (true, "181391a57d151353930aee3a8e572ef3bbb9add7c5792a23d437d9f0dae9b131"), looks := false }, kinds := [], alts := [], laidByText := true, laidKinds := [.data, .pinned], laidTests := true, laidLooks := .later }
def ModerationStatesCardSaid : Prop := Claim7.holds Tryz.pinned (.plain (OpenSpec.ofChange moderationStatesSpec)) moderationStatesCard

/-- THE TIED CARD OF 'bulletinlaw39.ModerationNil'. -/
def moderationNilCard : Claim7 := { stood := { row := moderationNilRow, standIns := [], harness := (true, "181391a57d151353930aee3a8e572ef3bbb9add7c5792a23d437d9f0dae9b131"), looks := false }, kinds := [], alts := [], laidByText := true, laidKinds := [.data, .pinned], laidTests := true, laidLooks := .later }
def ModerationNilCardSaid : Prop := Claim7.holds Tryz.pinned (.plain (OpenSpec.ofChange moderationNilSpec)) moderationNilCard

/-- THE TIED CARD OF 'bulletinlaw39.ModerationClones'. -/
def moderationClonesCard : Claim7 := { stood := { row := moderationClonesRow, standIns := [], harness := (true, "181391a57d151353930aee3a8e572ef3bbb9add7c5792a23d437d9f0dae9b131"), looks := false }, kinds := [], alts := [], laidByText := true, laidKinds := [.data, .pinned], laidTests := true, laidLooks := .later }
def ModerationClonesCardSaid : Prop := Claim7.holds Tryz.pinned (.plain (OpenSpec.ofChange moderationClonesSpec)) moderationClonesCard

/-- THE SECOND FORM's CARD OF 'bulletinlaw39.ModerationNew'. -/
def moderationNewUptoCard : Claim7 := { stood := { row := moderationNewUptoRow, standIns := [], harness := (true, "181391a57d151353930aee3a8e572ef3bbb9add7c5792a23d437d9f0dae9b131"), looks := false }, kinds := [], alts := [], laidByText := true, laidKinds := [.data, .pinned], laidTests := true, laidLooks := .later }
def ModerationNewUptoCardSaid : Prop := Claim7.holds Tryz.pinned (.plain (OpenSpec.upto moderationNewSpec)) moderationNewUptoCard

/-- THE SECOND FORM's CARD OF 'bulletinlaw39.ModerationCommands'. -/
def moderationCommandsUptoCard : Claim7 := { stood := { row := moderationCommandsUptoRow, standIns := [], harness := (true, "181391a57d151353930aee3a8e572ef3bbb9add7c5792a23d437d9f0dae9b131"), looks := false }, kinds := [], alts := [], laidByText := true, laidKinds := [.data, .pinned], laidTests := true, laidLooks := .later }
def ModerationCommandsUptoCardSaid : Prop := Claim7.holds Tryz.pinned (.plain (OpenSpec.upto moderationCommandsSpec)) moderationCommandsUptoCard

/-- THE SECOND FORM's CARD OF 'bulletinlaw39.ModerationOperations'. -/
def moderationOperationsUptoCard : Claim7 := { stood := { row := moderationOperationsUptoRow, standIns := [], harness := (true, "181391a57d151353930aee3a8e572ef3bbb9add7c5792a23d437d9f0dae9b131"), looks := false }, kinds := [], alts := [], laidByText := true, laidKinds := [.data, .pinned], laidTests := true, laidLooks := .later }
def ModerationOperationsUptoCardSaid : Prop := Claim7.holds Tryz.pinned (.plain (OpenSpec.upto moderationOperationsSpec)) moderationOperationsUptoCard

/-- THE SECOND FORM's CARD OF 'bulletinlaw39.ModerationRoom'. -/
def moderationRoomUptoCard : Claim7 := { stood := { row := moderationRoomUptoRow, standIns := [], harness := (true, "181391a57d151353930aee3a8e572ef3bbb9add7c5792a23d437d9f0dae9b131"), looks := false }, kinds := [], alts := [], laidByText := true, laidKinds := [.data, .pinned], laidTests := true, laidLooks := .later }
def ModerationRoomUptoCardSaid : Prop := Claim7.holds Tryz.pinned (.plain (OpenSpec.upto moderationRoomSpec)) moderationRoomUptoCard

/-- THE SECOND FORM's CARD OF 'bulletinlaw39.ModerationLapses'. -/
def moderationLapsesUptoCard : Claim7 := { stood := { row := moderationLapsesUptoRow, standIns := [], harness := (true, "181391a57d151353930aee3a8e572ef3bbb9add7c5792a23d437d9f0dae9b131"), looks := false }, kinds := [], alts := [], laidByText := true, laidKinds := [.data, .pinned], laidTests := true, laidLooks := .later }
def ModerationLapsesUptoCardSaid : Prop := Claim7.holds Tryz.pinned (.plain (OpenSpec.upto moderationLapsesSpec)) moderationLapsesUptoCard

/-- THE SECOND FORM's CARD OF 'bulletinlaw39.ModerationDecisions'. -/
def moderationDecisionsUptoCard : Claim7 := { stood := { row := moderationDecisionsUptoRow, standIns := [], harness := (true, "181391a57d151353930aee3a8e572ef3bbb9add7c5792a23d437d9f0dae9b131"), looks := false }, kinds := [], alts := [], laidByText := true, laidKinds := [.data, .pinned], laidTests := true, laidLooks := .later }
def ModerationDecisionsUptoCardSaid : Prop := Claim7.holds Tryz.pinned (.plain (OpenSpec.upto moderationDecisionsSpec)) moderationDecisionsUptoCard

/-- THE SECOND FORM's CARD OF 'bulletinlaw39.ModerationLeases'. -/
def moderationLeasesUptoCard : Claim7 := { stood := { row := moderationLeasesUptoRow, standIns := [], harness := (true, "181391a57d151353930aee3a8e572ef3bbb9add7c5792a23d437d9f0dae9b131"), looks := false }, kinds := [], alts := [], laidByText := true, laidKinds := [.data, .pinned], laidTests := true, laidLooks := .later }
def ModerationLeasesUptoCardSaid : Prop := Claim7.holds Tryz.pinned (.plain (OpenSpec.upto moderationLeasesSpec)) moderationLeasesUptoCard

/-- THE SECOND FORM's CARD OF 'bulletinlaw39.ModerationStates'. -/
def moderationStatesUptoCard : Claim7 := { stood := { row := moderationStatesUptoRow, standIns := [], harness := (true, "181391a57d151353930aee3a8e572ef3bbb9add7c5792a23d437d9f0dae9b131"), looks := false }, kinds := [], alts := [], laidByText := true, laidKinds := [.data, .pinned], laidTests := true, laidLooks := .later }
def ModerationStatesUptoCardSaid : Prop := Claim7.holds Tryz.pinned (.plain (OpenSpec.upto moderationStatesSpec)) moderationStatesUptoCard

/-- THE SECOND FORM's CARD OF 'bulletinlaw39.ModerationNil'. -/
def moderationNilUptoCard : Claim7 := { stood := { row := moderationNilUptoRow, standIns := [], harness := (true, "181391a57d151353930aee3a8e572ef3bbb9add7c5792a23d437d9f0dae9b131"), looks := false }, kinds := [], alts := [], laidByText := true, laidKinds := [.data, .pinned], laidTests := true, laidLooks := .later }
def ModerationNilUptoCardSaid : Prop := Claim7.holds Tryz.pinned (.plain (OpenSpec.upto moderationNilSpec)) moderationNilUptoCard

/-- THE SECOND FORM's CARD OF 'bulletinlaw39.ModerationClones'. -/
def moderationClonesUptoCard : Claim7 := { stood := { row := moderationClonesUptoRow, standIns := [], harness := (true, "181391a57d151353930aee3a8e572ef3bbb9add7c5792a23d437d9f0dae9b131"), looks := false }, kinds := [], alts := [], laidByText := true, laidKinds := [.data, .pinned], laidTests := true, laidLooks := .later }
def ModerationClonesUptoCardSaid : Prop := Claim7.holds Tryz.pinned (.plain (OpenSpec.upto moderationClonesSpec)) moderationClonesUptoCard
end Rows
end Go.Proofs.YtfacflbmlfbeeaaGreatDoor
