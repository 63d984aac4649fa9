/-
  DERIVED. GIVEN WITH THE SEED: THE CARDS: each row of YtmlmdljnfokebaaGreatDoorRows.lean that lists a variable, with what it lists TIED to the program's text (the seventh form; the later family's looks); each row that meets fmt, with fmt's text TOLD by the authors' own Lean function (tested against real Go, not proved from fmt's source: count such statements apart). THE CARD IS WHAT COUNTS. Prove the row's statement (the work); the ties are given (YtmlmdljnfokebaaGreatDoorTie.lean); close each card by the builder's one call (the guide's Derived/Test/ToyasCard.lean, 'card_holds'). Laid BY PROGRAM, IN A SANDBOX (cutbox-door.mjs). By AI agents, Wed Nov 11 2026. No macro, syntax, notation, axiom, sorry.
-/
import Derived.Test.YtmlmdljnfokebaaGreatDoorRows
import GoSem.ClaimSeven
namespace Go.Proofs.YtmlmdljnfokebaaGreatDoor
namespace Rows

/-- THE TIED CARD OF 'bulletinlaw49.MailParses'. -/
def mailParsesCard : Claim7 := { stood := { row := mailParsesRow, standIns := [], harness := (true, "4f37a290fbe44c36de54749ed2db1bac14d5217b9ac3b9b29d599938856397f1"), looks := false }, kinds := [], alts := [], laidByText := true, laidKinds := [.data, .data, .data], laidTests := true, laidLooks := .later }
def MailParsesCardSaid : Prop := Claim7.holds Tryz.pinned (.plain (OpenSpec.ofChange mailParsesSpec)) mailParsesCard

/-- THE TIED CARD OF 'bulletinlaw49.MailPrints'. -/
def mailPrintsCard : Claim7 := { stood := { row := mailPrintsRow, standIns := [], harness := (true, "4f37a290fbe44c36de54749ed2db1bac14d5217b9ac3b9b29d599938856397f1"), looks := false }, kinds := [], alts := [], laidByText := true, laidKinds := [.data, .data, .data], laidTests := true, laidLooks := .later }
def MailPrintsCardSaid : Prop := Claim7.holds Tryz.pinned (.plain (OpenSpec.ofChange mailPrintsSpec)) mailPrintsCard

/-- THE TIED CARD OF 'bulletinlaw49.MailRetries'. -/
def mailRetriesCard : Claim7 := { stood := { row := mailRetriesRow, standIns := [], harness := (true, "4f37a290fbe44c36de54749ed2db1bac14d5217b9ac3b9b29d599938856397f1"), looks := false }, kinds := [], alts := [], laidByText := true, laidKinds := [.data, .data, .data], laidTests := true, laidLooks := .later }
def MailRetriesCardSaid : Prop := Claim7.holds Tryz.pinned (.plain (OpenSpec.ofChange mailRetriesSpec)) mailRetriesCard

/-- THE TIED CARD OF 'bulletinlaw49.MailQueues'. -/
def mailQueuesCard : Claim7 := { stood := { row := mailQueuesRow, standIns := [], harness := (true, "4f37a290fbe44c36de54749ed2db1bac14d5217b9ac3b9b29d599938856397f1"), looks := false }, kinds := [], alts := [], laidByText := true, laidKinds := [.data, .data, .data], laidTests := true, laidLooks := .later }
def MailQueuesCardSaid : Prop := Claim7.holds Tryz.pinned (.plain (OpenSpec.ofChange mailQueuesSpec)) mailQueuesCard

/-- THE TIED CARD OF 'bulletinlaw49.MailClones'. -/
def mailClonesCard : Claim7 := { stood := { row := mailClonesRow, standIns := [], harness := (true, "4f37a290fbe44c36de54749ed2db1bac14d5217b9ac3b9b29d599938856397f1"), looks := false }, kinds := [], alts := [], laidByText := true, laidKinds := [.data, .data, .data], laidTests := true, laidLooks := .later }
def MailClonesCardSaid : Prop := Claim7.holds Tryz.pinned (.plain (OpenSpec.ofChange mailClonesSpec)) mailClonesCard

/-- THE SECOND FORM's CARD OF 'bulletinlaw49.MailParses'. -/
def mailParsesUptoCard : Claim7 := { stood := { row := mailParsesUptoRow, standIns := [], harness := (true, "4f37a290fbe44c36de54749ed2db1bac14d5217b9ac3b9b29d599938856397f1"), looks := false }, kinds := [], alts := [], laidByText := true, laidKinds := [.data, .data, .data], laidTests := true, laidLooks := .later }
def MailParsesUptoCardSaid : Prop := Claim7.holds Tryz.pinned (.plain (OpenSpec.upto mailParsesSpec)) mailParsesUptoCard

/-- THE SECOND FORM's CARD OF 'bulletinlaw49.MailPrints'. -/
def mailPrintsUptoCard : Claim7 := { stood := { row := mailPrintsUptoRow, standIns := [], harness := (true, "4f37a290fbe44c36de54749ed2db1bac14d5217b9ac3b9b29d599938856397f1"), looks := false }, kinds := [], alts := [], laidByText := true, laidKinds := [.data, .data, .data], laidTests := true, laidLooks := .later }
def MailPrintsUptoCardSaid : Prop := Claim7.holds Tryz.pinned (.plain (OpenSpec.upto mailPrintsSpec)) mailPrintsUptoCard

/-- THE SECOND FORM's CARD OF 'bulletinlaw49.MailRetries'. -/
def mailRetriesUptoCard : Claim7 := { stood := { row := mailRetriesUptoRow, standIns := [], harness := (true, "4f37a290fbe44c36de54749ed2db1bac14d5217b9ac3b9b29d599938856397f1"), looks := false }, kinds := [], alts := [], laidByText := true, laidKinds := [.data, .data, .data], laidTests := true, laidLooks := .later }
def MailRetriesUptoCardSaid : Prop := Claim7.holds Tryz.pinned (.plain (OpenSpec.upto mailRetriesSpec)) mailRetriesUptoCard

/-- THE SECOND FORM's CARD OF 'bulletinlaw49.MailQueues'. -/
def mailQueuesUptoCard : Claim7 := { stood := { row := mailQueuesUptoRow, standIns := [], harness := (true, "4f37a290fbe44c36de54749ed2db1bac14d5217b9ac3b9b29d599938856397f1"), looks := false }, kinds := [], alts := [], laidByText := true, laidKinds := [.data, .data, .data], laidTests := true, laidLooks := .later }
def MailQueuesUptoCardSaid : Prop := Claim7.holds Tryz.pinned (.plain (OpenSpec.upto mailQueuesSpec)) mailQueuesUptoCard

/-- THE SECOND FORM's CARD OF 'bulletinlaw49.MailClones'. -/
def mailClonesUptoCard : Claim7 := { stood := { row := mailClonesUptoRow, standIns := [], harness := (true, "4f37a290fbe44c36de54749ed2db1bac14d5217b9ac3b9b29d599938856397f1"), looks := false }, kinds := [], alts := [], laidByText := true, laidKinds := [.data, .data, .data], laidTests := true, laidLooks := .later }
def MailClonesUptoCardSaid : Prop := Claim7.holds Tryz.pinned (.plain (OpenSpec.upto mailClonesSpec)) mailClonesUptoCard
end Rows
end Go.Proofs.YtmlmdljnfokebaaGreatDoor
