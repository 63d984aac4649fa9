/-
  DERIVED. GIVEN WITH THE SEED: THE CARDS: each row of YtmlmdljnfokebaaDoorRows.lean that lists a variable, with what it lists TIED to the program's text (the seventh form; the later family's looks); each row that meets fmt, with fmt's text TOLD by the authors' own Lean function (tested against real Go, not proved from fmt's source: count such statements apart). THE CARD IS WHAT COUNTS. Prove the row's statement (the work); the ties are given (YtmlmdljnfokebaaDoorTie.lean); close each card by the builder's one call (the guide's Derived/Test/ToyasCard.lean, 'card_holds'). Laid BY PROGRAM, IN A SANDBOX (cutbox-door.mjs). By AI agents, Wed Nov 11 2026. No macro, syntax, notation, axiom, sorry.
-/
import Derived.Test.YtmlmdljnfokebaaDoorRows
import GoSem.ClaimSeven
namespace Go.Proofs.YtmlmdljnfokebaaDoor
namespace Rows

/-- THE TIED CARD OF 'bulletinlaw49.MailBounces'. -/
def mailBouncesCard : Claim7 := { stood := { row := mailBouncesRow, standIns := [], harness := (true, "dca3f7a58614b9ae365b0aa61eeb41ed4e3c9622f0516743c70398047ceefb54"), looks := false }, kinds := [], alts := [], laidByText := true, laidKinds := [.data, .data, .data], laidTests := true, laidLooks := .later }
def MailBouncesCardSaid : Prop := Claim7.holds Tryd.pinned (.plain (OpenSpec.ofChange mailBouncesSpec)) mailBouncesCard

/-- THE TIED CARD OF 'bulletinlaw49.MailChecks'. -/
def mailChecksCard : Claim7 := { stood := { row := mailChecksRow, standIns := [], harness := (true, "dca3f7a58614b9ae365b0aa61eeb41ed4e3c9622f0516743c70398047ceefb54"), looks := false }, kinds := [], alts := [], laidByText := true, laidKinds := [.data, .data, .data], laidTests := true, laidLooks := .later }
def MailChecksCardSaid : Prop := Claim7.holds Tryd.pinned (.plain (OpenSpec.ofChange mailChecksSpec)) mailChecksCard

/-- THE TIED CARD OF 'bulletinlaw49.MailPasses'. -/
def mailPassesCard : Claim7 := { stood := { row := mailPassesRow, standIns := [], harness := (true, "dca3f7a58614b9ae365b0aa61eeb41ed4e3c9622f0516743c70398047ceefb54"), looks := false }, kinds := [], alts := [], laidByText := true, laidKinds := [.data, .data, .data], laidTests := true, laidLooks := .later }
def MailPassesCardSaid : Prop := Claim7.holds Tryd.pinned (.plain (OpenSpec.ofChange mailPassesSpec)) mailPassesCard

/-- THE TIED CARD OF 'bulletinlaw49.MailLoops'. -/
def mailLoopsCard : Claim7 := { stood := { row := mailLoopsRow, standIns := [], harness := (true, "dca3f7a58614b9ae365b0aa61eeb41ed4e3c9622f0516743c70398047ceefb54"), looks := false }, kinds := [], alts := [], laidByText := true, laidKinds := [.data, .data, .data], laidTests := true, laidLooks := .later }
def MailLoopsCardSaid : Prop := Claim7.holds Tryd.pinned (.plain (OpenSpec.ofChange mailLoopsSpec)) mailLoopsCard

/-- THE TIED CARD OF 'bulletinlaw49.MailAddresses'. -/
def mailAddressesCard : Claim7 := { stood := { row := mailAddressesRow, standIns := [], harness := (true, "dca3f7a58614b9ae365b0aa61eeb41ed4e3c9622f0516743c70398047ceefb54"), looks := false }, kinds := [], alts := [], laidByText := true, laidKinds := [.data, .data, .data], laidTests := true, laidLooks := .later }
def MailAddressesCardSaid : Prop := Claim7.holds Tryd.pinned (.plain (OpenSpec.ofChange mailAddressesSpec)) mailAddressesCard

/-- THE SECOND FORM's CARD OF 'bulletinlaw49.MailBounces'. -/
def mailBouncesUptoCard : Claim7 := { stood := { row := mailBouncesUptoRow, standIns := [], harness := (true, "dca3f7a58614b9ae365b0aa61eeb41ed4e3c9622f0516743c70398047ceefb54"), looks := false }, kinds := [], alts := [], laidByText := true, laidKinds := [.data, .data, .data], laidTests := true, laidLooks := .later }
def MailBouncesUptoCardSaid : Prop := Claim7.holds Tryd.pinned (.plain (OpenSpec.upto mailBouncesSpec)) mailBouncesUptoCard

/-- THE SECOND FORM's CARD OF 'bulletinlaw49.MailChecks'. -/
def mailChecksUptoCard : Claim7 := { stood := { row := mailChecksUptoRow, standIns := [], harness := (true, "dca3f7a58614b9ae365b0aa61eeb41ed4e3c9622f0516743c70398047ceefb54"), looks := false }, kinds := [], alts := [], laidByText := true, laidKinds := [.data, .data, .data], laidTests := true, laidLooks := .later }
def MailChecksUptoCardSaid : Prop := Claim7.holds Tryd.pinned (.plain (OpenSpec.upto mailChecksSpec)) mailChecksUptoCard

/-- THE SECOND FORM's CARD OF 'bulletinlaw49.MailPasses'. -/
def mailPassesUptoCard : Claim7 := { stood := { row := mailPassesUptoRow, standIns := [], harness := (true, "dca3f7a58614b9ae365b0aa61eeb41ed4e3c9622f0516743c70398047ceefb54"), looks := false }, kinds := [], alts := [], laidByText := true, laidKinds := [.data, .data, .data], laidTests := true, laidLooks := .later }
def MailPassesUptoCardSaid : Prop := Claim7.holds Tryd.pinned (.plain (OpenSpec.upto mailPassesSpec)) mailPassesUptoCard

/-- THE SECOND FORM's CARD OF 'bulletinlaw49.MailLoops'. -/
def mailLoopsUptoCard : Claim7 := { stood := { row := mailLoopsUptoRow, standIns := [], harness := (true, "dca3f7a58614b9ae365b0aa61eeb41ed4e3c9622f0516743c70398047ceefb54"), looks := false }, kinds := [], alts := [], laidByText := true, laidKinds := [.data, .data, .data], laidTests := true, laidLooks := .later }
def MailLoopsUptoCardSaid : Prop := Claim7.holds Tryd.pinned (.plain (OpenSpec.upto mailLoopsSpec)) mailLoopsUptoCard

/-- THE SECOND FORM's CARD OF 'bulletinlaw49.MailAddresses'. -/
def mailAddressesUptoCard : Claim7 := { stood := { row := mailAddressesUptoRow, standIns := [], harness := (true, "dca3f7a58614b9ae365b0aa61eeb41ed4e3c9622f0516743c70398047ceefb54"), looks := false }, kinds := [], alts := [], laidByText := true, laidKinds := [.data, .data, .data], laidTests := true, laidLooks := .later }
def MailAddressesUptoCardSaid : Prop := Claim7.holds Tryd.pinned (.plain (OpenSpec.upto mailAddressesSpec)) mailAddressesUptoCard
end Rows
end Go.Proofs.YtmlmdljnfokebaaDoor
