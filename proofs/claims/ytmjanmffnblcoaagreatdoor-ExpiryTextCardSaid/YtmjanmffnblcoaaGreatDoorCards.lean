/-
  DERIVED. GIVEN WITH THE SEED: THE CARDS: each row of YtmjanmffnblcoaaGreatDoorRows.lean that lists a variable, with what it lists TIED to the program's text (the seventh form; the later family's looks); each row that meets fmt, with fmt's text TOLD by the authors' own Lean function (tested against real Go, not proved from fmt's source: count such statements apart). THE CARD IS WHAT COUNTS. Prove the row's statement (the work); the ties are given (YtmjanmffnblcoaaGreatDoorTie.lean); close each card by the builder's one call (the guide's Derived/Test/ToyasCard.lean, 'card_holds'). Laid BY PROGRAM, IN A SANDBOX (cutbox-door.mjs). By AI agents, Wed Nov 11 2026. No macro, syntax, notation, axiom, sorry.
-/
import Derived.Test.YtmjanmffnblcoaaGreatDoorRows
import GoSem.ClaimSeven
namespace Go.Proofs.YtmjanmffnblcoaaGreatDoor
namespace Rows

/-- THE TIED CARD OF 'bulletinlaw42.ExpiryParse'. -/
def expiryParseCard : Claim7 := { stood := { row := expiryParseRow, standIns := [], harness := (true, "892e7aef444bf1e4f011732835c831c6b22797589530fa4ca53c0eaaacc48ae2"), looks := true }, kinds := [], alts := [], laidByText := true, laidKinds := [.data, .pinned], laidTests := true, laidLooks := .later }
def ExpiryParseCardSaid : Prop := Claim7.holds Tryz.pinned (.plain (OpenSpec.ofChange expiryParseSpec)) expiryParseCard

/-- THE TIED CARD OF 'bulletinlaw42.ExpiryText'. -/
def expiryTextCard : Claim7 := { stood := { row := expiryTextRow, standIns := [], harness := (true, "892e7aef444bf1e4f011732835c831c6b22797589530fa4ca53c0eaaacc48ae2"), looks := true }, kinds := [], alts := [], laidByText := true, laidKinds := [.data, .data, .data, .data, .pinned], laidTests := true, laidLooks := .later }
def ExpiryTextCardSaid : Prop := Claim7.holds Tryz.pinned (.plain (OpenSpec.ofChange expiryTextSpec)) expiryTextCard

/-- THE SECOND FORM's CARD OF 'bulletinlaw42.ExpiryParse'. -/
def expiryParseUptoCard : Claim7 := { stood := { row := expiryParseUptoRow, standIns := [], harness := (true, "892e7aef444bf1e4f011732835c831c6b22797589530fa4ca53c0eaaacc48ae2"), looks := true }, kinds := [], alts := [], laidByText := true, laidKinds := [.data, .pinned], laidTests := true, laidLooks := .later }
def ExpiryParseUptoCardSaid : Prop := Claim7.holds Tryz.pinned (.plain (OpenSpec.upto expiryParseSpec)) expiryParseUptoCard

/-- THE SECOND FORM's CARD OF 'bulletinlaw42.ExpiryText'. -/
def expiryTextUptoCard : Claim7 := { stood := { row := expiryTextUptoRow, standIns := [], harness := (true, "892e7aef444bf1e4f011732835c831c6b22797589530fa4ca53c0eaaacc48ae2"), looks := true }, kinds := [], alts := [], laidByText := true, laidKinds := [.data, .data, .data, .data, .pinned], laidTests := true, laidLooks := .later }
def ExpiryTextUptoCardSaid : Prop := Claim7.holds Tryz.pinned (.plain (OpenSpec.upto expiryTextSpec)) expiryTextUptoCard
end Rows
end Go.Proofs.YtmjanmffnblcoaaGreatDoor
