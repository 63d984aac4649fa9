/-
  DERIVED. GIVEN WITH THE SEED: THE CARDS: each row of YtkkfnlehlkiejaaGreatDoorRows.lean that lists a variable, with what it lists TIED to the program's text (the seventh form; the later family's looks); each row that meets fmt, with fmt's text TOLD by the authors' own Lean function (tested against real Go, not proved from fmt's source: count such statements apart). THE CARD IS WHAT COUNTS. Prove the row's statement (the work); the ties are given (YtkkfnlehlkiejaaGreatDoorTie.lean); close each card by the builder's one call (the guide's Derived/Test/ToyasCard.lean, 'card_holds'). Laid BY PROGRAM, IN A SANDBOX (cutbox-door.mjs). By AI agents, Wed Nov 11 2026. No macro, syntax, notation, axiom, sorry.
-/
import Derived.Test.YtkkfnlehlkiejaaGreatDoorRows
import GoSem.ClaimSeven
namespace Go.Proofs.YtkkfnlehlkiejaaGreatDoor
namespace Rows

/-- THE TIED CARD OF 'bulletinlaw21.RegistryAuthorities'. -/
def registryAuthoritiesCard : Claim7 := { stood := { row := registryAuthoritiesRow, standIns := [], harness := (true, "94856ea18de94917cbe75072fcdd1078f31c0a0716c69aeed797b74a29eef178"), looks := true }, kinds := [], alts := [], laidByText := true, laidKinds := [.data, .pinned], laidTests := true, laidLooks := .later }
def RegistryAuthoritiesCardSaid : Prop := Claim7.holds Tryz.pinned (.plain (OpenSpec.ofChange registryAuthoritiesSpec)) registryAuthoritiesCard

/-- THE TIED CARD OF 'bulletinlaw21.RegistryPlays'. -/
def registryPlaysCard : Claim7 := { stood := { row := registryPlaysRow, standIns := [], harness := (true, "94856ea18de94917cbe75072fcdd1078f31c0a0716c69aeed797b74a29eef178"), looks := true }, kinds := [], alts := [], laidByText := true, laidKinds := [.data, .pinned], laidTests := true, laidLooks := .later }
def RegistryPlaysCardSaid : Prop := Claim7.holds Tryz.pinned (.plain (OpenSpec.ofChange registryPlaysSpec)) registryPlaysCard

/-- THE TIED CARD OF 'bulletinlaw21.RegistryModerators'. -/
def registryModeratorsCard : Claim7 := { stood := { row := registryModeratorsRow, standIns := [], harness := (true, "94856ea18de94917cbe75072fcdd1078f31c0a0716c69aeed797b74a29eef178"), looks := true }, kinds := [], alts := [], laidByText := true, laidKinds := [.data, .pinned], laidTests := true, laidLooks := .later }
def RegistryModeratorsCardSaid : Prop := Claim7.holds Tryz.pinned (.plain (OpenSpec.ofChange registryModeratorsSpec)) registryModeratorsCard

/-- THE TIED CARD OF 'bulletinlaw21.RegistryChecks'. -/
def registryChecksCard : Claim7 := { stood := { row := registryChecksRow, standIns := [], harness := (true, "94856ea18de94917cbe75072fcdd1078f31c0a0716c69aeed797b74a29eef178"), looks := true }, kinds := [], alts := [], laidByText := true, laidKinds := [.data, .pinned], laidTests := true, laidLooks := .later }
def RegistryChecksCardSaid : Prop := Claim7.holds Tryz.pinned (.plain (OpenSpec.ofChange registryChecksSpec)) registryChecksCard

/-- THE TIED CARD OF 'bulletinlaw21.RegistryCurrent'. -/
def registryCurrentCard : Claim7 := { stood := { row := registryCurrentRow, standIns := [], harness := (true, "94856ea18de94917cbe75072fcdd1078f31c0a0716c69aeed797b74a29eef178"), looks := true }, kinds := [], alts := [], laidByText := true, laidKinds := [.data, .pinned], laidTests := true, laidLooks := .later }
def RegistryCurrentCardSaid : Prop := Claim7.holds Tryz.pinned (.plain (OpenSpec.ofChange registryCurrentSpec)) registryCurrentCard

/-- THE TIED CARD OF 'bulletinlaw21.RegistryGroups'. -/
def registryGroupsCard : Claim7 := { stood := { row := registryGroupsRow, standIns := [], harness := (true, "94856ea18de94917cbe75072fcdd1078f31c0a0716c69aeed797b74a29eef178"), looks := true }, kinds := [], alts := [], laidByText := true, laidKinds := [.data, .pinned], laidTests := true, laidLooks := .later }
def RegistryGroupsCardSaid : Prop := Claim7.holds Tryz.pinned (.plain (OpenSpec.ofChange registryGroupsSpec)) registryGroupsCard

/-- THE TIED CARD OF 'bulletinlaw21.RegistryOrder'. -/
def registryOrderCard : Claim7 := { stood := { row := registryOrderRow, standIns := [], harness := (true, "94856ea18de94917cbe75072fcdd1078f31c0a0716c69aeed797b74a29eef178"), looks := true }, kinds := [], alts := [], laidByText := true, laidKinds := [.data, .pinned], laidTests := true, laidLooks := .later }
def RegistryOrderCardSaid : Prop := Claim7.holds Tryz.pinned (.plain (OpenSpec.ofChange registryOrderSpec)) registryOrderCard

/-- THE TIED CARD OF 'bulletinlaw21.RegistryDrops'. -/
def registryDropsCard : Claim7 := { stood := { row := registryDropsRow, standIns := [], harness := (true, "94856ea18de94917cbe75072fcdd1078f31c0a0716c69aeed797b74a29eef178"), looks := true }, kinds := [], alts := [], laidByText := true, laidKinds := [.data, .pinned], laidTests := true, laidLooks := .later }
def RegistryDropsCardSaid : Prop := Claim7.holds Tryz.pinned (.plain (OpenSpec.ofChange registryDropsSpec)) registryDropsCard

/-- THE TIED CARD OF 'bulletinlaw21.RegistryClones'. -/
def registryClonesCard : Claim7 := { stood := { row := registryClonesRow, standIns := [], harness := (true, "94856ea18de94917cbe75072fcdd1078f31c0a0716c69aeed797b74a29eef178"), looks := true }, kinds := [], alts := [], laidByText := true, laidKinds := [.data, .pinned], laidTests := true, laidLooks := .later }
def RegistryClonesCardSaid : Prop := Claim7.holds Tryz.pinned (.plain (OpenSpec.ofChange registryClonesSpec)) registryClonesCard

/-- THE SECOND FORM's CARD OF 'bulletinlaw21.RegistryAuthorities'. -/
def registryAuthoritiesUptoCard : Claim7 := { stood := { row := registryAuthoritiesUptoRow, standIns := [], harness := (true, "94856ea18de94917cbe75072fcdd1078f31c0a0716c69aeed797b74a29eef178"), looks := true }, kinds := [], alts := [], laidByText := true, laidKinds := [.data, .pinned], laidTests := true, laidLooks := .later }
def RegistryAuthoritiesUptoCardSaid : Prop := Claim7.holds Tryz.pinned (.plain (OpenSpec.upto registryAuthoritiesSpec)) registryAuthoritiesUptoCard

/-- THE SECOND FORM's CARD OF 'bulletinlaw21.RegistryPlays'. -/
def registryPlaysUptoCard : Claim7 := { stood := { row := registryPlaysUptoRow, standIns := [], harness := (true, "94856ea18de94917cbe75072fcdd1078f31c0a0716c69aeed797b74a29eef178"), looks := true }, kinds := [], alts := [], laidByText := true, laidKinds := [.data, .pinned], laidTests := true, laidLooks := .later }
def RegistryPlaysUptoCardSaid : Prop := Claim7.holds Tryz.pinned (.plain (OpenSpec.upto registryPlaysSpec)) registryPlaysUptoCard

/-- THE SECOND FORM's CARD OF 'bulletinlaw21.RegistryModerators'. -/
def registryModeratorsUptoCard : Claim7 := { stood := { row := registryModeratorsUptoRow, standIns := [], harness := (true, "94856ea18de94917cbe75072fcdd1078f31c0a0716c69aeed797b74a29eef178"), looks := true }, kinds := [], alts := [], laidByText := true, laidKinds := [.data, .pinned], laidTests := true, laidLooks := .later }
def RegistryModeratorsUptoCardSaid : Prop := Claim7.holds Tryz.pinned (.plain (OpenSpec.upto registryModeratorsSpec)) registryModeratorsUptoCard

/-- THE SECOND FORM's CARD OF 'bulletinlaw21.RegistryChecks'. -/
def registryChecksUptoCard : Claim7 := { stood := { row := registryChecksUptoRow, standIns := [], harness := (true, "94856ea18de94917cbe75072fcdd1078f31c0a0716c69aeed797b74a29eef178"), looks := true }, kinds := [], alts := [], laidByText := true, laidKinds := [.data, .pinned], laidTests := true, laidLooks := .later }
def RegistryChecksUptoCardSaid : Prop := Claim7.holds Tryz.pinned (.plain (OpenSpec.upto registryChecksSpec)) registryChecksUptoCard

/-- THE SECOND FORM's CARD OF 'bulletinlaw21.RegistryCurrent'. -/
def registryCurrentUptoCard : Claim7 := { stood := { row := registryCurrentUptoRow, standIns := [], harness := (true, "94856ea18de94917cbe75072fcdd1078f31c0a0716c69aeed797b74a29eef178"), looks := true }, kinds := [], alts := [], laidByText := true, laidKinds := [.data, .pinned], laidTests := true, laidLooks := .later }
def RegistryCurrentUptoCardSaid : Prop := Claim7.holds Tryz.pinned (.plain (OpenSpec.upto registryCurrentSpec)) registryCurrentUptoCard

/-- THE SECOND FORM's CARD OF 'bulletinlaw21.RegistryGroups'. -/
def registryGroupsUptoCard : Claim7 := { stood := { row := registryGroupsUptoRow, standIns := [], harness := (true, "94856ea18de94917cbe75072fcdd1078f31c0a0716c69aeed797b74a29eef178"), looks := true }, kinds := [], alts := [], laidByText := true, laidKinds := [.data, .pinned], laidTests := true, laidLooks := .later }
def RegistryGroupsUptoCardSaid : Prop := Claim7.holds Tryz.pinned (.plain (OpenSpec.upto registryGroupsSpec)) registryGroupsUptoCard

/-- THE SECOND FORM's CARD OF 'bulletinlaw21.RegistryOrder'. -/
def registryOrderUptoCard : Claim7 := { stood := { row := registryOrderUptoRow, standIns := [], harness := (true, "94856ea18de94917cbe75072fcdd1078f31c0a0716c69aeed797b74a29eef178"), looks := true }, kinds := [], alts := [], laidByText := true, laidKinds := [.data, .pinned], laidTests := true, laidLooks := .later }
def RegistryOrderUptoCardSaid : Prop := Claim7.holds Tryz.pinned (.plain (OpenSpec.upto registryOrderSpec)) registryOrderUptoCard

/-- THE SECOND FORM's CARD OF 'bulletinlaw21.RegistryDrops'. -/
def registryDropsUptoCard : Claim7 := { stood := { row := registryDropsUptoRow, standIns := [], harness := (true, "94856ea18de94917cbe75072fcdd1078f31c0a0716c69aeed797b74a29eef178"), looks := true }, kinds := [], alts := [], laidByText := true, laidKinds := [.data, .pinned], laidTests := true, laidLooks := .later }
def RegistryDropsUptoCardSaid : Prop := Claim7.holds Tryz.pinned (.plain (OpenSpec.upto registryDropsSpec)) registryDropsUptoCard

/-- THE SECOND FORM's CARD OF 'bulletinlaw21.RegistryClones'. -/
def registryClonesUptoCard : Claim7 := { stood := { row := registryClonesUptoRow, standIns := [], harness := (true, "94856ea18de94917cbe75072fcdd1078f31c0a0716c69aeed797b74a29eef178"), looks := true }, kinds := [], alts := [], laidByText := true, laidKinds := [.data, .pinned], laidTests := true, laidLooks := .later }
def RegistryClonesUptoCardSaid : Prop := Claim7.holds Tryz.pinned (.plain (OpenSpec.upto registryClonesSpec)) registryClonesUptoCard
end Rows
end Go.Proofs.YtkkfnlehlkiejaaGreatDoor
