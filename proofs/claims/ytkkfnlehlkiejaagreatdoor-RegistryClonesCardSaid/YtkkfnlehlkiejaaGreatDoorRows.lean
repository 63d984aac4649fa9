/-
  NARROWER THAN 'FOR EVERY INPUT', by the rows' own cells (each row's printed sentence says how): RegistryAuthorities: laid · RegistryPlays: laid · RegistryModerators: laid · RegistryChecks: laid · RegistryCurrent: laid · RegistryGroups: laid · RegistryOrder: laid · RegistryDrops: laid · RegistryClones: laid.
  DERIVED. THE GIVEN ROWS OF THIS SEAT. 9 by the template 'for every input the law returns true; each argument reads behind the call as it read before'; 0 by the template 'total and deterministic' (their statements: YtkkfnlehlkiejaaGreatDoorTotals.lean).
  GIVEN WITH THE SEED: the statements are not yours to turn. If you find one false, say at which input.
  Laid BY PROGRAM, IN A SANDBOX (cutbox-rows.mjs): the forced cells as the released guide's own fill.sh prints them over the translation cf10fe9def57d090… (all of the seat's roots in one cut). By AI agents, Wed Nov 11 2026. No macro, syntax, notation, axiom, sorry.
-/
import Derived.Test.YtkkfnlehlkiejaaGreatDoorChecked
import GoSem.PinnedTables
import GoSem.Claim
import GoSem.ClaimJoined
import GoSem.ClaimMapViews
import Derived.JoinedTies
import Derived.KernelRfl
namespace Go.Proofs.YtkkfnlehlkiejaaGreatDoor
/- THE CELL 'sum', in the pinned program and in every row, IS THE sha256 OF THE DUMP (.gsa) THAT YtkkfnlehlkiejaaGreatDoorProg.lean LOADS. Nothing in Lean hashes anything: it is a label: what it is worth is what the hold of that sum in a sandbox is worth. -/
noncomputable def Tryz.pinned : Pinned := { name := "ytkkfnlehlkiejaagreatdoor", sum := "cf10fe9def57d090da61cd86fcb4f209ec4ceff3dc49686655c5804c17c6cd1a", checked := Tryz.checked }
namespace Rows
def none {H : Type} : Left H := { results := [], args := [] }

/- WHAT THE LISTED PACKAGE-LEVEL VARIABLES READ AS WHEN THE CALL BEGINS. Each datum BY PROGRAM (the guide's laid-datum.mjs) off the statement by which the dump's own 'gosem.cut.vars' lays the variable. In a bare row this is a premise. The card (YtkkfnlehlkiejaaGreatDoorCards.lean) ties it to the program's text. -/
def laid_unicode_utf8_acceptRanges {H : Type} : DataW H := .agg [.agg [.lit (.int .u8 128), .lit (.int .u8 191)], .agg [.lit (.int .u8 160), .lit (.int .u8 191)], .agg [.lit (.int .u8 128), .lit (.int .u8 159)], .agg [.lit (.int .u8 144), .lit (.int .u8 191)], .agg [.lit (.int .u8 128), .lit (.int .u8 143)], .agg [.lit (.int .u8 0), .lit (.int .u8 0)], .agg [.lit (.int .u8 0), .lit (.int .u8 0)], .agg [.lit (.int .u8 0), .lit (.int .u8 0)], .agg [.lit (.int .u8 0), .lit (.int .u8 0)], .agg [.lit (.int .u8 0), .lit (.int .u8 0)], .agg [.lit (.int .u8 0), .lit (.int .u8 0)], .agg [.lit (.int .u8 0), .lit (.int .u8 0)], .agg [.lit (.int .u8 0), .lit (.int .u8 0)], .agg [.lit (.int .u8 0), .lit (.int .u8 0)], .agg [.lit (.int .u8 0), .lit (.int .u8 0)], .agg [.lit (.int .u8 0), .lit (.int .u8 0)]]
/-- One of Go's own tables, pinned by name: the form's constant. -/
def laid_unicode_utf8_first : DataW Unit := Go.Pinned.utf8First

/-- 'bulletinlaw21.RegistryAuthorities': WHATEVER THE INPUT: true; the input reads as it did. -/
def registryAuthoritiesSpec : ChangeSpec := { name := "registryAuthorities", fn := fun _ => fun
  | [d1, d2, d3] => { results := [.lit (.bool true)], args := [d1, d2, d3] }
  | _ => none }
def registryAuthoritiesRow : OpenClaim := { program := "ytkkfnlehlkiejaagreatdoor", sum := "cf10fe9def57d090da61cd86fcb4f209ec4ceff3dc49686655c5804c17c6cd1a", func := "bulletin/bulletinlaw21.RegistryAuthorities", spec := "registryAuthorities", inPlace := ["internal/bytealg.CountString", "internal/bytealg.IndexByteString", "internal/bytealg.IndexString", "internal/bytealg.Compare"], unfollowed := true, recurses := true, named := ["unicode/utf8.first", "unicode/utf8.acceptRanges", "internal/bytealg.MaxLen"], plainKeys := false, apart := false, laid := [("unicode/utf8.acceptRanges", laid_unicode_utf8_acceptRanges), ("unicode/utf8.first", laid_unicode_utf8_first)] }
def RegistryAuthoritiesSaid : Prop := registryAuthoritiesRow.holds Tryz.pinned (OpenSpec.ofChange registryAuthoritiesSpec)

/-- ITS FALSE NEIGHBOUR: 'it returns false'. Refute it at one input. -/
def registryAuthoritiesWrong : ChangeSpec := { name := "registryAuthorities", fn := fun _ => fun
  | [d1, d2, d3] => { results := [.lit (.bool false)], args := [d1, d2, d3] }
  | _ => none }
def RegistryAuthoritiesWrongFalsely : Prop := registryAuthoritiesRow.holds Tryz.pinned (OpenSpec.ofChange registryAuthoritiesWrong)

/-- 'bulletinlaw21.RegistryPlays': WHATEVER THE INPUT: true; the input reads as it did. -/
def registryPlaysSpec : ChangeSpec := { name := "registryPlays", fn := fun _ => fun
  | [d] => { results := [.lit (.bool true)], args := [d] }
  | _ => none }
def registryPlaysRow : OpenClaim := { program := "ytkkfnlehlkiejaagreatdoor", sum := "cf10fe9def57d090da61cd86fcb4f209ec4ceff3dc49686655c5804c17c6cd1a", func := "bulletin/bulletinlaw21.RegistryPlays", spec := "registryPlays", inPlace := ["internal/bytealg.CountString", "internal/bytealg.IndexByteString", "internal/bytealg.IndexString", "internal/bytealg.Compare"], unfollowed := true, recurses := true, named := ["unicode/utf8.first", "unicode/utf8.acceptRanges", "internal/bytealg.MaxLen"], plainKeys := false, apart := false, laid := [("unicode/utf8.acceptRanges", laid_unicode_utf8_acceptRanges), ("unicode/utf8.first", laid_unicode_utf8_first)] }
def RegistryPlaysSaid : Prop := registryPlaysRow.holds Tryz.pinned (OpenSpec.ofChange registryPlaysSpec)

/-- ITS FALSE NEIGHBOUR: 'it returns false'. Refute it at one input. -/
def registryPlaysWrong : ChangeSpec := { name := "registryPlays", fn := fun _ => fun
  | [d] => { results := [.lit (.bool false)], args := [d] }
  | _ => none }
def RegistryPlaysWrongFalsely : Prop := registryPlaysRow.holds Tryz.pinned (OpenSpec.ofChange registryPlaysWrong)

/-- 'bulletinlaw21.RegistryModerators': WHATEVER THE INPUT: true; the input reads as it did. -/
def registryModeratorsSpec : ChangeSpec := { name := "registryModerators", fn := fun _ => fun
  | [d1, d2, d3, d4] => { results := [.lit (.bool true)], args := [d1, d2, d3, d4] }
  | _ => none }
def registryModeratorsRow : OpenClaim := { program := "ytkkfnlehlkiejaagreatdoor", sum := "cf10fe9def57d090da61cd86fcb4f209ec4ceff3dc49686655c5804c17c6cd1a", func := "bulletin/bulletinlaw21.RegistryModerators", spec := "registryModerators", inPlace := ["internal/bytealg.CountString", "internal/bytealg.IndexByteString", "internal/bytealg.IndexString", "internal/bytealg.Compare"], unfollowed := true, recurses := true, named := ["unicode/utf8.first", "unicode/utf8.acceptRanges", "internal/bytealg.MaxLen"], plainKeys := false, apart := false, laid := [("unicode/utf8.acceptRanges", laid_unicode_utf8_acceptRanges), ("unicode/utf8.first", laid_unicode_utf8_first)] }
def RegistryModeratorsSaid : Prop := registryModeratorsRow.holds Tryz.pinned (OpenSpec.ofChange registryModeratorsSpec)

/-- ITS FALSE NEIGHBOUR: 'it returns false'. Refute it at one input. -/
def registryModeratorsWrong : ChangeSpec := { name := "registryModerators", fn := fun _ => fun
  | [d1, d2, d3, d4] => { results := [.lit (.bool false)], args := [d1, d2, d3, d4] }
  | _ => none }
def RegistryModeratorsWrongFalsely : Prop := registryModeratorsRow.holds Tryz.pinned (OpenSpec.ofChange registryModeratorsWrong)

/-- 'bulletinlaw21.RegistryChecks': WHATEVER THE INPUT: true; the input reads as it did. -/
def registryChecksSpec : ChangeSpec := { name := "registryChecks", fn := fun _ => fun
  | [d1, d2] => { results := [.lit (.bool true)], args := [d1, d2] }
  | _ => none }
def registryChecksRow : OpenClaim := { program := "ytkkfnlehlkiejaagreatdoor", sum := "cf10fe9def57d090da61cd86fcb4f209ec4ceff3dc49686655c5804c17c6cd1a", func := "bulletin/bulletinlaw21.RegistryChecks", spec := "registryChecks", inPlace := ["internal/bytealg.CountString", "internal/bytealg.IndexByteString", "internal/bytealg.IndexString", "internal/bytealg.Compare"], unfollowed := true, recurses := true, named := ["unicode/utf8.first", "unicode/utf8.acceptRanges", "internal/bytealg.MaxLen"], plainKeys := false, apart := false, laid := [("unicode/utf8.acceptRanges", laid_unicode_utf8_acceptRanges), ("unicode/utf8.first", laid_unicode_utf8_first)] }
def RegistryChecksSaid : Prop := registryChecksRow.holds Tryz.pinned (OpenSpec.ofChange registryChecksSpec)

/-- ITS FALSE NEIGHBOUR: 'it returns false'. Refute it at one input. -/
def registryChecksWrong : ChangeSpec := { name := "registryChecks", fn := fun _ => fun
  | [d1, d2] => { results := [.lit (.bool false)], args := [d1, d2] }
  | _ => none }
def RegistryChecksWrongFalsely : Prop := registryChecksRow.holds Tryz.pinned (OpenSpec.ofChange registryChecksWrong)

/-- 'bulletinlaw21.RegistryCurrent': WHATEVER THE INPUT: true; the input reads as it did. -/
def registryCurrentSpec : ChangeSpec := { name := "registryCurrent", fn := fun _ => fun
  | [d1, d2] => { results := [.lit (.bool true)], args := [d1, d2] }
  | _ => none }
def registryCurrentRow : OpenClaim := { program := "ytkkfnlehlkiejaagreatdoor", sum := "cf10fe9def57d090da61cd86fcb4f209ec4ceff3dc49686655c5804c17c6cd1a", func := "bulletin/bulletinlaw21.RegistryCurrent", spec := "registryCurrent", inPlace := ["internal/bytealg.CountString", "internal/bytealg.IndexByteString", "internal/bytealg.IndexString", "internal/bytealg.Compare"], unfollowed := true, recurses := true, named := ["unicode/utf8.first", "unicode/utf8.acceptRanges", "internal/bytealg.MaxLen"], plainKeys := false, apart := false, laid := [("unicode/utf8.acceptRanges", laid_unicode_utf8_acceptRanges), ("unicode/utf8.first", laid_unicode_utf8_first)] }
def RegistryCurrentSaid : Prop := registryCurrentRow.holds Tryz.pinned (OpenSpec.ofChange registryCurrentSpec)

/-- ITS FALSE NEIGHBOUR: 'it returns false'. Refute it at one input. -/
def registryCurrentWrong : ChangeSpec := { name := "registryCurrent", fn := fun _ => fun
  | [d1, d2] => { results := [.lit (.bool false)], args := [d1, d2] }
  | _ => none }
def RegistryCurrentWrongFalsely : Prop := registryCurrentRow.holds Tryz.pinned (OpenSpec.ofChange registryCurrentWrong)

/-- 'bulletinlaw21.RegistryGroups': WHATEVER THE INPUT: true; the input reads as it did. -/
def registryGroupsSpec : ChangeSpec := { name := "registryGroups", fn := fun _ => fun
  | [d1, d2] => { results := [.lit (.bool true)], args := [d1, d2] }
  | _ => none }
def registryGroupsRow : OpenClaim := { program := "ytkkfnlehlkiejaagreatdoor", sum := "cf10fe9def57d090da61cd86fcb4f209ec4ceff3dc49686655c5804c17c6cd1a", func := "bulletin/bulletinlaw21.RegistryGroups", spec := "registryGroups", inPlace := ["internal/bytealg.CountString", "internal/bytealg.IndexByteString", "internal/bytealg.IndexString", "internal/bytealg.Compare"], unfollowed := true, recurses := true, named := ["unicode/utf8.first", "unicode/utf8.acceptRanges", "internal/bytealg.MaxLen"], plainKeys := false, apart := false, laid := [("unicode/utf8.acceptRanges", laid_unicode_utf8_acceptRanges), ("unicode/utf8.first", laid_unicode_utf8_first)] }
def RegistryGroupsSaid : Prop := registryGroupsRow.holds Tryz.pinned (OpenSpec.ofChange registryGroupsSpec)

/-- ITS FALSE NEIGHBOUR: 'it returns false'. Refute it at one input. -/
def registryGroupsWrong : ChangeSpec := { name := "registryGroups", fn := fun _ => fun
  | [d1, d2] => { results := [.lit (.bool false)], args := [d1, d2] }
  | _ => none }
def RegistryGroupsWrongFalsely : Prop := registryGroupsRow.holds Tryz.pinned (OpenSpec.ofChange registryGroupsWrong)

/-- 'bulletinlaw21.RegistryOrder': WHATEVER THE INPUT: true; the input reads as it did. -/
def registryOrderSpec : ChangeSpec := { name := "registryOrder", fn := fun _ => fun
  | [d1, d2] => { results := [.lit (.bool true)], args := [d1, d2] }
  | _ => none }
def registryOrderRow : OpenClaim := { program := "ytkkfnlehlkiejaagreatdoor", sum := "cf10fe9def57d090da61cd86fcb4f209ec4ceff3dc49686655c5804c17c6cd1a", func := "bulletin/bulletinlaw21.RegistryOrder", spec := "registryOrder", inPlace := ["internal/bytealg.CountString", "internal/bytealg.IndexByteString", "internal/bytealg.IndexString", "internal/bytealg.Compare"], unfollowed := true, recurses := true, named := ["unicode/utf8.first", "unicode/utf8.acceptRanges", "internal/bytealg.MaxLen"], plainKeys := false, apart := false, laid := [("unicode/utf8.acceptRanges", laid_unicode_utf8_acceptRanges), ("unicode/utf8.first", laid_unicode_utf8_first)] }
def RegistryOrderSaid : Prop := registryOrderRow.holds Tryz.pinned (OpenSpec.ofChange registryOrderSpec)

/-- ITS FALSE NEIGHBOUR: 'it returns false'. Refute it at one input. -/
def registryOrderWrong : ChangeSpec := { name := "registryOrder", fn := fun _ => fun
  | [d1, d2] => { results := [.lit (.bool false)], args := [d1, d2] }
  | _ => none }
def RegistryOrderWrongFalsely : Prop := registryOrderRow.holds Tryz.pinned (OpenSpec.ofChange registryOrderWrong)

/-- 'bulletinlaw21.RegistryDrops': WHATEVER THE INPUT: true; the input reads as it did. -/
def registryDropsSpec : ChangeSpec := { name := "registryDrops", fn := fun _ => fun
  | [d1, d2] => { results := [.lit (.bool true)], args := [d1, d2] }
  | _ => none }
def registryDropsRow : OpenClaim := { program := "ytkkfnlehlkiejaagreatdoor", sum := "cf10fe9def57d090da61cd86fcb4f209ec4ceff3dc49686655c5804c17c6cd1a", func := "bulletin/bulletinlaw21.RegistryDrops", spec := "registryDrops", inPlace := ["internal/bytealg.CountString", "internal/bytealg.IndexByteString", "internal/bytealg.IndexString", "internal/bytealg.Compare"], unfollowed := true, recurses := true, named := ["unicode/utf8.first", "unicode/utf8.acceptRanges", "internal/bytealg.MaxLen"], plainKeys := false, apart := false, laid := [("unicode/utf8.acceptRanges", laid_unicode_utf8_acceptRanges), ("unicode/utf8.first", laid_unicode_utf8_first)] }
def RegistryDropsSaid : Prop := registryDropsRow.holds Tryz.pinned (OpenSpec.ofChange registryDropsSpec)

/-- ITS FALSE NEIGHBOUR: 'it returns false'. Refute it at one input. -/
def registryDropsWrong : ChangeSpec := { name := "registryDrops", fn := fun _ => fun
  | [d1, d2] => { results := [.lit (.bool false)], args := [d1, d2] }
  | _ => none }
def RegistryDropsWrongFalsely : Prop := registryDropsRow.holds Tryz.pinned (OpenSpec.ofChange registryDropsWrong)

/-- 'bulletinlaw21.RegistryClones': WHATEVER THE INPUT: true; the input reads as it did. -/
def registryClonesSpec : ChangeSpec := { name := "registryClones", fn := fun _ => fun
  | [d1, d2, d3] => { results := [.lit (.bool true)], args := [d1, d2, d3] }
  | _ => none }
def registryClonesRow : OpenClaim := { program := "ytkkfnlehlkiejaagreatdoor", sum := "cf10fe9def57d090da61cd86fcb4f209ec4ceff3dc49686655c5804c17c6cd1a", func := "bulletin/bulletinlaw21.RegistryClones", spec := "registryClones", inPlace := ["internal/bytealg.CountString", "internal/bytealg.IndexByteString", "internal/bytealg.IndexString", "internal/bytealg.Compare"], unfollowed := true, recurses := true, named := ["unicode/utf8.first", "unicode/utf8.acceptRanges", "internal/bytealg.MaxLen"], plainKeys := false, apart := false, laid := [("unicode/utf8.acceptRanges", laid_unicode_utf8_acceptRanges), ("unicode/utf8.first", laid_unicode_utf8_first)] }
def RegistryClonesSaid : Prop := registryClonesRow.holds Tryz.pinned (OpenSpec.ofChange registryClonesSpec)

/-- ITS FALSE NEIGHBOUR: 'it returns false'. Refute it at one input. -/
def registryClonesWrong : ChangeSpec := { name := "registryClones", fn := fun _ => fun
  | [d1, d2, d3] => { results := [.lit (.bool false)], args := [d1, d2, d3] }
  | _ => none }
def RegistryClonesWrongFalsely : Prop := registryClonesRow.holds Tryz.pinned (OpenSpec.ofChange registryClonesWrong)

/- THE SECOND FORM. 'bulk': how many values and letters a reading holds, each counted each time it is reached (what is shared counts as often as it is met; a slice's spare places count too). A statement '..UptoSaid' is the law's where the arguments, and the package variables that the reading takes, are together of bulk at most 1048576: NARROWER than '..Said'. Prove '..Said' where nothing that the law and all that it calls make is longer than what came in: it says more and counts as full. Else prove '..UptoSaid'. A law counts once. -/
mutual
def uptoBulk {H : Type} : DataW H → Nat
  | .lit (.string bytes) => bytes.length + 1
  | .lit _ => 1
  | .nil => 1
  | .ptr d => uptoBulk d + 1
  | .slice elems spare => uptoBulkAll elems + uptoBulkAll spare + 1
  | .agg parts => uptoBulkAll parts + 1
  | .iface _ d => uptoBulk d + 1
  | .map entries => uptoBulkEntries entries + 1
  | .held _ => 1
def uptoBulkAll {H : Type} : List (DataW H) → Nat
  | [] => 0
  | d :: r => uptoBulk d + uptoBulkAll r
def uptoBulkEntries {H : Type} : List (Lit × DataW H) → Nat
  | [] => 0
  | x :: r => uptoBulkEntry x + uptoBulkEntries r
def uptoBulkEntry {H : Type} : Lit × DataW H → Nat
  | (.string bytes, d) => bytes.length + uptoBulk d + 1
  | (_, d) => uptoBulk d + 1
 end
def uptoSmall : (H : Type) → List (DataW H) → Bool := fun _ ds => decide (uptoBulkAll ds ≤ 1048576)
def OpenSpec.upto (s : _root_.Go.ChangeSpec) : _root_.Go.OpenSpec := { _root_.Go.OpenSpec.ofChange s with cond := some uptoSmall }

/-- 'bulletinlaw21.RegistryAuthorities', WHERE WHAT IT READS IS OF BULK AT MOST 1048576: true; the input reads as it did. -/
def registryAuthoritiesUptoRow : OpenClaim := { program := "ytkkfnlehlkiejaagreatdoor", sum := "cf10fe9def57d090da61cd86fcb4f209ec4ceff3dc49686655c5804c17c6cd1a", func := "bulletin/bulletinlaw21.RegistryAuthorities", spec := "registryAuthorities", inPlace := ["internal/bytealg.CountString", "internal/bytealg.IndexByteString", "internal/bytealg.IndexString", "internal/bytealg.Compare"], unfollowed := true, recurses := true, named := ["unicode/utf8.first", "unicode/utf8.acceptRanges", "internal/bytealg.MaxLen"], plainKeys := false, apart := false, laid := [("unicode/utf8.acceptRanges", laid_unicode_utf8_acceptRanges), ("unicode/utf8.first", laid_unicode_utf8_first)], narrowed := true }
def RegistryAuthoritiesUptoSaid : Prop := registryAuthoritiesUptoRow.holds Tryz.pinned (OpenSpec.upto registryAuthoritiesSpec)

/-- 'bulletinlaw21.RegistryPlays', WHERE WHAT IT READS IS OF BULK AT MOST 1048576: true; the input reads as it did. -/
def registryPlaysUptoRow : OpenClaim := { program := "ytkkfnlehlkiejaagreatdoor", sum := "cf10fe9def57d090da61cd86fcb4f209ec4ceff3dc49686655c5804c17c6cd1a", func := "bulletin/bulletinlaw21.RegistryPlays", spec := "registryPlays", inPlace := ["internal/bytealg.CountString", "internal/bytealg.IndexByteString", "internal/bytealg.IndexString", "internal/bytealg.Compare"], unfollowed := true, recurses := true, named := ["unicode/utf8.first", "unicode/utf8.acceptRanges", "internal/bytealg.MaxLen"], plainKeys := false, apart := false, laid := [("unicode/utf8.acceptRanges", laid_unicode_utf8_acceptRanges), ("unicode/utf8.first", laid_unicode_utf8_first)], narrowed := true }
def RegistryPlaysUptoSaid : Prop := registryPlaysUptoRow.holds Tryz.pinned (OpenSpec.upto registryPlaysSpec)

/-- 'bulletinlaw21.RegistryModerators', WHERE WHAT IT READS IS OF BULK AT MOST 1048576: true; the input reads as it did. -/
def registryModeratorsUptoRow : OpenClaim := { program := "ytkkfnlehlkiejaagreatdoor", sum := "cf10fe9def57d090da61cd86fcb4f209ec4ceff3dc49686655c5804c17c6cd1a", func := "bulletin/bulletinlaw21.RegistryModerators", spec := "registryModerators", inPlace := ["internal/bytealg.CountString", "internal/bytealg.IndexByteString", "internal/bytealg.IndexString", "internal/bytealg.Compare"], unfollowed := true, recurses := true, named := ["unicode/utf8.first", "unicode/utf8.acceptRanges", "internal/bytealg.MaxLen"], plainKeys := false, apart := false, laid := [("unicode/utf8.acceptRanges", laid_unicode_utf8_acceptRanges), ("unicode/utf8.first", laid_unicode_utf8_first)], narrowed := true }
def RegistryModeratorsUptoSaid : Prop := registryModeratorsUptoRow.holds Tryz.pinned (OpenSpec.upto registryModeratorsSpec)

/-- 'bulletinlaw21.RegistryChecks', WHERE WHAT IT READS IS OF BULK AT MOST 1048576: true; the input reads as it did. -/
def registryChecksUptoRow : OpenClaim := { program := "ytkkfnlehlkiejaagreatdoor", sum := "cf10fe9def57d090da61cd86fcb4f209ec4ceff3dc49686655c5804c17c6cd1a", func := "bulletin/bulletinlaw21.RegistryChecks", spec := "registryChecks", inPlace := ["internal/bytealg.CountString", "internal/bytealg.IndexByteString", "internal/bytealg.IndexString", "internal/bytealg.Compare"], unfollowed := true, recurses := true, named := ["unicode/utf8.first", "unicode/utf8.acceptRanges", "internal/bytealg.MaxLen"], plainKeys := false, apart := false, laid := [("unicode/utf8.acceptRanges", laid_unicode_utf8_acceptRanges), ("unicode/utf8.first", laid_unicode_utf8_first)], narrowed := true }
def RegistryChecksUptoSaid : Prop := registryChecksUptoRow.holds Tryz.pinned (OpenSpec.upto registryChecksSpec)

/-- 'bulletinlaw21.RegistryCurrent', WHERE WHAT IT READS IS OF BULK AT MOST 1048576: true; the input reads as it did. -/
def registryCurrentUptoRow : OpenClaim := { program := "ytkkfnlehlkiejaagreatdoor", sum := "cf10fe9def57d090da61cd86fcb4f209ec4ceff3dc49686655c5804c17c6cd1a", func := "bulletin/bulletinlaw21.RegistryCurrent", spec := "registryCurrent", inPlace := ["internal/bytealg.CountString", "internal/bytealg.IndexByteString", "internal/bytealg.IndexString", "internal/bytealg.Compare"], unfollowed := true, recurses := true, named := ["unicode/utf8.first", "unicode/utf8.acceptRanges", "internal/bytealg.MaxLen"], plainKeys := false, apart := false, laid := [("unicode/utf8.acceptRanges", laid_unicode_utf8_acceptRanges), ("unicode/utf8.first", laid_unicode_utf8_first)], narrowed := true }
def RegistryCurrentUptoSaid : Prop := registryCurrentUptoRow.holds Tryz.pinned (OpenSpec.upto registryCurrentSpec)

/-- 'bulletinlaw21.RegistryGroups', WHERE WHAT IT READS IS OF BULK AT MOST 1048576: true; the input reads as it did. -/
def registryGroupsUptoRow : OpenClaim := { program := "ytkkfnlehlkiejaagreatdoor", sum := "cf10fe9def57d090da61cd86fcb4f209ec4ceff3dc49686655c5804c17c6cd1a", func := "bulletin/bulletinlaw21.RegistryGroups", spec := "registryGroups", inPlace := ["internal/bytealg.CountString", "internal/bytealg.IndexByteString", "internal/bytealg.IndexString", "internal/bytealg.Compare"], unfollowed := true, recurses := true, named := ["unicode/utf8.first", "unicode/utf8.acceptRanges", "internal/bytealg.MaxLen"], plainKeys := false, apart := false, laid := [("unicode/utf8.acceptRanges", laid_unicode_utf8_acceptRanges), ("unicode/utf8.first", laid_unicode_utf8_first)], narrowed := true }
def RegistryGroupsUptoSaid : Prop := registryGroupsUptoRow.holds Tryz.pinned (OpenSpec.upto registryGroupsSpec)

/-- 'bulletinlaw21.RegistryOrder', WHERE WHAT IT READS IS OF BULK AT MOST 1048576: true; the input reads as it did. -/
def registryOrderUptoRow : OpenClaim := { program := "ytkkfnlehlkiejaagreatdoor", sum := "cf10fe9def57d090da61cd86fcb4f209ec4ceff3dc49686655c5804c17c6cd1a", func := "bulletin/bulletinlaw21.RegistryOrder", spec := "registryOrder", inPlace := ["internal/bytealg.CountString", "internal/bytealg.IndexByteString", "internal/bytealg.IndexString", "internal/bytealg.Compare"], unfollowed := true, recurses := true, named := ["unicode/utf8.first", "unicode/utf8.acceptRanges", "internal/bytealg.MaxLen"], plainKeys := false, apart := false, laid := [("unicode/utf8.acceptRanges", laid_unicode_utf8_acceptRanges), ("unicode/utf8.first", laid_unicode_utf8_first)], narrowed := true }
def RegistryOrderUptoSaid : Prop := registryOrderUptoRow.holds Tryz.pinned (OpenSpec.upto registryOrderSpec)

/-- 'bulletinlaw21.RegistryDrops', WHERE WHAT IT READS IS OF BULK AT MOST 1048576: true; the input reads as it did. -/
def registryDropsUptoRow : OpenClaim := { program := "ytkkfnlehlkiejaagreatdoor", sum := "cf10fe9def57d090da61cd86fcb4f209ec4ceff3dc49686655c5804c17c6cd1a", func := "bulletin/bulletinlaw21.RegistryDrops", spec := "registryDrops", inPlace := ["internal/bytealg.CountString", "internal/bytealg.IndexByteString", "internal/bytealg.IndexString", "internal/bytealg.Compare"], unfollowed := true, recurses := true, named := ["unicode/utf8.first", "unicode/utf8.acceptRanges", "internal/bytealg.MaxLen"], plainKeys := false, apart := false, laid := [("unicode/utf8.acceptRanges", laid_unicode_utf8_acceptRanges), ("unicode/utf8.first", laid_unicode_utf8_first)], narrowed := true }
def RegistryDropsUptoSaid : Prop := registryDropsUptoRow.holds Tryz.pinned (OpenSpec.upto registryDropsSpec)

/-- 'bulletinlaw21.RegistryClones', WHERE WHAT IT READS IS OF BULK AT MOST 1048576: true; the input reads as it did. -/
def registryClonesUptoRow : OpenClaim := { program := "ytkkfnlehlkiejaagreatdoor", sum := "cf10fe9def57d090da61cd86fcb4f209ec4ceff3dc49686655c5804c17c6cd1a", func := "bulletin/bulletinlaw21.RegistryClones", spec := "registryClones", inPlace := ["internal/bytealg.CountString", "internal/bytealg.IndexByteString", "internal/bytealg.IndexString", "internal/bytealg.Compare"], unfollowed := true, recurses := true, named := ["unicode/utf8.first", "unicode/utf8.acceptRanges", "internal/bytealg.MaxLen"], plainKeys := false, apart := false, laid := [("unicode/utf8.acceptRanges", laid_unicode_utf8_acceptRanges), ("unicode/utf8.first", laid_unicode_utf8_first)], narrowed := true }
def RegistryClonesUptoSaid : Prop := registryClonesUptoRow.holds Tryz.pinned (OpenSpec.upto registryClonesSpec)

end Rows
end Go.Proofs.YtkkfnlehlkiejaaGreatDoor
