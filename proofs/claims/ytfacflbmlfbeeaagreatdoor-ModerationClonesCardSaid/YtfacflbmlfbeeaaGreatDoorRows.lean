/-
  NARROWER THAN 'FOR EVERY INPUT', by the rows' own cells (each row's printed sentence says how): ModerationNew: laid · ModerationCommands: laid · ModerationOperations: laid · ModerationRoom: laid · ModerationLapses: laid · ModerationDecisions: laid · ModerationLeases: laid · ModerationStates: laid · ModerationNil: laid · ModerationClones: laid.
  DERIVED. THE GIVEN ROWS OF THIS SEAT. 10 by the template 'for every input the law returns true; each argument reads behind the call as it read before'; 0 by the template 'total and deterministic' (their statements: YtfacflbmlfbeeaaGreatDoorTotals.lean).
  GIVEN WITH THE SEED: the statements are not yours to turn. If you find one false, say at which input.
  Laid BY PROGRAM, IN A SANDBOX (cutbox-rows.mjs): the forced cells as the released guide's own fill.sh prints them over the translation ebd9686a2aba0575… (all of the seat's roots in one cut). By AI agents, Wed Nov 11 2026. No macro, syntax, notation, axiom, sorry.
-/
import Derived.Test.YtfacflbmlfbeeaaGreatDoorChecked
import GoSem.PinnedTables
import GoSem.Claim
import GoSem.ClaimJoined
import GoSem.ClaimMapViews
import Derived.JoinedTies
import Derived.KernelRfl
namespace Go.Proofs.YtfacflbmlfbeeaaGreatDoor
/- THE CELL 'sum', in the pinned program and in every row, IS THE sha256 OF THE DUMP (.gsa) THAT YtfacflbmlfbeeaaGreatDoorProg.lean LOADS. Nothing in Lean hashes anything: it is a label: what it is worth is what the hold of that sum in a sandbox is worth. -/
noncomputable def Tryz.pinned : Pinned := { name := "ytfacflbmlfbeeaagreatdoor", sum := "ebd9686a2aba05752eae4dd18c55ae406279d35cefa8b863cb3ea03f28245cd4", checked := Tryz.checked }
namespace Rows
def none {H : Type} : Left H := { results := [], args := [] }

/- WHAT THE LISTED PACKAGE-LEVEL VARIABLES READ AS WHEN THE CALL BEGINS. Each datum BY PROGRAM (the guide's laid-datum.mjs) off the statement by which the dump's own 'gosem.cut.vars' lays the variable. In a bare row this is a premise. The card (YtfacflbmlfbeeaaGreatDoorCards.lean) ties it to the program's text. -/
def laid_unicode_utf8_acceptRanges {H : Type} : DataW H := .agg [.agg [.lit (.int .u8 128), .lit (.int .u8 191)], .agg [.lit (.int .u8 160), .lit (.int .u8 191)], .agg [.lit (.int .u8 128), .lit (.int .u8 159)], .agg [.lit (.int .u8 144), .lit (.int .u8 191)], .agg [.lit (.int .u8 128), .lit (.int .u8 143)], .agg [.lit (.int .u8 0), .lit (.int .u8 0)], .agg [.lit (.int .u8 0), .lit (.int .u8 0)], .agg [.lit (.int .u8 0), .lit (.int .u8 0)], .agg [.lit (.int .u8 0), .lit (.int .u8 0)], .agg [.lit (.int .u8 0), .lit (.int .u8 0)], .agg [.lit (.int .u8 0), .lit (.int .u8 0)], .agg [.lit (.int .u8 0), .lit (.int .u8 0)], .agg [.lit (.int .u8 0), .lit (.int .u8 0)], .agg [.lit (.int .u8 0), .lit (.int .u8 0)], .agg [.lit (.int .u8 0), .lit (.int .u8 0)], .agg [.lit (.int .u8 0), .lit (.int .u8 0)]]
/-- One of Go's own tables, pinned by name: the form's constant. -/
def laid_unicode_utf8_first : DataW Unit := Go.Pinned.utf8First

/-- 'bulletinlaw39.ModerationNew': WHATEVER THE INPUT: true; the input reads as it did. -/
def moderationNewSpec : ChangeSpec := { name := "moderationNew", fn := fun _ => fun
  | [d1, d2] => { results := [.lit (.bool true)], args := [d1, d2] }
  | _ => none }
def moderationNewRow : OpenClaim := { program := "ytfacflbmlfbeeaagreatdoor", sum := "ebd9686a2aba05752eae4dd18c55ae406279d35cefa8b863cb3ea03f28245cd4", func := "bulletin/bulletinlaw39.ModerationNew", spec := "moderationNew", inPlace := ["internal/bytealg.CountString", "internal/bytealg.IndexByteString", "internal/bytealg.IndexString", "internal/bytealg.Compare"], unfollowed := true, recurses := true, named := ["unicode/utf8.first", "unicode/utf8.acceptRanges", "internal/bytealg.MaxLen"], plainKeys := false, apart := false, laid := [("unicode/utf8.acceptRanges", laid_unicode_utf8_acceptRanges), ("unicode/utf8.first", laid_unicode_utf8_first)] }
def ModerationNewSaid : Prop := moderationNewRow.holds Tryz.pinned (OpenSpec.ofChange moderationNewSpec)

/-- ITS FALSE NEIGHBOUR: 'it returns false'. Refute it at one input. -/
def moderationNewWrong : ChangeSpec := { name := "moderationNew", fn := fun _ => fun
  | [d1, d2] => { results := [.lit (.bool false)], args := [d1, d2] }
  | _ => none }
def ModerationNewWrongFalsely : Prop := moderationNewRow.holds Tryz.pinned (OpenSpec.ofChange moderationNewWrong)

/-- 'bulletinlaw39.ModerationCommands': WHATEVER THE INPUT: true; the input reads as it did. -/
def moderationCommandsSpec : ChangeSpec := { name := "moderationCommands", fn := fun _ => fun
  | [d1, d2, d3] => { results := [.lit (.bool true)], args := [d1, d2, d3] }
  | _ => none }
def moderationCommandsRow : OpenClaim := { program := "ytfacflbmlfbeeaagreatdoor", sum := "ebd9686a2aba05752eae4dd18c55ae406279d35cefa8b863cb3ea03f28245cd4", func := "bulletin/bulletinlaw39.ModerationCommands", spec := "moderationCommands", inPlace := ["internal/bytealg.CountString", "internal/bytealg.IndexByteString", "internal/bytealg.IndexString", "internal/bytealg.Compare"], unfollowed := true, recurses := true, named := ["unicode/utf8.first", "unicode/utf8.acceptRanges", "internal/bytealg.MaxLen"], plainKeys := false, apart := false, laid := [("unicode/utf8.acceptRanges", laid_unicode_utf8_acceptRanges), ("unicode/utf8.first", laid_unicode_utf8_first)] }
def ModerationCommandsSaid : Prop := moderationCommandsRow.holds Tryz.pinned (OpenSpec.ofChange moderationCommandsSpec)

/-- ITS FALSE NEIGHBOUR: 'it returns false'. Refute it at one input. -/
def moderationCommandsWrong : ChangeSpec := { name := "moderationCommands", fn := fun _ => fun
  | [d1, d2, d3] => { results := [.lit (.bool false)], args := [d1, d2, d3] }
  | _ => none }
def ModerationCommandsWrongFalsely : Prop := moderationCommandsRow.holds Tryz.pinned (OpenSpec.ofChange moderationCommandsWrong)

/-- 'bulletinlaw39.ModerationOperations': WHATEVER THE INPUT: true; the input reads as it did. -/
def moderationOperationsSpec : ChangeSpec := { name := "moderationOperations", fn := fun _ => fun
  | [d] => { results := [.lit (.bool true)], args := [d] }
  | _ => none }
def moderationOperationsRow : OpenClaim := { program := "ytfacflbmlfbeeaagreatdoor", sum := "ebd9686a2aba05752eae4dd18c55ae406279d35cefa8b863cb3ea03f28245cd4", func := "bulletin/bulletinlaw39.ModerationOperations", spec := "moderationOperations", inPlace := ["internal/bytealg.CountString", "internal/bytealg.IndexByteString", "internal/bytealg.IndexString", "internal/bytealg.Compare"], unfollowed := true, recurses := true, named := ["unicode/utf8.first", "unicode/utf8.acceptRanges", "internal/bytealg.MaxLen"], plainKeys := false, apart := false, laid := [("unicode/utf8.acceptRanges", laid_unicode_utf8_acceptRanges), ("unicode/utf8.first", laid_unicode_utf8_first)] }
def ModerationOperationsSaid : Prop := moderationOperationsRow.holds Tryz.pinned (OpenSpec.ofChange moderationOperationsSpec)

/-- ITS FALSE NEIGHBOUR: 'it returns false'. Refute it at one input. -/
def moderationOperationsWrong : ChangeSpec := { name := "moderationOperations", fn := fun _ => fun
  | [d] => { results := [.lit (.bool false)], args := [d] }
  | _ => none }
def ModerationOperationsWrongFalsely : Prop := moderationOperationsRow.holds Tryz.pinned (OpenSpec.ofChange moderationOperationsWrong)

/-- 'bulletinlaw39.ModerationRoom': WHATEVER THE INPUT: true; the input reads as it did. -/
def moderationRoomSpec : ChangeSpec := { name := "moderationRoom", fn := fun _ => fun
  | [d1, d2] => { results := [.lit (.bool true)], args := [d1, d2] }
  | _ => none }
def moderationRoomRow : OpenClaim := { program := "ytfacflbmlfbeeaagreatdoor", sum := "ebd9686a2aba05752eae4dd18c55ae406279d35cefa8b863cb3ea03f28245cd4", func := "bulletin/bulletinlaw39.ModerationRoom", spec := "moderationRoom", inPlace := ["internal/bytealg.CountString", "internal/bytealg.IndexByteString", "internal/bytealg.IndexString", "internal/bytealg.Compare"], unfollowed := true, recurses := true, named := ["unicode/utf8.first", "unicode/utf8.acceptRanges", "internal/bytealg.MaxLen"], plainKeys := false, apart := false, laid := [("unicode/utf8.acceptRanges", laid_unicode_utf8_acceptRanges), ("unicode/utf8.first", laid_unicode_utf8_first)] }
def ModerationRoomSaid : Prop := moderationRoomRow.holds Tryz.pinned (OpenSpec.ofChange moderationRoomSpec)

/-- ITS FALSE NEIGHBOUR: 'it returns false'. Refute it at one input. -/
def moderationRoomWrong : ChangeSpec := { name := "moderationRoom", fn := fun _ => fun
  | [d1, d2] => { results := [.lit (.bool false)], args := [d1, d2] }
  | _ => none }
def ModerationRoomWrongFalsely : Prop := moderationRoomRow.holds Tryz.pinned (OpenSpec.ofChange moderationRoomWrong)

/-- 'bulletinlaw39.ModerationLapses': WHATEVER THE INPUT: true; the input reads as it did. -/
def moderationLapsesSpec : ChangeSpec := { name := "moderationLapses", fn := fun _ => fun
  | [d1, d2] => { results := [.lit (.bool true)], args := [d1, d2] }
  | _ => none }
def moderationLapsesRow : OpenClaim := { program := "ytfacflbmlfbeeaagreatdoor", sum := "ebd9686a2aba05752eae4dd18c55ae406279d35cefa8b863cb3ea03f28245cd4", func := "bulletin/bulletinlaw39.ModerationLapses", spec := "moderationLapses", inPlace := ["internal/bytealg.CountString", "internal/bytealg.IndexByteString", "internal/bytealg.IndexString", "internal/bytealg.Compare"], unfollowed := true, recurses := true, named := ["unicode/utf8.first", "unicode/utf8.acceptRanges", "internal/bytealg.MaxLen"], plainKeys := false, apart := false, laid := [("unicode/utf8.acceptRanges", laid_unicode_utf8_acceptRanges), ("unicode/utf8.first", laid_unicode_utf8_first)] }
def ModerationLapsesSaid : Prop := moderationLapsesRow.holds Tryz.pinned (OpenSpec.ofChange moderationLapsesSpec)

/-- ITS FALSE NEIGHBOUR: 'it returns false'. Refute it at one input. -/
def moderationLapsesWrong : ChangeSpec := { name := "moderationLapses", fn := fun _ => fun
  | [d1, d2] => { results := [.lit (.bool false)], args := [d1, d2] }
  | _ => none }
def ModerationLapsesWrongFalsely : Prop := moderationLapsesRow.holds Tryz.pinned (OpenSpec.ofChange moderationLapsesWrong)

/-- 'bulletinlaw39.ModerationDecisions': WHATEVER THE INPUT: true; the input reads as it did. -/
def moderationDecisionsSpec : ChangeSpec := { name := "moderationDecisions", fn := fun _ => fun
  | [d] => { results := [.lit (.bool true)], args := [d] }
  | _ => none }
def moderationDecisionsRow : OpenClaim := { program := "ytfacflbmlfbeeaagreatdoor", sum := "ebd9686a2aba05752eae4dd18c55ae406279d35cefa8b863cb3ea03f28245cd4", func := "bulletin/bulletinlaw39.ModerationDecisions", spec := "moderationDecisions", inPlace := ["internal/bytealg.CountString", "internal/bytealg.IndexByteString", "internal/bytealg.IndexString", "internal/bytealg.Compare"], unfollowed := true, recurses := true, named := ["unicode/utf8.first", "unicode/utf8.acceptRanges", "internal/bytealg.MaxLen"], plainKeys := false, apart := false, laid := [("unicode/utf8.acceptRanges", laid_unicode_utf8_acceptRanges), ("unicode/utf8.first", laid_unicode_utf8_first)] }
def ModerationDecisionsSaid : Prop := moderationDecisionsRow.holds Tryz.pinned (OpenSpec.ofChange moderationDecisionsSpec)

/-- ITS FALSE NEIGHBOUR: 'it returns false'. Refute it at one input. -/
def moderationDecisionsWrong : ChangeSpec := { name := "moderationDecisions", fn := fun _ => fun
  | [d] => { results := [.lit (.bool false)], args := [d] }
  | _ => none }
def ModerationDecisionsWrongFalsely : Prop := moderationDecisionsRow.holds Tryz.pinned (OpenSpec.ofChange moderationDecisionsWrong)

/-- 'bulletinlaw39.ModerationLeases': WHATEVER THE INPUT: true; the input reads as it did. -/
def moderationLeasesSpec : ChangeSpec := { name := "moderationLeases", fn := fun _ => fun
  | [d1, d2, d3] => { results := [.lit (.bool true)], args := [d1, d2, d3] }
  | _ => none }
def moderationLeasesRow : OpenClaim := { program := "ytfacflbmlfbeeaagreatdoor", sum := "ebd9686a2aba05752eae4dd18c55ae406279d35cefa8b863cb3ea03f28245cd4", func := "bulletin/bulletinlaw39.ModerationLeases", spec := "moderationLeases", inPlace := ["internal/bytealg.CountString", "internal/bytealg.IndexByteString", "internal/bytealg.IndexString", "internal/bytealg.Compare"], unfollowed := true, recurses := true, named := ["unicode/utf8.first", "unicode/utf8.acceptRanges", "internal/bytealg.MaxLen"], plainKeys := false, apart := false, laid := [("unicode/utf8.acceptRanges", laid_unicode_utf8_acceptRanges), ("unicode/utf8.first", laid_unicode_utf8_first)] }
def ModerationLeasesSaid : Prop := moderationLeasesRow.holds Tryz.pinned (OpenSpec.ofChange moderationLeasesSpec)

/-- ITS FALSE NEIGHBOUR: 'it returns false'. Refute it at one input. -/
def moderationLeasesWrong : ChangeSpec := { name := "moderationLeases", fn := fun _ => fun
  | [d1, d2, d3] => { results := [.lit (.bool false)], args := [d1, d2, d3] }
  | _ => none }
def ModerationLeasesWrongFalsely : Prop := moderationLeasesRow.holds Tryz.pinned (OpenSpec.ofChange moderationLeasesWrong)

/-- 'bulletinlaw39.ModerationStates': WHATEVER THE INPUT: true; the input reads as it did. -/
def moderationStatesSpec : ChangeSpec := { name := "moderationStates", fn := fun _ => fun
  | [d1, d2] => { results := [.lit (.bool true)], args := [d1, d2] }
  | _ => none }
def moderationStatesRow : OpenClaim := { program := "ytfacflbmlfbeeaagreatdoor", sum := "ebd9686a2aba05752eae4dd18c55ae406279d35cefa8b863cb3ea03f28245cd4", func := "bulletin/bulletinlaw39.ModerationStates", spec := "moderationStates", inPlace := ["internal/bytealg.CountString", "internal/bytealg.IndexByteString", "internal/bytealg.IndexString", "internal/bytealg.Compare"], unfollowed := true, recurses := true, named := ["unicode/utf8.first", "unicode/utf8.acceptRanges", "internal/bytealg.MaxLen"], plainKeys := false, apart := false, laid := [("unicode/utf8.acceptRanges", laid_unicode_utf8_acceptRanges), ("unicode/utf8.first", laid_unicode_utf8_first)] }
def ModerationStatesSaid : Prop := moderationStatesRow.holds Tryz.pinned (OpenSpec.ofChange moderationStatesSpec)

/-- ITS FALSE NEIGHBOUR: 'it returns false'. Refute it at one input. -/
def moderationStatesWrong : ChangeSpec := { name := "moderationStates", fn := fun _ => fun
  | [d1, d2] => { results := [.lit (.bool false)], args := [d1, d2] }
  | _ => none }
def ModerationStatesWrongFalsely : Prop := moderationStatesRow.holds Tryz.pinned (OpenSpec.ofChange moderationStatesWrong)

/-- 'bulletinlaw39.ModerationNil': WHATEVER THE INPUT: true; the input reads as it did. -/
def moderationNilSpec : ChangeSpec := { name := "moderationNil", fn := fun _ => fun
  | [d] => { results := [.lit (.bool true)], args := [d] }
  | _ => none }
def moderationNilRow : OpenClaim := { program := "ytfacflbmlfbeeaagreatdoor", sum := "ebd9686a2aba05752eae4dd18c55ae406279d35cefa8b863cb3ea03f28245cd4", func := "bulletin/bulletinlaw39.ModerationNil", spec := "moderationNil", inPlace := ["internal/bytealg.Compare", "internal/bytealg.CountString", "internal/bytealg.IndexByteString", "internal/bytealg.IndexString"], unfollowed := true, recurses := true, named := ["unicode/utf8.first", "unicode/utf8.acceptRanges", "internal/bytealg.MaxLen"], plainKeys := false, apart := false, laid := [("unicode/utf8.acceptRanges", laid_unicode_utf8_acceptRanges), ("unicode/utf8.first", laid_unicode_utf8_first)] }
def ModerationNilSaid : Prop := moderationNilRow.holds Tryz.pinned (OpenSpec.ofChange moderationNilSpec)

/-- ITS FALSE NEIGHBOUR: 'it returns false'. Refute it at one input. -/
def moderationNilWrong : ChangeSpec := { name := "moderationNil", fn := fun _ => fun
  | [d] => { results := [.lit (.bool false)], args := [d] }
  | _ => none }
def ModerationNilWrongFalsely : Prop := moderationNilRow.holds Tryz.pinned (OpenSpec.ofChange moderationNilWrong)

/-- 'bulletinlaw39.ModerationClones': WHATEVER THE INPUT: true; the input reads as it did. -/
def moderationClonesSpec : ChangeSpec := { name := "moderationClones", fn := fun _ => fun
  | [d1, d2] => { results := [.lit (.bool true)], args := [d1, d2] }
  | _ => none }
def moderationClonesRow : OpenClaim := { program := "ytfacflbmlfbeeaagreatdoor", sum := "ebd9686a2aba05752eae4dd18c55ae406279d35cefa8b863cb3ea03f28245cd4", func := "bulletin/bulletinlaw39.ModerationClones", spec := "moderationClones", inPlace := ["internal/bytealg.CountString", "internal/bytealg.IndexByteString", "internal/bytealg.IndexString", "internal/bytealg.Compare"], unfollowed := true, recurses := true, named := ["unicode/utf8.first", "unicode/utf8.acceptRanges", "internal/bytealg.MaxLen"], plainKeys := false, apart := false, laid := [("unicode/utf8.acceptRanges", laid_unicode_utf8_acceptRanges), ("unicode/utf8.first", laid_unicode_utf8_first)] }
def ModerationClonesSaid : Prop := moderationClonesRow.holds Tryz.pinned (OpenSpec.ofChange moderationClonesSpec)

/-- ITS FALSE NEIGHBOUR: 'it returns false'. Refute it at one input. -/
def moderationClonesWrong : ChangeSpec := { name := "moderationClones", fn := fun _ => fun
  | [d1, d2] => { results := [.lit (.bool false)], args := [d1, d2] }
  | _ => none }
def ModerationClonesWrongFalsely : Prop := moderationClonesRow.holds Tryz.pinned (OpenSpec.ofChange moderationClonesWrong)

/- THE SECOND FORM. 'bulk': how many values and letters a reading holds, each counted each time it is reached (what is shared counts as often as it is met; a slice's spare places count too). A statement '..UptoSaid' is the law's where the arguments, and the package variables that the reading takes, are together of bulk at most 1048576: NARROWER than '..Said'. Prove '..Said' where nothing that the law and all that it calls make is longer than what came in: it says more and counts as full. Else prove '..UptoSaid'. A law counts once. -/
mutual
def uptoBulk {H : Type} : DataW H → Nat
  | .lit (.string bytes) => bytes.length + 1
  | .lit _ => 1
  | .nil => 1
  | .ptr d => uptoBulk d + 1
  | .slice elems spare => uptoBulkAll elems + uptoBulkAll spare + 1
  | .agg parts => uptoBulkAll parts + 1
  | .iface _ d => uptoBulk d + 1
  | .map entries => uptoBulkEntries entries + 1
  | .held _ => 1
def uptoBulkAll {H : Type} : List (DataW H) → Nat
  | [] => 0
  | d :: r => uptoBulk d + uptoBulkAll r
def uptoBulkEntries {H : Type} : List (Lit × DataW H) → Nat
  | [] => 0
  | x :: r => uptoBulkEntry x + uptoBulkEntries r
def uptoBulkEntry {H : Type} : Lit × DataW H → Nat
  | (.string bytes, d) => bytes.length + uptoBulk d + 1
  | (_, d) => uptoBulk d + 1
 end
def uptoSmall : (H : Type) → List (DataW H) → Bool := fun _ ds => decide (uptoBulkAll ds ≤ 1048576)
def OpenSpec.upto (s : _root_.Go.ChangeSpec) : _root_.Go.OpenSpec := { _root_.Go.OpenSpec.ofChange s with cond := some uptoSmall }

/-- 'bulletinlaw39.ModerationNew', WHERE WHAT IT READS IS OF BULK AT MOST 1048576: true; the input reads as it did. -/
def moderationNewUptoRow : OpenClaim := { program := "ytfacflbmlfbeeaagreatdoor", sum := "ebd9686a2aba05752eae4dd18c55ae406279d35cefa8b863cb3ea03f28245cd4", func := "bulletin/bulletinlaw39.ModerationNew", spec := "moderationNew", inPlace := ["internal/bytealg.CountString", "internal/bytealg.IndexByteString", "internal/bytealg.IndexString", "internal/bytealg.Compare"], unfollowed := true, recurses := true, named := ["unicode/utf8.first", "unicode/utf8.acceptRanges", "internal/bytealg.MaxLen"], plainKeys := false, apart := false, laid := [("unicode/utf8.acceptRanges", laid_unicode_utf8_acceptRanges), ("unicode/utf8.first", laid_unicode_utf8_first)], narrowed := true }
def ModerationNewUptoSaid : Prop := moderationNewUptoRow.holds Tryz.pinned (OpenSpec.upto moderationNewSpec)

/-- 'bulletinlaw39.ModerationCommands', WHERE WHAT IT READS IS OF BULK AT MOST 1048576: true; the input reads as it did. -/
def moderationCommandsUptoRow : OpenClaim := { program := "ytfacflbmlfbeeaagreatdoor", sum := "ebd9686a2aba05752eae4dd18c55ae406279d35cefa8b863cb3ea03f28245cd4", func := "bulletin/bulletinlaw39.ModerationCommands", spec := "moderationCommands", inPlace := ["internal/bytealg.CountString", "internal/bytealg.IndexByteString", "internal/bytealg.IndexString", "internal/bytealg.Compare"], unfollowed := true, recurses := true, named := ["unicode/utf8.first", "unicode/utf8.acceptRanges", "internal/bytealg.MaxLen"], plainKeys := false, apart := false, laid := [("unicode/utf8.acceptRanges", laid_unicode_utf8_acceptRanges), ("unicode/utf8.first", laid_unicode_utf8_first)], narrowed := true }
def ModerationCommandsUptoSaid : Prop := moderationCommandsUptoRow.holds Tryz.pinned (OpenSpec.upto moderationCommandsSpec)

/-- 'bulletinlaw39.ModerationOperations', WHERE WHAT IT READS IS OF BULK AT MOST 1048576: true; the input reads as it did. -/
def moderationOperationsUptoRow : OpenClaim := { program := "ytfacflbmlfbeeaagreatdoor", sum := "ebd9686a2aba05752eae4dd18c55ae406279d35cefa8b863cb3ea03f28245cd4", func := "bulletin/bulletinlaw39.ModerationOperations", spec := "moderationOperations", inPlace := ["internal/bytealg.CountString", "internal/bytealg.IndexByteString", "internal/bytealg.IndexString", "internal/bytealg.Compare"], unfollowed := true, recurses := true, named := ["unicode/utf8.first", "unicode/utf8.acceptRanges", "internal/bytealg.MaxLen"], plainKeys := false, apart := false, laid := [("unicode/utf8.acceptRanges", laid_unicode_utf8_acceptRanges), ("unicode/utf8.first", laid_unicode_utf8_first)], narrowed := true }
def ModerationOperationsUptoSaid : Prop := moderationOperationsUptoRow.holds Tryz.pinned (OpenSpec.upto moderationOperationsSpec)

/-- 'bulletinlaw39.ModerationRoom', WHERE WHAT IT READS IS OF BULK AT MOST 1048576: true; the input reads as it did. -/
def moderationRoomUptoRow : OpenClaim := { program := "ytfacflbmlfbeeaagreatdoor", sum := "ebd9686a2aba05752eae4dd18c55ae406279d35cefa8b863cb3ea03f28245cd4", func := "bulletin/bulletinlaw39.ModerationRoom", spec := "moderationRoom", inPlace := ["internal/bytealg.CountString", "internal/bytealg.IndexByteString", "internal/bytealg.IndexString", "internal/bytealg.Compare"], unfollowed := true, recurses := true, named := ["unicode/utf8.first", "unicode/utf8.acceptRanges", "internal/bytealg.MaxLen"], plainKeys := false, apart := false, laid := [("unicode/utf8.acceptRanges", laid_unicode_utf8_acceptRanges), ("unicode/utf8.first", laid_unicode_utf8_first)], narrowed := true }
def ModerationRoomUptoSaid : Prop := moderationRoomUptoRow.holds Tryz.pinned (OpenSpec.upto moderationRoomSpec)

/-- 'bulletinlaw39.ModerationLapses', WHERE WHAT IT READS IS OF BULK AT MOST 1048576: true; the input reads as it did. -/
def moderationLapsesUptoRow : OpenClaim := { program := "ytfacflbmlfbeeaagreatdoor", sum := "ebd9686a2aba05752eae4dd18c55ae406279d35cefa8b863cb3ea03f28245cd4", func := "bulletin/bulletinlaw39.ModerationLapses", spec := "moderationLapses", inPlace := ["internal/bytealg.CountString", "internal/bytealg.IndexByteString", "internal/bytealg.IndexString", "internal/bytealg.Compare"], unfollowed := true, recurses := true, named := ["unicode/utf8.first", "unicode/utf8.acceptRanges", "internal/bytealg.MaxLen"], plainKeys := false, apart := false, laid := [("unicode/utf8.acceptRanges", laid_unicode_utf8_acceptRanges), ("unicode/utf8.first", laid_unicode_utf8_first)], narrowed := true }
def ModerationLapsesUptoSaid : Prop := moderationLapsesUptoRow.holds Tryz.pinned (OpenSpec.upto moderationLapsesSpec)

/-- 'bulletinlaw39.ModerationDecisions', WHERE WHAT IT READS IS OF BULK AT MOST 1048576: true; the input reads as it did. -/
def moderationDecisionsUptoRow : OpenClaim := { program := "ytfacflbmlfbeeaagreatdoor", sum := "ebd9686a2aba05752eae4dd18c55ae406279d35cefa8b863cb3ea03f28245cd4", func := "bulletin/bulletinlaw39.ModerationDecisions", spec := "moderationDecisions", inPlace := ["internal/bytealg.CountString", "internal/bytealg.IndexByteString", "internal/bytealg.IndexString", "internal/bytealg.Compare"], unfollowed := true, recurses := true, named := ["unicode/utf8.first", "unicode/utf8.acceptRanges", "internal/bytealg.MaxLen"], plainKeys := false, apart := false, laid := [("unicode/utf8.acceptRanges", laid_unicode_utf8_acceptRanges), ("unicode/utf8.first", laid_unicode_utf8_first)], narrowed := true }
def ModerationDecisionsUptoSaid : Prop := moderationDecisionsUptoRow.holds Tryz.pinned (OpenSpec.upto moderationDecisionsSpec)

/-- 'bulletinlaw39.ModerationLeases', WHERE WHAT IT READS IS OF BULK AT MOST 1048576: true; the input reads as it did. -/
def moderationLeasesUptoRow : OpenClaim := { program := "ytfacflbmlfbeeaagreatdoor", sum := "ebd9686a2aba05752eae4dd18c55ae406279d35cefa8b863cb3ea03f28245cd4", func := "bulletin/bulletinlaw39.ModerationLeases", spec := "moderationLeases", inPlace := ["internal/bytealg.CountString", "internal/bytealg.IndexByteString", "internal/bytealg.IndexString", "internal/bytealg.Compare"], unfollowed := true, recurses := true, named := ["unicode/utf8.first", "unicode/utf8.acceptRanges", "internal/bytealg.MaxLen"], plainKeys := false, apart := false, laid := [("unicode/utf8.acceptRanges", laid_unicode_utf8_acceptRanges), ("unicode/utf8.first", laid_unicode_utf8_first)], narrowed := true }
def ModerationLeasesUptoSaid : Prop := moderationLeasesUptoRow.holds Tryz.pinned (OpenSpec.upto moderationLeasesSpec)

/-- 'bulletinlaw39.ModerationStates', WHERE WHAT IT READS IS OF BULK AT MOST 1048576: true; the input reads as it did. -/
def moderationStatesUptoRow : OpenClaim := { program := "ytfacflbmlfbeeaagreatdoor", sum := "ebd9686a2aba05752eae4dd18c55ae406279d35cefa8b863cb3ea03f28245cd4", func := "bulletin/bulletinlaw39.ModerationStates", spec := "moderationStates", inPlace := ["internal/bytealg.CountString", "internal/bytealg.IndexByteString", "internal/bytealg.IndexString", "internal/bytealg.Compare"], unfollowed := true, recurses := true, named := ["unicode/utf8.first", "unicode/utf8.acceptRanges", "internal/bytealg.MaxLen"], plainKeys := false, apart := false, laid := [("unicode/utf8.acceptRanges", laid_unicode_utf8_acceptRanges), ("unicode/utf8.first", laid_unicode_utf8_first)], narrowed := true }
def ModerationStatesUptoSaid : Prop := moderationStatesUptoRow.holds Tryz.pinned (OpenSpec.upto moderationStatesSpec)

/-- 'bulletinlaw39.ModerationNil', WHERE WHAT IT READS IS OF BULK AT MOST 1048576: true; the input reads as it did. -/
def moderationNilUptoRow : OpenClaim := { program := "ytfacflbmlfbeeaagreatdoor", sum := "ebd9686a2aba05752eae4dd18c55ae406279d35cefa8b863cb3ea03f28245cd4", func := "bulletin/bulletinlaw39.ModerationNil", spec := "moderationNil", inPlace := ["internal/bytealg.Compare", "internal/bytealg.CountString", "internal/bytealg.IndexByteString", "internal/bytealg.IndexString"], unfollowed := true, recurses := true, named := ["unicode/utf8.first", "unicode/utf8.acceptRanges", "internal/bytealg.MaxLen"], plainKeys := false, apart := false, laid := [("unicode/utf8.acceptRanges", laid_unicode_utf8_acceptRanges), ("unicode/utf8.first", laid_unicode_utf8_first)], narrowed := true }
def ModerationNilUptoSaid : Prop := moderationNilUptoRow.holds Tryz.pinned (OpenSpec.upto moderationNilSpec)

/-- 'bulletinlaw39.ModerationClones', WHERE WHAT IT READS IS OF BULK AT MOST 1048576: true; the input reads as it did. -/
def moderationClonesUptoRow : OpenClaim := { program := "ytfacflbmlfbeeaagreatdoor", sum := "ebd9686a2aba05752eae4dd18c55ae406279d35cefa8b863cb3ea03f28245cd4", func := "bulletin/bulletinlaw39.ModerationClones", spec := "moderationClones", inPlace := ["internal/bytealg.CountString", "internal/bytealg.IndexByteString", "internal/bytealg.IndexString", "internal/bytealg.Compare"], unfollowed := true, recurses := true, named := ["unicode/utf8.first", "unicode/utf8.acceptRanges", "internal/bytealg.MaxLen"], plainKeys := false, apart := false, laid := [("unicode/utf8.acceptRanges", laid_unicode_utf8_acceptRanges), ("unicode/utf8.first", laid_unicode_utf8_first)], narrowed := true }
def ModerationClonesUptoSaid : Prop := moderationClonesUptoRow.holds Tryz.pinned (OpenSpec.upto moderationClonesSpec)

end Rows
end Go.Proofs.YtfacflbmlfbeeaaGreatDoor
