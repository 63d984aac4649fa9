/-
  NARROWER THAN 'FOR EVERY INPUT', by the rows' own cells (each row's printed sentence says how): FeedruleReasons: laid · FeedruleControls: laid · FeedruleQuotas: laid · FeedruleBounds: laid · FeedruleChecks: laid · FeedruleLater: laid · FeedruleClones: laid.
  DERIVED. THE GIVEN ROWS OF THIS SEAT. 7 by the template 'for every input the law returns true; each argument reads behind the call as it read before'; 0 by the template 'total and deterministic' (their statements: YtcpjajjocmpkjaaDoorTotals.lean).
  GIVEN WITH THE SEED: the statements are not yours to turn. If you find one false, say at which input.
  Laid BY PROGRAM, IN A SANDBOX (cutbox-rows.mjs): the forced cells as the released guide's own fill.sh prints them over the translation ffeef60b7e675e9e… (all of the seat's roots in one cut). By AI agents, Wed Nov 11 2026. No macro, syntax, notation, axiom, sorry.
-/
import Derived.Test.YtcpjajjocmpkjaaDoorChecked
import GoSem.PinnedTables
import GoSem.Claim
import GoSem.ClaimJoined
import GoSem.ClaimMapViews
import Derived.JoinedTies
import Derived.KernelRfl
namespace Go.Proofs.YtcpjajjocmpkjaaDoor
/- THE CELL 'sum', in the pinned program and in every row, IS THE sha256 OF THE DUMP (.gsa) THAT YtcpjajjocmpkjaaDoorProg.lean LOADS. Nothing in Lean hashes anything: it is a label: what it is worth is what the hold of that sum in a sandbox is worth. -/
noncomputable def Tryd.pinned : Pinned := { name := "ytcpjajjocmpkjaadoor", sum := "ffeef60b7e675e9eb7769e78049c65b6715fb457cd2bc33a954a61777aaf5fd4", checked := Tryd.checked }
namespace Rows
def none {H : Type} : Left H := { results := [], args := [] }

/- WHAT THE LISTED PACKAGE-LEVEL VARIABLES READ AS WHEN THE CALL BEGINS. Each datum BY PROGRAM (the guide's laid-datum.mjs) off the statement by which the dump's own 'gosem.cut.vars' lays the variable. In a bare row this is a premise. The card (YtcpjajjocmpkjaaDoorCards.lean) ties it to the program's text. -/
def laid_unicode_utf8_acceptRanges {H : Type} : DataW H := .agg [.agg [.lit (.int .u8 128), .lit (.int .u8 191)], .agg [.lit (.int .u8 160), .lit (.int .u8 191)], .agg [.lit (.int .u8 128), .lit (.int .u8 159)], .agg [.lit (.int .u8 144), .lit (.int .u8 191)], .agg [.lit (.int .u8 128), .lit (.int .u8 143)], .agg [.lit (.int .u8 0), .lit (.int .u8 0)], .agg [.lit (.int .u8 0), .lit (.int .u8 0)], .agg [.lit (.int .u8 0), .lit (.int .u8 0)], .agg [.lit (.int .u8 0), .lit (.int .u8 0)], .agg [.lit (.int .u8 0), .lit (.int .u8 0)], .agg [.lit (.int .u8 0), .lit (.int .u8 0)], .agg [.lit (.int .u8 0), .lit (.int .u8 0)], .agg [.lit (.int .u8 0), .lit (.int .u8 0)], .agg [.lit (.int .u8 0), .lit (.int .u8 0)], .agg [.lit (.int .u8 0), .lit (.int .u8 0)], .agg [.lit (.int .u8 0), .lit (.int .u8 0)]]
/-- One of Go's own tables, pinned by name: the form's constant. -/
def laid_unicode_utf8_first : DataW Unit := Go.Pinned.utf8First

/-- 'bulletinlaw37.FeedruleReasons': WHATEVER THE INPUT: true; the input reads as it did. -/
def feedruleReasonsSpec : ChangeSpec := { name := "feedruleReasons", fn := fun _ => fun
  | [d1, d2] => { results := [.lit (.bool true)], args := [d1, d2] }
  | _ => none }
def feedruleReasonsRow : OpenClaim := { program := "ytcpjajjocmpkjaadoor", sum := "ffeef60b7e675e9eb7769e78049c65b6715fb457cd2bc33a954a61777aaf5fd4", func := "bulletin/bulletinlaw37.FeedruleReasons", spec := "feedruleReasons", inPlace := ["internal/bytealg.CountString", "internal/bytealg.IndexByteString", "internal/bytealg.IndexString"], unfollowed := true, recurses := true, named := ["unicode/utf8.first", "unicode/utf8.acceptRanges", "internal/bytealg.MaxLen"], plainKeys := false, apart := false, laid := [("unicode/utf8.acceptRanges", laid_unicode_utf8_acceptRanges), ("unicode/utf8.first", laid_unicode_utf8_first)] }
def FeedruleReasonsSaid : Prop := feedruleReasonsRow.holds Tryd.pinned (OpenSpec.ofChange feedruleReasonsSpec)

/-- ITS FALSE NEIGHBOUR: 'it returns false'. Refute it at one input. -/
def feedruleReasonsWrong : ChangeSpec := { name := "feedruleReasons", fn := fun _ => fun
  | [d1, d2] => { results := [.lit (.bool false)], args := [d1, d2] }
  | _ => none }
def FeedruleReasonsWrongFalsely : Prop := feedruleReasonsRow.holds Tryd.pinned (OpenSpec.ofChange feedruleReasonsWrong)

/-- 'bulletinlaw37.FeedruleControls': WHATEVER THE INPUT: true; the input reads as it did. -/
def feedruleControlsSpec : ChangeSpec := { name := "feedruleControls", fn := fun _ => fun
  | [d1, d2] => { results := [.lit (.bool true)], args := [d1, d2] }
  | _ => none }
def feedruleControlsRow : OpenClaim := { program := "ytcpjajjocmpkjaadoor", sum := "ffeef60b7e675e9eb7769e78049c65b6715fb457cd2bc33a954a61777aaf5fd4", func := "bulletin/bulletinlaw37.FeedruleControls", spec := "feedruleControls", inPlace := ["internal/bytealg.CountString", "internal/bytealg.IndexByteString", "internal/bytealg.IndexString"], unfollowed := true, recurses := true, named := ["unicode/utf8.first", "unicode/utf8.acceptRanges", "internal/bytealg.MaxLen"], plainKeys := false, apart := false, laid := [("unicode/utf8.acceptRanges", laid_unicode_utf8_acceptRanges), ("unicode/utf8.first", laid_unicode_utf8_first)] }
def FeedruleControlsSaid : Prop := feedruleControlsRow.holds Tryd.pinned (OpenSpec.ofChange feedruleControlsSpec)

/-- ITS FALSE NEIGHBOUR: 'it returns false'. Refute it at one input. -/
def feedruleControlsWrong : ChangeSpec := { name := "feedruleControls", fn := fun _ => fun
  | [d1, d2] => { results := [.lit (.bool false)], args := [d1, d2] }
  | _ => none }
def FeedruleControlsWrongFalsely : Prop := feedruleControlsRow.holds Tryd.pinned (OpenSpec.ofChange feedruleControlsWrong)

/-- 'bulletinlaw37.FeedruleQuotas': WHATEVER THE INPUT: true; the input reads as it did. -/
def feedruleQuotasSpec : ChangeSpec := { name := "feedruleQuotas", fn := fun _ => fun
  | [d1, d2, d3] => { results := [.lit (.bool true)], args := [d1, d2, d3] }
  | _ => none }
def feedruleQuotasRow : OpenClaim := { program := "ytcpjajjocmpkjaadoor", sum := "ffeef60b7e675e9eb7769e78049c65b6715fb457cd2bc33a954a61777aaf5fd4", func := "bulletin/bulletinlaw37.FeedruleQuotas", spec := "feedruleQuotas", inPlace := ["internal/bytealg.CountString", "internal/bytealg.IndexByteString", "internal/bytealg.IndexString"], unfollowed := true, recurses := true, named := ["unicode/utf8.first", "unicode/utf8.acceptRanges", "internal/bytealg.MaxLen"], plainKeys := false, apart := false, laid := [("unicode/utf8.acceptRanges", laid_unicode_utf8_acceptRanges), ("unicode/utf8.first", laid_unicode_utf8_first)] }
def FeedruleQuotasSaid : Prop := feedruleQuotasRow.holds Tryd.pinned (OpenSpec.ofChange feedruleQuotasSpec)

/-- ITS FALSE NEIGHBOUR: 'it returns false'. Refute it at one input. -/
def feedruleQuotasWrong : ChangeSpec := { name := "feedruleQuotas", fn := fun _ => fun
  | [d1, d2, d3] => { results := [.lit (.bool false)], args := [d1, d2, d3] }
  | _ => none }
def FeedruleQuotasWrongFalsely : Prop := feedruleQuotasRow.holds Tryd.pinned (OpenSpec.ofChange feedruleQuotasWrong)

/-- 'bulletinlaw37.FeedruleBounds': WHATEVER THE INPUT: true; the input reads as it did. -/
def feedruleBoundsSpec : ChangeSpec := { name := "feedruleBounds", fn := fun _ => fun
  | [d1, d2] => { results := [.lit (.bool true)], args := [d1, d2] }
  | _ => none }
def feedruleBoundsRow : OpenClaim := { program := "ytcpjajjocmpkjaadoor", sum := "ffeef60b7e675e9eb7769e78049c65b6715fb457cd2bc33a954a61777aaf5fd4", func := "bulletin/bulletinlaw37.FeedruleBounds", spec := "feedruleBounds", inPlace := ["internal/bytealg.CountString", "internal/bytealg.IndexByteString", "internal/bytealg.IndexString"], unfollowed := true, recurses := true, named := ["unicode/utf8.first", "unicode/utf8.acceptRanges", "internal/bytealg.MaxLen"], plainKeys := false, apart := false, laid := [("unicode/utf8.acceptRanges", laid_unicode_utf8_acceptRanges), ("unicode/utf8.first", laid_unicode_utf8_first)] }
def FeedruleBoundsSaid : Prop := feedruleBoundsRow.holds Tryd.pinned (OpenSpec.ofChange feedruleBoundsSpec)

/-- ITS FALSE NEIGHBOUR: 'it returns false'. Refute it at one input. -/
def feedruleBoundsWrong : ChangeSpec := { name := "feedruleBounds", fn := fun _ => fun
  | [d1, d2] => { results := [.lit (.bool false)], args := [d1, d2] }
  | _ => none }
def FeedruleBoundsWrongFalsely : Prop := feedruleBoundsRow.holds Tryd.pinned (OpenSpec.ofChange feedruleBoundsWrong)

/-- 'bulletinlaw37.FeedruleChecks': WHATEVER THE INPUT: true; the input reads as it did. -/
def feedruleChecksSpec : ChangeSpec := { name := "feedruleChecks", fn := fun _ => fun
  | [d] => { results := [.lit (.bool true)], args := [d] }
  | _ => none }
def feedruleChecksRow : OpenClaim := { program := "ytcpjajjocmpkjaadoor", sum := "ffeef60b7e675e9eb7769e78049c65b6715fb457cd2bc33a954a61777aaf5fd4", func := "bulletin/bulletinlaw37.FeedruleChecks", spec := "feedruleChecks", inPlace := ["internal/bytealg.CountString", "internal/bytealg.IndexByteString", "internal/bytealg.IndexString"], unfollowed := true, recurses := true, named := ["unicode/utf8.first", "unicode/utf8.acceptRanges", "internal/bytealg.MaxLen"], plainKeys := false, apart := false, laid := [("unicode/utf8.acceptRanges", laid_unicode_utf8_acceptRanges), ("unicode/utf8.first", laid_unicode_utf8_first)] }
def FeedruleChecksSaid : Prop := feedruleChecksRow.holds Tryd.pinned (OpenSpec.ofChange feedruleChecksSpec)

/-- ITS FALSE NEIGHBOUR: 'it returns false'. Refute it at one input. -/
def feedruleChecksWrong : ChangeSpec := { name := "feedruleChecks", fn := fun _ => fun
  | [d] => { results := [.lit (.bool false)], args := [d] }
  | _ => none }
def FeedruleChecksWrongFalsely : Prop := feedruleChecksRow.holds Tryd.pinned (OpenSpec.ofChange feedruleChecksWrong)

/-- 'bulletinlaw37.FeedruleLater': WHATEVER THE INPUT: true; the input reads as it did. -/
def feedruleLaterSpec : ChangeSpec := { name := "feedruleLater", fn := fun _ => fun
  | [d1, d2, d3, d4] => { results := [.lit (.bool true)], args := [d1, d2, d3, d4] }
  | _ => none }
def feedruleLaterRow : OpenClaim := { program := "ytcpjajjocmpkjaadoor", sum := "ffeef60b7e675e9eb7769e78049c65b6715fb457cd2bc33a954a61777aaf5fd4", func := "bulletin/bulletinlaw37.FeedruleLater", spec := "feedruleLater", inPlace := ["internal/bytealg.CountString", "internal/bytealg.IndexByteString", "internal/bytealg.IndexString", "internal/bytealg.Compare"], unfollowed := true, recurses := true, named := ["unicode/utf8.first", "unicode/utf8.acceptRanges", "internal/bytealg.MaxLen"], plainKeys := false, apart := false, laid := [("unicode/utf8.acceptRanges", laid_unicode_utf8_acceptRanges), ("unicode/utf8.first", laid_unicode_utf8_first)] }
def FeedruleLaterSaid : Prop := feedruleLaterRow.holds Tryd.pinned (OpenSpec.ofChange feedruleLaterSpec)

/-- ITS FALSE NEIGHBOUR: 'it returns false'. Refute it at one input. -/
def feedruleLaterWrong : ChangeSpec := { name := "feedruleLater", fn := fun _ => fun
  | [d1, d2, d3, d4] => { results := [.lit (.bool false)], args := [d1, d2, d3, d4] }
  | _ => none }
def FeedruleLaterWrongFalsely : Prop := feedruleLaterRow.holds Tryd.pinned (OpenSpec.ofChange feedruleLaterWrong)

/-- 'bulletinlaw37.FeedruleClones': WHATEVER THE INPUT: true; the input reads as it did. -/
def feedruleClonesSpec : ChangeSpec := { name := "feedruleClones", fn := fun _ => fun
  | [d1, d2, d3, d4] => { results := [.lit (.bool true)], args := [d1, d2, d3, d4] }
  | _ => none }
def feedruleClonesRow : OpenClaim := { program := "ytcpjajjocmpkjaadoor", sum := "ffeef60b7e675e9eb7769e78049c65b6715fb457cd2bc33a954a61777aaf5fd4", func := "bulletin/bulletinlaw37.FeedruleClones", spec := "feedruleClones", inPlace := ["internal/bytealg.CountString", "internal/bytealg.IndexByteString", "internal/bytealg.IndexString", "internal/bytealg.Compare"], unfollowed := true, recurses := true, named := ["unicode/utf8.first", "unicode/utf8.acceptRanges", "internal/bytealg.MaxLen"], plainKeys := false, apart := false, laid := [("unicode/utf8.acceptRanges", laid_unicode_utf8_acceptRanges), ("unicode/utf8.first", laid_unicode_utf8_first)] }
def FeedruleClonesSaid : Prop := feedruleClonesRow.holds Tryd.pinned (OpenSpec.ofChange feedruleClonesSpec)

/-- ITS FALSE NEIGHBOUR: 'it returns false'. Refute it at one input. -/
def feedruleClonesWrong : ChangeSpec := { name := "feedruleClones", fn := fun _ => fun
  | [d1, d2, d3, d4] => { results := [.lit (.bool false)], args := [d1, d2, d3, d4] }
  | _ => none }
def FeedruleClonesWrongFalsely : Prop := feedruleClonesRow.holds Tryd.pinned (OpenSpec.ofChange feedruleClonesWrong)

/- THE SECOND FORM. 'bulk': how many values and letters a reading holds, each counted each time it is reached (what is shared counts as often as it is met; a slice's spare places count too). A statement '..UptoSaid' is the law's where the arguments, and the package variables that the reading takes, are together of bulk at most 1048576: NARROWER than '..Said'. Prove '..Said' where nothing that the law and all that it calls make is longer than what came in: it says more and counts as full. Else prove '..UptoSaid'. A law counts once. -/
mutual
def uptoBulk {H : Type} : DataW H → Nat
  | .lit (.string bytes) => bytes.length + 1
  | .lit _ => 1
  | .nil => 1
  | .ptr d => uptoBulk d + 1
  | .slice elems spare => uptoBulkAll elems + uptoBulkAll spare + 1
  | .agg parts => uptoBulkAll parts + 1
  | .iface _ d => uptoBulk d + 1
  | .map entries => uptoBulkEntries entries + 1
  | .held _ => 1
def uptoBulkAll {H : Type} : List (DataW H) → Nat
  | [] => 0
  | d :: r => uptoBulk d + uptoBulkAll r
def uptoBulkEntries {H : Type} : List (Lit × DataW H) → Nat
  | [] => 0
  | x :: r => uptoBulkEntry x + uptoBulkEntries r
def uptoBulkEntry {H : Type} : Lit × DataW H → Nat
  | (.string bytes, d) => bytes.length + uptoBulk d + 1
  | (_, d) => uptoBulk d + 1
 end
def uptoSmall : (H : Type) → List (DataW H) → Bool := fun _ ds => decide (uptoBulkAll ds ≤ 1048576)
def OpenSpec.upto (s : _root_.Go.ChangeSpec) : _root_.Go.OpenSpec := { _root_.Go.OpenSpec.ofChange s with cond := some uptoSmall }

/-- 'bulletinlaw37.FeedruleReasons', WHERE WHAT IT READS IS OF BULK AT MOST 1048576: true; the input reads as it did. -/
def feedruleReasonsUptoRow : OpenClaim := { program := "ytcpjajjocmpkjaadoor", sum := "ffeef60b7e675e9eb7769e78049c65b6715fb457cd2bc33a954a61777aaf5fd4", func := "bulletin/bulletinlaw37.FeedruleReasons", spec := "feedruleReasons", inPlace := ["internal/bytealg.CountString", "internal/bytealg.IndexByteString", "internal/bytealg.IndexString"], unfollowed := true, recurses := true, named := ["unicode/utf8.first", "unicode/utf8.acceptRanges", "internal/bytealg.MaxLen"], plainKeys := false, apart := false, laid := [("unicode/utf8.acceptRanges", laid_unicode_utf8_acceptRanges), ("unicode/utf8.first", laid_unicode_utf8_first)], narrowed := true }
def FeedruleReasonsUptoSaid : Prop := feedruleReasonsUptoRow.holds Tryd.pinned (OpenSpec.upto feedruleReasonsSpec)

/-- 'bulletinlaw37.FeedruleControls', WHERE WHAT IT READS IS OF BULK AT MOST 1048576: true; the input reads as it did. -/
def feedruleControlsUptoRow : OpenClaim := { program := "ytcpjajjocmpkjaadoor", sum := "ffeef60b7e675e9eb7769e78049c65b6715fb457cd2bc33a954a61777aaf5fd4", func := "bulletin/bulletinlaw37.FeedruleControls", spec := "feedruleControls", inPlace := ["internal/bytealg.CountString", "internal/bytealg.IndexByteString", "internal/bytealg.IndexString"], unfollowed := true, recurses := true, named := ["unicode/utf8.first", "unicode/utf8.acceptRanges", "internal/bytealg.MaxLen"], plainKeys := false, apart := false, laid := [("unicode/utf8.acceptRanges", laid_unicode_utf8_acceptRanges), ("unicode/utf8.first", laid_unicode_utf8_first)], narrowed := true }
def FeedruleControlsUptoSaid : Prop := feedruleControlsUptoRow.holds Tryd.pinned (OpenSpec.upto feedruleControlsSpec)

/-- 'bulletinlaw37.FeedruleQuotas', WHERE WHAT IT READS IS OF BULK AT MOST 1048576: true; the input reads as it did. -/
def feedruleQuotasUptoRow : OpenClaim := { program := "ytcpjajjocmpkjaadoor", sum := "ffeef60b7e675e9eb7769e78049c65b6715fb457cd2bc33a954a61777aaf5fd4", func := "bulletin/bulletinlaw37.FeedruleQuotas", spec := "feedruleQuotas", inPlace := ["internal/bytealg.CountString", "internal/bytealg.IndexByteString", "internal/bytealg.IndexString"], unfollowed := true, recurses := true, named := ["unicode/utf8.first", "unicode/utf8.acceptRanges", "internal/bytealg.MaxLen"], plainKeys := false, apart := false, laid := [("unicode/utf8.acceptRanges", laid_unicode_utf8_acceptRanges), ("unicode/utf8.first", laid_unicode_utf8_first)], narrowed := true }
def FeedruleQuotasUptoSaid : Prop := feedruleQuotasUptoRow.holds Tryd.pinned (OpenSpec.upto feedruleQuotasSpec)

/-- 'bulletinlaw37.FeedruleBounds', WHERE WHAT IT READS IS OF BULK AT MOST 1048576: true; the input reads as it did. -/
def feedruleBoundsUptoRow : OpenClaim := { program := "ytcpjajjocmpkjaadoor", sum := "ffeef60b7e675e9eb7769e78049c65b6715fb457cd2bc33a954a61777aaf5fd4", func := "bulletin/bulletinlaw37.FeedruleBounds", spec := "feedruleBounds", inPlace := ["internal/bytealg.CountString", "internal/bytealg.IndexByteString", "internal/bytealg.IndexString"], unfollowed := true, recurses := true, named := ["unicode/utf8.first", "unicode/utf8.acceptRanges", "internal/bytealg.MaxLen"], plainKeys := false, apart := false, laid := [("unicode/utf8.acceptRanges", laid_unicode_utf8_acceptRanges), ("unicode/utf8.first", laid_unicode_utf8_first)], narrowed := true }
def FeedruleBoundsUptoSaid : Prop := feedruleBoundsUptoRow.holds Tryd.pinned (OpenSpec.upto feedruleBoundsSpec)

/-- 'bulletinlaw37.FeedruleChecks', WHERE WHAT IT READS IS OF BULK AT MOST 1048576: true; the input reads as it did. -/
def feedruleChecksUptoRow : OpenClaim := { program := "ytcpjajjocmpkjaadoor", sum := "ffeef60b7e675e9eb7769e78049c65b6715fb457cd2bc33a954a61777aaf5fd4", func := "bulletin/bulletinlaw37.FeedruleChecks", spec := "feedruleChecks", inPlace := ["internal/bytealg.CountString", "internal/bytealg.IndexByteString", "internal/bytealg.IndexString"], unfollowed := true, recurses := true, named := ["unicode/utf8.first", "unicode/utf8.acceptRanges", "internal/bytealg.MaxLen"], plainKeys := false, apart := false, laid := [("unicode/utf8.acceptRanges", laid_unicode_utf8_acceptRanges), ("unicode/utf8.first", laid_unicode_utf8_first)], narrowed := true }
def FeedruleChecksUptoSaid : Prop := feedruleChecksUptoRow.holds Tryd.pinned (OpenSpec.upto feedruleChecksSpec)

/-- 'bulletinlaw37.FeedruleLater', WHERE WHAT IT READS IS OF BULK AT MOST 1048576: true; the input reads as it did. -/
def feedruleLaterUptoRow : OpenClaim := { program := "ytcpjajjocmpkjaadoor", sum := "ffeef60b7e675e9eb7769e78049c65b6715fb457cd2bc33a954a61777aaf5fd4", func := "bulletin/bulletinlaw37.FeedruleLater", spec := "feedruleLater", inPlace := ["internal/bytealg.CountString", "internal/bytealg.IndexByteString", "internal/bytealg.IndexString", "internal/bytealg.Compare"], unfollowed := true, recurses := true, named := ["unicode/utf8.first", "unicode/utf8.acceptRanges", "internal/bytealg.MaxLen"], plainKeys := false, apart := false, laid := [("unicode/utf8.acceptRanges", laid_unicode_utf8_acceptRanges), ("unicode/utf8.first", laid_unicode_utf8_first)], narrowed := true }
def FeedruleLaterUptoSaid : Prop := feedruleLaterUptoRow.holds Tryd.pinned (OpenSpec.upto feedruleLaterSpec)

/-- 'bulletinlaw37.FeedruleClones', WHERE WHAT IT READS IS OF BULK AT MOST 1048576: true; the input reads as it did. -/
def feedruleClonesUptoRow : OpenClaim := { program := "ytcpjajjocmpkjaadoor", sum := "ffeef60b7e675e9eb7769e78049c65b6715fb457cd2bc33a954a61777aaf5fd4", func := "bulletin/bulletinlaw37.FeedruleClones", spec := "feedruleClones", inPlace := ["internal/bytealg.CountString", "internal/bytealg.IndexByteString", "internal/bytealg.IndexString", "internal/bytealg.Compare"], unfollowed := true, recurses := true, named := ["unicode/utf8.first", "unicode/utf8.acceptRanges", "internal/bytealg.MaxLen"], plainKeys := false, apart := false, laid := [("unicode/utf8.acceptRanges", laid_unicode_utf8_acceptRanges), ("unicode/utf8.first", laid_unicode_utf8_first)], narrowed := true }
def FeedruleClonesUptoSaid : Prop := feedruleClonesUptoRow.holds Tryd.pinned (OpenSpec.upto feedruleClonesSpec)

end Rows
end Go.Proofs.YtcpjajjocmpkjaaDoor
