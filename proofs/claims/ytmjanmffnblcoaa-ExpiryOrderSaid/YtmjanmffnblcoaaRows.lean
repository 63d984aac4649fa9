/-
  No cell of these rows narrows 'for every input' (looked for: loops, veiled, ifaces, maps, wideKeys, modest, calm, conditions, laid).
  DERIVED. THE GIVEN ROWS OF THIS SEAT. 7 by the template 'for every input the law returns true; each argument reads behind the call as it read before'; 0 by the template 'total and deterministic' (their statements: YtmjanmffnblcoaaTotals.lean).
  GIVEN WITH THE SEED: the statements are not yours to turn. If you find one false, say at which input.
  Laid BY PROGRAM, IN A SANDBOX (cutbox-rows.mjs): the forced cells as the released guide's own fill.sh prints them over the translation 483b8f8e40c4e0e0… (all of the seat's roots in one cut). By AI agents, Wed Nov 11 2026. No macro, syntax, notation, axiom, sorry.
-/
import Derived.Test.YtmjanmffnblcoaaChecked
import GoSem.Claim
import GoSem.ClaimJoined
import GoSem.ClaimMapViews
import Derived.JoinedTies
import Derived.KernelRfl
namespace Go.Proofs.Ytmjanmffnblcoaa
/- THE CELL 'sum', in the pinned program and in every row, IS THE sha256 OF THE DUMP (.gsa) THAT YtmjanmffnblcoaaProg.lean LOADS. Nothing in Lean hashes anything: it is a label: what it is worth is what the hold of that sum in a sandbox is worth. -/
noncomputable def Try.pinned : Pinned := { name := "ytmjanmffnblcoaa", sum := "483b8f8e40c4e0e0cb218195d2847480129879c631f0cacf8a81c5c871516218", checked := Try.checked }
namespace Rows
def none {H : Type} : Left H := { results := [], args := [] }

/-- 'bulletinlaw42.ExpiryOrder': WHATEVER THE INPUT: true; the input reads as it did. -/
def expiryOrderSpec : ChangeSpec := { name := "expiryOrder", fn := fun _ => fun
  | [d1, d2] => { results := [.lit (.bool true)], args := [d1, d2] }
  | _ => none }
def expiryOrderRow : OpenClaim := { program := "ytmjanmffnblcoaa", sum := "483b8f8e40c4e0e0cb218195d2847480129879c631f0cacf8a81c5c871516218", func := "bulletin/bulletinlaw42.ExpiryOrder", spec := "expiryOrder", inPlace := ["internal/bytealg.IndexByteString"], unfollowed := true, recurses := true, plainKeys := false, apart := false }
def ExpiryOrderSaid : Prop := expiryOrderRow.holds Try.pinned (OpenSpec.ofChange expiryOrderSpec)

/-- ITS FALSE NEIGHBOUR: 'it returns false'. Refute it at one input. -/
def expiryOrderWrong : ChangeSpec := { name := "expiryOrder", fn := fun _ => fun
  | [d1, d2] => { results := [.lit (.bool false)], args := [d1, d2] }
  | _ => none }
def ExpiryOrderWrongFalsely : Prop := expiryOrderRow.holds Try.pinned (OpenSpec.ofChange expiryOrderWrong)

/-- 'bulletinlaw42.ExpiryHeld': WHATEVER THE INPUT: true; the input reads as it did. -/
def expiryHeldSpec : ChangeSpec := { name := "expiryHeld", fn := fun _ => fun
  | [d] => { results := [.lit (.bool true)], args := [d] }
  | _ => none }
def expiryHeldRow : OpenClaim := { program := "ytmjanmffnblcoaa", sum := "483b8f8e40c4e0e0cb218195d2847480129879c631f0cacf8a81c5c871516218", func := "bulletin/bulletinlaw42.ExpiryHeld", spec := "expiryHeld", inPlace := ["internal/bytealg.IndexByteString"], unfollowed := true, recurses := true, plainKeys := false, apart := false }
def ExpiryHeldSaid : Prop := expiryHeldRow.holds Try.pinned (OpenSpec.ofChange expiryHeldSpec)

/-- ITS FALSE NEIGHBOUR: 'it returns false'. Refute it at one input. -/
def expiryHeldWrong : ChangeSpec := { name := "expiryHeld", fn := fun _ => fun
  | [d] => { results := [.lit (.bool false)], args := [d] }
  | _ => none }
def ExpiryHeldWrongFalsely : Prop := expiryHeldRow.holds Try.pinned (OpenSpec.ofChange expiryHeldWrong)

/-- 'bulletinlaw42.ExpiryRules': WHATEVER THE INPUT: true; the input reads as it did. -/
def expiryRulesSpec : ChangeSpec := { name := "expiryRules", fn := fun _ => fun
  | [d1, d2] => { results := [.lit (.bool true)], args := [d1, d2] }
  | _ => none }
def expiryRulesRow : OpenClaim := { program := "ytmjanmffnblcoaa", sum := "483b8f8e40c4e0e0cb218195d2847480129879c631f0cacf8a81c5c871516218", func := "bulletin/bulletinlaw42.ExpiryRules", spec := "expiryRules", inPlace := ["internal/bytealg.IndexByteString"], unfollowed := true, recurses := true, plainKeys := false, apart := false }
def ExpiryRulesSaid : Prop := expiryRulesRow.holds Try.pinned (OpenSpec.ofChange expiryRulesSpec)

/-- ITS FALSE NEIGHBOUR: 'it returns false'. Refute it at one input. -/
def expiryRulesWrong : ChangeSpec := { name := "expiryRules", fn := fun _ => fun
  | [d1, d2] => { results := [.lit (.bool false)], args := [d1, d2] }
  | _ => none }
def ExpiryRulesWrongFalsely : Prop := expiryRulesRow.holds Try.pinned (OpenSpec.ofChange expiryRulesWrong)

/-- 'bulletinlaw42.ExpiryPlan': WHATEVER THE INPUT: true; the input reads as it did. -/
def expiryPlanSpec : ChangeSpec := { name := "expiryPlan", fn := fun _ => fun
  | [d] => { results := [.lit (.bool true)], args := [d] }
  | _ => none }
def expiryPlanRow : OpenClaim := { program := "ytmjanmffnblcoaa", sum := "483b8f8e40c4e0e0cb218195d2847480129879c631f0cacf8a81c5c871516218", func := "bulletin/bulletinlaw42.ExpiryPlan", spec := "expiryPlan", inPlace := ["internal/bytealg.IndexByteString"], unfollowed := true, recurses := true, plainKeys := false, apart := false }
def ExpiryPlanSaid : Prop := expiryPlanRow.holds Try.pinned (OpenSpec.ofChange expiryPlanSpec)

/-- ITS FALSE NEIGHBOUR: 'it returns false'. Refute it at one input. -/
def expiryPlanWrong : ChangeSpec := { name := "expiryPlan", fn := fun _ => fun
  | [d] => { results := [.lit (.bool false)], args := [d] }
  | _ => none }
def ExpiryPlanWrongFalsely : Prop := expiryPlanRow.holds Try.pinned (OpenSpec.ofChange expiryPlanWrong)

/-- 'bulletinlaw42.ExpirySafe': WHATEVER THE INPUT: true; the input reads as it did. -/
def expirySafeSpec : ChangeSpec := { name := "expirySafe", fn := fun _ => fun
  | [d] => { results := [.lit (.bool true)], args := [d] }
  | _ => none }
def expirySafeRow : OpenClaim := { program := "ytmjanmffnblcoaa", sum := "483b8f8e40c4e0e0cb218195d2847480129879c631f0cacf8a81c5c871516218", func := "bulletin/bulletinlaw42.ExpirySafe", spec := "expirySafe", inPlace := ["internal/bytealg.IndexByteString"], unfollowed := true, recurses := true, plainKeys := false, apart := false }
def ExpirySafeSaid : Prop := expirySafeRow.holds Try.pinned (OpenSpec.ofChange expirySafeSpec)

/-- ITS FALSE NEIGHBOUR: 'it returns false'. Refute it at one input. -/
def expirySafeWrong : ChangeSpec := { name := "expirySafe", fn := fun _ => fun
  | [d] => { results := [.lit (.bool false)], args := [d] }
  | _ => none }
def ExpirySafeWrongFalsely : Prop := expirySafeRow.holds Try.pinned (OpenSpec.ofChange expirySafeWrong)

/-- 'bulletinlaw42.ExpiryComplete': WHATEVER THE INPUT: true; the input reads as it did. -/
def expiryCompleteSpec : ChangeSpec := { name := "expiryComplete", fn := fun _ => fun
  | [d] => { results := [.lit (.bool true)], args := [d] }
  | _ => none }
def expiryCompleteRow : OpenClaim := { program := "ytmjanmffnblcoaa", sum := "483b8f8e40c4e0e0cb218195d2847480129879c631f0cacf8a81c5c871516218", func := "bulletin/bulletinlaw42.ExpiryComplete", spec := "expiryComplete", inPlace := ["internal/bytealg.IndexByteString"], unfollowed := true, recurses := true, plainKeys := false, apart := false }
def ExpiryCompleteSaid : Prop := expiryCompleteRow.holds Try.pinned (OpenSpec.ofChange expiryCompleteSpec)

/-- ITS FALSE NEIGHBOUR: 'it returns false'. Refute it at one input. -/
def expiryCompleteWrong : ChangeSpec := { name := "expiryComplete", fn := fun _ => fun
  | [d] => { results := [.lit (.bool false)], args := [d] }
  | _ => none }
def ExpiryCompleteWrongFalsely : Prop := expiryCompleteRow.holds Try.pinned (OpenSpec.ofChange expiryCompleteWrong)

/-- 'bulletinlaw42.ExpiryAgain': WHATEVER THE INPUT: true; the input reads as it did. -/
def expiryAgainSpec : ChangeSpec := { name := "expiryAgain", fn := fun _ => fun
  | [d] => { results := [.lit (.bool true)], args := [d] }
  | _ => none }
def expiryAgainRow : OpenClaim := { program := "ytmjanmffnblcoaa", sum := "483b8f8e40c4e0e0cb218195d2847480129879c631f0cacf8a81c5c871516218", func := "bulletin/bulletinlaw42.ExpiryAgain", spec := "expiryAgain", inPlace := ["internal/bytealg.IndexByteString"], unfollowed := true, recurses := true, plainKeys := false, apart := false }
def ExpiryAgainSaid : Prop := expiryAgainRow.holds Try.pinned (OpenSpec.ofChange expiryAgainSpec)

/-- ITS FALSE NEIGHBOUR: 'it returns false'. Refute it at one input. -/
def expiryAgainWrong : ChangeSpec := { name := "expiryAgain", fn := fun _ => fun
  | [d] => { results := [.lit (.bool false)], args := [d] }
  | _ => none }
def ExpiryAgainWrongFalsely : Prop := expiryAgainRow.holds Try.pinned (OpenSpec.ofChange expiryAgainWrong)

/- THE SECOND FORM. 'bulk': how many values and letters a reading holds, each counted each time it is reached (what is shared counts as often as it is met; a slice's spare places count too). A statement '..UptoSaid' is the law's where the arguments, and the package variables that the reading takes, are together of bulk at most 1048576: NARROWER than '..Said'. Prove '..Said' where nothing that the law and all that it calls make is longer than what came in: it says more and counts as full. Else prove '..UptoSaid'. A law counts once. -/
mutual
def uptoBulk {H : Type} : DataW H → Nat
  | .lit (.string bytes) => bytes.length + 1
  | .lit _ => 1
  | .nil => 1
  | .ptr d => uptoBulk d + 1
  | .slice elems spare => uptoBulkAll elems + uptoBulkAll spare + 1
  | .agg parts => uptoBulkAll parts + 1
  | .iface _ d => uptoBulk d + 1
  | .map entries => uptoBulkEntries entries + 1
  | .held _ => 1
def uptoBulkAll {H : Type} : List (DataW H) → Nat
  | [] => 0
  | d :: r => uptoBulk d + uptoBulkAll r
def uptoBulkEntries {H : Type} : List (Lit × DataW H) → Nat
  | [] => 0
  | x :: r => uptoBulkEntry x + uptoBulkEntries r
def uptoBulkEntry {H : Type} : Lit × DataW H → Nat
  | (.string bytes, d) => bytes.length + uptoBulk d + 1
  | (_, d) => uptoBulk d + 1
 end
def uptoSmall : (H : Type) → List (DataW H) → Bool := fun _ ds => decide (uptoBulkAll ds ≤ 1048576)
def OpenSpec.upto (s : _root_.Go.ChangeSpec) : _root_.Go.OpenSpec := { _root_.Go.OpenSpec.ofChange s with cond := some uptoSmall }

/-- 'bulletinlaw42.ExpiryOrder', WHERE WHAT IT READS IS OF BULK AT MOST 1048576: true; the input reads as it did. -/
def expiryOrderUptoRow : OpenClaim := { program := "ytmjanmffnblcoaa", sum := "483b8f8e40c4e0e0cb218195d2847480129879c631f0cacf8a81c5c871516218", func := "bulletin/bulletinlaw42.ExpiryOrder", spec := "expiryOrder", inPlace := ["internal/bytealg.IndexByteString"], unfollowed := true, recurses := true, plainKeys := false, apart := false, narrowed := true }
def ExpiryOrderUptoSaid : Prop := expiryOrderUptoRow.holds Try.pinned (OpenSpec.upto expiryOrderSpec)

/-- 'bulletinlaw42.ExpiryHeld', WHERE WHAT IT READS IS OF BULK AT MOST 1048576: true; the input reads as it did. -/
def expiryHeldUptoRow : OpenClaim := { program := "ytmjanmffnblcoaa", sum := "483b8f8e40c4e0e0cb218195d2847480129879c631f0cacf8a81c5c871516218", func := "bulletin/bulletinlaw42.ExpiryHeld", spec := "expiryHeld", inPlace := ["internal/bytealg.IndexByteString"], unfollowed := true, recurses := true, plainKeys := false, apart := false, narrowed := true }
def ExpiryHeldUptoSaid : Prop := expiryHeldUptoRow.holds Try.pinned (OpenSpec.upto expiryHeldSpec)

/-- 'bulletinlaw42.ExpiryRules', WHERE WHAT IT READS IS OF BULK AT MOST 1048576: true; the input reads as it did. -/
def expiryRulesUptoRow : OpenClaim := { program := "ytmjanmffnblcoaa", sum := "483b8f8e40c4e0e0cb218195d2847480129879c631f0cacf8a81c5c871516218", func := "bulletin/bulletinlaw42.ExpiryRules", spec := "expiryRules", inPlace := ["internal/bytealg.IndexByteString"], unfollowed := true, recurses := true, plainKeys := false, apart := false, narrowed := true }
def ExpiryRulesUptoSaid : Prop := expiryRulesUptoRow.holds Try.pinned (OpenSpec.upto expiryRulesSpec)

/-- 'bulletinlaw42.ExpiryPlan', WHERE WHAT IT READS IS OF BULK AT MOST 1048576: true; the input reads as it did. -/
def expiryPlanUptoRow : OpenClaim := { program := "ytmjanmffnblcoaa", sum := "483b8f8e40c4e0e0cb218195d2847480129879c631f0cacf8a81c5c871516218", func := "bulletin/bulletinlaw42.ExpiryPlan", spec := "expiryPlan", inPlace := ["internal/bytealg.IndexByteString"], unfollowed := true, recurses := true, plainKeys := false, apart := false, narrowed := true }
def ExpiryPlanUptoSaid : Prop := expiryPlanUptoRow.holds Try.pinned (OpenSpec.upto expiryPlanSpec)

/-- 'bulletinlaw42.ExpirySafe', WHERE WHAT IT READS IS OF BULK AT MOST 1048576: true; the input reads as it did. -/
def expirySafeUptoRow : OpenClaim := { program := "ytmjanmffnblcoaa", sum := "483b8f8e40c4e0e0cb218195d2847480129879c631f0cacf8a81c5c871516218", func := "bulletin/bulletinlaw42.ExpirySafe", spec := "expirySafe", inPlace := ["internal/bytealg.IndexByteString"], unfollowed := true, recurses := true, plainKeys := false, apart := false, narrowed := true }
def ExpirySafeUptoSaid : Prop := expirySafeUptoRow.holds Try.pinned (OpenSpec.upto expirySafeSpec)

/-- 'bulletinlaw42.ExpiryComplete', WHERE WHAT IT READS IS OF BULK AT MOST 1048576: true; the input reads as it did. -/
def expiryCompleteUptoRow : OpenClaim := { program := "ytmjanmffnblcoaa", sum := "483b8f8e40c4e0e0cb218195d2847480129879c631f0cacf8a81c5c871516218", func := "bulletin/bulletinlaw42.ExpiryComplete", spec := "expiryComplete", inPlace := ["internal/bytealg.IndexByteString"], unfollowed := true, recurses := true, plainKeys := false, apart := false, narrowed := true }
def ExpiryCompleteUptoSaid : Prop := expiryCompleteUptoRow.holds Try.pinned (OpenSpec.upto expiryCompleteSpec)

/-- 'bulletinlaw42.ExpiryAgain', WHERE WHAT IT READS IS OF BULK AT MOST 1048576: true; the input reads as it did. -/
def expiryAgainUptoRow : OpenClaim := { program := "ytmjanmffnblcoaa", sum := "483b8f8e40c4e0e0cb218195d2847480129879c631f0cacf8a81c5c871516218", func := "bulletin/bulletinlaw42.ExpiryAgain", spec := "expiryAgain", inPlace := ["internal/bytealg.IndexByteString"], unfollowed := true, recurses := true, plainKeys := false, apart := false, narrowed := true }
def ExpiryAgainUptoSaid : Prop := expiryAgainUptoRow.holds Try.pinned (OpenSpec.upto expiryAgainSpec)

end Rows
end Go.Proofs.Ytmjanmffnblcoaa
