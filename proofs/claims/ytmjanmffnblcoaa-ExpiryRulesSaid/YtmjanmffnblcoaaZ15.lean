/- The statement ExpiryRules: whatever the input, it returns true and its arguments read as they did. -/
import Derived.Test.YtmjanmffnblcoaaZ03
import Derived.Test.YtmjanmffnblcoaaZ04
import Derived.Test.YtmjanmffnblcoaaZ14
namespace Go.Proofs.Ytmjanmffnblcoaa.expiryRules
open Go.ChangeShapes Go.WideShapes Go.ChangeAt Go.RowKit Go.Deep


set_option maxRecDepth 100000 in
set_option maxHeartbeats 1000000 in
theorem contract (H : Type) (enc : TypeId × Value → H) (W : World) (base : Nat) (args : Array Value) (ds gs : List (DataW H)) (before : List MemPlace)
    (hval : ∀ (j : Nat) t v, Try.f5.params[j]? = some t → args[j]? = some v → Value.okWide Try.prog W .any base t v)
    (hW : DataW.Whole enc Try.prog Try.f5.params.toList Rows.expiryRulesSpec.vars false W args.toList ds gs before) (_hsh : W.ShapedOpen Try.prog) (hsz : (DataW.weightsEach Try.prog (Try.f5.params.toList ++ (OpenSpec.ofChange Rows.expiryRulesSpec).bare.plain.varTypes Try.prog) (ds ++ gs)).all (· ≤ reachBytes) = true) :
    Calls Try.prog 5 args W fun e W' => ∃ v, e = .returned v ∧ Rows.expiryRulesSpec.post enc Try.prog Try.f5 false true false false W args v W' := by
  have hW' := hW
  obtain ⟨p, q, hA0, hV, rfl, hfz, hnd⟩ := hW
  have hA : DataW.TrodAll enc Try.prog W 0 (fun _ => true) true Try.f5.params.toList args.toList ds p := hA0
  rw [Try.params5] at hA hval
  obtain ⟨v0, vs0, d0, ds0, p0, q0, hargs, rfl, rfl, h0, r0⟩ := trodAll_cons hA
  obtain ⟨v1, vs1, d1, ds1, p1, q1, rfl, rfl, rfl, h1, r1⟩ := trodAll_cons r0
  obtain ⟨rfl, rfl, rfl⟩ := trodAll_nil r1
  obtain rfl : args = #[v0, v1] := by cases args; simp_all
  obtain ⟨rfl, rfl⟩ := trodVars_none hV
  obtain ⟨p, L, c, rfl, hR, hL⟩ := openw_RL (hval 0 _ v0 rfl rfl) (Rw.of h0 hsz 0 rfl rfl)
  obtain ⟨x, rfl, hx, hr⟩ := openw_A (hval 1 _ v1 rfl rfl) (Rw.of h1 hsz 1 rfl rfl)
  have hcall := lexrules_any L p c x W hR hL hx hr
  refine hcall.mono fun e W' ⟨he, hk⟩ => ⟨_, he, ?_⟩
  exact post_of_k0 (by kernel_rfl) Try.underlying4 rfl hW' rfl ⟨rfl, rfl, rfl⟩ hk

theorem laid_met (os : Os) : laidMet Try.prog Rows.expiryRulesRow.laid ((laidWorld os).forCall (fun _ _ => 0) ⟨#[], #[.slice none 0 0, .agg (arrI .u8 (fun _ => 0) 32 0 ++ ([.int .i64 0, .int .i64 0, .slice none 0 0, .int .i64 0, .int .i64 0, .slice none 0 0, .bool false] : List Value)).toArray], []⟩).memory :=
  laidMet_of_run' 8 (by kernel_rfl) (by kernel_rfl)
theorem reads (os : Os) {H : Type} (enc : TypeId × Value → H) : ∃ places, DataW.whole enc Try.prog ((laidWorld os).forCall (fun _ _ => 0) ⟨#[], #[.slice none 0 0, .agg (arrI .u8 (fun _ => 0) 32 0 ++ ([.int .i64 0, .int .i64 0, .slice none 0 0, .int .i64 0, .int .i64 0, .slice none 0 0, .bool false] : List Value)).toArray], []⟩).memory Try.f5.params.toList Rows.expiryRulesSpec.vars false (#[.slice none 0 0, .agg (arrI .u8 (fun _ => 0) 32 0 ++ ([.int .i64 0, .int .i64 0, .slice none 0 0, .int .i64 0, .int .i64 0, .slice none 0 0, .bool false] : List Value)).toArray] : Array Value).toList 8 = some ([.nil, .agg [.agg (List.replicate 32 (.lit (.int .u8 0))), .lit (.int .i64 0), .lit (.int .i64 0), .nil, .lit (.int .i64 0), .lit (.int .i64 0), .nil, .lit (.bool false)]], [], places) :=
  ⟨[], by kernel_rfl⟩
set_option maxRecDepth 100000 in
theorem lifted (os : Os) (started : os.Started) (H : Type) (enc : TypeId × Value → H) (F : Stop.Interp) :
    ReturnsInHanded {} Try.checked os 5 .any ((OpenSpec.ofChange Rows.expiryRulesSpec).preRow enc Try.prog Try.f5 Rows.expiryRulesRow.domain false Rows.expiryRulesRow.laid) (((OpenSpec.ofChange Rows.expiryRulesSpec).at F).post enc Try.prog Try.f5 false true false false) := by
  obtain ⟨places, hx⟩ := reads os enc
  refine returnsInHanded_of_row (C := Try.checked) (s := OpenSpec.ofChange Rows.expiryRulesSpec) own started (by kernel_rfl) Try.func5
    (witness_row_at (enc := enc) (C := Try.checked) false (laidWorld os) #[.slice none 0 0, .agg (arrI .u8 (fun _ => 0) 32 0 ++ ([.int .i64 0, .int .i64 0, .slice none 0 0, .int .i64 0, .int .i64 0, .slice none 0 0, .bool false] : List Value)).toArray] rfl (by kernel_rfl) (by kernel_rfl) (by kernel_rfl)
      (OpenSpec.preRow_of_cond 8 hx (by kernel_rfl) (fun k hk => by cases hk) (by kernel_rfl) (laid_met os))) ?_
  intro W base args ds gs before hval hW _ _ hsz _ hsh _
  exact contract H enc W base args ds gs before hval hW hsh hsz

theorem said : Rows.ExpiryRulesSaid :=
  OpenClaim.holds_of_cond 5 Try.f5 rfl rfl rfl rfl rfl rfl rfl ⟨rfl, rfl, rfl, rfl, rfl⟩ rfl rfl rfl rfl rfl (by kernel_rfl) Try.func5 (by kernel_rfl)
    (of_decide_eq_true (by kernel_rfl)) (by unfold Func.isWrapper; first | (rw [if_pos (by decide +kernel)]; kernel_rfl) | (rw [if_neg (by decide +kernel)]; exact ⟨rfl, rfl⟩))
    (fun os started H enc _ F => by rw [OpenClaim.pre_eq_preRow]; exact lifted os started H enc F)
end Go.Proofs.Ytmjanmffnblcoaa.expiryRules
