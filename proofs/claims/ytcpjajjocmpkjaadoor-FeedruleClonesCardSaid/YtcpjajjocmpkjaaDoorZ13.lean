/- The statement FeedruleClones: whatever the input, it returns true and its arguments read as they did. -/
import Derived.Test.YtcpjajjocmpkjaaDoorZ06
import Derived.Test.YtcpjajjocmpkjaaDoorZ12
namespace Go.Proofs.YtcpjajjocmpkjaaDoor.feedruleClones
open Go.ChangeShapes Go.WideShapes Go.ChangeAt Go.RowKit Go.Deep

set_option maxRecDepth 100000 in
theorem open_Ch {H : Type} {enc : TypeId × Value → H} {W : World} {base : Nat} {v : Value} (hv : Value.okWide Tryd.prog W .any base 56 v) (hr : Rw enc Tryd.prog W 56 v.cells.toList) : ∃ (x y : Int), v = .agg #[.int .i64 x, .int .i64 y] := by
  obtain ⟨cs, rfl, hsz⟩ := okWide_struct Tryd.underlying56 hv
  rw [cells2] at hsz
  obtain ⟨l⟩ := cs
  match l, hsz with
  | [c0, c1], _ =>
    have hr : Rw enc Tryd.prog W 56 [c0, c1] := hr
    obtain ⟨n0, e0, _⟩ := Rw.int64 (cs := [c0]) (hr.field Tryd.underlying56 (i := 0) rfl) Tryd.underlying3
    obtain ⟨n1, e1, _⟩ := Rw.int64 (cs := [c1]) (hr.field Tryd.underlying56 (i := 1) rfl) Tryd.underlying3
    simp only [List.cons.injEq, and_true] at e0 e1
    subst e0 e1
    exact ⟨n0, n1, rfl⟩

set_option maxRecDepth 100000 in
set_option maxHeartbeats 1000000 in
theorem contract (H : Type) (enc : TypeId × Value → H) (W : World) (base : Nat) (args : Array Value) (ds gs : List (DataW H)) (before : List MemPlace)
    (hval : ∀ (j : Nat) t v, Tryd.f9.params[j]? = some t → args[j]? = some v → Value.okWide Tryd.prog W .any base t v)
    (hW : DataW.Whole enc Tryd.prog Tryd.f9.params.toList Rows.feedruleClonesSpec.vars false W args.toList ds gs before) (hsh : W.ShapedOpen Tryd.prog) (hsz : (DataW.weightsEach Tryd.prog (Tryd.f9.params.toList ++ (OpenSpec.ofChange Rows.feedruleClonesSpec).bare.plain.varTypes Tryd.prog) (ds ++ gs)).all (· ≤ reachBytes) = true) :
    Calls Tryd.prog 9 args W fun e W' => ∃ v, e = .returned v ∧ Rows.feedruleClonesSpec.post enc Tryd.prog Tryd.f9 false true false false W args v W' := by
  have hW' := hW
  obtain ⟨p, q, hA0, hV, rfl, hfz, hnd⟩ := hW
  have hA : DataW.TrodAll enc Tryd.prog W 0 (fun _ => true) true Tryd.f9.params.toList args.toList ds p := hA0
  rw [Tryd.params9] at hA hval
  obtain ⟨v0, vs0, d0, ds0, p0, q0, hargs, rfl, rfl, h0, r0⟩ := trodAll_cons hA
  obtain ⟨v1, vs1, d1, ds1, p1, q1, rfl, rfl, rfl, h1, r1⟩ := trodAll_cons r0
  obtain ⟨v2, vs2, d2, ds2, p2, q2, rfl, rfl, rfl, h2, r2⟩ := trodAll_cons r1
  obtain ⟨v3, vs3, d3, ds3, p3, q3, rfl, rfl, rfl, h3, r3⟩ := trodAll_cons r2
  obtain ⟨rfl, rfl, rfl⟩ := trodAll_nil r3
  obtain rfl : args = #[v0, v1, v2, v3] := by cases args; simp_all
  obtain ⟨rfl, rfl⟩ := trodVars_none hV
  obtain ⟨lim, rfl, rfl, rfl, _⟩ := open_int Tryd.underlying3 (hval 0 _ v0 rfl rfl) h0
  obtain ⟨a, n, c, rfl⟩ := okWide_slice Tryd.underlying47 (hval 1 _ v1 rfl rfl)
  obtain ⟨mn, mw, rfl⟩ := open_Ch (hval 2 _ v2 rfl rfl) (Rw.of h2 hsz 2 rfl rfl)
  obtain ⟨x, qq, cx, rfl, hcx, hg, _, _, _⟩ := openw_I (hval 3 _ v3 rfl rfl) (Rw.of h3 hsz 3 rfl rfl)
  have hcall := clones_any lim a n c mn mw x qq cx W (gw_of hsh) (ch_of h1) hg hcx
  refine hcall.mono fun e W' ⟨he, hk⟩ => ⟨_, he, ?_⟩
  exact post_of_k0 (by kernel_rfl) Tryd.underlying4 rfl hW' rfl ⟨rfl, rfl, rfl⟩ hk

theorem laid_met (os : Os) : laidMet Tryd.prog Rows.feedruleClonesRow.laid ((laidWorld os).forCall (fun _ _ => 0) ⟨#[], #[.int .i64 0, .slice none 0 0, .agg #[.int .i64 0, .int .i64 0], .agg (arrI .u8 (fun _ => 0) 32 0 ++ [Value.slice none 0 0, Value.string ⟨#[]⟩, Value.int .i64 0, Value.bool false, Value.string ⟨#[]⟩, Value.int .i64 0]).toArray], []⟩).memory :=
  laidMet_of_run' 8 (by kernel_rfl) (by kernel_rfl)
theorem reads (os : Os) {H : Type} (enc : TypeId × Value → H) : ∃ places, DataW.whole enc Tryd.prog ((laidWorld os).forCall (fun _ _ => 0) ⟨#[], #[.int .i64 0, .slice none 0 0, .agg #[.int .i64 0, .int .i64 0], .agg (arrI .u8 (fun _ => 0) 32 0 ++ [Value.slice none 0 0, Value.string ⟨#[]⟩, Value.int .i64 0, Value.bool false, Value.string ⟨#[]⟩, Value.int .i64 0]).toArray], []⟩).memory Tryd.f9.params.toList Rows.feedruleClonesSpec.vars false (#[.int .i64 0, .slice none 0 0, .agg #[.int .i64 0, .int .i64 0], .agg (arrI .u8 (fun _ => 0) 32 0 ++ [Value.slice none 0 0, Value.string ⟨#[]⟩, Value.int .i64 0, Value.bool false, Value.string ⟨#[]⟩, Value.int .i64 0]).toArray] : Array Value).toList 8 = some ([.lit (.int .i64 0), .nil, .agg [.lit (.int .i64 0), .lit (.int .i64 0)], .agg [.agg (List.replicate 32 (.lit (.int .u8 0))), .nil, .lit (.string []), .lit (.int .i64 0), .lit (.bool false), .lit (.string []), .lit (.int .i64 0)]], [], places) :=
  ⟨[], by kernel_rfl⟩
set_option maxRecDepth 100000 in
theorem lifted (os : Os) (started : os.Started) (H : Type) (enc : TypeId × Value → H) (F : Stop.Interp) :
    ReturnsInHanded {} Tryd.checked os 9 .any ((OpenSpec.ofChange Rows.feedruleClonesSpec).preRow enc Tryd.prog Tryd.f9 Rows.feedruleClonesRow.domain false Rows.feedruleClonesRow.laid) (((OpenSpec.ofChange Rows.feedruleClonesSpec).at F).post enc Tryd.prog Tryd.f9 false true false false) := by
  obtain ⟨places, hx⟩ := reads os enc
  refine returnsInHanded_of_row (C := Tryd.checked) (s := OpenSpec.ofChange Rows.feedruleClonesSpec) own started (by kernel_rfl) Tryd.func9
    (witness_row_at (enc := enc) (C := Tryd.checked) false (laidWorld os) #[.int .i64 0, .slice none 0 0, .agg #[.int .i64 0, .int .i64 0], .agg (arrI .u8 (fun _ => 0) 32 0 ++ [Value.slice none 0 0, Value.string ⟨#[]⟩, Value.int .i64 0, Value.bool false, Value.string ⟨#[]⟩, Value.int .i64 0]).toArray] rfl (by kernel_rfl) (by kernel_rfl) (by kernel_rfl)
      (OpenSpec.preRow_of_cond 8 hx (by kernel_rfl) (fun k hk => by cases hk) (by kernel_rfl) (laid_met os))) ?_
  intro W base args ds gs before hval hW _ _ hsz _ hsh _
  exact contract H enc W base args ds gs before hval hW hsh hsz

theorem said : Rows.FeedruleClonesSaid :=
  OpenClaim.holds_of_cond 9 Tryd.f9 rfl rfl rfl rfl rfl rfl rfl ⟨rfl, rfl, rfl, rfl, rfl⟩ rfl rfl rfl rfl rfl (by kernel_rfl) Tryd.func9 (by kernel_rfl)
    (of_decide_eq_true (by kernel_rfl)) (by unfold Func.isWrapper; first | (rw [if_pos (by decide +kernel)]; kernel_rfl) | (rw [if_neg (by decide +kernel)]; exact ⟨rfl, rfl⟩))
    (fun os started H enc _ F => by rw [OpenClaim.pre_eq_preRow]; exact lifted os started H enc F)
theorem plain (f : FuncId) (fn : Func) (hf : Tryd.pinned.checked.prog.funcNamed "bulletin/bulletinlaw37.FeedruleClones" = some f) (hfn : Tryd.pinned.checked.prog.funcs[f]? = some fn) :
    true = Tryd.pinned.checked.prog.looks [] ∧ ∀ (j : Nat) t, fn.params[j]? = some t → Tryd.pinned.checked.prog.wantsStandIn t = false := by
  obtain rfl : f = 9 := Option.some.inj ((show Tryd.prog.funcNamed "bulletin/bulletinlaw37.FeedruleClones" = some 9 by kernel_rfl).symm.trans hf) |>.symm
  obtain rfl : fn = Tryd.f9 := (Option.some.inj (Tryd.func9.symm.trans hfn)).symm
  refine ⟨by kernel_rfl, fun j t ht => ?_⟩
  have : Tryd.f9.params.toList.all (fun t => !Tryd.prog.wantsStandIn t) = true := by kernel_rfl
  have := List.all_eq_true.1 this t (by simpa using Array.mem_of_getElem? ht)
  simp only [Bool.not_eq_true'] at this
  exact this
theorem card : Rows.FeedruleClonesCardSaid :=
  Claim7.holds_tied_plain_at .later [] _ _ _ _ said (fun _ h => by cases h) (by kernel_rfl) (fun _ h => by cases h) feedruleClones_row_tie rfl ⟨rfl, rfl⟩ (by kernel_rfl) rfl plain (by kernel_rfl)

end Go.Proofs.YtcpjajjocmpkjaaDoor.feedruleClones
