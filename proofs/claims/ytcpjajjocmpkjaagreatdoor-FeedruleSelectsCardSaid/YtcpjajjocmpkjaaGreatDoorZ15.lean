/- The statement FeedruleSelects: whatever the input, it returns true and its arguments read as they did. -/
import Derived.Test.YtcpjajjocmpkjaaGreatDoorZ06
import Derived.Test.YtcpjajjocmpkjaaGreatDoorZ14
namespace Go.Proofs.YtcpjajjocmpkjaaGreatDoor.feedruleSelects
open Go.ChangeShapes Go.WideShapes Go.ChangeAt Go.RowKit Go.Deep

set_option maxRecDepth 100000 in
theorem open_Is {H : Type} {enc : TypeId × Value → H} {W : World} {p : Option Addr} {n c : Nat} (hr : Rw enc Tryz.prog W 25 [.slice p n c]) : ∃ L : List ItA, ArgI W p n L ∧ ∀ y ∈ L, (∀ z ∈ y.1.gs, z.size ≤ 140737488355328) ∧ (-9223372036854775808 ≤ y.1.ar ∧ y.1.ar ≤ 9223372036854775807) ∧ ∀ j, 0 ≤ y.1.id j ∧ y.1.id j ≤ 255 := by
  obtain ⟨p', n', c', hcs, _, _, _, hel⟩ := hr.slice Tryz.underlying25 (by rw [cellsI]; decide)
  simp only [List.cons.injEq, Value.slice.injEq, and_true] at hcs
  obtain ⟨rfl, rfl, rfl⟩ := hcs
  rw [cellsI] at hel
  have key : ∀ i, i < n → ∃ y : ItA, (∃ b o, p = some ⟨b, o, none⟩ ∧ AtL W b (o + i * 38) (itC y) ∧ StrP W y.2.1 y.1.gs ∧ y.1.gs.length ≤ y.2.2) ∧ (∀ z ∈ y.1.gs, z.size ≤ 140737488355328) ∧ (-9223372036854775808 ≤ y.1.ar ∧ y.1.ar ≤ 9223372036854775807) ∧ ∀ j, 0 ≤ y.1.id j ∧ y.1.id j ≤ 255 := fun i hi => by
    obtain ⟨b, o, cs', hp, hl, hc, hrw⟩ := hel i hi
    obtain ⟨x, q, cx, h1, h2, h3, h4, h5, h6⟩ := rw_I hl hrw
    refine ⟨(x, q, cx), ⟨b, o, hp, ⟨At_of _ _ fun j v hv => hc j v ?_⟩, h3, h2⟩, fun z hz => by have := h4 z hz; omega, h5, h6⟩
    have : itC (x, q, cx) = cs' := by unfold itC; rw [← h1]
    rw [← this]; exact hv
  have hex : ∃ g : Nat → ItA, ∀ i, i < n → (∃ b o, p = some ⟨b, o, none⟩ ∧ AtL W b (o + i * 38) (itC (g i)) ∧ StrP W (g i).2.1 (g i).1.gs ∧ (g i).1.gs.length ≤ (g i).2.2) ∧ (∀ z ∈ (g i).1.gs, z.size ≤ 140737488355328) ∧ (-9223372036854775808 ≤ (g i).1.ar ∧ (g i).1.ar ≤ 9223372036854775807) ∧ ∀ j, 0 ≤ (g i).1.id j ∧ (g i).1.id j ≤ 255 := by
    refine ⟨fun i => if h : i < n then Classical.choose (key i h) else (⟨fun _ => 0, [], ByteArray.empty, 0, false, ByteArray.empty, 0⟩, none, 0), fun i hi => ?_⟩
    simp only [hi, dif_pos]
    exact Classical.choose_spec (key i hi)
  obtain ⟨g, hg⟩ := hex
  refine ⟨(List.range n).map g, ⟨by simp, fun k y hy => ?_⟩, fun y hy => ?_⟩
  · rw [List.getElem?_map] at hy
    rcases Nat.lt_or_ge k n with h | h
    · simp [h] at hy
      subst hy
      exact (hg k h).1
    · simp [h] at hy
  · obtain ⟨i, hi, rfl⟩ := List.mem_map.1 hy
    exact (hg i (List.mem_range.1 hi)).2

set_option maxRecDepth 100000 in
set_option maxHeartbeats 1000000 in
theorem contract (H : Type) (enc : TypeId × Value → H) (W : World) (base : Nat) (args : Array Value) (ds gs : List (DataW H)) (before : List MemPlace)
    (hval : ∀ (j : Nat) t v, Tryz.f3.params[j]? = some t → args[j]? = some v → Value.okWide Tryz.prog W .any base t v)
    (hW : DataW.Whole enc Tryz.prog Tryz.f3.params.toList Rows.feedruleSelectsSpec.vars false W args.toList ds gs before) (hsh : W.ShapedOpen Tryz.prog) (hsz : (DataW.weightsEach Tryz.prog (Tryz.f3.params.toList ++ (OpenSpec.ofChange Rows.feedruleSelectsSpec).bare.plain.varTypes Tryz.prog) (ds ++ gs)).all (· ≤ reachBytes) = true) :
    Calls Tryz.prog 3 args W fun e W' => ∃ v, e = .returned v ∧ Rows.feedruleSelectsSpec.post enc Tryz.prog Tryz.f3 false true false false W args v W' := by
  have hW' := hW
  obtain ⟨p, q, hA0, hV, rfl, hfz, hnd⟩ := hW
  have hA : DataW.TrodAll enc Tryz.prog W 0 (fun _ => true) true Tryz.f3.params.toList args.toList ds p := hA0
  rw [Tryz.params3] at hA hval
  obtain ⟨v0, vs0, d0, ds0, p0, q0, hargs, rfl, rfl, h0, r0⟩ := trodAll_cons hA
  obtain ⟨v1, vs1, d1, ds1, p1, q1, rfl, rfl, rfl, h1, r1⟩ := trodAll_cons r0
  obtain ⟨v2, vs2, d2, ds2, p2, q2, rfl, rfl, rfl, h2, r2⟩ := trodAll_cons r1
  obtain ⟨rfl, rfl, rfl⟩ := trodAll_nil r2
  obtain rfl : args = #[v0, v1, v2] := by cases args; simp_all
  obtain ⟨rfl, rfl⟩ := trodVars_none hV
  obtain ⟨nb, ps, mb, dl, pp, dds, c, rfl, _, hds, hdz⟩ := openw_R (hval 0 _ v0 rfl rfl) (Rw.of h0 hsz 0 rfl rfl)
  obtain ⟨a, n, cn, rfl⟩ := okWide_slice Tryz.underlying25 (hval 1 _ v1 rfl rfl)
  obtain ⟨L, hAI, hok⟩ := open_Is (Rw.of h1 hsz 1 rfl rfl)
  obtain ⟨now, rfl, rfl, rfl, _⟩ := open_int Tryz.underlying3 (hval 2 _ v2 rfl rfl) h2
  have hcall := lselects_any nb ps mb dl pp c dds a n cn L now W (gw_of hsh) hds (fun z hz => by have := hdz z hz; omega) hAI hok
  refine hcall.mono fun e W' ⟨he, hk⟩ => ⟨_, he, ?_⟩
  exact post_of_k0 (by kernel_rfl) Tryz.underlying4 rfl hW' rfl ⟨rfl, rfl, rfl⟩ hk

theorem laid_met (os : Os) : laidMet Tryz.prog Rows.feedruleSelectsRow.laid ((laidWorld os).forCall (fun _ _ => 0) ⟨#[], #[.agg #[.string ⟨#[]⟩, .string ⟨#[]⟩, .int .i64 0, .int .i64 0, .slice none 0 0], .slice none 0 0, .int .i64 0], []⟩).memory :=
  laidMet_of_run' 8 (by kernel_rfl) (by kernel_rfl)
theorem reads (os : Os) {H : Type} (enc : TypeId × Value → H) : ∃ places, DataW.whole enc Tryz.prog ((laidWorld os).forCall (fun _ _ => 0) ⟨#[], #[.agg #[.string ⟨#[]⟩, .string ⟨#[]⟩, .int .i64 0, .int .i64 0, .slice none 0 0], .slice none 0 0, .int .i64 0], []⟩).memory Tryz.f3.params.toList Rows.feedruleSelectsSpec.vars false (#[.agg #[.string ⟨#[]⟩, .string ⟨#[]⟩, .int .i64 0, .int .i64 0, .slice none 0 0], .slice none 0 0, .int .i64 0] : Array Value).toList 8 = some ([.agg [.lit (.string []), .lit (.string []), .lit (.int .i64 0), .lit (.int .i64 0), .nil], .nil, .lit (.int .i64 0)], [], places) :=
  ⟨[], by kernel_rfl⟩
set_option maxRecDepth 100000 in
theorem lifted (os : Os) (started : os.Started) (H : Type) (enc : TypeId × Value → H) (F : Stop.Interp) :
    ReturnsInHanded {} Tryz.checked os 3 .any ((OpenSpec.ofChange Rows.feedruleSelectsSpec).preRow enc Tryz.prog Tryz.f3 Rows.feedruleSelectsRow.domain false Rows.feedruleSelectsRow.laid) (((OpenSpec.ofChange Rows.feedruleSelectsSpec).at F).post enc Tryz.prog Tryz.f3 false true false false) := by
  obtain ⟨places, hx⟩ := reads os enc
  refine returnsInHanded_of_row (C := Tryz.checked) (s := OpenSpec.ofChange Rows.feedruleSelectsSpec) own started (by kernel_rfl) Tryz.func3
    (witness_row_at (enc := enc) (C := Tryz.checked) false (laidWorld os) #[.agg #[.string ⟨#[]⟩, .string ⟨#[]⟩, .int .i64 0, .int .i64 0, .slice none 0 0], .slice none 0 0, .int .i64 0] rfl (by kernel_rfl) (by kernel_rfl) (by kernel_rfl)
      (OpenSpec.preRow_of_cond 8 hx (by kernel_rfl) (fun k hk => by cases hk) (by kernel_rfl) (laid_met os))) ?_
  intro W base args ds gs before hval hW _ _ hsz _ hsh _
  exact contract H enc W base args ds gs before hval hW hsh hsz

theorem said : Rows.FeedruleSelectsSaid :=
  OpenClaim.holds_of_cond 3 Tryz.f3 rfl rfl rfl rfl rfl rfl rfl ⟨rfl, rfl, rfl, rfl, rfl⟩ rfl rfl rfl rfl rfl (by kernel_rfl) Tryz.func3 (by kernel_rfl)
    (of_decide_eq_true (by kernel_rfl)) (by unfold Func.isWrapper; first | (rw [if_pos (by decide +kernel)]; kernel_rfl) | (rw [if_neg (by decide +kernel)]; exact ⟨rfl, rfl⟩))
    (fun os started H enc _ F => by rw [OpenClaim.pre_eq_preRow]; exact lifted os started H enc F)
theorem plain (f : FuncId) (fn : Func) (hf : Tryz.pinned.checked.prog.funcNamed "bulletin/bulletinlaw37.FeedruleSelects" = some f) (hfn : Tryz.pinned.checked.prog.funcs[f]? = some fn) :
    true = Tryz.pinned.checked.prog.looks [] ∧ ∀ (j : Nat) t, fn.params[j]? = some t → Tryz.pinned.checked.prog.wantsStandIn t = false := by
  obtain rfl : f = 3 := Option.some.inj ((show Tryz.prog.funcNamed "bulletin/bulletinlaw37.FeedruleSelects" = some 3 by kernel_rfl).symm.trans hf) |>.symm
  obtain rfl : fn = Tryz.f3 := (Option.some.inj (Tryz.func3.symm.trans hfn)).symm
  refine ⟨by kernel_rfl, fun j t ht => ?_⟩
  have : Tryz.f3.params.toList.all (fun t => !Tryz.prog.wantsStandIn t) = true := by kernel_rfl
  have := List.all_eq_true.1 this t (by simpa using Array.mem_of_getElem? ht)
  simp only [Bool.not_eq_true'] at this
  exact this
theorem card : Rows.FeedruleSelectsCardSaid :=
  Claim7.holds_tied_plain_at .later [] _ _ _ _ said (fun _ h => by cases h) (by kernel_rfl) (fun _ h => by cases h) feedruleSelects_row_tie rfl ⟨rfl, rfl⟩ (by kernel_rfl) rfl plain (by kernel_rfl)

end Go.Proofs.YtcpjajjocmpkjaaGreatDoor.feedruleSelects
