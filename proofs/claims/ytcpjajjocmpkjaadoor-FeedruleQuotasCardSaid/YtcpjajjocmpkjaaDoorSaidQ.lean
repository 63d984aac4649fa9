/- The statement FeedruleQuotas: whatever the input, it returns true and its arguments read as they did. -/
import Derived.Test.YtcpjajjocmpkjaaDoorWrap
import Derived.Test.YtcpjajjocmpkjaaDoorQlaw
namespace Go.Proofs.YtcpjajjocmpkjaaDoor.feedruleQuotas
open Go.ChangeShapes Go.WideShapes Go.ChangeAt Go.RowKit Go.Deep

theorem cells2 : Tryd.prog.cellsOf 56 = 2 := by kernel_rfl
set_option maxRecDepth 100000 in
theorem ch_of {H : Type} {enc : TypeId × Value → H} {W : World} {p : Option Addr} {n c : Nat} {d : DataW H} {ps : List MemPlace} (h : DataW.Trod enc Tryd.prog W 0 (fun _ => true) true 47 (.slice p n c) d ps) : ChP W p n := by
  obtain ⟨fuel, h⟩ := h
  rcases open_slice Tryd.underlying47 h with ⟨h0, _⟩ | ⟨a, len, cap, m, nn, D, Pl, hcs, hb, hl, hm, hmm, hx, hi⟩
  · have h0 : p = none ∧ n = 0 ∧ c = 0 := by simpa [Value.cells] using h0
    intro k hk
    omega
  · have hcs : p = some a ∧ n = len ∧ c = cap := by simpa [Value.cells] using hcs
    obtain ⟨rfl, rfl, rfl⟩ := hcs
    intro k hk
    obtain ⟨cs', hc, ht⟩ := hi k (by rw [hmm]; simp; omega)
    rw [cells2] at hc
    obtain ⟨_, hlen, hat⟩ := World.cells?_some hc
    obtain ⟨ys, n', _, _, _, hyl, hf⟩ := DataW.trod_struct Tryd.underlying56 ht
    have h0 := hf 0 _ rfl
    have h1 := hf 1 _ rfl
    match cs', hlen with
    | [u, v], _ =>
      have y0 : ys[0]? = some (ys[0]'(by rw [hyl]; decide)) := List.getElem?_eq_getElem _
      have y1 : ys[1]? = some (ys[1]'(by rw [hyl]; decide)) := List.getElem?_eq_getElem _
      rw [y0] at h0
      rw [y1] at h1
      obtain ⟨x, hx0, _⟩ := DataW.trod_int Tryd.underlying3 h0
      obtain ⟨y, hy0, _⟩ := DataW.trod_int Tryd.underlying3 h1
      have hx1 : [u] = [Value.int .i64 x] := hx0
      have hy1 : [v] = [Value.int .i64 y] := hy0
      clear hx0 hy0 h0 h1
      simp at hx1 hy1
      subst hx1 hy1
      have c0 := hat 0 (by omega)
      have c1 := hat 1 (by omega)
      have hspot : a.spot = none := by
        obtain ⟨cs0, hc0, _⟩ := hi 0 (by rw [hmm]; simp; omega)
        rw [cells2] at hc0
        obtain ⟨_, hl0, ha0⟩ := World.cells?_some hc0
        have h00 := ha0 0 (by omega)
        rw [List.getElem?_eq_getElem (by omega)] at h00
        have := World.cell?_spot h00
        simpa [Addr.add] using this
      obtain ⟨b, o, sp⟩ := a
      simp only at hspot
      subst hspot
      refine ⟨b, o, x, y, rfl, ?_, ?_⟩
      · rw [addr_add2] at c0; exact c0
      · rw [addr_add2] at c1; exact c1

set_option maxRecDepth 100000 in
theorem contract (H : Type) (enc : TypeId × Value → H) (W : World) (base : Nat) (args : Array Value) (ds gs : List (DataW H)) (before : List MemPlace)
    (hval : ∀ (j : Nat) t v, Tryd.f5.params[j]? = some t → args[j]? = some v → Value.okWide Tryd.prog W .any base t v)
    (hW : DataW.Whole enc Tryd.prog Tryd.f5.params.toList Rows.feedruleQuotasSpec.vars false W args.toList ds gs before) (hsh : W.ShapedOpen Tryd.prog) :
    Calls Tryd.prog 5 args W fun e W' => ∃ v, e = .returned v ∧ Rows.feedruleQuotasSpec.post enc Tryd.prog Tryd.f5 false true false false W args v W' := by
  have hW' := hW
  obtain ⟨p, q, hA0, hV, rfl, hfz, hnd⟩ := hW
  have hA : DataW.TrodAll enc Tryd.prog W 0 (fun _ => true) true Tryd.f5.params.toList args.toList ds p := hA0
  rw [Tryd.params5] at hA hval
  obtain ⟨v0, vs0, d0, ds0, p0, q0, hargs, rfl, rfl, h0, r0⟩ := trodAll_cons hA
  obtain ⟨v1, vs1, d1, ds1, p1, q1, rfl, rfl, rfl, h1, r1⟩ := trodAll_cons r0
  obtain ⟨v2, vs2, d2, ds2, p2, q2, rfl, rfl, rfl, h2, r2⟩ := trodAll_cons r1
  obtain ⟨rfl, rfl, rfl⟩ := trodAll_nil r2
  obtain rfl : args = #[v0, v1, v2] := by cases args; simp_all
  obtain ⟨rfl, rfl⟩ := trodVars_none hV
  obtain ⟨lim, rfl, rfl, rfl, _⟩ := open_int Tryd.underlying3 (hval 0 _ v0 rfl rfl) h0
  obtain ⟨at_, rfl, rfl, rfl, _⟩ := open_int Tryd.underlying3 (hval 2 _ v2 rfl rfl) h2
  obtain ⟨a, n, c, rfl⟩ := okWide_slice Tryd.underlying47 (hval 1 _ v1 rfl rfl)
  refine (quotas_any lim a n c at_ W (gw_of hsh) (ch_of h1)).mono fun e W' ⟨he, hk⟩ => ⟨_, he, ?_⟩
  exact post_of_k0 (by kernel_rfl) Tryd.underlying4 rfl hW' rfl ⟨rfl, rfl, rfl⟩ hk

theorem laid_met (os : Os) : laidMet Tryd.prog Rows.feedruleQuotasRow.laid ((laidWorld os).forCall (fun _ _ => 0) ⟨#[], #[.int .i64 0, .slice none 0 0, .int .i64 0], []⟩).memory :=
  laidMet_of_run' 8 (by kernel_rfl) (by kernel_rfl)
theorem reads (os : Os) {H : Type} (enc : TypeId × Value → H) : ∃ places, DataW.whole enc Tryd.prog ((laidWorld os).forCall (fun _ _ => 0) ⟨#[], #[.int .i64 0, .slice none 0 0, .int .i64 0], []⟩).memory Tryd.f5.params.toList Rows.feedruleQuotasSpec.vars false #[Value.int .i64 0, Value.slice none 0 0, Value.int .i64 0].toList 8 = some ([.lit (.int .i64 0), .nil, .lit (.int .i64 0)], [], places) :=
  ⟨[], by kernel_rfl⟩
set_option maxRecDepth 100000 in
theorem lifted (os : Os) (started : os.Started) (H : Type) (enc : TypeId × Value → H) (F : Stop.Interp) :
    ReturnsInHanded {} Tryd.checked os 5 .any ((OpenSpec.ofChange Rows.feedruleQuotasSpec).preRow enc Tryd.prog Tryd.f5 Rows.feedruleQuotasRow.domain false Rows.feedruleQuotasRow.laid) (((OpenSpec.ofChange Rows.feedruleQuotasSpec).at F).post enc Tryd.prog Tryd.f5 false true false false) := by
  obtain ⟨places, hx⟩ := reads os enc
  refine returnsInHanded_of_row (C := Tryd.checked) (s := OpenSpec.ofChange Rows.feedruleQuotasSpec) own started (by kernel_rfl) Tryd.func5
    (witness_row_at (enc := enc) (C := Tryd.checked) false (laidWorld os) #[.int .i64 0, .slice none 0 0, .int .i64 0] rfl (by kernel_rfl) (by kernel_rfl) (by kernel_rfl)
      (OpenSpec.preRow_of_cond 8 hx (by kernel_rfl) (fun k hk => by cases hk) (by kernel_rfl) (laid_met os))) ?_
  intro W base args ds gs before hval hW _ _ _ _ hsh _
  exact contract H enc W base args ds gs before hval hW hsh

theorem said : Rows.FeedruleQuotasSaid :=
  OpenClaim.holds_of_cond 5 Tryd.f5 rfl rfl rfl rfl rfl rfl rfl ⟨rfl, rfl, rfl, rfl, rfl⟩ rfl rfl rfl rfl rfl (by kernel_rfl) Tryd.func5 (by kernel_rfl)
    (of_decide_eq_true (by kernel_rfl)) (by unfold Func.isWrapper; first | (rw [if_pos (by decide +kernel)]; kernel_rfl) | (rw [if_neg (by decide +kernel)]; exact ⟨rfl, rfl⟩))
    (fun os started H enc _ F => by rw [OpenClaim.pre_eq_preRow]; exact lifted os started H enc F)
theorem plain (f : FuncId) (fn : Func) (hf : Tryd.pinned.checked.prog.funcNamed "bulletin/bulletinlaw37.FeedruleQuotas" = some f) (hfn : Tryd.pinned.checked.prog.funcs[f]? = some fn) :
    true = Tryd.pinned.checked.prog.looks [] ∧ ∀ (j : Nat) t, fn.params[j]? = some t → Tryd.pinned.checked.prog.wantsStandIn t = false := by
  obtain rfl : f = 5 := Option.some.inj ((show Tryd.prog.funcNamed "bulletin/bulletinlaw37.FeedruleQuotas" = some 5 by kernel_rfl).symm.trans hf) |>.symm
  obtain rfl : fn = Tryd.f5 := (Option.some.inj (Tryd.func5.symm.trans hfn)).symm
  refine ⟨by kernel_rfl, fun j t ht => ?_⟩
  have : Tryd.f5.params.toList.all (fun t => !Tryd.prog.wantsStandIn t) = true := by kernel_rfl
  have := List.all_eq_true.1 this t (by simpa using Array.mem_of_getElem? ht)
  simp only [Bool.not_eq_true'] at this
  exact this
theorem card : Rows.FeedruleQuotasCardSaid :=
  Claim7.holds_tied_plain_at .later [] _ _ _ _ said (fun _ h => by cases h) (by kernel_rfl) (fun _ h => by cases h) feedruleQuotas_row_tie rfl ⟨rfl, rfl⟩ (by kernel_rfl) rfl plain (by kernel_rfl)

end Go.Proofs.YtcpjajjocmpkjaaDoor.feedruleQuotas
