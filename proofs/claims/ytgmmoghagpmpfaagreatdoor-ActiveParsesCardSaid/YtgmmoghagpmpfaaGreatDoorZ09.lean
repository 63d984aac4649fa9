/- Chapter 27: the contracts of with, of Remove's closure, of has; rows of intervals compared. No condition but the range. -/
import Derived.Test.YtgmmoghagpmpfaaGreatDoorZ08
import Derived.Test.YtgmmoghagpmpfaaGreatDoorZ07
import Derived.Test.YtgmmoghagpmpfaaGreatDoorZ04
import Derived.Shelf.SlSortCmp.Kit1
import Derived.Sort.Grow
import Derived.Test.YtgmmoghagpmpfaaGreatDoorZ05
import Derived.Test.YtgmmoghagpmpfaaGreatDoorProg
import Derived.Test.YtgmmoghagpmpfaaGreatDoorZ02
import Derived.KernelRfl
namespace Go.Proofs.YtgmmoghagpmpfaaGreatDoor
open Go.RowKit Go.Maps Go.Sort

theorem ivcon_any (l : List Iv) (p : Option Addr) (c : Nat) (f : FuncId) (fa fb : Array Value) (g : Iv → Bool) (w : World) (hR : RowA ivC 2 w p l) (hs : l.length ≤ 4611686018427387904) (hok : okFn Tryz.prog f = true)
    (hF : ∀ x : Iv, ∀ w1, K0 w w1 → Calls Tryz.prog f (appA fa [.agg #[.int .i64 x.a, .int .i64 x.b]] fb) w1 fun e w2 => e = .returned (.bool (g x)) ∧ K0 w1 w2) :
    Calls Tryz.prog 85 #[.slice p l.length c, .func (.func f) fa fb] w fun e w' => e = .returned (.bool (l.any g)) ∧ K0 w w' := by
  have hidx : Calls Tryz.prog 109 #[.slice p l.length c, .func (.func f) fa fb] w fun e w' => (∃ x : Int, e = .returned (.int .i64 x) ∧ decide (x ≥ 0) = l.any g) ∧ K0 w w' := by
    refine vc_ividxF p l.length c f fa fb w _ ?_
    refine ⟨fun vs w' => ∃ i : Nat, vs = [.int .i64 (i : Int)] ∧ i ≤ l.length ∧ (∀ j z, j < i → l[j]? = some z → g z = false) ∧ K0 w w',
      fun vs _ => (match vs with | .int _ x :: _ => l.length - x.toNat | _ => 0), ⟨0, rfl, by omega, (fun j z h => by omega), .refl _ _⟩, ?_⟩
    rintro x w1 ⟨i, hv, hi, hall, k1⟩
    simp only [List.cons.injEq, Value.int.injEq, true_and, and_true] at hv
    subst hv
    refine bsp_intro (fun hlt => ?_) (fun hge => ?_)
    · have hlt : i < l.length := by simp at hlt; omega
      obtain ⟨z, b, o, hz, hp, hc⟩ := (hR.k0 k1).get hlt
      rw [Int.toNat_natCast]
      refine nn_is hp ⟨⟨by omega, by omega⟩, z.a, z.b, hc, f, fa, fb, rfl, hok, ⟨(hF z w1 k1).mono fun e w2 ⟨he, k2⟩ => ⟨_, he, .of_k0 k2, bsp_intro (fun hg => ?_) (fun hg => ?_)⟩⟩⟩
      · refine ⟨⟨i, rfl, ?_⟩, k1.trans k2⟩
        have : l.any g = true := List.any_eq_true.2 ⟨z, List.mem_of_getElem? hz, hg⟩
        rw [this]; simp
      · refine ⟨⟨i + 1, by rw [inc64 (by omega)], hlt, fun j y hj hy => ?_, k1.trans k2⟩, by rw [inc64 (by omega)]; simp only [Int.toNat_natCast]; omega⟩
        by_cases e : j = i
        · rw [e, hz] at hy; cases hy; exact hg
        · exact hall j y (by omega) hy
    · have hi : i = l.length := by simp at hge; omega
      subst hi
      refine ⟨⟨-1, rfl, ?_⟩, k1⟩
      have : l.any g = false := List.any_eq_false.2 fun z hz => by
        obtain ⟨j, hj, e⟩ := List.getElem_of_mem hz
        simpa using hall j z hj (by rw [List.getElem?_eq_getElem hj, e])
      rw [this]; rfl
  refine vc_ivconF p l.length c f fa fb w _ ⟨hidx.mono fun e w1 ⟨⟨x, he, hx⟩, k1⟩ => ⟨_, he, .of_k0 k1, by rw [hx], k1⟩⟩
theorem ahasC_any (x : Iv) (v : Int) (b : Nat) (w : World) (hb : w.cell? ⟨b, 0, none⟩ = some (.int .i64 v)) :
    Calls Tryz.prog 86 #[.agg #[.int .i64 x.a, .int .i64 x.b], .pointer (some ⟨b, 0, none⟩)] w fun e w' => e = .returned (.bool (decide (x.a ≤ v ∧ v ≤ x.b))) ∧ K0 w w' := by
  refine vc_achasC x.a x.b b w _ (fun n => ⟨v, fun W hW => (hW.kk rfl : K0 w W).cell' hb (fun h => h), v, gimp_intro fun _ W hW => (hW.kk rfl : K0 w W).cell' hb (fun h => h), x.b, gimp_intro fun _ W hW => cell_at (hW.cells 0 rfl) rfl, fun W hW => ⟨?_, hW.kk rfl⟩⟩)
  rw [Bool.decide_and]
theorem ahasg_any (h : Int) (cl : Bool) (l : List Iv) (p : Option Addr) (c : Nat) (v : Int) (w : World) (hR : RowA ivC 2 w p l) (hs : l.length ≤ 4611686018427387904) :
    Calls Tryz.prog 63 #[.agg #[.int .i64 h, .bool cl, .slice p l.length c], .int .i64 v] w fun e w' => e = .returned (.bool (hasI l v)) ∧ K0 w w' := by
  refine vc_achasg h cl p l.length c v w _ (fun n1 n2 W hW => ?_)
  have kW : K0 w W := hW.kk rfl
  have c2 := hW.cells 0 rfl
  exact ⟨(ivcon_any l p c 86 #[] #[.pointer (some ⟨n2, 0, none⟩)] (fun x => decide (x.a ≤ v ∧ v ≤ x.b)) W (hR.k0 kW) hs (by kernel_rfl) (fun x w1 k1 => ahasC_any x v n2 w1 (cell_at (k1.blk c2 (fun h => h)) rfl))).mono fun e w1 ⟨he, k1⟩ => ⟨_, he, .of_k0 k1, rfl, kW.trans k1⟩⟩
/-- with: the last interval grows in place, or an interval is appended. -/
theorem awith_any (l : List Iv) (p : Option Addr) (c : Nat) (v : Int) (w : World) {B : Nat} (ho : w.ownsRow B 105 2 (.slice p l.length c) l.length (l.flatMap ivC)) (hB : B ≤ w.heap.size) (hl : l.length ≤ 4294967296) (hv : 0 ≤ v ∧ v ≤ 4294967296) :
    Calls Tryz.prog 61 #[.slice p l.length c, .int .i64 v] w fun e w' => ∃ p' c', e = .returned (.slice p' (withI l v).length c') ∧ w'.ownsRow B 105 2 (.slice p' (withI l v).length c') (withI l v).length ((withI l v).flatMap ivC) ∧
      Kp (fun k => (Value.slice p l.length c).ownBlock = some k) w w' ∧ ∀ k, (Value.slice p' (withI l v).length c').ownBlock = some k → (Value.slice p l.length c).ownBlock = some k ∨ w.heap.size ≤ k := by
  have app : ∀ {x : Int}, (withI l v = l ++ [⟨v, v⟩]) → ∀ (n_1 : Nat) (W : World), Loc w.heap.size [Blk.mk n_1 105 [.int .i64 v, .int .i64 v] 2] w W → ∃ (base : Nat) (xs : List Value), W.ownsRow base 105 2 (.slice p l.length c) l.length xs ∧ l.length + 1 ≤ 9223372036854775807 ∧ (l.length + 1) * 16 ≤ 140737488355328 ∧ base ≤ W.heap.size ∧
      ∀ (p' : Option Addr) (c' : Nat) (w' : World), w'.ownsRow base 105 2 (.slice p' (l.length + 1) c') (l.length + 1) (xs ++ [.int .i64 v, .int .i64 v]) → W.grownBy w' (Value.slice p l.length c).ownBlock → AppL W p l.length c 1 p' c' → KeptL [] W w' ∧
      (∃ p'' c'', Ending.returned (Value.slice p' (l.length + 1) c') = .returned (.slice p'' (withI l v).length c'') ∧ w'.ownsRow B 105 2 (.slice p'' (withI l v).length c'') (withI l v).length ((withI l v).flatMap ivC) ∧
      Kp (fun k => (Value.slice p l.length c).ownBlock = some k) w w' ∧ ∀ k, (Value.slice p'' (withI l v).length c'').ownBlock = some k → (Value.slice p l.length c).ownBlock = some k ∨ w.heap.size ≤ k) := by
    intro x he n1 W hW
    have kW : K0 w W := hW.kk rfl
    have hoW := owns_kp ho kW (fun _ _ h => h)
    have el : (withI l v).length = l.length + 1 := by rw [he]; simp
    refine ⟨B, _, hoW, by omega, by omega, Nat.le_trans hB kW.size, fun p' c' w' ho2 hg ha => ⟨⟨hg.size, fun _ hm => by cases hm⟩, p', c', by rw [el], ?_, ?_, fun k hk => ?_⟩⟩
    · rw [el, he, List.flatMap_append]; exact ho2
    · exact (kW.mono fun _ _ h => h.elim).trans (kp_grown hg)
    · rw [el] at hk
      rcases ha.own with e | e
      · rw [e] at hk; exact .inl hk
      · rw [e] at hk
        cases hk
        exact .inr kW.size
  refine vc_acwith p l.length c v w _ ?_
  rcases List.eq_nil_or_concat l with e | ⟨t, y, e⟩
  · subst e
    have e1 : decide (IntKind.i64.wrap ((([] : List Iv).length : Int) - 1) ≥ 0) = false := by decide
    unfold VC_acwith
    rw [e1]
    exact nn_off (fun b o => ⟨gimp_intro (fun h => by cases h), 0, gimp_intro (fun h => by cases h), bsp_intro (fun h => by simp at h) (fun _ => app (x := 0) rfl)⟩)
  · have e : l = t ++ [y] := by rw [e]; simp
    have el : l.length = t.length + 1 := by rw [e]; simp
    have e1 : IntKind.i64.wrap ((l.length : Int) - 1) = (t.length : Int) := by rw [wr64 (by omega) (by omega)]; omega
    have hy : l[t.length]? = some y := by rw [e]; simp
    have hgl : l.getLast? = some y := by rw [e]; simp
    have ew : withI l v = if y.b = v - 1 then l.dropLast ++ [⟨y.a, v⟩] else l ++ [⟨v, v⟩] := by unfold withI; rw [hgl]
    obtain ⟨g, rfl, hat⟩ := own_at ivC ho (fun _ _ => rfl) (by decide) hy
    have hc : w.cell? ⟨g, 0 + t.length * 2 + 1, none⟩ = some (.int .i64 y.b) := hat.cell (j := 1) rfl
    unfold VC_acwith
    rw [e1, wr64 (x := v - 1) (by omega) (by omega), Int.toNat_natCast]
    refine nn_is rfl ⟨gimp_intro fun _ => ⟨by omega, by omega⟩, y.b, gimp_intro fun _ => hc, bsp_intro (fun hb => ?_) (fun hb => ?_)⟩
    · have hb : y.b = v - 1 := by simp at hb; exact hb
      rw [if_pos hb] at ew
      obtain ⟨g', hg', hw1, hw2⟩ := own_wrc ho (k := t.length) (j := 1) (by omega) (by omega)
      cases hg'
      refine nn_is rfl ⟨⟨by omega, by omega⟩, ⟨hw1, hw2⟩, fun w1 hp => ⟨⟨hp.kp.size, fun _ hm => by cases hm⟩, some ⟨g, 0, none⟩, c, ?_, ?_, ?_, fun k hk => ?_⟩⟩
      · have : (withI l v).length = l.length := by rw [ew, e]; simp
        rw [this]
      · have h3 := own_part (f := ivC) (y' := ⟨y.a, v⟩) (j := 1) (vs := [.int .i64 v]) ho rfl (fun _ => rfl) (by decide) hy (by show 1 + 1 ≤ 2; omega) rfl hp
        have h4 : l.set t.length ⟨y.a, v⟩ = withI l v := by
          rw [ew, e, List.set_append_right _ _ (Nat.le_refl _)]
          simp
        rw [h4] at h3
        have h5 : (withI l v).length = l.length := by rw [ew, e]; simp
        rw [h5]; exact h3
      · exact hp.kp.mono fun k _ e => by rw [e]; rfl
      · have h5 : (withI l v).length = l.length := by rw [ew, e]; simp
        rw [h5] at hk
        exact .inl hk
    · have hb : ¬ y.b = v - 1 := by
        intro h
        rw [h] at hb
        simp at hb
      rw [if_neg hb] at ew
      exact app (x := 0) ew
/-- Remove's closure: an interval that is not empty is appended to the row in block b. -/
theorem akeep_any (u v : Int) (b : Nat) (l : List Iv) (p : Option Addr) (c B : Nat) (w : World) (hb : w.heap[b]? = some (.cells #[.slice p l.length c] 92 (0, 0))) (ho : w.ownsRow B 105 2 (.slice p l.length c) l.length (l.flatMap ivC)) (hB : b < B) (hBw : B ≤ w.heap.size) (hl : l.length ≤ 4294967296) :
    Calls Tryz.prog 65 #[.int .i64 u, .int .i64 v, .pointer (some ⟨b, 0, none⟩)] w fun e w' => e = .returned (.tuple #[]) ∧
      (∃ p' c', w'.heap[b]? = some (.cells #[.slice p' (l ++ keepI u v).length c'] 92 (0, 0)) ∧ w'.ownsRow B 105 2 (.slice p' (l ++ keepI u v).length c') (l ++ keepI u v).length ((l ++ keepI u v).flatMap ivC) ∧
        ∀ k, (Value.slice p' (l ++ keepI u v).length c').ownBlock = some k → (Value.slice p l.length c).ownBlock = some k ∨ w.heap.size ≤ k) ∧ Kp (fun k => k = b ∨ (Value.slice p l.length c).ownBlock = some k) w w' := by
  unfold keepI
  refine vc_ackeepC u v b w _ (bsp_intro (fun h => ?_) (fun h => ?_))
  · have h : u ≤ v := by simpa using h
    rw [if_pos h]
    refine ⟨p, l.length, c, cell_at hb rfl, fun n1 W hW => ?_⟩
    have kW : K0 w W := hW.kk rfl
    have hoW := owns_kp ho kW (fun _ _ h => h)
    refine ⟨B, _, hoW, by omega, by omega, Nat.le_trans hBw kW.size, fun p' c' w2 ho2 hg ha => ?_⟩
    have k2 : Kp (fun k => (Value.slice p l.length c).ownBlock = some k) w w2 := (Kp.mono kW (fun _ _ h => h.elim)).trans (kp_grown hg)
    have hb2 := k2.blk hb (fun e => by have := own_ge ho e; omega)
    refine ⟨⟨hg.size, fun _ hm => by cases hm⟩, cell_wr hb2 (by show 0 < 1; omega), fun w3 hp => ?_⟩
    have hk3 := hp.kp
    have hnb : ∀ k, (Value.slice p' (l.length + 1) c').ownBlock = some k → ¬ k = b := fun k e e2 => by have := own_ge ho2 e; omega
    have ho3 := owns_kp ho2 hk3 hnb
    have el : (l ++ [(⟨u, v⟩ : Iv)]).length = l.length + 1 := by simp
    refine ⟨⟨hk3.size, fun _ hm => by cases hm⟩, rfl, ⟨p', c', ?_, ?_, fun k hk => ?_⟩, ?_⟩
    · rw [hp.full hb2 rfl, el]
    · rw [el, List.flatMap_append]; exact ho3
    · rw [el] at hk
      rcases ha.own with e | e
      · rw [e] at hk; exact .inl hk
      · rw [e] at hk
        cases hk
        exact .inr kW.size
    · exact (k2.mono fun k _ h => .inr h).trans (hk3.mono fun k _ h => .inl h)
  · have h : ¬ u ≤ v := by simpa using h
    rw [if_neg h, List.append_nil]
    exact ⟨rfl, ⟨p, c, hb, ho, fun k hk => .inl hk⟩, .refl _ _⟩
theorem ivequal_any (l m : List Iv) (p q : Option Addr) (c d : Nat) (w : World) (hR : RowA ivC 2 w p l) (hS : RowA ivC 2 w q m) (hl : l.length ≤ 4611686018427387904) (hm : m.length ≤ 4611686018427387904) :
    Calls Tryz.prog 59 #[.slice p l.length c, .slice q m.length d] w fun e w' => (∃ r : Bool, e = .returned (.bool r) ∧ (r = true ↔ l = m)) ∧ K0 w w' := by
  refine vc_ivequal p l.length c q m.length d w _ (bsp_intro (fun h => ?_) (fun h => ?_))
  · have h : l.length ≠ m.length := by simp at h; omega
    exact ⟨⟨false, rfl, ⟨(fun e => by cases e), fun e => absurd (by rw [e]) h⟩⟩, .refl _ _⟩
  have hlm : l.length = m.length := by simp at h; omega
  refine ⟨fun vs w' => ∃ i : Nat, vs = [.int .i64 (i : Int)] ∧ i ≤ l.length ∧ (∀ j, j < i → l[j]? = m[j]?) ∧ K0 w w',
    fun vs _ => (match vs with | .int _ x :: _ => l.length - x.toNat | _ => 0), ⟨0, rfl, by omega, (fun j h => by omega), .refl _ _⟩, ?_⟩
  rintro x w1 ⟨i, hv, hi, hall, k1⟩
  simp only [List.cons.injEq, Value.int.injEq, true_and, and_true] at hv
  subst hv
  refine bsp_intro (fun hlt => ?_) (fun hge => ?_)
  · have hlt : i < l.length := by simp at hlt; omega
    obtain ⟨y, b, o, hy, hp, hc⟩ := (hR.k0 k1).get hlt
    obtain ⟨z, b2, o2, hz, hq, hc2⟩ := (hS.k0 k1).get (show i < m.length by omega)
    rw [Int.toNat_natCast]
    refine nn_is hp ⟨⟨by omega, by omega⟩, y.a, y.b, fun W hW => hc.k0 (hW.kk rfl), nn_is hq ⟨⟨by omega, by omega⟩, z.a, z.b, fun W hW => hc2.k0 (hW.kk rfl), _, ivEq y z, bsp_intro (fun hb => ?_) (fun hb => ?_)⟩⟩
    · intro W hW
      refine ⟨⟨false, rfl, ⟨(fun e => by cases e), fun e => ?_⟩⟩, k1.trans (hW.kk rfl)⟩
      subst e
      rw [hy] at hz
      cases hz
      simp at hb
    · intro W hW
      have e : y = z := by
        simp at hb
        obtain ⟨a, b⟩ := y
        obtain ⟨a', b'⟩ := z
        simp only at hb
        rw [hb.1, hb.2]
      rw [inc64 (by omega)]
      refine ⟨⟨i + 1, rfl, hlt, fun j hj => ?_, k1.trans (hW.kk rfl)⟩, by simp only [Int.toNat_natCast]; omega⟩
      by_cases e2 : j = i
      · rw [e2, hy, hz, e]
      · exact hall j (by omega)
  · have hi2 : i = l.length := by simp at hge; omega
    subst hi2
    refine ⟨⟨true, rfl, ⟨fun _ => ?_, fun _ => rfl⟩⟩, k1⟩
    apply List.ext_getElem?
    intro j
    rcases Nat.lt_or_ge j l.length with h1 | h1
    · exact hall j h1
    · rw [List.getElem?_eq_none h1, List.getElem?_eq_none (by omega)]

end Go.Proofs.YtgmmoghagpmpfaaGreatDoor

/- Chapter 27: the contracts of New, find, Open, Close, Get, Has. Names are not too long; the library's variable MaxLen holds a number. -/
namespace Go.Proofs.YtgmmoghagpmpfaaGreatDoor
open Go.RowKit Go.Maps Go.Sort

theorem mapLen {α : Type} {k t e : TypeId} {enc : α → Value} {w : World} {b : Nat} {l : List (α × Value)} (h : MapB Tryz.prog k enc w b l) (ht : Tryz.prog.underlying t = some (.map k e)) : LenP Tryz.prog t (.map (some b)) (l.length : Nat) w := by
  obtain ⟨es, c, hb, he⟩ := h.blk
  have hl : es.size = l.length := by
    have := congrArg List.length he
    simpa using this
  constructor
  intro ty
  simp [Builtin.len_, run_underlying ht, MapKept.run_getObj_map hb, Result.andThen, hl, goInt]
theorem gk0 {w w' : World} (hG : GW w) (hk : K0 w w') : GW w' := hG.kp hk (fun h => h)
theorem acnew_any (w : World) (hw : 0 < w.heap.size) : Calls Tryz.prog 19 #[] w fun e w' => (∃ b mb, e = .returned (.pointer (some ⟨b, 0, none⟩)) ∧ Tq w' w.heap.size b mb [] []) ∧ K0 w w' := by
  refine vc_acnew w _ ?_
  unfold VC_acnew
  intro mb w1 h1
  refine ⟨.of_k0 (h1.kp _), fun b W hW => ?_⟩
  have k1 : K0 w1 W := hW.kk rfl
  have gb : w1.heap.size ≤ b := hW.fresh 0 rfl rfl
  have g1 := h1.ge
  have s1 := (h1.kp (fun _ => False)).size
  refine ⟨⟨b, mb, rfl, ⟨hW.cells 0 rfl, (NewB.map h1).kp k1 (fun h => h), (fun g x h => by cases h), (fun g x h y k h1 => by cases h1), (fun g x k h => by cases h), by omega, g1, hw⟩, .refl _, WF.nil, Nat.zero_le _⟩, (h1.kp _).trans k1⟩
section
variable {w : World} {B b mb : Nat} {m : TM} {A : TA}
theorem acfind_any (h : Tq w B b mb m A) (s : ByteArray) (hs : s.size ≤ 1073741824) :
    Calls Tryz.prog 45 #[.pointer (some ⟨b, 0, none⟩), .string s] w fun e w' => e = .returned (.tuple #[gxV ((aget m s).getD gxz), .int .i64 (if (aget m s).isSome = true then 0 else 8)]) ∧ K0 w w' := by
  refine vc_acfind b s w _ (fun n => ⟨some mb, fun W hW => (h.k0 (hW.kk rfl)).z.cM, _, _, _, _, _, (aget m s).isSome, fun W hW => (h.k0 (hW.kk rfl)).z.look1 hs, fun n2 => bsp_intro (fun hb W hW => ?_) (fun hb W hW => ?_)⟩)
  · have hb : (aget m s).isSome = false := by simpa using hb
    have hn : aget m s = none := by simpa using hb
    refine ⟨?_, hW.kk rfl⟩
    rw [hn]; rfl
  · have hb : (aget m s).isSome = true := by simpa using hb
    refine ⟨?_, hW.kk rfl⟩
    rw [if_pos hb]
set_option maxHeartbeats 1000000 in
theorem acopen_any (h : Tq w B b mb m A) (s : ByteArray) (hs : s.size ≤ 1073741824) (hG : GW w) :
    Calls Tryz.prog 31 #[.pointer (some ⟨b, 0, none⟩), .string s] w fun e w' => e = .returned (.int .i64 (opA A s).2) ∧ ∃ m', Ts w w' B b mb m (opA A s).1 m' := by
  refine vc_acopen b s w _ ⟨(gcheck_any s w hG).mono fun e w1 ⟨he, k1⟩ => ⟨_, he, .of_k0 k1, bsp_intro (fun h0 => ?_) (fun h0 => ?_)⟩⟩
  · have h0 : gnE s ≠ 0 := by simpa using h0
    have e : opA A s = (A, gnE s) := by unfold opA; rw [if_pos h0]
    rw [e]
    exact ⟨rfl, m, h.same k1⟩
  have h0 : gnE s = 0 := by simpa using h0
  have h1 := h.k0 k1
  have kk : ∀ {n : Nat} {t : TypeId} {cs : List Value} {mm : Nat} {W : World}, Loc w.heap.size [Blk.mk n t cs mm] w1 W → K0 w W := fun hW => hW.k0 k1
  refine ⟨some mb, h1.z.cM, _, _, _, _, _, _, h1.z.look1 hs, fun n1 => ⟨((aget m s).getD gxz).v.c, gimp_intro fun _ W hW => cell_at (hW.cells 0 rfl) rfl, bsp_intro (fun hb W hW => ?_) (fun hb => ⟨some mb, gimp_intro fun _ W hW => (h.k0 (kk hW)).z.cM, (A.length : Int), gimp_intro fun _ W hW => ?_, bsp_intro (fun hc W hW => ?_) (fun hc => ⟨some mb, fun W hW => (h.k0 (kk hW)).z.cM, bsp_intro (fun hd => by cases hd) (fun _ => ⟨some mb, fun W hW => (h.k0 (kk hW)).z.cM, fun W hW => ?_⟩)⟩)⟩)⟩⟩
  · simp only [Bool.and_eq_true, Bool.not_eq_true'] at hb
    obtain ⟨x, hx⟩ := Option.isSome_iff_exists.1 hb.1
    rw [hx] at hb
    have hg := h.getS hx
    have e : opA A s = (A, 7) := by unfold opA; rw [if_neg (by simpa using h0), hg]; simp only; rw [if_pos (show x.v.c = false from hb.2)]
    rw [e]
    exact ⟨rfl, m, h.same (kk hW)⟩
  · have := mapLen (h.k0 (kk hW)).z.mm (t := 97) Tryz.underlying97
    rw [show (amap gxV m).length = A.length by rw [← h.length]; simp [amap]] at this
    exact this
  · simp only [Bool.and_eq_true, Bool.not_eq_true', decide_eq_true_eq] at hc
    have hn : aget m s = none := by simpa using hc.1
    have e : opA A s = (A, 9) := by unfold opA; rw [if_neg (by simpa using h0), h.getN hn]; simp only; rw [if_pos (by omega)]
    rw [e]
    exact ⟨rfl, m, h.same (kk hW)⟩
  · have kW := kk hW
    have hnb := hW.cells 0 rfl
    cases hx : aget m s with
    | none =>
      rw [hx] at hc hnb
      have hl : A.length < 4096 := by simp at hc; omega
      have e : opA A s = (insA gnC A s ⟨0, false, []⟩, 0) := by unfold opA; rw [if_neg (by simpa using h0), h.getN hx]; simp only; rw [if_neg (by omega)]
      rw [e]
      obtain ⟨w2, hu, hT, k2⟩ := Ts.ins h (x := ⟨⟨0, false, []⟩, none, 0⟩) hx kW hs (Gx.own_z _ _ _ _) (fun k e => by cases e) (h.wf.ins (h.getN hx) h0) hl
      exact ⟨w2, hu, h.z.keptL k2 (fun n hn => by simp at hn; rw [hn]; exact Nat.le_trans k1.size (hW.fresh 0 rfl rfl)), rfl, _, hT⟩
    | some x =>
      rw [hx] at hb hnb
      have hcl : x.v.c = true := by simpa [gxz] using hb
      have hg := h.getS hx
      obtain ⟨_, a1, a2, a3⟩ := h.wf.get hg
      have e : opA A s = (aset A s ⟨x.v.h, false, x.v.l⟩, 0) := by unfold opA; rw [if_neg (by simpa using h0), hg]; simp only; rw [if_neg (by rw [hcl]; simp)]
      rw [e]
      obtain ⟨w2, hu, hT, k2⟩ := Ts.put h (x := ⟨⟨x.v.h, false, x.v.l⟩, x.p, x.c⟩) hx (kW.mono fun _ _ e => e.elim) hs ((h.z.own s x hx (fun h => h)).kp kW (fun _ _ h => h)) (fun k e => .inl e) (h.wf.set hg ⟨a1, a2⟩ a3)
      exact ⟨w2, hu, h.z.keptL k2 (fun n hn => by simp at hn; rw [hn]; exact Nat.le_trans k1.size (hW.fresh 0 rfl rfl)), rfl, _, hT⟩
theorem Tq.rowOf (h : Tq w B b mb m A) {s : ByteArray} {x : Gx} (hx : aget m s = some x) : RowA ivC 2 w x.p x.v.l := (h.z.own s x hx (fun h => h)).row
theorem Tq.lenOf (h : Tq w B b mb m A) {s : ByteArray} {x : Gx} (hx : aget m s = some x) : x.v.l.length ≤ 2147483646 := h.wf.ivlen (aget_mem (h.getS hx))
end

end Go.Proofs.YtgmmoghagpmpfaaGreatDoor

/- Chapter 27: the contracts of Get, Numbers, Neighbour. Names are not too long. -/
namespace Go.Proofs.YtgmmoghagpmpfaaGreatDoor
open Go.RowKit Go.Maps Go.Sort

section
variable {w : World} {B b mb : Nat} {m : TM} {A : TA}
theorem Tq.ivOf (h : Tq w B b mb m A) {s : ByteArray} {x : Gx} (hx : aget m s = some x) : IvS x.v.h 1 x.v.l ∧ 0 ≤ x.v.h ∧ x.v.h ≤ 2147483646 ∧ (exI x.v.l).length ≤ 2147483646 := by
  obtain ⟨_, a1, a2, a3⟩ := h.wf.get (h.getS hx)
  exact ⟨a3, a1, a2, h.wf.exlen (aget_mem (h.getS hx))⟩
theorem acfindS (h : Tq w B b mb m A) (s : ByteArray) (hs : s.size ≤ 1073741824) {x : Gx} (hx : aget m s = some x) :
    Calls Tryz.prog 45 #[.pointer (some ⟨b, 0, none⟩), .string s] w fun e w' => e = .returned (.tuple #[gxV x, .int .i64 0]) ∧ K0 w w' := (acfind_any h s hs).mono fun e w' ⟨he, hk⟩ => ⟨by rw [he, hx]; rfl, hk⟩
theorem acfindN (h : Tq w B b mb m A) (s : ByteArray) (hs : s.size ≤ 1073741824) (hx : aget m s = none) :
    Calls Tryz.prog 45 #[.pointer (some ⟨b, 0, none⟩), .string s] w fun e w' => e = .returned (.tuple #[gxV gxz, .int .i64 8]) ∧ K0 w w' := (acfind_any h s hs).mono fun e w' ⟨he, hk⟩ => ⟨by rw [he, hx]; rfl, hk⟩
set_option maxHeartbeats 1000000 in
theorem acget_any (h : Tq w B b mb m A) (s : ByteArray) (hs : s.size ≤ 1073741824) :
    Calls Tryz.prog 16 #[.pointer (some ⟨b, 0, none⟩), .string s] w fun e w' => e = .returned (match aget A s with
      | some v => .tuple #[.agg #[.string s, .int .i64 (lowI v), .int .i64 v.h, .int .i64 ((exI v.l).length : Nat), .bool v.c], .int .i64 0]
      | none => .tuple #[.agg #[.string ⟨#[]⟩, .int .i64 0, .int .i64 0, .int .i64 0, .bool false], .int .i64 8]) ∧ K0 w w' := by
  refine vc_acget b s w _ (fun n W hW => ?_)
  have kW : K0 w W := hW.kk rfl
  refine ⟨(acfind_any (h.k0 kW) s hs).mono fun e w1 ⟨he, k1⟩ => ⟨_, _, _, _, _, _, he, .of_k0 k1, fun n2 => ?_⟩⟩
  have k01 : K0 w w1 := kW.trans k1
  cases hx : aget m s with
  | none =>
    rw [h.getN hx]
    exact bsp_intro (fun _ W2 hW2 => ⟨rfl, hW2.k0 k01⟩) (fun hb => by simp at hb)
  | some x =>
    rw [h.getS hx]
    obtain ⟨hiv, h0, hm, hel⟩ := h.ivOf hx
    have hll := h.lenOf hx
    refine bsp_intro (fun hb => by simp at hb) (fun _ n3 => bsp_intro (fun hl => ?_) (fun hl => fun W3 hW3 => ?_))
    · have hl : 0 < x.v.l.length := by simp [gxz] at hl; exact hl
      obtain ⟨y, gb, go, hy, hp, hat⟩ := (h.rowOf hx).get hl
      refine nn_is hp ⟨⟨by omega, by show (0 : Int) < (x.v.l.length : Nat); omega⟩, y.a, fun W3 hW3 => ?_, fun W3 hW3 => ?_⟩
      · have := hat.cell (j := 0) rfl
        rw [Nat.zero_mul, Nat.add_zero] at this
        exact (hW3.k0 k01).cell' this (fun h => h)
      · have k3 : K0 w W3 := hW3.k0 k01
        have c3 := hW3.cells 0 rfl
        have g3 : w.heap.size ≤ n3 := Nat.le_trans k01.size (hW3.fresh 0 rfl rfl)
        have elow : lowI x.v = y.a := by
          unfold lowI
          cases hvl : x.v.l with
          | nil => rw [hvl] at hl; cases hl
          | cons z t => rw [hvl] at hy; cases hy; rfl
        refine ⟨fun vs w' => ∃ i : Nat, vs = [.int .i64 (i : Int)] ∧ i ≤ x.v.l.length ∧ w'.heap[n3]? = some (.cells #[.string s, .int .i64 y.a, .int .i64 x.v.h, .int .i64 (offI x.v.l i : Nat), .bool x.v.c] 31 (0, 0)) ∧ K0 w w',
          fun vs _ => (match vs with | .int _ a :: _ => x.v.l.length - a.toNat | _ => 0), ⟨0, rfl, by omega, c3, k3⟩, ?_⟩
        rintro q w4 ⟨i, hv, hi, c4, k4⟩ hL4
        simp only [List.cons.injEq, Value.int.injEq, true_and, and_true] at hv
        subst hv
        refine bsp_intro (fun hlt => ?_) (fun hge => ?_)
        · have hlt : i < x.v.l.length := by have hlt : (i : Int) < (x.v.l.length : Nat) := by simpa using hlt
                                            omega
          obtain ⟨z, zb, zo, hz, hzp, hzat⟩ := ((h.rowOf hx).k0 k4).get hlt
          have hzz := hiv.mem z (List.mem_of_getElem? hz)
          have hoff := offI_succ hz
          have hmono := offI_mono (l := x.v.l) (i := i + 1) (j := x.v.l.length) (by omega)
          rw [offI_all] at hmono
          rw [Int.toNat_natCast]
          refine nn_is hzp ⟨⟨by omega, by show (i : Int) < (x.v.l.length : Nat); omega⟩, z.a, z.b, hzat, fun n4 => ⟨(offI x.v.l i : Nat), fun W5 hW5 => ?_, fun W5 hW5 => ⟨?_, fun w6 hp6 => ⟨?_, ⟨i + 1, by rw [inc64 (by omega)], by omega, ?_, ?_⟩, ?_⟩⟩⟩⟩
          · exact cell_at ((hW5.kk rfl : K0 w4 W5).blk c4 (fun h => h)) rfl
          · exact cell_wr ((hW5.kk rfl : K0 w4 W5).blk c4 (fun h => h)) (by show 0 + 3 < 5; omega)
          · refine .of_kp hp6.kp (fun k hk e => ?_)
            simp only [List.mem_cons, List.not_mem_nil, or_false] at hk
            have a1 := hW3.apart 0 1 rfl rfl (by decide)
            have a2 := hW3.apart 0 2 rfl rfl (by decide)
            have a3 : w4.heap.size ≤ n4 := hW5.fresh 2 rfl rfl
            have a4 := block_lt c4
            rcases hk with rfl | rfl | rfl
            · exact a1 e.symm
            · exact a2 e.symm
            · omega
          · rw [hp6.block ((hW5.kk rfl : K0 w4 W5).blk c4 (fun h => h))]
            rw [wr64 (x := z.b - z.a) (by omega) (by omega), wr64 (x := z.b - z.a + 1) (by omega) (by omega), wr64 (by omega) (by omega)]
            have e1 : ((offI x.v.l i : Nat) : Int) + (z.b - z.a + 1) = ((offI x.v.l (i + 1) : Nat) : Int) := by omega
            rw [e1]; rfl
          · exact put_k0 (k4.trans (hW5.kk rfl)) hp6 g3
          · rw [inc64 (by omega)]; simp only [Int.toNat_natCast]; omega
        · have hi2 : i = x.v.l.length := by
            have hge : ¬ (i : Int) < (x.v.l.length : Nat) := by simpa using hge
            omega
          subst hi2
          rw [offI_all] at c4
          refine ⟨_, _, _, _, _, AtL_block c4 rfl, fun W5 hW5 => ⟨?_, hW5.k0 k4⟩⟩
          show Ending.returned (Value.tuple #[.agg #[.string s, .int .i64 y.a, .int .i64 x.v.h, .int .i64 ((exI x.v.l).length : Nat), .bool x.v.c], .int .i64 0]) = .returned (.tuple #[.agg #[.string s, .int .i64 (lowI x.v), .int .i64 x.v.h, .int .i64 ((exI x.v.l).length : Nat), .bool x.v.c], .int .i64 0])
          rw [elow]
    · have hl : x.v.l = [] := by
        have : ¬ 0 < x.v.l.length := by simpa using hl
        exact List.eq_nil_of_length_eq_zero (by omega)
      have k3 : K0 w W3 := hW3.k0 k01
      have c3 := hW3.cells 0 rfl
      refine ⟨fun vs w' => vs = [.int .i64 0] ∧ w'.heap[n3]? = W3.heap[n3]? ∧ K0 w w', fun _ _ => 0, ⟨rfl, rfl, k3⟩, ?_⟩
      rintro q w4 ⟨hv, c4, k4⟩ hL4
      simp only [List.cons.injEq, Value.int.injEq, true_and, and_true] at hv
      subst hv
      rw [c3] at c4
      refine bsp_intro (fun hlt => ?_) (fun hge => ?_)
      · exfalso
        have hlt : (0 : Int) < (x.v.l.length : Nat) := by simpa using hlt
        rw [hl] at hlt
        exact absurd hlt (by decide)
      · refine ⟨_, _, _, _, _, AtL_block c4 rfl, fun W5 hW5 => ⟨?_, hW5.k0 k4⟩⟩
        have e1 : lowI x.v = x.v.h + 1 := by unfold lowI; rw [hl]
        have e2 : (exI x.v.l).length = 0 := by rw [hl]; rfl
        have e3 : IntKind.i64.wrap (x.v.h + 1) = x.v.h + 1 := wr64 (by omega) (by omega)
        show Ending.returned (Value.tuple #[.agg #[.string s, .int .i64 (IntKind.i64.wrap (x.v.h + 1)), .int .i64 x.v.h, .int .i64 0, .bool x.v.c], .int .i64 0]) = .returned (.tuple #[.agg #[.string s, .int .i64 (lowI x.v), .int .i64 x.v.h, .int .i64 ((exI x.v.l).length : Nat), .bool x.v.c], .int .i64 0])
        rw [e1, e2, e3]; rfl
end

end Go.Proofs.YtgmmoghagpmpfaaGreatDoor

/- Sorting of a row whose elements are one cell: the world behind slices.SortFunc. Generic: no program, no condition. -/
namespace Go.Proofs.YtgmmoghagpmpfaaGreatDoor
open Go.RowKit Go.Sort

theorem grow_of1 {w w' : World} (h : K0 w w') (hd : w.drawn ≤ w'.drawn) : ∃ q os', w' = grow (w.drewN q) os' := by
  refine ⟨w'.drawn - w.drawn, w'.heap.extract w.heap.size w'.heap.size, ?_⟩
  have hh : w'.heap = w.heap ++ w'.heap.extract w.heap.size w'.heap.size := by
    apply Array.ext_getElem?
    intro i
    rw [Array.getElem?_append]
    split
    · rename_i hi; exact h.block i hi (fun h => h)
    · rename_i hi
      rw [Array.getElem?_extract]
      have := h.size
      by_cases hl : i < w'.heap.size
      · rw [if_pos (by omega)]; congr 1; omega
      · rw [if_neg (by omega)]; exact Array.getElem?_eq_none (by omega)
  have h1 := h.os
  have h2 := h.tape
  have h3 := h.output
  obtain ⟨hp, tp, dr, os, out⟩ := w
  obtain ⟨hp', tp', dr', os', out'⟩ := w'
  simp only at hh h1 h2 h3 hd
  subst h1 h2 h3
  simp only [grow, World.drewN]
  congr 1
  omega

theorem sort1_kp {α : Type} [Inhabited α] (enc : α → Value) (w : World) (blk off m : Nat) (dk : Array α) (os : Array Obj) : Kp (· = blk) w (sortWorld enc w blk off m dk os) := by
  have hs : (sortWorld enc w blk off m dk os).heap = ((Sort.ahead w m).heap.modify blk (onCells (putCells enc off dk))) ++ os := rfl
  refine ⟨rfl, rfl, rfl, by rw [hs, Array.size_append, Array.size_modify]; show w.heap.size ≤ w.heap.size + _; omega, fun i hi hne => ?_⟩
  rw [hs, Array.getElem?_append_left (by simpa [Sort.ahead] using hi), Array.getElem?_modify, if_neg (fun e => hne e.symm)]
  rfl
theorem sort1_blk {α : Type} [Inhabited α] (enc : α → Value) (w : World) (blk off m : Nat) (dk : Array α) (os : Array Obj) {cur : Array Value} {t : TypeId} (h : w.heap[blk]? = some (.cells cur t (0, 0))) : ∃ cur' : Array Value, cur'.size = cur.size ∧ (sortWorld enc w blk off m dk os).heap[blk]? = some (.cells cur' t (0, 0)) := by
  have hlt := block_lt h
  refine ⟨putCells enc off dk cur, by simp [putCells], ?_⟩
  show (((Sort.ahead w m).heap.modify blk (onCells (putCells enc off dk))) ++ os)[blk]? = _
  rw [Array.getElem?_append_left (by simpa [Sort.ahead] using hlt), Array.getElem?_modify, if_pos rfl]
  have e : (Sort.ahead w m).heap[blk]? = w.heap[blk]? := rfl
  rw [e, h]
  rfl
/-- A row of one-cell elements, opened. -/
theorem own_holds {α : Type} [Inhabited α] (enc : α → Value) {w : World} {base : Nat} {t : TypeId} {p : Option Addr} {c : Nat} {cs : List α} (ho : w.ownsRow base t 1 (.slice p cs.length c) cs.length (cs.map enc)) (h0 : 0 < cs.length) :
    ∃ (g : Nat) (cur : Array Value), p = some ⟨g, 0, none⟩ ∧ base ≤ g ∧ w.heap[g]? = some (.cells cur t (0, 0)) ∧ cs.length ≤ c ∧ c ≤ maxLen ∧ cur.size = c * 1 ∧ Holds enc w g 0 cs.toArray := by
  rcases ho.2 with ⟨_, hz⟩ | ⟨g, cap, cur, he, hbase, hg, hcap, hmax, hcs, htk⟩
  · omega
  simp only [Value.slice.injEq, true_and] at he
  obtain ⟨rfl, rfl⟩ := he
  refine ⟨g, cur, rfl, hbase, hg, hcap, hmax, hcs, fun j hj => ⟨?_, frozen_block hg _⟩⟩
  have hj' : j < cs.length := by simpa using hj
  rw [Nat.zero_add, cell_block hg]
  have e : (cur.toList.take (cs.length * 1))[j]? = some (enc cs[j]) := by rw [htk, List.getElem?_map, List.getElem?_eq_getElem hj']; rfl
  rw [List.getElem?_take, if_pos (by omega), Array.getElem?_toList] at e
  rw [e, getElem!_pos cs.toArray j hj]
  simp
/-- The row behind the sort. -/
theorem sort1_post {α : Type} [Inhabited α] (enc : α → Value) {w : World} {base g c : Nat} {t : TypeId} {cur : Array Value} {cs : List α} (hb : base ≤ g) (hg : w.heap[g]? = some (.cells cur t (0, 0))) (hcap : cs.length ≤ c) (hmax : c ≤ maxLen) (hcs : cur.size = c * 1) (hH : Holds enc w g 0 cs.toArray)
    {d : Array α} {m : Nat} {os : Array Obj} (hp : PermIn 0 cs.toArray.size cs.toArray d) :
    d.toList.Perm cs ∧ (sortWorld enc w g 0 m d os).ownsRow base t 1 (.slice (some ⟨g, 0, none⟩) d.toList.length c) d.toList.length (d.toList.map enc) := by
  have hs1 : d.size = cs.length := by simpa using hp.1
  have hp' : d.toList.Perm cs := by
    have h1 := hp.1
    have h2 := hp.2.2
    rw [show d.extract 0 cs.toArray.size = d from by rw [← h1]; exact Array.extract_size] at h2
    rw [show cs.toArray.extract 0 cs.toArray.size = cs.toArray from Array.extract_size] at h2
    exact h2
  refine ⟨hp', ?_⟩
  have hlen : d.toList.length = cs.length := hp'.length_eq
  obtain ⟨cur', hc1, hc2⟩ := sort1_blk enc w g 0 m d os hg
  refine ⟨by simp, .inr ⟨g, c, cur', rfl, hb, hc2, by omega, hmax, by rw [hc1, hcs], ?_⟩⟩
  have hHo := holds_sortWorld enc w g 0 m cs.toArray d os (block_lt hg) hH hp.1
  apply List.ext_getElem?
  intro j
  rw [List.getElem?_take]
  rcases Nat.lt_or_ge j d.toList.length with ht | ht
  · rw [if_pos (by omega)]
    have h1 := (hHo j (by simpa using ht)).1
    rw [Nat.zero_add, cell_block hc2, getElem!_pos d j (by simpa using ht)] at h1
    rw [Array.getElem?_toList, h1, List.getElem?_map, List.getElem?_eq_getElem ht]
    simp
  · rw [if_neg (by omega), List.getElem?_eq_none (by simpa using ht)]
theorem sorted_pw {α : Type} [Inhabited α] {lt : α → α → Bool} {d : Array α} {n : Nat} (hn : d.size = n) (h : SortedIn lt 0 n d) : d.toList.Pairwise fun x y => lt y x = false := by
  rw [List.pairwise_iff_getElem]
  intro i j hi hj hij
  have := h i j (Nat.zero_le _) hij (by rw [← hn]; simpa using hj)
  have e1 : d[i]! = d.toList[i] := by rw [getElem!_pos d i (by simpa using hi)]; simp
  have e2 : d[j]! = d.toList[j] := by rw [getElem!_pos d j (by simpa using hj)]; simp
  rw [e1, e2] at this
  exact this

end Go.Proofs.YtgmmoghagpmpfaaGreatDoor

/- Chapter 27: names sorted. Names are not too long; the library's variable MaxLen holds a number. -/
namespace Go.Proofs.YtgmmoghagpmpfaaGreatDoor
open Go.RowKit Go.Maps Go.Sort

/-- Names that are not too long. -/
abbrev NmX := {s : ByteArray // s.size ≤ 1073741824}
instance : Inhabited NmX := ⟨⟨⟨#[]⟩, by show 0 ≤ 1073741824; omega⟩⟩
def encN (a : NmX) : Value := .string a.1
theorem encN_one : OneCell encN := fun _ => rfl
def cfN (x y : NmX) : Int := gnC x.1 y.1
theorem cfN_ord : Ord3 cfN := ⟨fun x y => gnC_ord.anti x.1 y.1, fun x y z => gnC_ord.tlt x.1 y.1 z.1, fun x y z => gnC_ord.el x.1 y.1 z.1, fun x y z => gnC_ord.le x.1 y.1 z.1⟩
theorem cfN_swo : SWO (ltOf cfN) := cfN_ord.swo
set_option maxHeartbeats 1000000 in
theorem nsort_any (cs : List NmX) (p : Option Addr) (c : Nat) (w : World) {base : Nat} (ho : w.ownsRow base 9 1 (.slice p cs.length c) cs.length (cs.map encN)) (hl : cs.length ≤ 1000000) (hG : GW w) :
    Calls Tryz.prog 51 #[.slice p cs.length c, .func (.func 52) #[] #[]] w fun e w' => e = .returned (.tuple #[]) ∧
      ∃ cs' : List NmX, cs'.Perm cs ∧ (cs'.Pairwise fun x y => ¬ cfN y x < 0) ∧ w'.ownsRow base 9 1 (.slice p cs'.length c) cs'.length (cs'.map encN) ∧ Kp (fun i => (Value.slice p cs.length c).ownBlock = some i) w w' := by
  rcases Nat.eq_zero_or_pos cs.length with h0 | h0
  · have : cs = [] := List.eq_nil_of_length_eq_zero h0
    subst this
    exact (Tryz.slices_SortFunc_none (α := NmX) p c _ w).mono fun e w' ⟨he, hw⟩ => ⟨he, [], .refl _, .nil, by rw [hw]; exact ho, by rw [hw]; exact .refl _ _⟩
  obtain ⟨g, cur, rfl, hbase, hg, hcap, hmax, hcs, hH⟩ := own_holds encN ho h0
  have hng : ¬ 0 = g := fun e => by
    obtain ⟨mm, hm⟩ := hG
    have h1 := (hH 0 (by simpa using h0)).1
    rw [← e] at h1
    have h2 := hm.symm.trans h1
    cases h2
  have eg : ∀ args w, (callFunc 52 args).run Tryz.prog w = .ok (.enter 52 args) w := enters_of Tryz.func52 (by kernel_rfl) rfl
  have hcmp : CmpLays1 Tryz.prog 52 #[] encN cfN g 0 cs.toArray.size w := fun m os dk _ x y => by
    have hk := sort1_kp encN w g 0 m dk os
    exact (gncmp1_any x.1 y.1 _ x.2 y.2 (hG.kp hk hng)).mono fun e w' ⟨he, hk, hd⟩ => ⟨he, grow_of1 hk hd⟩
  have hS := Tryz.slices_SortFunc encN encN_one cfN cfN_swo 52 #[] g 0 c cs.toArray w eg hcmp hH (block_lt hg) (by simp; omega)
  change Calls Tryz.prog 51 #[.slice (some ⟨g, 0, none⟩) cs.length c, .func (.func 52) #[] #[]] w _ at hS
  refine hS.mono fun e w' ⟨he, d, m, os, hperm, hsort, hw⟩ => ?_
  obtain ⟨hp, hrow⟩ := sort1_post encN hbase hg hcap hmax hcs hH (m := m) (os := os) hperm
  refine ⟨he, d.toList, hp, ?_, by rw [hw]; exact hrow, by rw [hw]; exact (sort1_kp encN w g 0 m d os).mono fun i _ e => by rw [e]; rfl⟩
  refine (sorted_pw hperm.1 hsort).imp fun {x y} h hc => ?_
  have h : decide (cfN y x < 0) = false := h
  rw [decide_eq_true hc] at h
  cases h

end Go.Proofs.YtgmmoghagpmpfaaGreatDoor

/- The formulas of functions by the symbolic evaluator, and that each gives the call's contract. Written by a program (gen.py). No condition. -/
namespace Go.Proofs.YtgmmoghagpmpfaaGreatDoor
set_option maxRecDepth 100000
set_option linter.unusedVariables false

end Go.Proofs.YtgmmoghagpmpfaaGreatDoor

/- Chapter 27: the contracts of Groups, Equal, Clone. The library's variable MaxLen holds a number. -/
namespace Go.Proofs.YtgmmoghagpmpfaaGreatDoor
open Go.RowKit Go.Maps Go.Sort

theorem name_size {s : ByteArray} (h : gnE s = 0) : s.size ≤ 80 := by
  unfold gnE at h
  split at h
  · cases h
  · omega
section
variable {w : World} {B b mb : Nat} {m : TM} {A : TA}
theorem Tq.keyOf (h : Tq w B b mb m A) {q : ByteArray × Gx} (hq : q ∈ m) : aget m q.1 = some q.2 ∧ q.1.size ≤ 1073741824 ∧ gnE q.1 = 0 := by
  have h1 := aget_at h.z.dis (show (q.1, q.2) ∈ m from hq)
  have h2 := (h.wf.get (h.getS h1)).1
  exact ⟨h1, by have := name_size h2; omega, h2⟩
theorem Tq.names (h : Tq w B b mb m A) : (m.map (·.1)).Perm (A.map (·.1)) := by
  have := h.prm.map (·.1)
  have e : (amap Gx.v m).map (·.1) = m.map (·.1) := by unfold amap; rw [List.map_map]; rfl
  rw [e] at this
  exact this
theorem erase_perm27 {α : Type} : ∀ (l : List α) (j : Nat) (x : α), l[j]? = some x → (x :: l.eraseIdx j).Perm l
  | [], _, _, h => by simp at h
  | y :: r, 0, x, h => by
    have e : y = x := by simpa using h
    subst e; exact .refl _
  | y :: r, j + 1, x, h => by
    rw [List.eraseIdx_cons_succ]
    exact (List.Perm.swap y x _).trans ((erase_perm27 r j x (by simpa using h)).cons y)
set_option maxHeartbeats 1000000 in
theorem acgroups_any (h : Tq w B b mb m A) (hG : GW w) : Calls Tryz.prog 18 #[.pointer (some ⟨b, 0, none⟩)] w fun e w' => (∃ p c, e = .returned (.slice p (A.map (·.1)).length c) ∧ w'.ownsRow w.heap.size 9 1 (.slice p (A.map (·.1)).length c) (A.map (·.1)).length ((A.map (·.1)).map .string)) ∧ K0 w w' := by
  have hbw := block_lt h.z.st
  have hmw := h.z.mm.lt
  have hml : m.length ≤ 4096 := by rw [h.length]; exact h.len
  obtain ⟨r, w1, hrun, hR, k1, gr, rlt⟩ := h.z.mm.range (t := 97) Tryz.underlying97
  refine vc_acgroups b w _ ⟨some mb, h.z.cM, r, w1, hrun, .of_k0 k1, ?_⟩
  refine ⟨fun vs w' => ∃ (cs : List NmX) (todo : TM) (p : Option Addr) (c : Nat), vs = [.slice p cs.length c] ∧ RngB Value.string w' r mb (amap gxV todo) ∧ todo.Sublist m ∧ cs.length + todo.length ≤ m.length ∧ (cs.map (·.1) ++ todo.map (·.1)).Perm (m.map (·.1)) ∧
      w'.ownsRow w1.heap.size 9 1 (.slice p cs.length c) cs.length (cs.map encN) ∧ Kp (· = r) w1 w',
    fun _ w' => leftN w' r mb, ⟨[], m, none, 0, rfl, hR, .refl _, by simp, .refl _, World.ownsRow_nil _ _ _ _, .refl _ _⟩, ?_⟩
  rintro p0 n0 c0 w2 ⟨cs, todo, p, c, hv, hR2, hsub, hlen, hperm, ho2, k2⟩
  simp only [List.cons.injEq, Value.slice.injEq, and_true] at hv
  obtain ⟨rfl, rfl, rfl⟩ := hv
  have kw2 : K0 w w2 := k1.fresh k2 (fun j hj e => by omega)
  rcases hR2.next (P := Tryz.prog) with ⟨hnil, hnx⟩ | ⟨j, q, w3, hj, hnx, hent, hR3, k3⟩
  · have htodo : todo = [] := by
      cases todo with
      | nil => rfl
      | cons x t => simp [amap] at hnil
    subst htodo
    refine ⟨false, [], w2, hnx, .refl _ _, bsp_intro (fun h => by cases h) (fun _ => ?_)⟩
    refine ⟨(nsort_any cs p0 c0 w2 ho2 (by omega) (hG.kp kw2 (fun h => h))).mono fun e w3 ⟨he, cs', hp, hs, ho3, k3⟩ => ⟨he, ⟨k3.size, fun x hx => by cases hx⟩, ?_, kw2.fresh k3 (fun j hj e => by have := own_ge ho2 e; have := k1.size; omega)⟩⟩
    rw [List.map_nil, List.append_nil] at hperm
    have e1 : cs'.map (·.1) = A.map (·.1) := by
      refine perm_sorted_eq (R := fun x y => ¬ gnC y x < 0) (fun x y h1 h2 => ?_) _ _ (((hp.map _).trans hperm).trans h.names) ?_ ?_
      · have := gnC_ord.anti x y
        exact gnC_eq x y (by omega)
      · rw [List.pairwise_map]; exact hs
      · rw [List.pairwise_map]
        refine h.wf.sort.imp (fun {a b} h1 h2 => ?_)
        have := gnC_ord.anti a.1 b.1
        omega
    have e2 : cs.length = (A.map (·.1)).length := by rw [← e1, List.length_map, hp.length_eq]
    have e3 : cs'.map encN = (A.map (·.1)).map Value.string := by rw [← e1, List.map_map]; rfl
    rw [hp.length_eq, e2, e3] at ho3
    rw [e2]
    exact ⟨p0, c0, rfl, own_base ho3 k1.size⟩
  · have hj' : ((todo.map fun p => (p.1, gxV p.2)))[j]? = some q := hj
    rw [List.getElem?_map, Option.map_eq_some_iff] at hj'
    obtain ⟨q, hqj, rfl⟩ := hj'
    have hmem : q ∈ m := hsub.subset (List.mem_of_getElem? hqj)
    obtain ⟨hq1, hq2, _⟩ := h.keyOf hmem
    have her : (amap gxV todo).eraseIdx j = amap gxV (todo.eraseIdx j) := by unfold amap; rw [map_erase']
    rw [her] at hR3
    have hjl := (List.getElem?_eq_some_iff.1 hqj).1
    have helen : (todo.eraseIdx j).length = todo.length - 1 := List.length_eraseIdx_of_lt hjl
    have hl2 := hR2.left
    have hlam : (amap gxV todo).length = todo.length := by simp [amap]
    have hlam3 : (amap gxV (todo.eraseIdx j)).length = todo.length - 1 := by simp [amap, helen]
    have hr3 : r < w3.heap.size := by have := k2.size; have := k3.size; omega
    refine ⟨true, _, w3, hnx, ⟨k3.size, fun x hx => by cases hx⟩, bsp_intro (fun _ => ?_) (fun h => by cases h)⟩
    have ho3 := owns_kp ho2 k3 (fun k hk e => by have := own_ge ho2 hk; omega)
    refine ⟨q.1, _, _, _, _, _, hent, fun n4 W5 hW5 => ?_⟩
    have k5 : K0 w3 W5 := hW5.kk rfl
    have ho5 := owns_kp ho3 k5 (fun _ _ h => h)
    have e1 : cs.length + 1 = (cs ++ [(⟨q.1, hq2⟩ : NmX)]).length := by simp
    refine ⟨w1.heap.size, cs.map encN, ho5, by omega, by omega, Nat.le_trans k2.size (Nat.le_trans k3.size k5.size), fun p' c' w6 ho6 hg6 _ => ⟨⟨(kp_grown hg6).size, fun x hx => by cases hx⟩, ⟨cs ++ [⟨q.1, hq2⟩], todo.eraseIdx j, p', c', by rw [← e1], ?_, ((List.eraseIdx_sublist _ _).trans hsub), by rw [← e1, helen]; omega, ?_, by rw [← e1, List.map_append]; exact ho6, ?_⟩, ?_⟩⟩
    · exact (hR3.kp k5 (fun h => h) (fun h => h)).kp (kp_grown hg6) (fun e => by have := own_ge ho5 e; omega) (fun e => by have := own_ge ho5 e; have := k1.size; omega)
    · rw [List.map_append, List.append_assoc]
      refine (List.Perm.append_left _ ?_).trans hperm
      exact ((erase_perm27 todo j q hqj).map (·.1))
    · exact ((k2.trans k3).trans (k5.mono fun _ _ e => e.elim)).fresh (kp_grown hg6) (fun j hj e => by have := own_ge ho5 e; omega)
    · have hr6 := ((hR3.kp k5 (fun h => h) (fun h => h)).kp (kp_grown hg6) (fun e => by have := own_ge ho5 e; omega) (fun e => by have := own_ge ho5 e; have := k1.size; omega)).left
      show leftN w6 r mb < leftN w2 r mb
      rw [hr6, hl2, hlam, hlam3]
      omega
set_option maxHeartbeats 1000000 in
theorem acequal_any {B2 d md : Nat} {m2 : TM} {A2 : TA} (h : Tq w B b mb m A) (g : Tq w B2 d md m2 A2) : Calls Tryz.prog 24 #[.pointer (some ⟨b, 0, none⟩), .pointer (some ⟨d, 0, none⟩)] w fun e w' => (∃ r : Bool, e = .returned (.bool r) ∧ (r = true ↔ A = A2)) ∧ K0 w w' := by
  have kk : ∀ {W : World}, Loc w.heap.size [] w W → K0 w W := fun hW => hW.kk rfl
  have hl1 : (amap gxV m).length = A.length := by rw [← h.length]; simp [amap]
  have hl2 : (amap gxV m2).length = A2.length := by rw [← g.length]; simp [amap]
  refine vc_acequal b d w _ ⟨some mb, fun W hW => (h.k0 (kk hW)).z.cM, (A.length : Int), fun W hW => ?_, some md, fun W hW => (g.k0 (kk hW)).z.cM, (A2.length : Int), fun W hW => ?_, bsp_intro (fun hb W hW => ?_) (fun hb => ⟨some mb, fun W hW => (h.k0 (kk hW)).z.cM, fun W hW => ?_⟩)⟩
  · have := mapLen (h.k0 (kk hW)).z.mm (t := 97) Tryz.underlying97
    rw [hl1] at this
    exact this
  · have := mapLen (g.k0 (kk hW)).z.mm (t := 97) Tryz.underlying97
    rw [hl2] at this
    exact this
  · refine ⟨⟨false, rfl, (fun e => by cases e), fun e => ?_⟩, kk hW⟩
    rw [e] at hb
    simp at hb
  have hlen : A.length = A2.length := by simp at hb; omega
  have kW := kk hW
  have hmw := (h.k0 kW).z.mm.lt
  obtain ⟨r, w1, hrun, hR, k1, gr, rlt⟩ := (h.k0 kW).z.mm.range (t := 97) Tryz.underlying97
  refine ⟨r, w1, hrun, .of_k0 k1, ?_⟩
  refine ⟨fun vs w' => ∃ todo : TM, vs = [] ∧ RngB Value.string w' r mb (amap gxV todo) ∧ todo.Sublist m ∧ (∀ p ∈ m, p ∈ todo ∨ aget A2 p.1 = some p.2.v) ∧ Kp (· = r) w1 w',
    fun _ w' => leftN w' r mb, ⟨m, rfl, hR, .refl _, (fun p hp => .inl hp), .refl _ _⟩, ?_⟩
  rintro w2 ⟨todo, _, hR2, hsub, hdone, k2⟩
  have kw2 : K0 w w2 := (kW.trans k1).fresh k2 (fun j hj e => by have := kW.size; omega)
  rcases hR2.next (P := Tryz.prog) with ⟨hnil, hnx⟩ | ⟨j, q, w3, hj, hnx, hent, hR3, k3⟩
  · have htodo : todo = [] := by
      cases todo with
      | nil => rfl
      | cons x t => simp [amap] at hnil
    subst htodo
    refine ⟨false, [], w2, hnx, .refl _ _, bsp_intro (fun h => by cases h) (fun _ => ⟨⟨true, rfl, fun _ => ?_, fun _ => rfl⟩, kw2⟩)⟩
    refine sub_eq h.wf g.wf hlen (fun p hp => ?_)
    have hp2 := aget_at h.wf.dis (show (p.1, p.2) ∈ A from hp)
    have hgm := h.get p.1
    rw [hp2] at hgm
    cases hx : aget m p.1 with
    | none => rw [hx] at hgm; cases hgm
    | some x =>
      rw [hx] at hgm
      have e : p.2 = x.v := Option.some.inj hgm
      rcases hdone (p.1, x) (aget_mem hx) with e2 | e2
      · cases e2
      · rw [e2, e]
  · have hj' : ((todo.map fun p => (p.1, gxV p.2)))[j]? = some q := hj
    rw [List.getElem?_map, Option.map_eq_some_iff] at hj'
    obtain ⟨q, hqj, rfl⟩ := hj'
    have hmem : q ∈ m := hsub.subset (List.mem_of_getElem? hqj)
    obtain ⟨hq1, hq2, _⟩ := h.keyOf hmem
    have her : (amap gxV todo).eraseIdx j = amap gxV (todo.eraseIdx j) := by unfold amap; rw [map_erase']
    rw [her] at hR3
    have hjl := (List.getElem?_eq_some_iff.1 hqj).1
    have helen : (todo.eraseIdx j).length = todo.length - 1 := List.length_eraseIdx_of_lt hjl
    have hl3 := hR2.left
    have hlam : (amap gxV todo).length = todo.length := by simp [amap]
    have hlam3 : (amap gxV (todo.eraseIdx j)).length = todo.length - 1 := by simp [amap, helen]
    have k03 : K0 w w3 := kw2.fresh k3 (fun j hj e => by have := kW.size; omega)
    have hgA : aget A q.1 = some q.2.v := h.getS hq1
    refine ⟨true, _, w3, hnx, ⟨k3.size, fun x hx => by cases hx⟩, bsp_intro (fun _ => ?_) (fun h => by cases h)⟩
    refine ⟨q.1, q.2.v.h, q.2.v.c, q.2.p, q.2.v.l.length, q.2.c, hent, fun n1 => ?_⟩
    have k1' : ∀ {n : Nat} {t : TypeId} {cs : List Value} {W : World}, Loc w.heap.size [Blk.mk n t cs (wrM 2)] w3 W → K0 w W := fun hW => hW.k0 k03
    cases hx : aget m2 q.1 with
    | none =>
      have hlk : ∀ {W : World}, K0 w W → LookP Tryz.prog 97 (.map (some md)) (.string q.1) true (.tuple #[gxV gxz, .bool false]) W := fun k => by
        have := (g.k0 k).z.look1 hq2
        rw [hx] at this
        exact this
      refine ⟨some md, fun W hW => (g.k0 (k1' hW)).z.cM, _, _, _, _, _, _, fun W hW => hlk (k1' hW), fun n4 => ⟨0, gimp_intro (fun h => by cases h), 0, gimp_intro (fun h => by cases h), false, gimp_intro (fun h => by cases h), false, gimp_intro (fun h => by cases h), none, 0, 0, gimp_intro (fun h => by cases h), none, 0, 0, gimp_intro (fun h => by cases h), fun W hW => bsp_intro (fun h => by cases h) (fun _ => ⟨.refl _ _, ⟨false, rfl, (fun e => by cases e), fun e => ?_⟩, hW.k0 k03⟩)⟩⟩
      rw [e, g.getN hx] at hgA
      cases hgA
    | some y =>
      have hlk : ∀ {W : World}, K0 w W → LookP Tryz.prog 97 (.map (some md)) (.string q.1) true (.tuple #[gxV y, .bool true]) W := fun k => by
        have := (g.k0 k).z.look1 hq2
        rw [hx] at this
        exact this
      have hgB := g.getS hx
      refine ⟨some md, fun W hW => (g.k0 (k1' hW)).z.cM, _, _, _, _, _, _, fun W hW => hlk (k1' hW), fun n4 => ⟨q.2.v.h, gimp_intro (fun _ W hW => cell_at (hW.cells 1 rfl) rfl), y.v.h, gimp_intro (fun _ W hW => cell_at (hW.cells 0 rfl) rfl), q.2.v.c, gimp_intro (fun _ W hW => cell_at (hW.cells 1 rfl) rfl), y.v.c, gimp_intro (fun _ W hW => cell_at (hW.cells 0 rfl) rfl), q.2.p, q.2.v.l.length, q.2.c, gimp_intro (fun _ W hW => cell_at (hW.cells 1 rfl) rfl), y.p, y.v.l.length, y.c, gimp_intro (fun _ W hW => cell_at (hW.cells 0 rfl) rfl), fun W hW => bsp_intro (fun hc => ?_) (fun hc => ?_)⟩⟩
      · have k0W : K0 w W := hW.k0 k03
        have hch : q.2.v.h = y.v.h ∧ q.2.v.c = y.v.c := by
          simp at hc
          exact hc
        refine ⟨(ivequal_any q.2.v.l y.v.l q.2.p y.p q.2.c y.c W ((h.rowOf hq1).k0 k0W) ((g.rowOf hx).k0 k0W) (by have := h.lenOf hq1; omega) (by have := g.lenOf hx; omega)).mono fun e w5 ⟨⟨rr, he, hrr⟩, k5⟩ => ⟨rr, he, .of_k0 k5, bsp_intro (fun hd => ?_) (fun hd => ?_)⟩⟩
        · have hd : rr = false := by simpa using hd
          refine ⟨⟨false, rfl, (fun e => by cases e), fun e => ?_⟩, k0W.trans k5⟩
          rw [e, hgB] at hgA
          have : y.v = q.2.v := Option.some.inj hgA
          rw [hd] at hrr
          exact absurd (hrr.2 (by rw [this])) (by simp)
        · have hd : rr = true := by simpa using hd
          have hll := hrr.1 hd
          have hvv : y.v = q.2.v := by
            obtain ⟨⟨a1, a2, a3⟩, a4, a5⟩ := y
            obtain ⟨q1, ⟨⟨b1, b2, b3⟩, b4, b5⟩⟩ := q
            simp only at hch hll ⊢
            rw [hch.1, hch.2, hll]
          have kk5 : K0 w3 w5 := (hW.kk rfl : K0 w3 W).trans k5
          have hR5 := hR3.kp kk5 (fun h => h) (fun h => h)
          refine ⟨⟨todo.eraseIdx j, rfl, hR5, ((List.eraseIdx_sublist _ _).trans hsub), fun p hp => ?_, (k2.trans k3).trans (kk5.mono fun _ _ e => e.elim)⟩, ?_⟩
          · rcases hdone p hp with e | e
            · rcases List.mem_cons.1 ((erase_perm27 todo j q hqj).mem_iff.2 e) with e2 | e2
              · subst e2
                exact .inr (by rw [hgB, hvv])
              · exact .inl e2
            · exact .inr e
          · show leftN w5 r mb < leftN w2 r mb
            rw [hR5.left, hl3, hlam, hlam3]
            omega
      · refine ⟨.refl _ _, ⟨false, rfl, (fun e => by cases e), fun e => ?_⟩, hW.k0 k03⟩
        rw [e, hgB] at hgA
        have : y.v = q.2.v := Option.some.inj hgA
        rw [this] at hc
        simp at hc
end

end Go.Proofs.YtgmmoghagpmpfaaGreatDoor

/- The formulas of functions by the symbolic evaluator, and that each gives the call's contract. Written by a program (gen.py). No condition. -/
namespace Go.Proofs.YtgmmoghagpmpfaaGreatDoor
set_option maxRecDepth 100000
set_option linter.unusedVariables false

def VC_acrtext (p : Option Addr) (n : Nat) (c : Nat) (w : World) (R : Ending → World → Prop) : Prop :=
 ∃ (I : List Value → World → Prop),
 ∃ (m : List Value → World → Nat),
 I [Value.int IntKind.i64 0, Value.slice none 0 0] w ∧
 ∀ (x : Int) (p_1 : Option Addr) (n_1 c : Nat) (w' : World),
 I [Value.int IntKind.i64 x, Value.slice p_1 n_1 c] w' →
 bsp (decide (x < (↑n : Int)))
 (nn true p fun (b o : Nat) =>
 (0 ≤ x ∧ x < (↑n : Int)) ∧
 ∃ (x_1 : Int),
 ∃ (x_2 : Int),
 AtL w' b (o + x.toNat * 2) [Value.int IntKind.i64 x_1, Value.int IntKind.i64 x_2] ∧
 ∀ (n : Nat) (W : World),
 Loc w.heap.size [Blk.mk n 105 [Value.int IntKind.i64 x_1, Value.int IntKind.i64 x_2] (wrM 2)] w' W →
 CallsS Tryz.prog 46 #[Value.int IntKind.i64 x_1] W fun (e : Ending) (w'_1 : World) =>
 ∃ (x_3 : ByteArray),
 e = Ending.returned (Value.string x_3) ∧
 KeptL [n] W w'_1 ∧
 bsp (decide (x_2 > x_1))
 (CallsS Tryz.prog 46 #[Value.int IntKind.i64 x_2] w'_1 fun (e : Ending) (w'_2 : World) =>
 ∃ (x_4 : ByteArray),
 e = Ending.returned (Value.string x_4) ∧
 KeptL [n] w'_1 w'_2 ∧
 (9223372036854775807 - (↑((ByteArray.mk #[45]).size + x_4.size) : Int)).NonNeg ∧
 (9223372036854775807 - (↑(x_3.size + (ByteArray.mk #[45] ++ x_4).size) : Int)).NonNeg ∧
 ∀ (n_2 : Nat) (W : World),
 Loc w.heap.size
 [Blk.mk n_2 9 [Value.string (x_3 ++ (ByteArray.mk #[45] ++ x_4))] 2,
 Blk.mk n 105 [Value.int IntKind.i64 x_1, Value.int IntKind.i64 x_2] 0]
 w'_2 W →
 ∃ (base : Nat),
 ∃ (xs : List Value),
 W.ownsRow base 9 1 (Value.slice p_1 n_1 c) n_1 xs ∧
 n_1 + 1 ≤ 9223372036854775807 ∧
 (n_1 + 1) * 16 ≤ 140737488355328 ∧
 base ≤ W.heap.size ∧
 ∀ (p' : Option Addr) (c' : Nat) (w'_3 : World),
 w'_3.ownsRow base 9 1 (Value.slice p' (n_1 + 1) c') (n_1 + 1)
 (xs ++ [Value.string (x_3 ++ (ByteArray.mk #[45] ++ x_4))]) →
 W.grownBy w'_3 (Value.slice p_1 n_1 c).ownBlock →
 AppL W p_1 n_1 c 1 p' c' →
 KeptL [n] W w'_3 ∧
 I [Value.int IntKind.i64 (IntKind.i64.wrap (x + 1)), Value.slice p' (n_1 + 1) c']
 w'_3 ∧
 m [Value.int IntKind.i64 (IntKind.i64.wrap (x + 1)), Value.slice p' (n_1 + 1) c']
 w'_3 <
 m [Value.int IntKind.i64 x, Value.slice p_1 n_1 c] w')
 (∀ (n_2 : Nat) (W : World),
 Loc w.heap.size
 [Blk.mk n_2 9 [Value.string x_3] 2,
 Blk.mk n 105 [Value.int IntKind.i64 x_1, Value.int IntKind.i64 x_2] 0]
 w'_1 W →
 ∃ (base : Nat),
 ∃ (xs : List Value),
 W.ownsRow base 9 1 (Value.slice p_1 n_1 c) n_1 xs ∧
 n_1 + 1 ≤ 9223372036854775807 ∧
 (n_1 + 1) * 16 ≤ 140737488355328 ∧
 base ≤ W.heap.size ∧
 ∀ (p' : Option Addr) (c' : Nat) (w'_2 : World),
 w'_2.ownsRow base 9 1 (Value.slice p' (n_1 + 1) c') (n_1 + 1) (xs ++ [Value.string x_3]) →
 W.grownBy w'_2 (Value.slice p_1 n_1 c).ownBlock →
 AppL W p_1 n_1 c 1 p' c' →
 KeptL [n] W w'_2 ∧
 I [Value.int IntKind.i64 (IntKind.i64.wrap (x + 1)), Value.slice p' (n_1 + 1) c'] w'_2 ∧
 m [Value.int IntKind.i64 (IntKind.i64.wrap (x + 1)), Value.slice p' (n_1 + 1) c'] w'_2 <
 m [Value.int IntKind.i64 x, Value.slice p_1 n_1 c] w'))
 (CallsS Tryz.prog 49 #[Value.slice p_1 n_1 c, Value.string (ByteArray.mk #[44])] w'
 fun (e : Ending) (w'_1 : World) =>
 ∃ (x : ByteArray),
 e = Ending.returned (Value.string x) ∧ KeptL [] w' w'_1 ∧ R (Ending.returned (Value.string x)) w'_1)
theorem vc_acrtext (p : Option Addr) (n : Nat) (c : Nat) (w : World) (R : Ending → World → Prop) (h : VC_acrtext p n c w R) : Calls Tryz.prog 47 ([Value.slice
    p n c] : List Value).toArray w R := by
  have e : execR2 { P := Tryz.prog, loops := [(3, [(9, Ck.int IntKind.i64), (3, Ck.slice)])], pur := pur1, tails := [], joins := [], boxes := [] } Tryz.f47.results.toList R (Tryz.f47.body.getD .skip) (initF [Value.slice
    p n c] (Tryz.f47.ntmps - ([Value.slice p n c] : List Value).length)) w = VC_acrtext p n c w R := by kernel_rfl
  have hb : Tryz.f47.body = some (Tryz.f47.body.getD .skip) := by kernel_rfl
  exact calls_of_exec2' (P := Tryz.prog) (fn := Tryz.f47) (c := Tryz.f47.body.getD .skip) (args := [Value.slice p n
    c]) (w := w) (R := R) pur1_ok Tryz.func47 hb e h

def VC_acpranges (s : ByteArray) (zh : Int) (w : World) (R : Ending → World → Prop) : Prop :=
 CallsS Tryz.prog 68 #[Value.string s, Value.string (ByteArray.mk #[44])] w fun (e : Ending) (w' : World) =>
 ∃ (p : Option Addr),
 ∃ (n : Nat),
 ∃ (c : Nat),
 e = Ending.returned (Value.slice p n c) ∧
 KeptL [] w w' ∧
 ∃ (I : List Value → World → Prop),
 ∃ (m : List Value → World → Nat),
 I [Value.int IntKind.i64 0, Value.slice none 0 0, Value.int IntKind.i64 1] w' ∧
 ∀ (x : Int) (p_1 : Option Addr) (n_1 c : Nat) (x_1 : Int) (w' : World),
 I [Value.int IntKind.i64 x, Value.slice p_1 n_1 c, Value.int IntKind.i64 x_1] w' →
 bsp (decide (x < (↑n : Int)))
 (nn true p fun (b o : Nat) =>
 (0 ≤ x ∧ x < (↑n : Int)) ∧
 ∃ (x_2 : ByteArray),
 w'.cell? (Addr.mk b (o + x.toNat) none) = some (Value.string x_2) ∧
 CallsS Tryz.prog 42 #[Value.string x_2, Value.string (ByteArray.mk #[45])] w'
 fun (e : Ending) (w'_1 : World) =>
 ∃ (x_3 : ByteArray),
 ∃ (x_4 : ByteArray),
 ∃ (x_5 : Bool),
 e = Ending.returned (Value.tuple #[Value.string x_3, Value.string x_4, Value.bool x_5]) ∧
 KeptL [] w' w'_1 ∧
 CallsS Tryz.prog 69 #[Value.string x_3, Value.int IntKind.i64 zh] w'_1
 fun (e : Ending) (w'_2 : World) =>
 ∃ (x_6 : Int),
 ∃ (x_7 : Int),
 e = Ending.returned (Value.tuple #[Value.int IntKind.i64 x_6, Value.int IntKind.i64 x_7]) ∧
 KeptL [] w'_1 w'_2 ∧
 bsp (x_7 != 0 || decide (x_6 < x_1))
 (R (Ending.returned (Value.tuple #[Value.slice none 0 0, Value.bool false])) w'_2)
 (bsp x_5
 (CallsS Tryz.prog 69 #[Value.string x_4, Value.int IntKind.i64 zh] w'_2
 fun (e : Ending) (w'_3 : World) =>
 ∃ (x_8 : Int),
 ∃ (x_9 : Int),
 e =
 Ending.returned
 (Value.tuple #[Value.int IntKind.i64 x_8, Value.int IntKind.i64 x_9]) ∧
 KeptL [] w'_2 w'_3 ∧
 bsp (x_9 != 0 || decide (x_8 ≤ x_6))
 (R (Ending.returned (Value.tuple #[Value.slice none 0 0, Value.bool false])) w'_3)
 (∀ (n : Nat) (W : World),
 Loc w.heap.size
 [Blk.mk n 105 [Value.int IntKind.i64 x_6, Value.int IntKind.i64 x_8] 2] w'_3 W →
 ∃ (base : Nat),
 ∃ (xs : List Value),
 W.ownsRow base 105 2 (Value.slice p_1 n_1 c) n_1 xs ∧
 n_1 + 1 ≤ 9223372036854775807 ∧
 (n_1 + 1) * 16 ≤ 140737488355328 ∧
 base ≤ W.heap.size ∧
 ∀ (p' : Option Addr) (c' : Nat) (w'_4 : World),
 w'_4.ownsRow base 105 2 (Value.slice p' (n_1 + 1) c') (n_1 + 1)
 (xs ++ [Value.int IntKind.i64 x_6, Value.int IntKind.i64 x_8]) →
 W.grownBy w'_4 (Value.slice p_1 n_1 c).ownBlock →
 AppL W p_1 n_1 c 1 p' c' →
 KeptL [] W w'_4 ∧
 I
 [Value.int IntKind.i64 (IntKind.i64.wrap (x + 1)),
 Value.slice p' (n_1 + 1) c',
 Value.int IntKind.i64 (IntKind.i64.wrap (x_8 + 2))]
 w'_4 ∧
 m
 [Value.int IntKind.i64 (IntKind.i64.wrap (x + 1)),
 Value.slice p' (n_1 + 1) c',
 Value.int IntKind.i64 (IntKind.i64.wrap (x_8 + 2))]
 w'_4 <
 m
 [Value.int IntKind.i64 x, Value.slice p_1 n_1 c,
 Value.int IntKind.i64 x_1]
 w'))
 (∀ (n : Nat) (W : World),
 Loc w.heap.size [Blk.mk n 105 [Value.int IntKind.i64 x_6, Value.int IntKind.i64 x_6] 2]
 w'_2 W →
 ∃ (base : Nat),
 ∃ (xs : List Value),
 W.ownsRow base 105 2 (Value.slice p_1 n_1 c) n_1 xs ∧
 n_1 + 1 ≤ 9223372036854775807 ∧
 (n_1 + 1) * 16 ≤ 140737488355328 ∧
 base ≤ W.heap.size ∧
 ∀ (p' : Option Addr) (c' : Nat) (w'_3 : World),
 w'_3.ownsRow base 105 2 (Value.slice p' (n_1 + 1) c') (n_1 + 1)
 (xs ++ [Value.int IntKind.i64 x_6, Value.int IntKind.i64 x_6]) →
 W.grownBy w'_3 (Value.slice p_1 n_1 c).ownBlock →
 AppL W p_1 n_1 c 1 p' c' →
 KeptL [] W w'_3 ∧
 I
 [Value.int IntKind.i64 (IntKind.i64.wrap (x + 1)),
 Value.slice p' (n_1 + 1) c',
 Value.int IntKind.i64 (IntKind.i64.wrap (x_6 + 2))]
 w'_3 ∧
 m
 [Value.int IntKind.i64 (IntKind.i64.wrap (x + 1)),
 Value.slice p' (n_1 + 1) c',
 Value.int IntKind.i64 (IntKind.i64.wrap (x_6 + 2))]
 w'_3 <
 m
 [Value.int IntKind.i64 x, Value.slice p_1 n_1 c, Value.int IntKind.i64 x_1]
 w')))
 (R (Ending.returned (Value.tuple #[Value.slice p_1 n_1 c, Value.bool true])) w')
theorem vc_acpranges (s : ByteArray) (zh : Int) (w : World) (R : Ending → World → Prop) (h : VC_acpranges s zh w R) : Calls Tryz.prog 70 ([Value.string
    s,
  Value.int IntKind.i64 zh] : List Value).toArray w R := by
  have e : execR2 { P := Tryz.prog, loops := [(4, [(19, Ck.int IntKind.i64), (6, Ck.slice), (7, Ck.int IntKind.i64)])], pur := pur1, tails := [], joins := [], boxes := [] } Tryz.f70.results.toList R (Tryz.f70.body.getD .skip) (initF [Value.string
    s,
  Value.int IntKind.i64
    zh] (Tryz.f70.ntmps - ([Value.string s,
  Value.int IntKind.i64 zh] : List Value).length)) w = VC_acpranges s zh w R := by kernel_rfl
  have hb : Tryz.f70.body = some (Tryz.f70.body.getD .skip) := by kernel_rfl
  exact calls_of_exec2' (P := Tryz.prog) (fn := Tryz.f70) (c := Tryz.f70.body.getD .skip) (args := [Value.string s,
  Value.int IntKind.i64 zh]) (w := w) (R := R) pur1_ok Tryz.func70 hb e h

def VC_acpline (s : ByteArray) (t : ByteArray) (w : World) (R : Ending → World → Prop) : Prop :=
 ∀ (n : Nat) (W : World),
 Loc w.heap.size [Blk.mk n 94 [Value.int IntKind.i64 0, Value.bool false, Value.slice none 0 0] 2] w W →
 CallsS Tryz.prog 68 #[Value.string s, Value.string (ByteArray.mk #[32])] W fun (e : Ending) (w' : World) =>
 ∃ (p : Option Addr),
 ∃ (n_1 : Nat),
 ∃ (c : Nat),
 e = Ending.returned (Value.slice p n_1 c) ∧
 KeptL [n] W w' ∧
 bsp (!(decide ((↑n_1 : Int) < 3) || decide ((↑n_1 : Int) > 4)))
 (CallsS Tryz.prog 60 #[Value.slice p n_1 c, Value.string (ByteArray.mk #[])] w'
 fun (e : Ending) (w'_1 : World) =>
 ∃ (x : Bool),
 e = Ending.returned (Value.bool x) ∧
 KeptL [n] w' w'_1 ∧
 bsp (false || x)
 (∀ (W : World),
 Loc w.heap.size [Blk.mk n 94 [Value.int IntKind.i64 0, Value.bool false, Value.slice none 0 0] (wrM 0)]
 w'_1 W →
 R
 (Ending.returned
 (Value.tuple
 #[Value.string (ByteArray.mk #[]),
 Value.agg #[Value.int IntKind.i64 0, Value.bool false, Value.slice none 0 0],
 Value.int IntKind.i64 3]))
 W)
 (nn true p fun (b o : Nat) =>
 ((0 : Int) ≤ 0 ∧ 0 < (↑n_1 : Int)) ∧
 ∃ (x : ByteArray),
 w'_1.cell? (Addr.mk b o none) = some (Value.string x) ∧
 CallsS Tryz.prog 64 #[Value.string x] w'_1 fun (e : Ending) (w' : World) =>
 ∃ (x_1 : Int),
 e = Ending.returned (Value.int IntKind.i64 x_1) ∧
 KeptL [n] w'_1 w' ∧
 bsp (x_1 != 0)
 (∀ (W : World),
 Loc w.heap.size
 [Blk.mk n 94 [Value.int IntKind.i64 0, Value.bool false, Value.slice none 0 0] (wrM 0)] w' W →
 R
 (Ending.returned
 (Value.tuple
 #[Value.string (ByteArray.mk #[]),
 Value.agg #[Value.int IntKind.i64 0, Value.bool false, Value.slice none 0 0],
 Value.int IntKind.i64 x_1]))
 W)
 (bsp (!t.toList == [])
 (CallsS Tryz.prog 52 #[Value.string t, Value.string x] w' fun (e : Ending) (w'_2 : World) =>
 ∃ (x_2 : Int),
 e = Ending.returned (Value.int IntKind.i64 x_2) ∧
 KeptL [n] w' w'_2 ∧
 bsp (true && decide (x_2 ≥ 0))
 (∀ (W : World),
 Loc w.heap.size
 [Blk.mk n 94 [Value.int IntKind.i64 0, Value.bool false, Value.slice none 0 0] (wrM 0)]
 w'_2 W →
 R
 (Ending.returned
 (Value.tuple
 #[Value.string (ByteArray.mk #[]),
 Value.agg #[Value.int IntKind.i64 0, Value.bool false, Value.slice none 0 0],
 Value.int IntKind.i64 30]))
 W)
 (nn true p fun (b o : Nat) =>
 ((0 : Int) ≤ 1 ∧ 1 < (↑n_1 : Int)) ∧
 ∃ (x_3 : ByteArray),
 w'_2.cell? (Addr.mk b (o + 1) none) = some (Value.string x_3) ∧
 CallsS Tryz.prog 69 #[Value.string x_3, Value.int IntKind.i64 2147483646] w'_2
 fun (e : Ending) (w' : World) =>
 ∃ (x_4 : Int),
 ∃ (x_5 : Int),
 e =
 Ending.returned
 (Value.tuple #[Value.int IntKind.i64 x_4, Value.int IntKind.i64 x_5]) ∧
 KeptL [n] w'_2 w' ∧
 bsp (x_5 != 0)
 (∀ (W : World),
 Loc w.heap.size
 [Blk.mk n 94 [Value.int IntKind.i64 0, Value.bool false, Value.slice none 0 0]
 (wrM 0)]
 w' W →
 R
 (Ending.returned
 (Value.tuple
 #[Value.string (ByteArray.mk #[]),
 Value.agg
 #[Value.int IntKind.i64 0, Value.bool false, Value.slice none 0 0],
 Value.int IntKind.i64 2]))
 W)
 (nn true p fun (b o : Nat) =>
 ((0 : Int) ≤ 2 ∧ 2 < (↑n_1 : Int)) ∧
 ∃ (x_6 : ByteArray),
 w'.cell? (Addr.mk b (o + 2) none) = some (Value.string x_6) ∧
 nn (!x_6.toList == [(ByteArray.mk #[121]).get! 0]) p fun (b o : Nat) =>
 gimp (!x_6.toList == [(ByteArray.mk #[121]).get! 0])
 ((0 : Int) ≤ 2 ∧ 2 < (↑n_1 : Int)) ∧
 ∃ (x_7 : ByteArray),
 gimp (!x_6.toList == [(ByteArray.mk #[121]).get! 0])
 (w'.cell? (Addr.mk b (o + 2) none) = some (Value.string x_7)) ∧
 bsp
 (!x_6.toList == [(ByteArray.mk #[121]).get! 0] &&
 !x_7.toList == [(ByteArray.mk #[110]).get! 0])
 (∀ (W : World),
 Loc w.heap.size
 [Blk.mk n 94
 [Value.int IntKind.i64 0, Value.bool false, Value.slice none 0 0]
 (wrM 0)]
 w' W →
 R
 (Ending.returned
 (Value.tuple
 #[Value.string (ByteArray.mk #[]),
 Value.agg
 #[Value.int IntKind.i64 0, Value.bool false,
 Value.slice none 0 0],
 Value.int IntKind.i64 3]))
 W)
 (nn true p fun (b o : Nat) =>
 ((0 : Int) ≤ 2 ∧ 2 < (↑n_1 : Int)) ∧
 ∃ (x_8 : ByteArray),
 w'.cell? (Addr.mk b (o + 2) none) = some (Value.string x_8) ∧
 ∀ (n_2 : Nat),
 bsp ((↑n_1 : Int) == 4)
 (nn true p fun (b o : Nat) =>
 ((0 : Int) ≤ 3 ∧ 3 < (↑n_1 : Int)) ∧
 ∃ (x_9 : ByteArray),
 (∀ (W : World),
 Loc w.heap.size
 [Blk.mk n_2 94
 [Value.int IntKind.i64 x_4,
 Value.bool
 (x_8.toList == [(ByteArray.mk #[110]).get! 0]),
 Value.slice none 0 0]
 (wrM 2),
 Blk.mk n 94
 [Value.int IntKind.i64 0, Value.bool false,
 Value.slice none 0 0]
 0]
 w' W →
 W.cell? (Addr.mk b (o + 3) none) =
 some (Value.string x_9)) ∧
 ∀ (W : World),
 Loc w.heap.size
 [Blk.mk n_2 94
 [Value.int IntKind.i64 x_4,
 Value.bool
 (x_8.toList == [(ByteArray.mk #[110]).get! 0]),
 Value.slice none 0 0]
 (wrM 2),
 Blk.mk n 94
 [Value.int IntKind.i64 0, Value.bool false,
 Value.slice none 0 0]
 0]
 w' W →
 CallsS Tryz.prog 70
 #[Value.string x_9, Value.int IntKind.i64 x_4] W
 fun (e : Ending) (w' : World) =>
 ∃ (p : Option Addr),
 ∃ (n_3 : Nat),
 ∃ (c : Nat),
 ∃ (x_10 : Bool),
 e =
 Ending.returned
 (Value.tuple
 #[Value.slice p n_3 c, Value.bool x_10]) ∧
 KeptL [n_2, n] W w' ∧
 bsp (!x_10)
 (∀ (W : World),
 Loc w.heap.size
 [Blk.mk n_2 94
 [Value.int IntKind.i64 x_4,
 Value.bool
 (x_8.toList ==
 [(ByteArray.mk #[110]).get! 0]),
 Value.slice none 0 0]
 0,
 Blk.mk n 94
 [Value.int IntKind.i64 0, Value.bool false,
 Value.slice none 0 0]
 (wrM 0)]
 w' W →
 R
 (Ending.returned
 (Value.tuple
 #[Value.string (ByteArray.mk #[]),
 Value.agg
 #[Value.int IntKind.i64 0, Value.bool false,
 Value.slice none 0 0],
 Value.int IntKind.i64 3]))
 W)
 (∀ (W : World),
 Loc w.heap.size
 [Blk.mk n_2 94
 [Value.int IntKind.i64 x_4,
 Value.bool
 (x_8.toList ==
 [(ByteArray.mk #[110]).get! 0]),
 Value.slice p n_3 c]
 (wrM 0),
 Blk.mk n 94
 [Value.int IntKind.i64 x_4,
 Value.bool
 (x_8.toList ==
 [(ByteArray.mk #[110]).get! 0]),
 Value.slice p n_3 c]
 (wrM 0)]
 w' W →
 R
 (Ending.returned
 (Value.tuple
 #[Value.string x,
 Value.agg
 #[Value.int IntKind.i64 x_4,
 Value.bool
 (x_8.toList ==
 [(ByteArray.mk #[110]).get! 0]),
 Value.slice p n_3 c],
 Value.int IntKind.i64 0]))
 W))
 (∀ (W : World),
 Loc w.heap.size
 [Blk.mk n_2 94
 [Value.int IntKind.i64 x_4,
 Value.bool (x_8.toList == [(ByteArray.mk #[110]).get! 0]),
 Value.slice none 0 0]
 (wrM 2),
 Blk.mk n 94
 [Value.int IntKind.i64 x_4,
 Value.bool (x_8.toList == [(ByteArray.mk #[110]).get! 0]),
 Value.slice none 0 0]
 (wrM 0)]
 w' W →
 R
 (Ending.returned
 (Value.tuple
 #[Value.string x,
 Value.agg
 #[Value.int IntKind.i64 x_4,
 Value.bool (x_8.toList == [(ByteArray.mk #[110]).get! 0]),
 Value.slice none 0 0],
 Value.int IntKind.i64 0]))
 W)))))
 (KeptL [n] w' w' ∧
 nn true p fun (b o : Nat) =>
 ((0 : Int) ≤ 1 ∧ 1 < (↑n_1 : Int)) ∧
 ∃ (x_2 : ByteArray),
 w'.cell? (Addr.mk b (o + 1) none) = some (Value.string x_2) ∧
 CallsS Tryz.prog 69 #[Value.string x_2, Value.int IntKind.i64 2147483646] w'
 fun (e : Ending) (w'_2 : World) =>
 ∃ (x_3 : Int),
 ∃ (x_4 : Int),
 e =
 Ending.returned
 (Value.tuple #[Value.int IntKind.i64 x_3, Value.int IntKind.i64 x_4]) ∧
 KeptL [n] w' w'_2 ∧
 bsp (x_4 != 0)
 (∀ (W : World),
 Loc w.heap.size
 [Blk.mk n 94 [Value.int IntKind.i64 0, Value.bool false, Value.slice none 0 0]
 (wrM 0)]
 w'_2 W →
 R
 (Ending.returned
 (Value.tuple
 #[Value.string (ByteArray.mk #[]),
 Value.agg #[Value.int IntKind.i64 0, Value.bool false, Value.slice none 0 0],
 Value.int IntKind.i64 2]))
 W)
 (nn true p fun (b o : Nat) =>
 ((0 : Int) ≤ 2 ∧ 2 < (↑n_1 : Int)) ∧
 ∃ (x_5 : ByteArray),
 w'_2.cell? (Addr.mk b (o + 2) none) = some (Value.string x_5) ∧
 nn (!x_5.toList == [(ByteArray.mk #[121]).get! 0]) p fun (b o : Nat) =>
 gimp (!x_5.toList == [(ByteArray.mk #[121]).get! 0])
 ((0 : Int) ≤ 2 ∧ 2 < (↑n_1 : Int)) ∧
 ∃ (x_6 : ByteArray),
 gimp (!x_5.toList == [(ByteArray.mk #[121]).get! 0])
 (w'_2.cell? (Addr.mk b (o + 2) none) = some (Value.string x_6)) ∧
 bsp
 (!x_5.toList == [(ByteArray.mk #[121]).get! 0] &&
 !x_6.toList == [(ByteArray.mk #[110]).get! 0])
 (∀ (W : World),
 Loc w.heap.size
 [Blk.mk n 94
 [Value.int IntKind.i64 0, Value.bool false, Value.slice none 0 0]
 (wrM 0)]
 w'_2 W →
 R
 (Ending.returned
 (Value.tuple
 #[Value.string (ByteArray.mk #[]),
 Value.agg
 #[Value.int IntKind.i64 0, Value.bool false, Value.slice none 0 0],
 Value.int IntKind.i64 3]))
 W)
 (nn true p fun (b o : Nat) =>
 ((0 : Int) ≤ 2 ∧ 2 < (↑n_1 : Int)) ∧
 ∃ (x_7 : ByteArray),
 w'_2.cell? (Addr.mk b (o + 2) none) = some (Value.string x_7) ∧
 ∀ (n_2 : Nat),
 bsp ((↑n_1 : Int) == 4)
 (nn true p fun (b o : Nat) =>
 ((0 : Int) ≤ 3 ∧ 3 < (↑n_1 : Int)) ∧
 ∃ (x_8 : ByteArray),
 (∀ (W : World),
 Loc w.heap.size
 [Blk.mk n_2 94
 [Value.int IntKind.i64 x_3,
 Value.bool (x_7.toList == [(ByteArray.mk #[110]).get! 0]),
 Value.slice none 0 0]
 (wrM 2),
 Blk.mk n 94
 [Value.int IntKind.i64 0, Value.bool false,
 Value.slice none 0 0]
 0]
 w'_2 W →
 W.cell? (Addr.mk b (o + 3) none) = some (Value.string x_8)) ∧
 ∀ (W : World),
 Loc w.heap.size
 [Blk.mk n_2 94
 [Value.int IntKind.i64 x_3,
 Value.bool (x_7.toList == [(ByteArray.mk #[110]).get! 0]),
 Value.slice none 0 0]
 (wrM 2),
 Blk.mk n 94
 [Value.int IntKind.i64 0, Value.bool false,
 Value.slice none 0 0]
 0]
 w'_2 W →
 CallsS Tryz.prog 70
 #[Value.string x_8, Value.int IntKind.i64 x_3] W
 fun (e : Ending) (w' : World) =>
 ∃ (p : Option Addr),
 ∃ (n_3 : Nat),
 ∃ (c : Nat),
 ∃ (x_9 : Bool),
 e =
 Ending.returned
 (Value.tuple #[Value.slice p n_3 c, Value.bool x_9]) ∧
 KeptL [n_2, n] W w' ∧
 bsp (!x_9)
 (∀ (W : World),
 Loc w.heap.size
 [Blk.mk n_2 94
 [Value.int IntKind.i64 x_3,
 Value.bool
 (x_7.toList == [(ByteArray.mk #[110]).get! 0]),
 Value.slice none 0 0]
 0,
 Blk.mk n 94
 [Value.int IntKind.i64 0, Value.bool false,
 Value.slice none 0 0]
 (wrM 0)]
 w' W →
 R
 (Ending.returned
 (Value.tuple
 #[Value.string (ByteArray.mk #[]),
 Value.agg
 #[Value.int IntKind.i64 0, Value.bool false,
 Value.slice none 0 0],
 Value.int IntKind.i64 3]))
 W)
 (∀ (W : World),
 Loc w.heap.size
 [Blk.mk n_2 94
 [Value.int IntKind.i64 x_3,
 Value.bool
 (x_7.toList == [(ByteArray.mk #[110]).get! 0]),
 Value.slice p n_3 c]
 (wrM 0),
 Blk.mk n 94
 [Value.int IntKind.i64 x_3,
 Value.bool
 (x_7.toList == [(ByteArray.mk #[110]).get! 0]),
 Value.slice p n_3 c]
 (wrM 0)]
 w' W →
 R
 (Ending.returned
 (Value.tuple
 #[Value.string x,
 Value.agg
 #[Value.int IntKind.i64 x_3,
 Value.bool
 (x_7.toList == [(ByteArray.mk #[110]).get! 0]),
 Value.slice p n_3 c],
 Value.int IntKind.i64 0]))
 W))
 (∀ (W : World),
 Loc w.heap.size
 [Blk.mk n_2 94
 [Value.int IntKind.i64 x_3,
 Value.bool (x_7.toList == [(ByteArray.mk #[110]).get! 0]),
 Value.slice none 0 0]
 (wrM 2),
 Blk.mk n 94
 [Value.int IntKind.i64 x_3,
 Value.bool (x_7.toList == [(ByteArray.mk #[110]).get! 0]),
 Value.slice none 0 0]
 (wrM 0)]
 w'_2 W →
 R
 (Ending.returned
 (Value.tuple
 #[Value.string x,
 Value.agg
 #[Value.int IntKind.i64 x_3,
 Value.bool (x_7.toList == [(ByteArray.mk #[110]).get! 0]),
 Value.slice none 0 0],
 Value.int IntKind.i64 0]))
 W)))))))
 (KeptL [n] w' w' ∧
 ∀ (W : World),
 Loc w.heap.size [Blk.mk n 94 [Value.int IntKind.i64 0, Value.bool false, Value.slice none 0 0] (wrM 0)] w'
 W →
 R
 (Ending.returned
 (Value.tuple
 #[Value.string (ByteArray.mk #[]),
 Value.agg #[Value.int IntKind.i64 0, Value.bool false, Value.slice none 0 0], Value.int IntKind.i64 3]))
 W)
theorem vc_acpline (s : ByteArray) (t : ByteArray) (w : World) (R : Ending → World → Prop) (h : VC_acpline s t w R) : Calls Tryz.prog 43 ([Value.string
    s,
  Value.string t] : List Value).toArray w R := by
  have e : execR2 { P := Tryz.prog, loops := [], pur := pur1, tails := [(21, 3)], joins := [], boxes := [] } Tryz.f43.results.toList R (Tryz.f43.body.getD .skip) (initF [Value.string
    s,
  Value.string
    t] (Tryz.f43.ntmps - ([Value.string s,
  Value.string t] : List Value).length)) w = VC_acpline s t w R := by kernel_rfl
  have hb : Tryz.f43.body = some (Tryz.f43.body.getD .skip) := by kernel_rfl
  exact calls_of_exec2' (P := Tryz.prog) (fn := Tryz.f43) (c := Tryz.f43.body.getD .skip) (args := [Value.string s,
  Value.string t]) (w := w) (R := R) pur1_ok Tryz.func43 hb e h

def VC_acparse (s : ByteArray) (w : World) (R : Ending → World → Prop) : Prop :=
 bsp (decide ((↑s.size : Int) > 1048576))
 (R (Ending.returned (Value.tuple #[Value.pointer none, Value.int IntKind.i64 0, Value.int IntKind.i64 5])) w)
 (CallsS Tryz.prog 19 #[] w fun (e : Ending) (w' : World) =>
 ∃ (x : Option Addr),
 e = Ending.returned (Value.pointer x) ∧
 KeptL [] w w' ∧
 ∃ (I : List Value → World → Prop),
 ∃ (m : List Value → World → Nat),
 I [Value.pointer x, Value.string (ByteArray.mk #[]), Value.string s, Value.int IntKind.i64 0] w' ∧
 ∀ (x : Option Addr) (x_1 x_2 : ByteArray) (x_3 : Int) (w' : World),
 I [Value.pointer x, Value.string x_1, Value.string x_2, Value.int IntKind.i64 x_3] w' →
 bsp (!x_2.toList == [])
 (CallsS Tryz.prog 42 #[Value.string x_2, Value.string (ByteArray.mk #[10])] w'
 fun (e : Ending) (w'_1 : World) =>
 ∃ (x_4 : ByteArray),
 ∃ (x_5 : ByteArray),
 ∃ (x_6 : Bool),
 e = Ending.returned (Value.tuple #[Value.string x_4, Value.string x_5, Value.bool x_6]) ∧
 KeptL [] w' w'_1 ∧
 bsp (!x_6)
 (R
 (Ending.returned
 (Value.tuple
 #[Value.pointer none, Value.int IntKind.i64 (IntKind.i64.wrap (x_3 + 1)),
 Value.int IntKind.i64 4]))
 w'_1)
 (CallsS Tryz.prog 43 #[Value.string x_4, Value.string x_1] w'_1 fun (e : Ending) (w'_2 : World) =>
 ∃ (x_7 : ByteArray),
 ∃ (x_8 : Int),
 ∃ (x_9 : Bool),
 ∃ (p : Option Addr),
 ∃ (n : Nat),
 ∃ (c : Nat),
 ∃ (x_10 : Int),
 e =
 Ending.returned
 (Value.tuple
 #[Value.string x_7,
 Value.agg #[Value.int IntKind.i64 x_8, Value.bool x_9, Value.slice p n c],
 Value.int IntKind.i64 x_10]) ∧
 KeptL [] w'_1 w'_2 ∧
 ∀ (n_1 : Nat),
 bsp (x_10 != 0)
 (∀ (W : World),
 Loc w.heap.size
 [Blk.mk n_1 94 [Value.int IntKind.i64 x_8, Value.bool x_9, Value.slice p n c] (wrM 2)]
 w'_2 W →
 R
 (Ending.returned
 (Value.tuple
 #[Value.pointer none, Value.int IntKind.i64 (IntKind.i64.wrap (x_3 + 1)),
 Value.int IntKind.i64 x_10]))
 W)
 (bsp (decide (IntKind.i64.wrap (x_3 + 1) > 4096))
 (∀ (W : World),
 Loc w.heap.size
 [Blk.mk n_1 94 [Value.int IntKind.i64 x_8, Value.bool x_9, Value.slice p n c] (wrM 2)]
 w'_2 W →
 R
 (Ending.returned
 (Value.tuple
 #[Value.pointer none, Value.int IntKind.i64 (IntKind.i64.wrap (x_3 + 1)),
 Value.int IntKind.i64 9]))
 W)
 (nn true x fun (b o : Nat) =>
 ∃ (x_11 : Option Nat),
 (∀ (W : World),
 Loc w.heap.size
 [Blk.mk n_1 94 [Value.int IntKind.i64 x_8, Value.bool x_9, Value.slice p n c]
 (wrM 2)]
 w'_2 W →
 W.cell? (Addr.mk b o none) = some (Value.map x_11)) ∧
 ∀ (W : World),
 Loc w.heap.size
 [Blk.mk n_1 94 [Value.int IntKind.i64 x_8, Value.bool x_9, Value.slice p n c]
 (wrM 2)]
 w'_2 W →
 ∃ (w1 : World),
 UpdP Tryz.prog 97 (Value.map x_11) (Value.string x_7)
 (Value.agg #[Value.int IntKind.i64 x_8, Value.bool x_9, Value.slice p n c]) W
 w1 ∧
 KeptL [n_1] W w1 ∧
 I
 [Value.pointer x, Value.string x_7, Value.string x_5,
 Value.int IntKind.i64 (IntKind.i64.wrap (x_3 + 1))]
 w1 ∧
 m
 [Value.pointer x, Value.string x_7, Value.string x_5,
 Value.int IntKind.i64 (IntKind.i64.wrap (x_3 + 1))]
 w1 <
 m
 [Value.pointer x, Value.string x_1, Value.string x_2,
 Value.int IntKind.i64 x_3]
 w'))))
 (R (Ending.returned (Value.tuple #[Value.pointer x, Value.int IntKind.i64 0, Value.int IntKind.i64 0])) w'))
theorem vc_acparse (s : ByteArray) (w : World) (R : Ending → World → Prop) (h : VC_acparse s w R) : Calls Tryz.prog 13 ([Value.string
    s] : List Value).toArray w R := by
  have e : execR2 { P := Tryz.prog, loops := [(6, [(2, Ck.ptr), (5, Ck.str), (6, Ck.str), (3, Ck.int IntKind.i64)])], pur := pur1, tails := [(16, 6)], joins := [], boxes := [] } Tryz.f13.results.toList R (Tryz.f13.body.getD .skip) (initF [Value.string
    s] (Tryz.f13.ntmps - ([Value.string s] : List Value).length)) w = VC_acparse s w R := by kernel_rfl
  have hb : Tryz.f13.body = some (Tryz.f13.body.getD .skip) := by kernel_rfl
  exact calls_of_exec2' (P := Tryz.prog) (fn := Tryz.f13) (c := Tryz.f13.body.getD .skip) (args := [Value.string
    s]) (w := w) (R := R) pur1_ok Tryz.func13 hb e h

def VC_acxintervals (s : ByteArray) (zh : Int) (w : World) (R : Ending → World → Prop) : Prop :=
 CallsS Tryz.prog 71 #[Value.string s, Value.int IntKind.u8 44] w fun (e : Ending) (w' : World) =>
 ∃ (p : Option Addr),
 ∃ (n : Nat),
 ∃ (c : Nat),
 e = Ending.returned (Value.slice p n c) ∧
 KeptL [] w w' ∧
 ∃ (I : List Value → World → Prop),
 ∃ (m : List Value → World → Nat),
 I [Value.int IntKind.i64 0, Value.slice none 0 0, Value.int IntKind.i64 (-1)] w' ∧
 ∀ (x : Int) (p_1 : Option Addr) (n_1 c : Nat) (x_1 : Int) (w' : World),
 I [Value.int IntKind.i64 x, Value.slice p_1 n_1 c, Value.int IntKind.i64 x_1] w' →
 bsp (decide (x < (↑n : Int)))
 (nn true p fun (b o : Nat) =>
 (0 ≤ x ∧ x < (↑n : Int)) ∧
 ∃ (x_2 : ByteArray),
 w'.cell? (Addr.mk b (o + x.toNat) none) = some (Value.string x_2) ∧
 CallsS Tryz.prog 71 #[Value.string x_2, Value.int IntKind.u8 45] w' fun (e : Ending) (w'_1 : World) =>
 ∃ (p : Option Addr),
 ∃ (n : Nat),
 ∃ (c_1 : Nat),
 e = Ending.returned (Value.slice p n c_1) ∧
 KeptL [] w' w'_1 ∧
 bsp (decide ((↑n : Int) > 2))
 (R (Ending.returned (Value.tuple #[Value.slice none 0 0, Value.bool false])) w'_1)
 (nn true p fun (b o : Nat) =>
 ((0 : Int) ≤ 0 ∧ 0 < (↑n : Int)) ∧
 ∃ (x_3 : ByteArray),
 w'_1.cell? (Addr.mk b o none) = some (Value.string x_3) ∧
 CallsS Tryz.prog 74 #[Value.string x_3, Value.int IntKind.i64 zh] w'_1
 fun (e : Ending) (w'_2 : World) =>
 ∃ (x_4 : Int),
 e = Ending.returned (Value.int IntKind.i64 x_4) ∧
 KeptL [] w'_1 w'_2 ∧
 bsp ((↑n : Int) == 2)
 (nn true p fun (b o : Nat) =>
 ((0 : Int) ≤ 1 ∧ 1 < (↑n : Int)) ∧
 ∃ (x_5 : ByteArray),
 w'_2.cell? (Addr.mk b (o + 1) none) = some (Value.string x_5) ∧
 CallsS Tryz.prog 74 #[Value.string x_5, Value.int IntKind.i64 zh] w'_2
 fun (e : Ending) (w'_3 : World) =>
 ∃ (x_6 : Int),
 e = Ending.returned (Value.int IntKind.i64 x_6) ∧
 KeptL [] w'_2 w'_3 ∧
 bsp (decide (x_6 ≤ x_4))
 (R (Ending.returned (Value.tuple #[Value.slice none 0 0, Value.bool false]))
 w'_3)
 (bsp
 (decide (x_4 < 1) || decide (x_6 < 1) ||
 decide (x_4 ≤ IntKind.i64.wrap (x_1 + 1)) && decide (x > 0))
 (R (Ending.returned (Value.tuple #[Value.slice none 0 0, Value.bool false]))
 w'_3)
 (∀ (n : Nat) (W : World),
 Loc w.heap.size
 [Blk.mk n 38 [Value.int IntKind.i64 x_4, Value.int IntKind.i64 x_6] 2] w'_3
 W →
 ∃ (base : Nat),
 ∃ (xs : List Value),
 W.ownsRow base 38 2 (Value.slice p_1 n_1 c) n_1 xs ∧
 n_1 + 1 ≤ 9223372036854775807 ∧
 (n_1 + 1) * 16 ≤ 140737488355328 ∧
 base ≤ W.heap.size ∧
 ∀ (p' : Option Addr) (c' : Nat) (w'_4 : World),
 w'_4.ownsRow base 38 2 (Value.slice p' (n_1 + 1) c') (n_1 + 1)
 (xs ++ [Value.int IntKind.i64 x_4, Value.int IntKind.i64 x_6]) →
 W.grownBy w'_4 (Value.slice p_1 n_1 c).ownBlock →
 AppL W p_1 n_1 c 1 p' c' →
 KeptL [] W w'_4 ∧
 I
 [Value.int IntKind.i64 (IntKind.i64.wrap (x + 1)),
 Value.slice p' (n_1 + 1) c', Value.int IntKind.i64 x_6]
 w'_4 ∧
 m
 [Value.int IntKind.i64 (IntKind.i64.wrap (x + 1)),
 Value.slice p' (n_1 + 1) c', Value.int IntKind.i64 x_6]
 w'_4 <
 m
 [Value.int IntKind.i64 x, Value.slice p_1 n_1 c,
 Value.int IntKind.i64 x_1]
 w')))
 (bsp
 (decide (x_4 < 1) || decide (x_4 < 1) ||
 decide (x_4 ≤ IntKind.i64.wrap (x_1 + 1)) && decide (x > 0))
 (R (Ending.returned (Value.tuple #[Value.slice none 0 0, Value.bool false])) w'_2)
 (∀ (n : Nat) (W : World),
 Loc w.heap.size [Blk.mk n 38 [Value.int IntKind.i64 x_4, Value.int IntKind.i64 x_4] 2]
 w'_2 W →
 ∃ (base : Nat),
 ∃ (xs : List Value),
 W.ownsRow base 38 2 (Value.slice p_1 n_1 c) n_1 xs ∧
 n_1 + 1 ≤ 9223372036854775807 ∧
 (n_1 + 1) * 16 ≤ 140737488355328 ∧
 base ≤ W.heap.size ∧
 ∀ (p' : Option Addr) (c' : Nat) (w'_3 : World),
 w'_3.ownsRow base 38 2 (Value.slice p' (n_1 + 1) c') (n_1 + 1)
 (xs ++ [Value.int IntKind.i64 x_4, Value.int IntKind.i64 x_4]) →
 W.grownBy w'_3 (Value.slice p_1 n_1 c).ownBlock →
 AppL W p_1 n_1 c 1 p' c' →
 KeptL [] W w'_3 ∧
 I
 [Value.int IntKind.i64 (IntKind.i64.wrap (x + 1)),
 Value.slice p' (n_1 + 1) c', Value.int IntKind.i64 x_4]
 w'_3 ∧
 m
 [Value.int IntKind.i64 (IntKind.i64.wrap (x + 1)),
 Value.slice p' (n_1 + 1) c', Value.int IntKind.i64 x_4]
 w'_3 <
 m
 [Value.int IntKind.i64 x, Value.slice p_1 n_1 c,
 Value.int IntKind.i64 x_1]
 w'))))
 (R (Ending.returned (Value.tuple #[Value.slice p_1 n_1 c, Value.bool true])) w')
theorem vc_acxintervals (s : ByteArray) (zh : Int) (w : World) (R : Ending → World → Prop) (h : VC_acxintervals s zh w R) : Calls Tryz.prog 75 ([Value.string
    s,
  Value.int IntKind.i64 zh] : List Value).toArray w R := by
  have e : execR2 { P := Tryz.prog, loops := [(5, [(9, Ck.int IntKind.i64), (6, Ck.slice), (7, Ck.int IntKind.i64)])], pur := pur1, tails := [], joins := [], boxes := [] } Tryz.f75.results.toList R (Tryz.f75.body.getD .skip) (initF [Value.string
    s,
  Value.int IntKind.i64
    zh] (Tryz.f75.ntmps - ([Value.string s,
  Value.int IntKind.i64 zh] : List Value).length)) w = VC_acxintervals s zh w R := by kernel_rfl
  have hb : Tryz.f75.body = some (Tryz.f75.body.getD .skip) := by kernel_rfl
  exact calls_of_exec2' (P := Tryz.prog) (fn := Tryz.f75) (c := Tryz.f75.body.getD .skip) (args := [Value.string s,
  Value.int IntKind.i64 zh]) (w := w) (R := R) pur1_ok Tryz.func75 hb e h

def VC_acxline (s : ByteArray) (t : ByteArray) (f : Bool) (w : World) (R : Ending → World → Prop) : Prop :=
 ∀ (n : Nat) (W : World),
 Loc w.heap.size
 [Blk.mk n 36 [Value.string (ByteArray.mk #[]), Value.int IntKind.i64 0, Value.bool false, Value.slice none 0 0] 2] w
 W →
 CallsS Tryz.prog 71 #[Value.string s, Value.int IntKind.u8 32] W fun (e : Ending) (w' : World) =>
 ∃ (p : Option Addr),
 ∃ (n_1 : Nat),
 ∃ (c : Nat),
 e = Ending.returned (Value.slice p n_1 c) ∧
 KeptL [n] W w' ∧
 bsp (decide ((↑n_1 : Int) < 3) || decide ((↑n_1 : Int) > 4))
 (∀ (W : World),
 Loc w.heap.size
 [Blk.mk n 36
 [Value.string (ByteArray.mk #[]), Value.int IntKind.i64 0, Value.bool false, Value.slice none 0 0]
 (wrM 0)]
 w' W →
 R
 (Ending.returned
 (Value.tuple
 #[Value.agg
 #[Value.string (ByteArray.mk #[]), Value.int IntKind.i64 0, Value.bool false, Value.slice none 0 0],
 Value.int IntKind.i64 3]))
 W)
 (∃ (I : List Value → World → Prop),
 ∃ (m : List Value → World → Nat),
 I [Value.int IntKind.i64 0] w' ∧
 ∀ (x : Int) (w' : World),
 I [Value.int IntKind.i64 x] w' →
 bsp (decide (x < (↑n_1 : Int)))
 (nn true p fun (b o : Nat) =>
 (0 ≤ x ∧ x < (↑n_1 : Int)) ∧
 ∃ (x_1 : ByteArray),
 w'.cell? (Addr.mk b (o + x.toNat) none) = some (Value.string x_1) ∧
 bsp (x_1.toList == [])
 (WrL w' n 0 4 ∧
 ∀ (w1 : World),
 PutB w' n 0
 [Value.string (ByteArray.mk #[]), Value.int IntKind.i64 0, Value.bool false,
 Value.slice none 0 0]
 w1 →
 KeptL [] w' w1 ∧
 ∃ (x : ByteArray),
 ∃ (x_2 : Int),
 ∃ (x_3 : Bool),
 ∃ (p : Option Addr),
 ∃ (n_2 : Nat),
 ∃ (c : Nat),
 AtL w1 n 0
 [Value.string x, Value.int IntKind.i64 x_2, Value.bool x_3, Value.slice p n_2 c] ∧
 R
 (Ending.returned
 (Value.tuple
 #[Value.agg
 #[Value.string x, Value.int IntKind.i64 x_2, Value.bool x_3, Value.slice p n_2 c],
 Value.int IntKind.i64 3]))
 w1)
 (I [Value.int IntKind.i64 (IntKind.i64.wrap (x + 1))] w' ∧
 m [Value.int IntKind.i64 (IntKind.i64.wrap (x + 1))] w' < m [Value.int IntKind.i64 x] w'))
 (nn true p fun (b o : Nat) =>
 ((0 : Int) ≤ 0 ∧ 0 < (↑n_1 : Int)) ∧
 ∃ (x : ByteArray),
 w'.cell? (Addr.mk b o none) = some (Value.string x) ∧
 CallsS Tryz.prog 72 #[Value.string x] w' fun (e : Ending) (w'_1 : World) =>
 ∃ (x : Int),
 e = Ending.returned (Value.int IntKind.i64 x) ∧
 KeptL [] w' w'_1 ∧
 bsp (x != 0)
 (WrL w'_1 n 0 4 ∧
 ∀ (w1 : World),
 PutB w'_1 n 0
 [Value.string (ByteArray.mk #[]), Value.int IntKind.i64 0, Value.bool false,
 Value.slice none 0 0]
 w1 →
 KeptL [] w'_1 w1 ∧
 ∃ (x_1 : ByteArray),
 ∃ (x_2 : Int),
 ∃ (x_3 : Bool),
 ∃ (p : Option Addr),
 ∃ (n_2 : Nat),
 ∃ (c : Nat),
 AtL w1 n 0
 [Value.string x_1, Value.int IntKind.i64 x_2, Value.bool x_3, Value.slice p n_2 c] ∧
 R
 (Ending.returned
 (Value.tuple
 #[Value.agg
 #[Value.string x_1, Value.int IntKind.i64 x_2, Value.bool x_3,
 Value.slice p n_2 c],
 Value.int IntKind.i64 x]))
 w1)
 (nn (!f) p fun (b o : Nat) =>
 gimp (!f) ((0 : Int) ≤ 0 ∧ 0 < (↑n_1 : Int)) ∧
 ∃ (x : ByteArray),
 gimp (!f) (w'_1.cell? (Addr.mk b o none) = some (Value.string x)) ∧
 bsp (!f)
 (CallsS Tryz.prog 73 #[Value.string t, Value.string x] w'_1
 fun (e : Ending) (w' : World) =>
 ∃ (x : Int),
 e = Ending.returned (Value.int IntKind.i64 x) ∧
 KeptL [] w'_1 w' ∧
 bsp (true && decide (x ≥ 0))
 (WrL w' n 0 4 ∧
 ∀ (w1 : World),
 PutB w' n 0
 [Value.string (ByteArray.mk #[]), Value.int IntKind.i64 0, Value.bool false,
 Value.slice none 0 0]
 w1 →
 KeptL [] w' w1 ∧
 ∃ (x : ByteArray),
 ∃ (x_1 : Int),
 ∃ (x_2 : Bool),
 ∃ (p : Option Addr),
 ∃ (n_2 : Nat),
 ∃ (c : Nat),
 AtL w1 n 0
 [Value.string x, Value.int IntKind.i64 x_1, Value.bool x_2,
 Value.slice p n_2 c] ∧
 R
 (Ending.returned
 (Value.tuple
 #[Value.agg
 #[Value.string x, Value.int IntKind.i64 x_1, Value.bool x_2,
 Value.slice p n_2 c],
 Value.int IntKind.i64 30]))
 w1)
 (nn true p fun (b o : Nat) =>
 ((0 : Int) ≤ 1 ∧ 1 < (↑n_1 : Int)) ∧
 ∃ (x : ByteArray),
 w'.cell? (Addr.mk b (o + 1) none) = some (Value.string x) ∧
 CallsS Tryz.prog 74 #[Value.string x, Value.int IntKind.i64 2147483646] w'
 fun (e : Ending) (w'_2 : World) =>
 ∃ (x : Int),
 e = Ending.returned (Value.int IntKind.i64 x) ∧
 KeptL [] w' w'_2 ∧
 bsp (decide (x < 0))
 (WrL w'_2 n 0 4 ∧
 ∀ (w1 : World),
 PutB w'_2 n 0
 [Value.string (ByteArray.mk #[]), Value.int IntKind.i64 0,
 Value.bool false, Value.slice none 0 0]
 w1 →
 KeptL [] w'_2 w1 ∧
 ∃ (x : ByteArray),
 ∃ (x_1 : Int),
 ∃ (x_2 : Bool),
 ∃ (p : Option Addr),
 ∃ (n_2 : Nat),
 ∃ (c : Nat),
 AtL w1 n 0
 [Value.string x, Value.int IntKind.i64 x_1, Value.bool x_2,
 Value.slice p n_2 c] ∧
 R
 (Ending.returned
 (Value.tuple
 #[Value.agg
 #[Value.string x, Value.int IntKind.i64 x_1, Value.bool x_2,
 Value.slice p n_2 c],
 Value.int IntKind.i64 2]))
 w1)
 (nn true p fun (b o : Nat) =>
 ((0 : Int) ≤ 2 ∧ 2 < (↑n_1 : Int)) ∧
 ∃ (x_1 : ByteArray),
 w'_2.cell? (Addr.mk b (o + 2) none) = some (Value.string x_1) ∧
 nn (!x_1.toList == [(ByteArray.mk #[121]).get! 0]) p fun (b o : Nat) =>
 gimp (!x_1.toList == [(ByteArray.mk #[121]).get! 0])
 ((0 : Int) ≤ 2 ∧ 2 < (↑n_1 : Int)) ∧
 ∃ (x_2 : ByteArray),
 gimp (!x_1.toList == [(ByteArray.mk #[121]).get! 0])
 (w'_2.cell? (Addr.mk b (o + 2) none) = some (Value.string x_2)) ∧
 bsp
 (!x_1.toList == [(ByteArray.mk #[121]).get! 0] &&
 !x_2.toList == [(ByteArray.mk #[110]).get! 0])
 (WrL w'_2 n 0 4 ∧
 ∀ (w1 : World),
 PutB w'_2 n 0
 [Value.string (ByteArray.mk #[]), Value.int IntKind.i64 0,
 Value.bool false, Value.slice none 0 0]
 w1 →
 KeptL [] w'_2 w1 ∧
 ∃ (x : ByteArray),
 ∃ (x_3 : Int),
 ∃ (x_4 : Bool),
 ∃ (p : Option Addr),
 ∃ (n_2 : Nat),
 ∃ (c : Nat),
 AtL w1 n 0
 [Value.string x, Value.int IntKind.i64 x_3,
 Value.bool x_4, Value.slice p n_2 c] ∧
 R
 (Ending.returned
 (Value.tuple
 #[Value.agg
 #[Value.string x, Value.int IntKind.i64 x_3,
 Value.bool x_4, Value.slice p n_2 c],
 Value.int IntKind.i64 3]))
 w1)
 (∀ (W : World),
 Loc w.heap.size [] w'_2 W →
 ∃ (S : World → Prop),
 S W ∧
 nn true p fun (b o : Nat) =>
 ((0 : Int) ≤ 0 ∧ 0 < (↑n_1 : Int)) ∧
 ∃ (x_3 : ByteArray),
 (∀ (w' : World),
 S w' →
 w'.cell? (Addr.mk b o none) = some (Value.string x_3)) ∧
 nn true p fun (b o : Nat) =>
 ((0 : Int) ≤ 2 ∧ 2 < (↑n_1 : Int)) ∧
 ∃ (x_4 : ByteArray),
 (∀ (w' : World),
 S w' →
 w'.cell? (Addr.mk b (o + 2) none) =
 some (Value.string x_4)) ∧
 ∀ (n_2 : Nat) (w1 : World),
 NewB W
 (Obj.cells
 #[Value.string (ByteArray.mk #[]),
 Value.int IntKind.i64 0, Value.bool false,
 Value.slice none 0 0]
 36)
 n_2 w1 →
 S w1 ∧
 WrL w1 n_2 0 4 ∧
 ∀ (w1_1 : World),
 PutB w1 n_2 0
 [Value.string x_3, Value.int IntKind.i64 x,
 Value.bool
 (x_4.toList == [(ByteArray.mk #[110]).get! 0]),
 Value.slice none 0 0]
 w1_1 →
 KeptL [] W w1_1 ∧
 bsp ((↑n_1 : Int) == 4)
 (nn true p fun (b o : Nat) =>
 ((0 : Int) ≤ 3 ∧ 3 < (↑n_1 : Int)) ∧
 ∃ (x_5 : ByteArray),
 w1_1.cell? (Addr.mk b (o + 3) none) =
 some (Value.string x_5) ∧
 CallsS Tryz.prog 75
 #[Value.string x_5,
 Value.int IntKind.i64 x]
 w1_1 fun (e : Ending) (w' : World) =>
 ∃ (p : Option Addr),
 ∃ (n_3 : Nat),
 ∃ (c : Nat),
 ∃ (x : Bool),
 e =
 Ending.returned
 (Value.tuple
 #[Value.slice p n_3 c,
 Value.bool x]) ∧
 KeptL [] w1_1 w' ∧
 bsp (!x)
 (WrL w' n 0 4 ∧
 ∀ (w1 : World),
 PutB w' n 0
 [Value.string
 (ByteArray.mk #[]),
 Value.int IntKind.i64 0,
 Value.bool false,
 Value.slice none 0 0]
 w1 →
 KeptL [] w' w1 ∧
 ∃ (x : ByteArray),
 ∃ (x_6 : Int),
 ∃ (x_7 : Bool),
 ∃ (p : Option Addr),
 ∃ (n_4 : Nat),
 ∃ (c : Nat),
 AtL w1 n 0
 [Value.string x,
 Value.int IntKind.i64
 x_6,
 Value.bool x_7,
 Value.slice p n_4 c] ∧
 R
 (Ending.returned
 (Value.tuple
 #[Value.agg
 #[Value.string x,
 Value.int
 IntKind.i64 x_6,
 Value.bool x_7,
 Value.slice p n_4
 c],
 Value.int IntKind.i64
 3]))
 w1)
 (((∃ (u : Value),
 w'.cell?
 (Addr.mk n_2 (0 + 3) none) =
 some u) ∧
 w'.frozen?
 (Addr.mk n_2 (0 + 3) none) =
 false) ∧
 ∀ (w1 : World),
 PutB w' n_2 (0 + 3)
 [Value.slice p n_3 c] w1 →
 KeptL [] w' w1 ∧
 ∃ (x : ByteArray),
 ∃ (x_6 : Int),
 ∃ (x_7 : Bool),
 ∃ (p : Option Addr),
 ∃ (n_4 : Nat),
 ∃ (c : Nat),
 AtL w1 n_2 0
 [Value.string x,
 Value.int IntKind.i64
 x_6,
 Value.bool x_7,
 Value.slice p n_4 c] ∧
 WrL w1 n 0 4 ∧
 ∀ (w1_2 : World),
 PutB w1 n 0
 [Value.string x,
 Value.int
 IntKind.i64 x_6,
 Value.bool x_7,
 Value.slice p n_4 c]
 w1_2 →
 KeptL [] w1 w1_2 ∧
 ∃ (x : ByteArray),
 ∃ (x_8 : Int),
 ∃ (x_9 : Bool),
 ∃ (p :
 Option Addr),
 ∃ (n_5 : Nat),
 ∃ (c : Nat),
 AtL w1_2 n 0
 [Value.string
 x,
 Value.int
 IntKind.i64
 x_8,
 Value.bool
 x_9,
 Value.slice
 p n_5 c] ∧
 R
 (Ending.returned
 (Value.tuple
 #[Value.agg
 #[Value.string
 x,
 Value.int
 IntKind.i64
 x_8,
 Value.bool
 x_9,
 Value.slice
 p n_5
 c],
 Value.int
 IntKind.i64
 0]))
 w1_2))
 (∃ (x : ByteArray),
 ∃ (x_5 : Int),
 ∃ (x_6 : Bool),
 ∃ (p : Option Addr),
 ∃ (n_3 : Nat),
 ∃ (c : Nat),
 AtL w1_1 n_2 0
 [Value.string x,
 Value.int IntKind.i64 x_5,
 Value.bool x_6, Value.slice p n_3 c] ∧
 WrL w1_1 n 0 4 ∧
 ∀ (w1 : World),
 PutB w1_1 n 0
 [Value.string x,
 Value.int IntKind.i64 x_5,
 Value.bool x_6, Value.slice p n_3 c]
 w1 →
 KeptL [] w1_1 w1 ∧
 ∃ (x : ByteArray),
 ∃ (x_7 : Int),
 ∃ (x_8 : Bool),
 ∃ (p : Option Addr),
 ∃ (n_4 : Nat),
 ∃ (c : Nat),
 AtL w1 n 0
 [Value.string x,
 Value.int IntKind.i64 x_7,
 Value.bool x_8,
 Value.slice p n_4 c] ∧
 R
 (Ending.returned
 (Value.tuple
 #[Value.agg
 #[Value.string x,
 Value.int IntKind.i64
 x_7,
 Value.bool x_8,
 Value.slice p n_4 c],
 Value.int IntKind.i64 0]))
 w1)))))
 (KeptL [] w'_1 w'_1 ∧
 nn true p fun (b o : Nat) =>
 ((0 : Int) ≤ 1 ∧ 1 < (↑n_1 : Int)) ∧
 ∃ (x : ByteArray),
 w'_1.cell? (Addr.mk b (o + 1) none) = some (Value.string x) ∧
 CallsS Tryz.prog 74 #[Value.string x, Value.int IntKind.i64 2147483646] w'_1
 fun (e : Ending) (w' : World) =>
 ∃ (x : Int),
 e = Ending.returned (Value.int IntKind.i64 x) ∧
 KeptL [] w'_1 w' ∧
 bsp (decide (x < 0))
 (WrL w' n 0 4 ∧
 ∀ (w1 : World),
 PutB w' n 0
 [Value.string (ByteArray.mk #[]), Value.int IntKind.i64 0, Value.bool false,
 Value.slice none 0 0]
 w1 →
 KeptL [] w' w1 ∧
 ∃ (x : ByteArray),
 ∃ (x_1 : Int),
 ∃ (x_2 : Bool),
 ∃ (p : Option Addr),
 ∃ (n_2 : Nat),
 ∃ (c : Nat),
 AtL w1 n 0
 [Value.string x, Value.int IntKind.i64 x_1, Value.bool x_2,
 Value.slice p n_2 c] ∧
 R
 (Ending.returned
 (Value.tuple
 #[Value.agg
 #[Value.string x, Value.int IntKind.i64 x_1, Value.bool x_2,
 Value.slice p n_2 c],
 Value.int IntKind.i64 2]))
 w1)
 (nn true p fun (b o : Nat) =>
 ((0 : Int) ≤ 2 ∧ 2 < (↑n_1 : Int)) ∧
 ∃ (x_1 : ByteArray),
 w'.cell? (Addr.mk b (o + 2) none) = some (Value.string x_1) ∧
 nn (!x_1.toList == [(ByteArray.mk #[121]).get! 0]) p fun (b o : Nat) =>
 gimp (!x_1.toList == [(ByteArray.mk #[121]).get! 0])
 ((0 : Int) ≤ 2 ∧ 2 < (↑n_1 : Int)) ∧
 ∃ (x_2 : ByteArray),
 gimp (!x_1.toList == [(ByteArray.mk #[121]).get! 0])
 (w'.cell? (Addr.mk b (o + 2) none) = some (Value.string x_2)) ∧
 bsp
 (!x_1.toList == [(ByteArray.mk #[121]).get! 0] &&
 !x_2.toList == [(ByteArray.mk #[110]).get! 0])
 (WrL w' n 0 4 ∧
 ∀ (w1 : World),
 PutB w' n 0
 [Value.string (ByteArray.mk #[]), Value.int IntKind.i64 0,
 Value.bool false, Value.slice none 0 0]
 w1 →
 KeptL [] w' w1 ∧
 ∃ (x : ByteArray),
 ∃ (x_3 : Int),
 ∃ (x_4 : Bool),
 ∃ (p : Option Addr),
 ∃ (n_2 : Nat),
 ∃ (c : Nat),
 AtL w1 n 0
 [Value.string x, Value.int IntKind.i64 x_3, Value.bool x_4,
 Value.slice p n_2 c] ∧
 R
 (Ending.returned
 (Value.tuple
 #[Value.agg
 #[Value.string x, Value.int IntKind.i64 x_3,
 Value.bool x_4, Value.slice p n_2 c],
 Value.int IntKind.i64 3]))
 w1)
 (∀ (W : World),
 Loc w.heap.size [] w' W →
 ∃ (S : World → Prop),
 S W ∧
 nn true p fun (b o : Nat) =>
 ((0 : Int) ≤ 0 ∧ 0 < (↑n_1 : Int)) ∧
 ∃ (x_3 : ByteArray),
 (∀ (w' : World),
 S w' → w'.cell? (Addr.mk b o none) = some (Value.string x_3)) ∧
 nn true p fun (b o : Nat) =>
 ((0 : Int) ≤ 2 ∧ 2 < (↑n_1 : Int)) ∧
 ∃ (x_4 : ByteArray),
 (∀ (w' : World),
 S w' →
 w'.cell? (Addr.mk b (o + 2) none) =
 some (Value.string x_4)) ∧
 ∀ (n_2 : Nat) (w1 : World),
 NewB W
 (Obj.cells
 #[Value.string (ByteArray.mk #[]),
 Value.int IntKind.i64 0, Value.bool false,
 Value.slice none 0 0]
 36)
 n_2 w1 →
 S w1 ∧
 WrL w1 n_2 0 4 ∧
 ∀ (w1_1 : World),
 PutB w1 n_2 0
 [Value.string x_3, Value.int IntKind.i64 x,
 Value.bool
 (x_4.toList == [(ByteArray.mk #[110]).get! 0]),
 Value.slice none 0 0]
 w1_1 →
 KeptL [] W w1_1 ∧
 bsp ((↑n_1 : Int) == 4)
 (nn true p fun (b o : Nat) =>
 ((0 : Int) ≤ 3 ∧ 3 < (↑n_1 : Int)) ∧
 ∃ (x_5 : ByteArray),
 w1_1.cell? (Addr.mk b (o + 3) none) =
 some (Value.string x_5) ∧
 CallsS Tryz.prog 75
 #[Value.string x_5, Value.int IntKind.i64 x]
 w1_1 fun (e : Ending) (w' : World) =>
 ∃ (p : Option Addr),
 ∃ (n_3 : Nat),
 ∃ (c : Nat),
 ∃ (x : Bool),
 e =
 Ending.returned
 (Value.tuple
 #[Value.slice p n_3 c, Value.bool x]) ∧
 KeptL [] w1_1 w' ∧
 bsp (!x)
 (WrL w' n 0 4 ∧
 ∀ (w1 : World),
 PutB w' n 0
 [Value.string (ByteArray.mk #[]),
 Value.int IntKind.i64 0,
 Value.bool false,
 Value.slice none 0 0]
 w1 →
 KeptL [] w' w1 ∧
 ∃ (x : ByteArray),
 ∃ (x_6 : Int),
 ∃ (x_7 : Bool),
 ∃ (p : Option Addr),
 ∃ (n_4 : Nat),
 ∃ (c : Nat),
 AtL w1 n 0
 [Value.string x,
 Value.int IntKind.i64 x_6,
 Value.bool x_7,
 Value.slice p n_4 c] ∧
 R
 (Ending.returned
 (Value.tuple
 #[Value.agg
 #[Value.string x,
 Value.int IntKind.i64
 x_6,
 Value.bool x_7,
 Value.slice p n_4 c],
 Value.int IntKind.i64
 3]))
 w1)
 (((∃ (u : Value),
 w'.cell? (Addr.mk n_2 (0 + 3) none) =
 some u) ∧
 w'.frozen?
 (Addr.mk n_2 (0 + 3) none) =
 false) ∧
 ∀ (w1 : World),
 PutB w' n_2 (0 + 3)
 [Value.slice p n_3 c] w1 →
 KeptL [] w' w1 ∧
 ∃ (x : ByteArray),
 ∃ (x_6 : Int),
 ∃ (x_7 : Bool),
 ∃ (p : Option Addr),
 ∃ (n_4 : Nat),
 ∃ (c : Nat),
 AtL w1 n_2 0
 [Value.string x,
 Value.int IntKind.i64 x_6,
 Value.bool x_7,
 Value.slice p n_4 c] ∧
 WrL w1 n 0 4 ∧
 ∀ (w1_2 : World),
 PutB w1 n 0
 [Value.string x,
 Value.int IntKind.i64
 x_6,
 Value.bool x_7,
 Value.slice p n_4 c]
 w1_2 →
 KeptL [] w1 w1_2 ∧
 ∃ (x : ByteArray),
 ∃ (x_8 : Int),
 ∃ (x_9 : Bool),
 ∃ (p : Option Addr),
 ∃ (n_5 : Nat),
 ∃ (c : Nat),
 AtL w1_2 n 0
 [Value.string x,
 Value.int
 IntKind.i64
 x_8,
 Value.bool x_9,
 Value.slice p
 n_5 c] ∧
 R
 (Ending.returned
 (Value.tuple
 #[Value.agg
 #[Value.string
 x,
 Value.int
 IntKind.i64
 x_8,
 Value.bool
 x_9,
 Value.slice
 p n_5 c],
 Value.int
 IntKind.i64
 0]))
 w1_2))
 (∃ (x : ByteArray),
 ∃ (x_5 : Int),
 ∃ (x_6 : Bool),
 ∃ (p : Option Addr),
 ∃ (n_3 : Nat),
 ∃ (c : Nat),
 AtL w1_1 n_2 0
 [Value.string x, Value.int IntKind.i64 x_5,
 Value.bool x_6, Value.slice p n_3 c] ∧
 WrL w1_1 n 0 4 ∧
 ∀ (w1 : World),
 PutB w1_1 n 0
 [Value.string x,
 Value.int IntKind.i64 x_5,
 Value.bool x_6, Value.slice p n_3 c]
 w1 →
 KeptL [] w1_1 w1 ∧
 ∃ (x : ByteArray),
 ∃ (x_7 : Int),
 ∃ (x_8 : Bool),
 ∃ (p : Option Addr),
 ∃ (n_4 : Nat),
 ∃ (c : Nat),
 AtL w1 n 0
 [Value.string x,
 Value.int IntKind.i64 x_7,
 Value.bool x_8,
 Value.slice p n_4 c] ∧
 R
 (Ending.returned
 (Value.tuple
 #[Value.agg
 #[Value.string x,
 Value.int IntKind.i64 x_7,
 Value.bool x_8,
 Value.slice p n_4 c],
 Value.int IntKind.i64 0]))
 w1)))))))
theorem vc_acxline (s : ByteArray) (t : ByteArray) (f : Bool) (w : World) (R : Ending → World → Prop) (h : VC_acxline s t f w R) : Calls Tryz.prog 44 ([Value.string
    s,
  Value.string t, Value.bool f] : List Value).toArray w R := by
  have e : execR2 { P := Tryz.prog, loops := [(5, [(9, Ck.int IntKind.i64)])], pur := pur1, tails := [(19, 9)], joins := [], boxes := [] } Tryz.f44.results.toList R (Tryz.f44.body.getD .skip) (initF [Value.string
    s,
  Value.string t,
  Value.bool
    f] (Tryz.f44.ntmps - ([Value.string s, Value.string t,
  Value.bool f] : List Value).length)) w = VC_acxline s t f w R := by kernel_rfl
  have hb : Tryz.f44.body = some (Tryz.f44.body.getD .skip) := by kernel_rfl
  exact calls_of_exec2' (P := Tryz.prog) (fn := Tryz.f44) (c := Tryz.f44.body.getD .skip) (args := [Value.string s,
  Value.string t, Value.bool f]) (w := w) (R := R) pur1_ok Tryz.func44 hb e h

def VC_acxparse (s : ByteArray) (w : World) (R : Ending → World → Prop) : Prop :=
 bsp (decide ((↑s.size : Int) > 1048576))
 (R (Ending.returned (Value.tuple #[Value.slice none 0 0, Value.int IntKind.i64 0, Value.int IntKind.i64 5])) w)
 (∃ (I : List Value → World → Prop),
 ∃ (m : List Value → World → Nat),
 I [Value.int IntKind.i64 1, Value.slice none 0 0, Value.string (ByteArray.mk #[]), Value.int IntKind.i64 0] w ∧
 ∀ (x : Int) (p : Option Addr) (n c : Nat) (x_1 : ByteArray) (x_2 : Int) (w' : World),
 I [Value.int IntKind.i64 x, Value.slice p n c, Value.string x_1, Value.int IntKind.i64 x_2] w' →
 bsp (decide (x_2 < (↑s.size : Int)))
 (∃ (I_1 : List Value → World → Prop),
 ∃ (m_1 : List Value → World → Nat),
 I_1 [Value.int IntKind.i64 x_2] w' ∧
 ∀ (x_3 : Int) (w'_1 : World),
 I_1 [Value.int IntKind.i64 x_3] w'_1 →
 gimp (decide (x_3 < (↑s.size : Int))) (0 ≤ x_3 ∧ x_3 < (↑s.size : Int)) ∧
 bsp (decide (x_3 < (↑s.size : Int)) && at8 s x_3.toNat != 10)
 (I_1 [Value.int IntKind.i64 (IntKind.i64.wrap (x_3 + 1))] w'_1 ∧
 m_1 [Value.int IntKind.i64 (IntKind.i64.wrap (x_3 + 1))] w'_1 < m_1 [Value.int IntKind.i64 x_3] w'_1)
 (bsp (x_3 == (↑s.size : Int))
 (R
 (Ending.returned
 (Value.tuple #[Value.slice none 0 0, Value.int IntKind.i64 x, Value.int IntKind.i64 4]))
 w'_1)
 ((0 ≤ x_2 ∧ x_2 ≤ x_3 ∧ x_3 ≤ (↑s.size : Int)) ∧
 CallsS Tryz.prog 44
 #[Value.string (s.extract x_2.toNat x_3.toNat), Value.string x_1, Value.bool (x == 1)] w'_1
 fun (e : Ending) (w'_2 : World) =>
 ∃ (x_4 : ByteArray),
 ∃ (x_5 : Int),
 ∃ (x_6 : Bool),
 ∃ (p_1 : Option Addr),
 ∃ (n_1 : Nat),
 ∃ (c_1 : Nat),
 ∃ (x_7 : Int),
 e =
 Ending.returned
 (Value.tuple
 #[Value.agg
 #[Value.string x_4, Value.int IntKind.i64 x_5, Value.bool x_6, Value.slice p_1 n_1 c_1],
 Value.int IntKind.i64 x_7]) ∧
 KeptL [] w'_1 w'_2 ∧
 ∀ (n_2 : Nat),
 bsp (x_7 == 0 && decide (x > 4096))
 (∀ (W : World),
 Loc w.heap.size
 [Blk.mk n_2 36
 [Value.string x_4, Value.int IntKind.i64 x_5, Value.bool x_6, Value.slice p_1 n_1 c_1]
 (wrM 2)]
 w'_2 W →
 R
 (Ending.returned
 (Value.tuple #[Value.slice none 0 0, Value.int IntKind.i64 x, Value.int IntKind.i64 9]))
 W)
 (bsp (x_7 != 0)
 (∀ (W : World),
 Loc w.heap.size
 [Blk.mk n_2 36
 [Value.string x_4, Value.int IntKind.i64 x_5, Value.bool x_6, Value.slice p_1 n_1 c_1]
 (wrM 2)]
 w'_2 W →
 R
 (Ending.returned
 (Value.tuple
 #[Value.slice none 0 0, Value.int IntKind.i64 x, Value.int IntKind.i64 x_7]))
 W)
 (∀ (n_3 : Nat) (W : World),
 Loc w.heap.size
 [Blk.mk n_3 36
 [Value.string x_4, Value.int IntKind.i64 x_5, Value.bool x_6, Value.slice p_1 n_1 c_1]
 2,
 Blk.mk n_2 36
 [Value.string x_4, Value.int IntKind.i64 x_5, Value.bool x_6, Value.slice p_1 n_1 c_1]
 (wrM 2)]
 w'_2 W →
 ∃ (base : Nat),
 ∃ (xs : List Value),
 W.ownsRow base 36 4 (Value.slice p n c) n xs ∧
 n + 1 ≤ 9223372036854775807 ∧
 (n + 1) * 56 ≤ 140737488355328 ∧
 base ≤ W.heap.size ∧
 ∀ (p' : Option Addr) (c' : Nat) (w'_3 : World),
 w'_3.ownsRow base 36 4 (Value.slice p' (n + 1) c') (n + 1)
 (xs ++
 [Value.string x_4, Value.int IntKind.i64 x_5, Value.bool x_6,
 Value.slice p_1 n_1 c_1]) →
 W.grownBy w'_3 (Value.slice p n c).ownBlock →
 AppL W p n c 1 p' c' →
 KeptL [n_2] W w'_3 ∧
 ∀ (W : World),
 Loc w.heap.size
 [Blk.mk n_2 36
 [Value.string x_4, Value.int IntKind.i64 x_5, Value.bool x_6,
 Value.slice p_1 n_1 c_1]
 0]
 w'_3 W →
 I
 [Value.int IntKind.i64 (IntKind.i64.wrap (x + 1)),
 Value.slice p' (n + 1) c', Value.string x_4,
 Value.int IntKind.i64 (IntKind.i64.wrap (x_3 + 1))]
 W ∧
 m
 [Value.int IntKind.i64 (IntKind.i64.wrap (x + 1)),
 Value.slice p' (n + 1) c', Value.string x_4,
 Value.int IntKind.i64 (IntKind.i64.wrap (x_3 + 1))]
 W <
 m
 [Value.int IntKind.i64 x, Value.slice p n c, Value.string x_1,
 Value.int IntKind.i64 x_2]
 w')))))
 (R (Ending.returned (Value.tuple #[Value.slice p n c, Value.int IntKind.i64 0, Value.int IntKind.i64 0])) w'))
theorem vc_acxparse (s : ByteArray) (w : World) (R : Ending → World → Prop) (h : VC_acxparse s w R) : Calls Tryz.prog 14 ([Value.string
    s] : List Value).toArray w R := by
  have e : execR2 { P := Tryz.prog, loops := [(5, [(7, Ck.int IntKind.i64), (5, Ck.slice), (8, Ck.str), (6, Ck.int IntKind.i64)]), (7, [(9, Ck.int IntKind.i64)])], pur := pur1, tails := [], joins := [], boxes := [] } Tryz.f14.results.toList R (Tryz.f14.body.getD .skip) (initF [Value.string
    s] (Tryz.f14.ntmps - ([Value.string s] : List Value).length)) w = VC_acxparse s w R := by kernel_rfl
  have hb : Tryz.f14.body = some (Tryz.f14.body.getD .skip) := by kernel_rfl
  exact calls_of_exec2' (P := Tryz.prog) (fn := Tryz.f14) (c := Tryz.f14.body.getD .skip) (args := [Value.string
    s]) (w := w) (R := R) pur1_ok Tryz.func14 hb e h

end Go.Proofs.YtgmmoghagpmpfaaGreatDoor
