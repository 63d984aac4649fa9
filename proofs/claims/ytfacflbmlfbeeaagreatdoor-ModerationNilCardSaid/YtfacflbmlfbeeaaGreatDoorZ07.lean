/- Ranges over functions: slices.Values, slices.AppendSeq, slices.Collect at authors. Rows that are not too long. -/
import Derived.Test.YtfacflbmlfbeeaaGreatDoorZ06
import Derived.Test.YtfacflbmlfbeeaaGreatDoorZ05
import Derived.Test.YtfacflbmlfbeeaaGreatDoorZ04
import Derived.Test.YtfacflbmlfbeeaaGreatDoorZ03
import Derived.Test.YtfacflbmlfbeeaaGreatDoorProg
import Derived.Test.YtfacflbmlfbeeaaGreatDoorZ02
import Derived.KernelRfl
namespace Go.Proofs.YtfacflbmlfbeeaaGreatDoor
open Go.RowKit Go.Shelf

attribute [local go_sem] Oper.semAt_some

abbrev auV (x : Nat → Int) : Value := .agg (auC x).toArray
set_option maxRecDepth 100000 in
set_option maxHeartbeats 2000000 in
theorem avals1_in (n : Nat) (hn : 1 ≤ n) (l Bs n₀ : Nat) (p : Option Addr) (c : Nat) (zs : List (Nat → Int)) (hz : zs.length ≤ 1000000) (J Jx : List (Nat → Int) → World → Prop)
    (hY : ∀ pre x W, J pre W → pre.length < zs.length → YieldAt Fence.wide (n - 1) Tryz.prog l #[auV x] W fun e W' =>
      (e = .returned (.bool true) ∧ J (pre ++ [x]) W' ∧ Below n₀ W W') ∨ (e = .returned (.bool false) ∧ Jx (pre ++ [x]) W'))
    (W : World) (hJ : AbidesFrom W.heap.size J) (hBs : W.cell? ⟨Bs, 0, none⟩ = some (.slice p zs.length c)) (hR : RowA auC 16 W p zs) (hn₀ : n₀ ≤ W.heap.size) (hp : ∀ g o, p = some ⟨g, o, none⟩ → g < n₀) (h0 : J [] W) :
    CallsIn Fence.wide n Tryz.prog 105 #[.func (.yield l) #[] #[], .pointer (some ⟨Bs, 0, none⟩)] W fun e W' => (∃ v, e = .returned v) ∧
      ((∃ ys, ys = zs ∧ J ys W') ∨ (∃ pre, pre <+: zs ∧ Jx pre W')) := by
  refine callsIn_of_wp Tryz.func105 rfl trivial ?_ rfl
  simp only [Tryz.ntmps105, List.size_toArray, List.length_cons, List.length_nil, Nat.reduceAdd, Nat.reduceSub, Array.replicate_succ, Array.replicate_zero, List.push_toArray, List.append_toArray, List.nil_append, List.cons_append]
  gi_wp2
  gi_loopw [7] (fun i wr => ∃ k : Nat, k ≤ zs.length ∧ i = .int .i64 k ∧ J (zs.take k) wr ∧ Below n₀ W wr ∧ W.heap.size ≤ wr.heap.size)
    (fun i _ => zs.length - (intOf i).toNat)
  case atStart => exact ⟨0, Nat.zero_le _, rfl, h0, Below.refl _ _, Nat.le_refl _⟩
  case round =>
    obtain ⟨k, hk, rfl, hJs, hnx, hsz⟩ := hrel
    by_cases hlt : k < zs.length
    · obtain ⟨x, gb, go, hx, hpp, hat⟩ := hR.get hlt
      subst hpp
      have hgb : gb < n₀ := hp gb go rfl
      have hat' : AtL wr gb (go + k * 16) (auC x) := ⟨At_of _ _ fun j v hv => (hnx.cell (p := ⟨gb, _, none⟩) hgb).trans (hat.cell hv)⟩
      gi_wp2_with (first
        | (refine wi_load (t := 45) (k := 16) (agg := true) (cs := auC x) rfl rfl rfl (by kernel_rfl) rfl (by first | exact hat' | exact hatB) (v := auV x) rfl ?_)
        | (refine wi_alloc (t := 45) (z := auV fun _ => 0) rfl rfl (by kernel_rfl) ?_)
        | (refine wi_store (t := 45) (k := 16) (v := auV x) rfl rfl rfl rfl (by kernel_rfl) rfl rfl (WrF_block (block_alloc wr _) rfl) ?_; intro w2 hp2; have hb2 := hp2.full (block_alloc wr _) rfl; have hatB : AtL w2 wr.heap.size 0 (auC x) := AtL_block hb2 rfl; have hk2 : K0 wr w2 := put_k0 ((Kp.refl _ _).alloc _) hp2 (Nat.le_refl _); have hJ2 : J (zs.take k) w2 := hJ _ _ _ none hJs ⟨hk2.os, hk2.tape, hk2.output, hk2.size, fun i hi _ => hk2.block i hi (fun h => h)⟩ (fun r e => by cases e); obtain ⟨fn, tmps, assign, body, hy, hRo⟩ := hY _ x w2 hJ2 (by rw [List.length_take]; omega))
        | gi_in)
      refine hRo.mono ?_
      have hs : zs.take k ++ [x] = zs.take (k + 1) := (take_snoc hx).symm
      have hz2 := hk2.size
      rintro e W3 (⟨rfl, hJ3, hk3⟩ | ⟨rfl, hJx3⟩)
      · gi_wp2
        go_roundw
        case rel => exact ⟨k + 1, by omega, by simp, by rw [← hs]; exact hJ3, (hnx.trans ⟨hk2.os, hk2.tape, hk2.output, hk2.size, fun i hi => hk2.block i (by omega) (fun h => h)⟩).trans hk3, by have := hk3.size; omega⟩
        case measure => simp [intOf]; omega
      · gi_wp2
        refine bodyPost_ret (results_none rfl _ _ _) rfl ?_
        exact ⟨⟨_, rfl⟩, .inr ⟨_, by rw [hs]; exact List.take_prefix _ _, hJx3⟩⟩
    · obtain rfl : k = zs.length := by omega
      rw [List.take_length] at hJs
      gi_wp2
      go_end0
      exact ⟨⟨_, rfl⟩, .inl ⟨_, rfl, hJs⟩⟩

theorem RowA.below {α : Type} {f : α → List Value} {L : Nat} {w w' : World} {p : Option Addr} {l : List α} {n₀ : Nat} (h : RowA f L w p l) (hb : Below n₀ w w') (hp : ∀ g o, p = some ⟨g, o, none⟩ → g < n₀) : RowA f L w' p l := fun k y hy => by
  obtain ⟨b, o, h1, h2⟩ := h k y hy
  exact ⟨b, o, h1, ⟨At_of _ _ fun j v hv => (hb.cell (p := ⟨b, _, none⟩) (hp b o h1)).trans (h2.cell hv)⟩⟩
theorem avals_stops (n : Nat) (hn : 1 ≤ n) (Bs n₀ : Nat) (p : Option Addr) (c : Nat) (zs : List (Nat → Int)) (hz : zs.length ≤ 1000000) (w : World) (hBs : Bs < w.heap.size) (hn₀ : n₀ ≤ w.heap.size)
    (hc : w.cell? ⟨Bs, 0, none⟩ = some (.slice p zs.length c)) (hR : RowA auC 16 w p zs) (hp : ∀ g o, p = some ⟨g, o, none⟩ → g < n₀) :
    SeqStopsK Fence.wide n Tryz.prog 105 #[.pointer (some ⟨Bs, 0, none⟩)] (fun x : Nat → Int => #[auV x]) (Below n₀) (fun ys => ys = zs) (fun pre => pre <+: zs) zs.length w := fun l J Jx W hW hJ _ hY h0 =>
  avals1_in n hn l Bs n₀ p c zs hz J Jx hY W hJ ((hW.cell (p := ⟨Bs, 0, none⟩) hBs).trans hc) (hR.below (hW.mono hn₀) hp) (Nat.le_trans hn₀ hW.size) hp h0

theorem infoAu : (Tryz.prog.info? 45).map (fun i => (i.zero, i.size, i.bytes)) = some (some (auV fun _ => 0), 16, 16) := by kernel_rfl
theorem auC_at {w : World} {b : Nat} {x : Nat → Int} {t : TypeId} (h : w.heap[b]? = some (.cells (auC x).toArray t (0, 0))) : ∀ j u, (auC x)[j]? = some u → w.cell? ((⟨b, 0, none⟩ : Addr).add j) = some u := fun j u hj => by
  have h2 : AtL w b 0 (auC x) := AtL_block h rfl
  have := h2.cell hj
  have e : (⟨b, 0, none⟩ : Addr).add j = ⟨b, 0 + j, none⟩ := by unfold Addr.add; simp; omega
  rw [e]; exact this
set_option maxRecDepth 100000 in
set_option maxHeartbeats 4000000 in
theorem aapp_in (n : Nat) (hn : 4 ≤ n) (Bs : Nat) (p : Option Addr) (c : Nat) (zs : List (Nat → Int)) (hz : zs.length ≤ 1000000) (w : World) (hBs : Bs < w.heap.size)
    (hc : w.cell? ⟨Bs, 0, none⟩ = some (.slice p zs.length c)) (hR : RowA auC 16 w p zs) (hp : ∀ g o, p = some ⟨g, o, none⟩ → g < w.heap.size) :
    CallsIn Fence.wide n Tryz.prog 129 #[.slice none 0 0, .func (.func 105) #[] #[.pointer (some ⟨Bs, 0, none⟩)]] w fun e W' =>
      ∃ v, e = .returned v ∧ W'.ownsRow w.heap.size 45 16 v zs.length (zs.flatMap auC) ∧ Below w.heap.size w W' := by
  have h1 : 1 ≤ n := by omega
  obtain ⟨i0, hi, hz0, hz1, hz2⟩ := info_parts infoAu
  refine callsIn_of_wp_marks Tryz.func129 rfl trivial ?_ rfl
  simp only [Tryz.ntmps129, List.size_toArray, List.length_cons, List.length_nil, Nat.reduceAdd, Nat.reduceSub, Array.replicate_succ, Array.replicate_zero, List.push_toArray, List.append_toArray, List.nil_append, List.cons_append]
  gi_wp2
  have bO := Boxed.new w 28 (.slice none 0 0)
  have hB0 : Below w.heap.size w (w.alloc (.cells #[.slice none 0 0] 28)) := (Below.refl _ w).alloc (Nat.le_refl _) _
  refine wpIn_rangeFunc_ownH rfl h1 (gf := 105) (lb := #[.pointer (some ⟨Bs, 0, none⟩)]) rfl trivial (enters_of Tryz.func105 (by kernel_rfl) rfl)
    (avals_stops (n - 1) (by omega) Bs w.heap.size p c zs hz (w.alloc (.cells #[.slice none 0 0] 28)) (by simp; omega) (by simp) ((hB0.cell (p := ⟨Bs, 0, none⟩) hBs).trans hc) (hR.below hB0 hp) hp) belowK_t (belowK_b (by simp)) (Below.refl _ _) (fun _ => rfl)
    (fun pre W => (∃ v, Boxed W w.heap.size 28 v ∧ W.ownsRow w.heap.size 45 16 v pre.length (pre.flatMap auC) ∧ True) ∧ Below w.heap.size w W)
    (fun _ _ _ => False)
    (OwnFrom.and (Own.from (holdsRow_own w.heap.size w.heap.size 28 45 16 (fun pre : List (Nat → Int) => pre.length) (fun pre => pre.flatMap auC) (fun _ _ => True)) _) (ownFrom_below (Nat.le_refl _) (by simp)))
    (fun _ _ _ _ _ hs _ _ => hs)
    ⟨⟨_, bO, World.ownsRow_nil _ _ _ _, trivial⟩, hB0⟩
    (fun x a' W => ∃ Bx, w.heap.size < Bx ∧ W.heap[Bx]? = some (.cells (auC x).toArray 45 (0, 0)) ∧ a' = { tmps := #[.slice none 0 0, .func (.func 105) #[] #[.pointer (some ⟨Bs, 0, none⟩)], .pointer (some ⟨w.heap.size, 0, none⟩), undef, .slice none 0 0, .pointer (some ⟨Bx, 0, none⟩), .func (.func 105) #[] #[.pointer (some ⟨Bs, 0, none⟩)], auV x, undef, undef, undef, undef, undef], defers := [] })
    (fun x a' s A B row hs hg hr => by
      obtain ⟨Bx, h1, h2, h3⟩ := hs
      refine ⟨Bx, h1, (hg.block Bx (block_lt h2) (fun e => ?_)).trans h2, h3⟩
      obtain ⟨_, o, ho, hc⟩ := hr Bx e.symm
      rw [h2] at ho; cases ho; cases hc) ?assign ?body ?done ?stop
  case assign =>
    rintro l pre x W K ⟨⟨v, hv, hrow, _⟩, hB⟩ hK
    generalize hT : Array.foldl _ _ _ = T
    have hT2 : T = #[.slice none 0 0, .func (.func 105) #[] #[.pointer (some ⟨Bs, 0, none⟩)], .pointer (some ⟨w.heap.size, 0, none⟩), undef, .slice none 0 0, undef, .func (.func 105) #[] #[.pointer (some ⟨Bs, 0, none⟩)], auV x, undef, undef, undef, undef, undef] := by rw [← hT]; simp
    subst hT2
    clear hT
    refine wpIn_region_list (wi_alloc (t := 45) (z := auV fun _ => 0) rfl rfl (by kernel_rfl) (wi_store (t := 45) (k := 16) (v := auV x) rfl rfl rfl rfl (by kernel_rfl) rfl rfl (WrF_block (block_alloc W _) rfl) fun w2 hp2 => ?_))
    have hb2 := hp2.full (block_alloc W _) rfl
    have hk2 : K0 W w2 := put_k0 ((Kp.refl _ _).alloc _) hp2 (Nat.le_refl _)
    have hg2 : W.grownBy w2 none := ⟨hk2.os, hk2.tape, hk2.output, hk2.size, fun i hi _ => hk2.block i hi (fun h => h)⟩
    exact hK _ _ (KeepsFrom.of_grownBy hg2 (fun j e => by cases e)) ⟨hk2.os, hk2.tape, hk2.output, hk2.size, fun i hi => hk2.block i (Nat.lt_of_lt_of_le hi hB.size) (fun h => h)⟩ ⟨⟨v, hv.kept hg2 (by simp), hrow.kept hg2 (Classical.em _), trivial⟩, hB.grown hg2 hB.size (fun k e => by cases e)⟩ ⟨W.heap.size, hv.lt, hb2, rfl⟩
  case body =>
    rintro l pre x a' W hl hr ⟨⟨v, hv, hrow, _⟩, hB⟩ ⟨Bx, hBx, hbx, rfl⟩ hlt
    have hcv := hv.cell
    gi_wp2_with (first
      | (refine wi_load (t := 45) (k := 16) (agg := true) (cs := auC x) rfl rfl rfl (by kernel_rfl) rfl (AtL_block hbx rfl) (v := auV x) rfl ?_)
      | (refine wi_slice (t := 28) (len := 1) (e := 45) (cells := (auC x).toArray) rfl rfl (by kernel_rfl) ?_)
      | (gi_at_builtin; refine wpListIn_append_own _ rfl _ _ 28 rfl w.heap.size 45 i0 (auV fun _ => 0) 16 16 Tryz.underlying28 hi hz0 hz1 hz2 rfl (by decide) _ _ _ rfl (hrow.alloc _) ⟨W.heap.size, 0, none⟩ 1 1 (auC x) rfl rfl (auC_at (block_alloc W _)) (arr_one x 16) (by unfold maxLen; omega) (by omega) (by have := hB.size; simp; omega) ?_; intro v' w1 hown' hgrow _; obtain ⟨g', cap', rfl⟩ := ownsRow_succ hown'; obtain ⟨hv1, hv2, hr2, hk2, hb2⟩ := hv.appended (by decide) hrow hB.size (Nat.le_refl _) hown' hgrow; have hc1 := hv1.cell; have hf1 := hv1.frozen)
      | gi_in)
    have e1 : (pre ++ [x]).flatMap auC = pre.flatMap auC ++ auC x := by rw [List.flatMap_append]; simp [List.flatMap_cons]
    have e2 : (pre ++ [x]).length = pre.length + 1 := by simp
    exact ⟨hk2.from _, hb2, ⟨_, hv2, by rw [e1, e2]; exact hr2⟩, hB.trans hb2⟩
  case done =>
    rintro D ys W hD rfl ⟨⟨v, hv, hrow, _⟩, hB⟩ hK
    have hc := hv.cell
    gi_wp2
    refine ⟨by simp, .inl ⟨_, _, rfl, run_takeDeferred hK, ?_⟩⟩
    exact ⟨_, results_tmp rfl _ _ _, v, rfl, ownsRow_putObj hrow _ hK rfl, hB.trans (belowK_b (w := w) (Nat.le_refl _) W D _ _ (by simp at hD; omega) hK rfl rfl)⟩
  case stop =>
    rintro D c pre W _ _ h _
    exact h.elim

end Go.Proofs.YtfacflbmlfbeeaaGreatDoor

/- Rows and blocks of different types are apart. Generic: no program, no condition. -/
namespace Go.Proofs.YtfacflbmlfbeeaaGreatDoor
open Go.RowKit

theorem own_not {w : World} {base : Nat} {e t : TypeId} {size : Nat} {v : Value} {n : Nat} {xs : List Value} (h : w.ownsRow base e size v n xs) {k : Nat} {c : Array Value} {f : Nat × Nat} (hk : w.heap[k]? = some (.cells c t f)) (hne : (t == e) = false) : ¬ v.ownBlock = some k := fun he => by
  obtain ⟨c', h1⟩ := own_type h he
  rw [hk] at h1
  simp at h1
  rw [h1.2.1] at hne
  simp at hne
end Go.Proofs.YtfacflbmlfbeeaaGreatDoor

/- Rows that a slice owns: an element is written. Generic: no program, no condition. -/
namespace Go.Proofs.YtfacflbmlfbeeaaGreatDoor
open Go.RowKit Go.Maps

theorem putL_get : ∀ (vs c : List Value) (o j : Nat), o + vs.length ≤ c.length → (putL c o vs)[j]? = if o ≤ j ∧ j < o + vs.length then vs[j - o]? else c[j]?
  | [], c, o, j, _ => by
    rw [if_neg (by simp only [List.length_nil]; omega)]; rfl
  | v :: r, c, o, j, h => by
    simp only [putL]
    rw [putL_get r (c.set o v) (o + 1) j (by simp at h ⊢; omega)]
    by_cases h1 : o + 1 ≤ j ∧ j < o + 1 + r.length
    · rw [if_pos h1, if_pos (by simp; omega), show j - o = (j - (o + 1)) + 1 by omega]; rfl
    · rw [if_neg h1, List.getElem?_set]
      by_cases h2 : o = j
      · subst h2
        have h3 : o < c.length := by rw [List.length_cons] at h; omega
        rw [if_pos rfl, if_pos h3, if_pos (by rw [List.length_cons]; omega), Nat.sub_self]
        rfl
      · rw [if_neg h2, if_neg (by rw [List.length_cons]; omega)]
/-- An element of an own row is written. -/
theorem own_set {α : Type} {f : α → List Value} {L : Nat} {w w1 : World} {base n c g k : Nat} {e : TypeId} {l : List α} {y : α} (h : w.ownsRow base e L (.slice (some ⟨g, 0, none⟩) n c) n (l.flatMap f)) (hn : n = l.length) (hl : ∀ y, (f y).length = L) (h0 : 0 < L) (hk : k < l.length) (hp : PutB w g (0 + k * L) (f y) w1) :
    w1.ownsRow base e L (.slice (some ⟨g, 0, none⟩) n c) n ((l.set k y).flatMap f) := by
  subst hn
  have hlen := h.1
  rcases h.2 with ⟨hv, _⟩ | ⟨g', cap, cur, hv, hb, hg, h4, h5, h6, h7⟩
  · simp at hv
  simp only [Value.slice.injEq, true_and, Option.some.injEq, Addr.mk.injEq, and_true] at hv
  obtain ⟨rfl, rfl⟩ := hv
  have hm : (k + 1) * L ≤ l.length * L := Nat.mul_le_mul_right _ hk
  have hm2 : l.length * L ≤ c * L := Nat.mul_le_mul_right _ h4
  rw [Nat.succ_mul] at hm
  have hfl : ((l.set k y).flatMap f).length = l.length * L := by rw [len_flat f L _ (fun z _ => hl z), List.length_set]
  refine ⟨hfl, .inr ⟨g, c, _, rfl, hb, hp.block hg, h4, h5, by simp [putL_len, h6], ?_⟩⟩
  show (putL cur.toList (0 + k * L) (f y)).take (l.length * L) = _
  apply List.ext_getElem?
  intro j
  rw [List.getElem?_take]
  rcases Nat.lt_or_ge j (l.length * L) with hj | hj
  · rw [if_pos hj, putL_get _ _ _ _ (by rw [hl y]; simp [h6]; omega), hl y]
    have hdiv : j / L < l.length := Nat.div_lt_of_lt_mul (by rw [Nat.mul_comm]; exact hj)
    have hmod : j % L < L := Nat.mod_lt _ h0
    have hj2 : j / L * L + j % L = j := by rw [Nat.mul_comm]; exact Nat.div_add_mod j L
    by_cases hin : 0 + k * L ≤ j ∧ j < 0 + k * L + L
    · have hk1 : j / L = k := by
        have h1 : k ≤ j / L := (Nat.le_div_iff_mul_le h0).2 (by omega)
        have h2 : j / L < k + 1 := (Nat.div_lt_iff_lt_mul h0).2 (by rw [Nat.succ_mul]; omega)
        omega
      rw [if_pos hin]
      have := flat_get f L (l.set k y) k y (j % L) (fun z _ => hl z) (by rw [List.getElem?_set]; simp [hk]) hmod
      rw [show k * L + j % L = j by rw [← hk1]; exact hj2] at this
      rw [this]
      congr 1
      rw [hk1] at hj2
      omega
    · rw [if_neg hin]
      have hne : ¬ k = j / L := fun e => hin (by rw [e]; omega)
      obtain ⟨z, hz⟩ : ∃ z, l[j / L]? = some z := ⟨_, List.getElem?_eq_getElem hdiv⟩
      have h1 := flat_get f L (l.set k y) (j / L) z (j % L) (fun z _ => hl z) (by rw [List.getElem?_set, if_neg hne]; exact hz) hmod
      have h2 := flat_get f L l (j / L) z (j % L) (fun z _ => hl z) hz hmod
      rw [hj2] at h1 h2
      rw [h1, ← h2, ← h7, List.getElem?_take, if_pos hj]
  · rw [if_neg (by omega), List.getElem?_eq_none (by omega)]
theorem own_wr {w : World} {base n c L k : Nat} {p : Option Addr} {e : TypeId} {xs : List Value} (h : w.ownsRow base e L (.slice p n c) n xs) (hk : k < n) : ∃ g, p = some ⟨g, 0, none⟩ ∧ WrL w g (0 + k * L) L := by
  rcases h.2 with ⟨_, h0⟩ | ⟨g, cap, cur, hv, hb, hg, h4, h5, h6, h7⟩
  · omega
  simp only [Value.slice.injEq, true_and] at hv
  obtain ⟨rfl, rfl⟩ := hv
  have hm : (k + 1) * L ≤ n * L := Nat.mul_le_mul_right _ hk
  have hm2 : n * L ≤ c * L := Nat.mul_le_mul_right _ h4
  rw [Nat.succ_mul] at hm
  exact ⟨g, rfl, WrL_block hg (by omega)⟩

end Go.Proofs.YtfacflbmlfbeeaaGreatDoor

/- The formulas of functions by the symbolic evaluator, and that each gives the call's contract. Written by a program (gen.py). No condition. -/
namespace Go.Proofs.YtfacflbmlfbeeaaGreatDoor
set_option maxRecDepth 100000
set_option linter.unusedVariables false

def VC_isMin (now : Int) (w : World) (R : Ending → World → Prop) : Prop :=
 R (Ending.returned (Value.bool (decide (now ≥ 0) && decide (now ≤ 105190559)))) w
theorem vc_isMin (now : Int) (w : World) (R : Ending → World → Prop) (h : VC_isMin now w R) : Calls Tryz.prog 86 ([Value.int
    IntKind.i64 now] : List Value).toArray w R := by
  have e : execR2 { P := Tryz.prog, loops := [], pur := pur1, tails := [], joins := [], boxes := [] } Tryz.f86.results.toList R (Tryz.f86.body.getD .skip) (initF [Value.int
    IntKind.i64
    now] (Tryz.f86.ntmps - ([Value.int IntKind.i64 now] : List Value).length)) w = VC_isMin now w R := by kernel_rfl
  have hb : Tryz.f86.body = some (Tryz.f86.body.getD .skip) := by kernel_rfl
  exact calls_of_exec2' (P := Tryz.prog) (fn := Tryz.f86) (c := Tryz.f86.body.getD .skip) (args := [Value.int
    IntKind.i64 now]) (w := w) (R := R) pur1_ok Tryz.func86 hb e h

def VC_begin_ (x : Option Addr) (now : Int) (w : World) (R : Ending → World → Prop) : Prop :=
 bsp x.isNone (R (Ending.returned (Value.int IntKind.i64 1)) w)
 (CallsS Tryz.prog 86 #[Value.int IntKind.i64 now] w fun (e : Ending) (w' : World) =>
 ∃ (x : Bool),
 e = Ending.returned (Value.bool x) ∧
 KeptL [] w w' ∧
 bsp (!x) (R (Ending.returned (Value.int IntKind.i64 2)) w') (R (Ending.returned (Value.int IntKind.i64 0)) w'))
theorem vc_begin_ (x : Option Addr) (now : Int) (w : World) (R : Ending → World → Prop) (h : VC_begin_ x now w R) : Calls Tryz.prog 48 ([Value.pointer
    x,
  Value.int IntKind.i64 now] : List Value).toArray w R := by
  have e : execR2 { P := Tryz.prog, loops := [], pur := pur1, tails := [], joins := [], boxes := [] } Tryz.f48.results.toList R (Tryz.f48.body.getD .skip) (initF [Value.pointer
    x,
  Value.int IntKind.i64
    now] (Tryz.f48.ntmps - ([Value.pointer x,
  Value.int IntKind.i64 now] : List Value).length)) w = VC_begin_ x now w R := by kernel_rfl
  have hb : Tryz.f48.body = some (Tryz.f48.body.getD .skip) := by kernel_rfl
  exact calls_of_exec2' (P := Tryz.prog) (fn := Tryz.f48) (c := Tryz.f48.body.getD .skip) (args := [Value.pointer x,
  Value.int IntKind.i64 now]) (w := w) (R := R) pur1_ok Tryz.func48 hb e h

def VC_inEff (le : Bool) (ho : Nat → Int) (si : Int) (now : Int) (w : World) (R : Ending → World → Prop) : Prop :=
 ∀ (n : Nat),
 ∃ (x : Int),
 gimp le
 (∀ (W : World),
 Loc w.heap.size
 [Blk.mk n 105
 ([Value.bool le] ++ arrI IntKind.u8 ho 16 0 ++ [Value.int IntKind.i64 si])
 2]
 w W →
 W.cell? (Addr.mk n (0 + 17) none) = some (Value.int IntKind.i64 x)) ∧
 ∃ (x_1 : Int),
 gimp (le && decide (x ≤ now))
 (∀ (W : World),
 Loc w.heap.size
 [Blk.mk n 105
 ([Value.bool le] ++ arrI IntKind.u8 ho 16 0 ++ [Value.int IntKind.i64 si])
 2]
 w W →
 W.cell? (Addr.mk n (0 + 17) none) = some (Value.int IntKind.i64 x_1)) ∧
 ∀ (W : World),
 Loc w.heap.size
 [Blk.mk n 105
 ([Value.bool le] ++ arrI IntKind.u8 ho 16 0 ++ [Value.int IntKind.i64 si])
 2]
 w W →
 R (Ending.returned (Value.bool (le && decide (x ≤ now) && decide (IntKind.i64.wrap (now - x_1) < 60)))) W
theorem vc_inEff (le : Bool) (ho : Nat → Int) (si : Int) (now : Int) (w : World) (R : Ending → World → Prop) (h : VC_inEff le ho si now w R) : Calls Tryz.prog 81 ([Value.agg
    ([Value.bool le] ++ (arrI IntKind.u8 ho 16 0 ++ [Value.int IntKind.i64 si])).toArray,
  Value.int IntKind.i64 now] : List Value).toArray w R := by
  have e : execR2 { P := Tryz.prog, loops := [], pur := pur1, tails := [], joins := [], boxes := [] } Tryz.f81.results.toList R (Tryz.f81.body.getD .skip) (initF [Value.agg
    ([Value.bool le] ++ (arrI IntKind.u8 ho 16 0 ++ [Value.int IntKind.i64 si])).toArray,
  Value.int IntKind.i64
    now] (Tryz.f81.ntmps - ([Value.agg
    ([Value.bool le] ++ (arrI IntKind.u8 ho 16 0 ++ [Value.int IntKind.i64 si])).toArray,
  Value.int IntKind.i64 now] : List Value).length)) w = VC_inEff le ho si now w R := by kernel_rfl
  have hb : Tryz.f81.body = some (Tryz.f81.body.getD .skip) := by kernel_rfl
  exact calls_of_exec2' (P := Tryz.prog) (fn := Tryz.f81) (c := Tryz.f81.body.getD .skip) (args := [Value.agg
    ([Value.bool le] ++ (arrI IntKind.u8 ho 16 0 ++ [Value.int IntKind.i64 si])).toArray,
  Value.int IntKind.i64 now]) (w := w) (R := R) pur1_ok Tryz.func81 hb e h

def VC_blocked (id : Nat → Int) (mo : Nat → Int) (g : ByteArray) (t : ByteArray) (r : Int) (st : Int) (de : Int) (rs : ByteArray) (le : Bool) (ho : Nat → Int) (si : Int) (a : Nat → Int) (now : Int) (w : World) (R : Ending → World → Prop) : Prop :=
 ∀ (n n_1 : Nat) (W : World),
 Loc w.heap.size
 [Blk.mk n_1 45
 (arrI IntKind.u8 a 16 0)
 2,
 Blk.mk n 107
 (arrI IntKind.u8 id 32 0 ++ ([Value.string g, Value.string t,
 Value.int IntKind.i64 r, Value.int IntKind.i64 st] ++ arrI IntKind.u8 mo 16 0 ++ ([Value.int IntKind.i64 de, Value.string rs,
 Value.bool le] ++ arrI IntKind.u8 ho 16 0 ++ [Value.int IntKind.i64 si])))
 2]
 w W →
 CallsS Tryz.prog 81
 #[Value.agg
 ([Value.bool le] ++ arrI IntKind.u8 ho 16 0 ++ [Value.int IntKind.i64 si]).toArray,
 Value.int IntKind.i64 now]
 W fun (e : Ending) (w' : World) =>
 ∃ (x : Bool),
 e = Ending.returned (Value.bool x) ∧
 KeptL [n_1, n] W w' ∧
 ∃ (f : Nat → Int),
 gimp x
 (AtL w' n (0 + 55)
 (arrI IntKind.u8 f 16 0)) ∧
 ∃ (r : Bool),
 gimp x
 (EqP Tryz.prog 45
 (Value.agg
 (arrI IntKind.u8 f 16 0).toArray)
 (Value.agg
 (arrI IntKind.u8 a 16 0).toArray)
 r) ∧
 R (Ending.returned (Value.bool (x && !r))) w'
theorem vc_blocked (id : Nat → Int) (mo : Nat → Int) (g : ByteArray) (t : ByteArray) (r : Int) (st : Int) (de : Int) (rs : ByteArray) (le : Bool) (ho : Nat → Int) (si : Int) (a : Nat → Int) (now : Int) (w : World) (R : Ending → World → Prop) (h : VC_blocked id mo g t r st de rs le ho si a now w R) : Calls Tryz.prog 77 ([Value.agg
    (arrI IntKind.u8 id 32 0 ++
        ([Value.string g, Value.string t, Value.int IntKind.i64 r, Value.int IntKind.i64 st] ++
          (arrI IntKind.u8 mo 16 0 ++
            ([Value.int IntKind.i64 de, Value.string rs, Value.bool le] ++
              (arrI IntKind.u8 ho 16 0 ++ [Value.int IntKind.i64 si]))))).toArray,
  Value.agg (arrI IntKind.u8 a 16 0).toArray, Value.int IntKind.i64 now] : List Value).toArray w R := by
  have e : execR2 { P := Tryz.prog, loops := [], pur := pur1, tails := [], joins := [], boxes := [] } Tryz.f77.results.toList R (Tryz.f77.body.getD .skip) (initF [Value.agg
    (arrI IntKind.u8 id 32 0 ++
        ([Value.string g, Value.string t, Value.int IntKind.i64 r, Value.int IntKind.i64 st] ++
          (arrI IntKind.u8 mo 16 0 ++
            ([Value.int IntKind.i64 de, Value.string rs, Value.bool le] ++
              (arrI IntKind.u8 ho 16 0 ++ [Value.int IntKind.i64 si]))))).toArray,
  Value.agg (arrI IntKind.u8 a 16 0).toArray,
  Value.int IntKind.i64
    now] (Tryz.f77.ntmps - ([Value.agg
    (arrI IntKind.u8 id 32 0 ++
        ([Value.string g, Value.string t, Value.int IntKind.i64 r, Value.int IntKind.i64 st] ++
          (arrI IntKind.u8 mo 16 0 ++
            ([Value.int IntKind.i64 de, Value.string rs, Value.bool le] ++
              (arrI IntKind.u8 ho 16 0 ++ [Value.int IntKind.i64 si]))))).toArray,
  Value.agg (arrI IntKind.u8 a 16 0).toArray,
  Value.int IntKind.i64
    now] : List Value).length)) w = VC_blocked id mo g t r st de rs le ho si a now w R := by kernel_rfl
  have hb : Tryz.f77.body = some (Tryz.f77.body.getD .skip) := by kernel_rfl
  exact calls_of_exec2' (P := Tryz.prog) (fn := Tryz.f77) (c := Tryz.f77.body.getD .skip) (args := [Value.agg
    (arrI IntKind.u8 id 32 0 ++
        ([Value.string g, Value.string t, Value.int IntKind.i64 r, Value.int IntKind.i64 st] ++
          (arrI IntKind.u8 mo 16 0 ++
            ([Value.int IntKind.i64 de, Value.string rs, Value.bool le] ++
              (arrI IntKind.u8 ho 16 0 ++ [Value.int IntKind.i64 si]))))).toArray,
  Value.agg (arrI IntKind.u8 a 16 0).toArray, Value.int IntKind.i64 now]) (w := w) (R := R) pur1_ok Tryz.func77 hb e h

def VC_acmp (a : Array Value) (b : Array Value) (w : World) (R : Ending → World → Prop) : Prop :=
 ∀ (n : Nat) (w1 : World),
 NewB w (Obj.cells a 45) n w1 →
 ∀ (n_1 : Nat) (w1_1 : World),
 NewB w1 (Obj.cells b 45) n_1 w1_1 →
 CallsS Tryz.prog 106 #[Value.slice (some (Addr.mk n 0 none)) 16 16, Value.slice (some (Addr.mk n_1 0 none)) 16 16]
 w1_1.drew fun (e : Ending) (w' : World) =>
 ∃ (x : Int), e = Ending.returned (Value.int IntKind.i64 x) ∧ R (Ending.returned (Value.int IntKind.i64 x)) w'
theorem vc_acmp (a : Array Value) (b : Array Value) (w : World) (R : Ending → World → Prop) (h : VC_acmp a b w R) : Calls Tryz.prog 73 ([Value.agg
    a,
  Value.agg b] : List Value).toArray w R := by
  have e : execR { P := Tryz.prog, loops := [], pur := pur1, tails := [(1, 2)], joins := [], boxes := [] } Tryz.f73.results.toList R (Tryz.f73.body.getD .skip) (initF [Value.agg
    a,
  Value.agg b] (Tryz.f73.ntmps - ([Value.agg a, Value.agg b] : List Value).length)) w = VC_acmp a b w R := by kernel_rfl
  have hb : Tryz.f73.body = some (Tryz.f73.body.getD .skip) := by kernel_rfl
  exact calls_of_exec' (P := Tryz.prog) (fn := Tryz.f73) (c := Tryz.f73.body.getD .skip) (args := [Value.agg a,
  Value.agg b]) (w := w) (R := R) pur1_ok Tryz.func73 hb e h

def VC_mdcmp (a : Array Value) (b : Array Value) (w : World) (R : Ending → World → Prop) : Prop :=
 ∀ (n : Nat) (w1 : World),
 NewB w (Obj.cells a 48) n w1 →
 ∀ (n_1 : Nat) (w1_1 : World),
 NewB w1 (Obj.cells b 48) n_1 w1_1 →
 ∃ (S : World → Prop),
 S w1_1.drew ∧
 ∃ (x : Int),
 (∀ (w' : World), S w' → w'.cell? (Addr.mk n (0 + 34) none) = some (Value.int IntKind.i64 x)) ∧
 ∃ (x_1 : Int),
 (∀ (w' : World), S w' → w'.cell? (Addr.mk n_1 (0 + 34) none) = some (Value.int IntKind.i64 x_1)) ∧
 ∃ (f : Nat → Int),
 (∀ (w' : World),
 S w' →
 AtL w' n 0
 (arrI IntKind.u8 f 32 0)) ∧
 ∃ (f_1 : Nat → Int),
 (∀ (w' : World),
 S w' →
 AtL w' n_1 0
 (arrI IntKind.u8 f_1 32 0)) ∧
 ∃ (x_2 : ByteArray),
 (∀ (w' : World), S w' → w'.cell? (Addr.mk n (0 + 32) none) = some (Value.string x_2)) ∧
 ∃ (x_3 : ByteArray),
 (∀ (w' : World), S w' → w'.cell? (Addr.mk n_1 (0 + 32) none) = some (Value.string x_3)) ∧
 CallsS Tryz.prog 100 #[Value.int IntKind.i64 x, Value.int IntKind.i64 x_1] w1_1.drew
 fun (e : Ending) (w' : World) =>
 ∃ (x : Int),
 e = Ending.returned (Value.int IntKind.i64 x) ∧
 S w' ∧
 CallsS Tryz.prog 101
 #[Value.agg
 (arrI IntKind.u8 f 32 0).toArray,
 Value.agg
 (arrI IntKind.u8 f_1 32 0).toArray]
 w' fun (e : Ending) (w' : World) =>
 ∃ (x_4 : Int),
 e = Ending.returned (Value.int IntKind.i64 x_4) ∧
 S w' ∧
 CallsS Tryz.prog 102 #[Value.string x_2, Value.string x_3] w' fun (e : Ending) (w' : World) =>
 ∃ (x_5 : Int),
 e = Ending.returned (Value.int IntKind.i64 x_5) ∧
 ∀ (n : Nat) (w1 : World),
 NewB w'
 (Obj.cells
 #[Value.int IntKind.i64 x, Value.int IntKind.i64 x_4, Value.int IntKind.i64 x_5] 3)
 n w1 →
 CallsS Tryz.prog 99 #[Value.slice (some (Addr.mk n 0 none)) 3 3] w1
 fun (e : Ending) (w' : World) =>
 ∃ (x : Int),
 e = Ending.returned (Value.int IntKind.i64 x) ∧
 R (Ending.returned (Value.int IntKind.i64 x)) w'
theorem vc_mdcmp (a : Array Value) (b : Array Value) (w : World) (R : Ending → World → Prop) (h : VC_mdcmp a b w R) : Calls Tryz.prog 68 ([Value.agg
    a,
  Value.agg b] : List Value).toArray w R := by
  have e : execR { P := Tryz.prog, loops := [], pur := pur1, tails := [(1, 4)], joins := [], boxes := [] } Tryz.f68.results.toList R (Tryz.f68.body.getD .skip) (initF [Value.agg
    a,
  Value.agg
    b] (Tryz.f68.ntmps - ([Value.agg a, Value.agg b] : List Value).length)) w = VC_mdcmp a b w R := by kernel_rfl
  have hb : Tryz.f68.body = some (Tryz.f68.body.getD .skip) := by kernel_rfl
  exact calls_of_exec' (P := Tryz.prog) (fn := Tryz.f68) (c := Tryz.f68.body.getD .skip) (args := [Value.agg a,
  Value.agg b]) (w := w) (R := R) pur1_ok Tryz.func68 hb e h

end Go.Proofs.YtfacflbmlfbeeaaGreatDoor

/- The formulas of functions by the symbolic evaluator, and that each gives the call's contract. Written by a program (gen.py). No condition. -/
namespace Go.Proofs.YtfacflbmlfbeeaaGreatDoor
set_option maxRecDepth 100000
set_option linter.unusedVariables false

def VC_minf (p : Option Addr) (n : Nat) (c : Nat) (f : FuncId) (fa : Array Value) (fb : Array Value) (w : World) (R : Ending → World → Prop) : Prop :=
 ∀ (n_1 : Nat),
 bsp (decide ((↑n : Int) < 1)) False
 (nn true p fun (b o : Nat) =>
 ((0 : Int) ≤ 0 ∧ 0 < (↑n : Int)) ∧
 ∃ (f_1 : Nat → Int),
 ∃ (x : ByteArray),
 ∃ (x_1 : ByteArray),
 ∃ (x_2 : Int),
 ∃ (x_3 : Int),
 ∃ (f_2 : Nat → Int),
 ∃ (x_4 : Int),
 ∃ (x_5 : ByteArray),
 (∀ (W : World),
 Loc w.heap.size
 [Blk.mk n_1 48
 [Value.int IntKind.u8 0, Value.int IntKind.u8 0, Value.int IntKind.u8 0, Value.int IntKind.u8 0,
 Value.int IntKind.u8 0, Value.int IntKind.u8 0, Value.int IntKind.u8 0, Value.int IntKind.u8 0,
 Value.int IntKind.u8 0, Value.int IntKind.u8 0, Value.int IntKind.u8 0, Value.int IntKind.u8 0,
 Value.int IntKind.u8 0, Value.int IntKind.u8 0, Value.int IntKind.u8 0, Value.int IntKind.u8 0,
 Value.int IntKind.u8 0, Value.int IntKind.u8 0, Value.int IntKind.u8 0, Value.int IntKind.u8 0,
 Value.int IntKind.u8 0, Value.int IntKind.u8 0, Value.int IntKind.u8 0, Value.int IntKind.u8 0,
 Value.int IntKind.u8 0, Value.int IntKind.u8 0, Value.int IntKind.u8 0, Value.int IntKind.u8 0,
 Value.int IntKind.u8 0, Value.int IntKind.u8 0, Value.int IntKind.u8 0, Value.int IntKind.u8 0,
 Value.string (ByteArray.mk #[]), Value.string (ByteArray.mk #[]), Value.int IntKind.i64 0,
 Value.int IntKind.i64 0, Value.int IntKind.u8 0, Value.int IntKind.u8 0, Value.int IntKind.u8 0,
 Value.int IntKind.u8 0, Value.int IntKind.u8 0, Value.int IntKind.u8 0, Value.int IntKind.u8 0,
 Value.int IntKind.u8 0, Value.int IntKind.u8 0, Value.int IntKind.u8 0, Value.int IntKind.u8 0,
 Value.int IntKind.u8 0, Value.int IntKind.u8 0, Value.int IntKind.u8 0, Value.int IntKind.u8 0,
 Value.int IntKind.u8 0, Value.int IntKind.i64 0, Value.string (ByteArray.mk #[])]
 2]
 w W →
 AtL W b o
 (arrI IntKind.u8 f_1 32 0 ++ ([Value.string x, Value.string x_1,
 Value.int IntKind.i64 x_2, Value.int IntKind.i64 x_3] ++ arrI IntKind.u8 f_2 16 0 ++ [Value.int IntKind.i64 x_4, Value.string x_5]))) ∧
 ∀ (n_2 : Nat) (W : World),
 Loc w.heap.size
 [Blk.mk n_2 48
 (arrI IntKind.u8 f_1 32 0 ++ ([Value.string x, Value.string x_1,
 Value.int IntKind.i64 x_2, Value.int IntKind.i64 x_3] ++ arrI IntKind.u8 f_2 16 0 ++ [Value.int IntKind.i64 x_4, Value.string x_5]))
 (wrM 2),
 Blk.mk n_1 48
 [Value.int IntKind.u8 0, Value.int IntKind.u8 0, Value.int IntKind.u8 0, Value.int IntKind.u8 0,
 Value.int IntKind.u8 0, Value.int IntKind.u8 0, Value.int IntKind.u8 0, Value.int IntKind.u8 0,
 Value.int IntKind.u8 0, Value.int IntKind.u8 0, Value.int IntKind.u8 0, Value.int IntKind.u8 0,
 Value.int IntKind.u8 0, Value.int IntKind.u8 0, Value.int IntKind.u8 0, Value.int IntKind.u8 0,
 Value.int IntKind.u8 0, Value.int IntKind.u8 0, Value.int IntKind.u8 0, Value.int IntKind.u8 0,
 Value.int IntKind.u8 0, Value.int IntKind.u8 0, Value.int IntKind.u8 0, Value.int IntKind.u8 0,
 Value.int IntKind.u8 0, Value.int IntKind.u8 0, Value.int IntKind.u8 0, Value.int IntKind.u8 0,
 Value.int IntKind.u8 0, Value.int IntKind.u8 0, Value.int IntKind.u8 0, Value.int IntKind.u8 0,
 Value.string (ByteArray.mk #[]), Value.string (ByteArray.mk #[]), Value.int IntKind.i64 0,
 Value.int IntKind.i64 0, Value.int IntKind.u8 0, Value.int IntKind.u8 0, Value.int IntKind.u8 0,
 Value.int IntKind.u8 0, Value.int IntKind.u8 0, Value.int IntKind.u8 0, Value.int IntKind.u8 0,
 Value.int IntKind.u8 0, Value.int IntKind.u8 0, Value.int IntKind.u8 0, Value.int IntKind.u8 0,
 Value.int IntKind.u8 0, Value.int IntKind.u8 0, Value.int IntKind.u8 0, Value.int IntKind.u8 0,
 Value.int IntKind.u8 0, Value.int IntKind.i64 0, Value.string (ByteArray.mk #[])]
 2]
 w W →
 ∃ (I : List Value → World → Prop),
 ∃ (m : List Value → World → Nat),
 I [Value.int IntKind.i64 1] W ∧
 ∀ (x : Int) (w' : World),
 I [Value.int IntKind.i64 x] w' →
 Loc w.heap.size
 [Blk.mk n_1 48
 [Value.int IntKind.u8 0, Value.int IntKind.u8 0, Value.int IntKind.u8 0, Value.int IntKind.u8 0,
 Value.int IntKind.u8 0, Value.int IntKind.u8 0, Value.int IntKind.u8 0, Value.int IntKind.u8 0,
 Value.int IntKind.u8 0, Value.int IntKind.u8 0, Value.int IntKind.u8 0, Value.int IntKind.u8 0,
 Value.int IntKind.u8 0, Value.int IntKind.u8 0, Value.int IntKind.u8 0, Value.int IntKind.u8 0,
 Value.int IntKind.u8 0, Value.int IntKind.u8 0, Value.int IntKind.u8 0, Value.int IntKind.u8 0,
 Value.int IntKind.u8 0, Value.int IntKind.u8 0, Value.int IntKind.u8 0, Value.int IntKind.u8 0,
 Value.int IntKind.u8 0, Value.int IntKind.u8 0, Value.int IntKind.u8 0, Value.int IntKind.u8 0,
 Value.int IntKind.u8 0, Value.int IntKind.u8 0, Value.int IntKind.u8 0, Value.int IntKind.u8 0,
 Value.string (ByteArray.mk #[]), Value.string (ByteArray.mk #[]), Value.int IntKind.i64 0,
 Value.int IntKind.i64 0, Value.int IntKind.u8 0, Value.int IntKind.u8 0,
 Value.int IntKind.u8 0, Value.int IntKind.u8 0, Value.int IntKind.u8 0, Value.int IntKind.u8 0,
 Value.int IntKind.u8 0, Value.int IntKind.u8 0, Value.int IntKind.u8 0, Value.int IntKind.u8 0,
 Value.int IntKind.u8 0, Value.int IntKind.u8 0, Value.int IntKind.u8 0, Value.int IntKind.u8 0,
 Value.int IntKind.u8 0, Value.int IntKind.u8 0, Value.int IntKind.i64 0,
 Value.string (ByteArray.mk #[])]
 0]
 w' w' →
 bsp (decide (x < (↑n : Int)))
 (nn true p fun (b o : Nat) =>
 (0 ≤ x ∧ x < (↑n : Int)) ∧
 ∃ (f_3 : Nat → Int),
 ∃ (x_6 : ByteArray),
 ∃ (x_7 : ByteArray),
 ∃ (x_8 : Int),
 ∃ (x_9 : Int),
 ∃ (f_4 : Nat → Int),
 ∃ (x_10 : Int),
 ∃ (x_11 : ByteArray),
 (∀ (W : World),
 Loc w.heap.size
 [Blk.mk n_1 48
 [Value.int IntKind.u8 0, Value.int IntKind.u8 0, Value.int IntKind.u8 0,
 Value.int IntKind.u8 0, Value.int IntKind.u8 0, Value.int IntKind.u8 0,
 Value.int IntKind.u8 0, Value.int IntKind.u8 0, Value.int IntKind.u8 0,
 Value.int IntKind.u8 0, Value.int IntKind.u8 0, Value.int IntKind.u8 0,
 Value.int IntKind.u8 0, Value.int IntKind.u8 0, Value.int IntKind.u8 0,
 Value.int IntKind.u8 0, Value.int IntKind.u8 0, Value.int IntKind.u8 0,
 Value.int IntKind.u8 0, Value.int IntKind.u8 0, Value.int IntKind.u8 0,
 Value.int IntKind.u8 0, Value.int IntKind.u8 0, Value.int IntKind.u8 0,
 Value.int IntKind.u8 0, Value.int IntKind.u8 0, Value.int IntKind.u8 0,
 Value.int IntKind.u8 0, Value.int IntKind.u8 0, Value.int IntKind.u8 0,
 Value.int IntKind.u8 0, Value.int IntKind.u8 0, Value.string (ByteArray.mk #[]),
 Value.string (ByteArray.mk #[]), Value.int IntKind.i64 0,
 Value.int IntKind.i64 0, Value.int IntKind.u8 0, Value.int IntKind.u8 0,
 Value.int IntKind.u8 0, Value.int IntKind.u8 0, Value.int IntKind.u8 0,
 Value.int IntKind.u8 0, Value.int IntKind.u8 0, Value.int IntKind.u8 0,
 Value.int IntKind.u8 0, Value.int IntKind.u8 0, Value.int IntKind.u8 0,
 Value.int IntKind.u8 0, Value.int IntKind.u8 0, Value.int IntKind.u8 0,
 Value.int IntKind.u8 0, Value.int IntKind.u8 0, Value.int IntKind.i64 0,
 Value.string (ByteArray.mk #[])]
 0]
 w' W →
 AtL W b (o + x.toNat * 54)
 (arrI IntKind.u8 f_3 32 0 ++ ([Value.string x_6,
 Value.string x_7, Value.int IntKind.i64 x_8, Value.int IntKind.i64 x_9] ++ arrI IntKind.u8 f_4 16 0 ++ [Value.int IntKind.i64 x_10, Value.string x_11]))) ∧
 ∃ (f_5 : Nat → Int),
 ∃ (x_12 : ByteArray),
 ∃ (x_13 : ByteArray),
 ∃ (x_14 : Int),
 ∃ (x_15 : Int),
 ∃ (f_6 : Nat → Int),
 ∃ (x_16 : Int),
 ∃ (x_17 : ByteArray),
 (∀ (W : World),
 Loc w.heap.size
 [Blk.mk n_1 48
 [Value.int IntKind.u8 0, Value.int IntKind.u8 0, Value.int IntKind.u8 0,
 Value.int IntKind.u8 0, Value.int IntKind.u8 0, Value.int IntKind.u8 0,
 Value.int IntKind.u8 0, Value.int IntKind.u8 0, Value.int IntKind.u8 0,
 Value.int IntKind.u8 0, Value.int IntKind.u8 0, Value.int IntKind.u8 0,
 Value.int IntKind.u8 0, Value.int IntKind.u8 0, Value.int IntKind.u8 0,
 Value.int IntKind.u8 0, Value.int IntKind.u8 0, Value.int IntKind.u8 0,
 Value.int IntKind.u8 0, Value.int IntKind.u8 0, Value.int IntKind.u8 0,
 Value.int IntKind.u8 0, Value.int IntKind.u8 0, Value.int IntKind.u8 0,
 Value.int IntKind.u8 0, Value.int IntKind.u8 0, Value.int IntKind.u8 0,
 Value.int IntKind.u8 0, Value.int IntKind.u8 0, Value.int IntKind.u8 0,
 Value.int IntKind.u8 0, Value.int IntKind.u8 0,
 Value.string (ByteArray.mk #[]), Value.string (ByteArray.mk #[]),
 Value.int IntKind.i64 0, Value.int IntKind.i64 0,
 Value.int IntKind.u8 0, Value.int IntKind.u8 0, Value.int IntKind.u8 0,
 Value.int IntKind.u8 0, Value.int IntKind.u8 0, Value.int IntKind.u8 0,
 Value.int IntKind.u8 0, Value.int IntKind.u8 0, Value.int IntKind.u8 0,
 Value.int IntKind.u8 0, Value.int IntKind.u8 0, Value.int IntKind.u8 0,
 Value.int IntKind.u8 0, Value.int IntKind.u8 0, Value.int IntKind.u8 0,
 Value.int IntKind.u8 0, Value.int IntKind.i64 0,
 Value.string (ByteArray.mk #[])]
 0]
 w' W →
 AtL W n_2 0
 (arrI IntKind.u8 f_5 32 0 ++ ([Value.string x_12, Value.string x_13, Value.int IntKind.i64 x_14,
 Value.int IntKind.i64 x_15] ++ arrI IntKind.u8 f_6 16 0 ++ [Value.int IntKind.i64 x_16,
 Value.string x_17]))) ∧
 ∀ (W : World),
 Loc w.heap.size
 [Blk.mk n_1 48
 [Value.int IntKind.u8 0, Value.int IntKind.u8 0, Value.int IntKind.u8 0,
 Value.int IntKind.u8 0, Value.int IntKind.u8 0, Value.int IntKind.u8 0,
 Value.int IntKind.u8 0, Value.int IntKind.u8 0, Value.int IntKind.u8 0,
 Value.int IntKind.u8 0, Value.int IntKind.u8 0, Value.int IntKind.u8 0,
 Value.int IntKind.u8 0, Value.int IntKind.u8 0, Value.int IntKind.u8 0,
 Value.int IntKind.u8 0, Value.int IntKind.u8 0, Value.int IntKind.u8 0,
 Value.int IntKind.u8 0, Value.int IntKind.u8 0, Value.int IntKind.u8 0,
 Value.int IntKind.u8 0, Value.int IntKind.u8 0, Value.int IntKind.u8 0,
 Value.int IntKind.u8 0, Value.int IntKind.u8 0, Value.int IntKind.u8 0,
 Value.int IntKind.u8 0, Value.int IntKind.u8 0, Value.int IntKind.u8 0,
 Value.int IntKind.u8 0, Value.int IntKind.u8 0,
 Value.string (ByteArray.mk #[]), Value.string (ByteArray.mk #[]),
 Value.int IntKind.i64 0, Value.int IntKind.i64 0,
 Value.int IntKind.u8 0, Value.int IntKind.u8 0, Value.int IntKind.u8 0,
 Value.int IntKind.u8 0, Value.int IntKind.u8 0, Value.int IntKind.u8 0,
 Value.int IntKind.u8 0, Value.int IntKind.u8 0, Value.int IntKind.u8 0,
 Value.int IntKind.u8 0, Value.int IntKind.u8 0, Value.int IntKind.u8 0,
 Value.int IntKind.u8 0, Value.int IntKind.u8 0, Value.int IntKind.u8 0,
 Value.int IntKind.u8 0, Value.int IntKind.i64 0,
 Value.string (ByteArray.mk #[])]
 0]
 w' W →
 ∃ (f_7 : Nat),
 ∃ (a : Array Value),
 ∃ (b : Array Value),
 Value.func (Fn.func f) fa fb = Value.func (Fn.func f_7) a b ∧
 okFn Tryz.prog f_7 = true ∧
 CallsS Tryz.prog f_7
 (appA a
 [Value.agg
 (arrI IntKind.u8 f_3 32 0 ++ ([Value.string x_6, Value.string x_7, Value.int IntKind.i64 x_8,
 Value.int IntKind.i64 x_9] ++ arrI IntKind.u8 f_4 16 0 ++ [Value.int IntKind.i64 x_10,
 Value.string x_11])).toArray,
 Value.agg
 (arrI IntKind.u8 f_5 32 0 ++ ([Value.string x_12, Value.string x_13, Value.int IntKind.i64 x_14,
 Value.int IntKind.i64 x_15] ++ arrI IntKind.u8 f_6 16 0 ++ [Value.int IntKind.i64 x_16,
 Value.string x_17])).toArray]
 b)
 W fun (e : Ending) (w'_1 : World) =>
 ∃ (x_18 : Int),
 e = Ending.returned (Value.int IntKind.i64 x_18) ∧
 KeptL [n_1] W w'_1 ∧
 bsp (decide (x_18 < 0))
 (nn true p fun (b o : Nat) =>
 (0 ≤ x ∧ x < (↑n : Int)) ∧
 ∃ (f : Nat → Int),
 ∃ (x_19 : ByteArray),
 ∃ (x_20 : ByteArray),
 ∃ (x_21 : Int),
 ∃ (x_22 : Int),
 ∃ (f_8 : Nat → Int),
 ∃ (x_23 : Int),
 ∃ (x_24 : ByteArray),
 AtL w'_1 b (o + x.toNat * 54)
 (arrI IntKind.u8 f 32 0 ++ ([Value.string x_19,
 Value.string x_20, Value.int IntKind.i64 x_21,
 Value.int IntKind.i64 x_22] ++ arrI IntKind.u8 f_8 16 0 ++ [Value.int IntKind.i64 x_23, Value.string x_24])) ∧
 WrL w'_1 n_2 0 54 ∧
 ∀ (w1 : World),
 PutB w'_1 n_2 0
 (arrI IntKind.u8 f 32 0 ++ ([Value.string x_19,
 Value.string x_20, Value.int IntKind.i64 x_21,
 Value.int IntKind.i64 x_22] ++ arrI IntKind.u8 f_8 16 0 ++ [Value.int IntKind.i64 x_23, Value.string x_24]))
 w1 →
 KeptL [n_1] w'_1 w1 ∧
 I
 [Value.int IntKind.i64
 (IntKind.i64.wrap (x + 1))]
 w1 ∧
 m
 [Value.int IntKind.i64
 (IntKind.i64.wrap (x + 1))]
 w1 <
 m [Value.int IntKind.i64 x] w')
 (I [Value.int IntKind.i64 (IntKind.i64.wrap (x + 1))] w'_1 ∧
 m [Value.int IntKind.i64 (IntKind.i64.wrap (x + 1))] w'_1 <
 m [Value.int IntKind.i64 x] w'))
 (∃ (f : Nat → Int),
 ∃ (x : ByteArray),
 ∃ (x_6 : ByteArray),
 ∃ (x_7 : Int),
 ∃ (x_8 : Int),
 ∃ (f_3 : Nat → Int),
 ∃ (x_9 : Int),
 ∃ (x_10 : ByteArray),
 AtL w' n_2 0
 (arrI IntKind.u8 f 32 0 ++ ([Value.string x,
 Value.string x_6, Value.int IntKind.i64 x_7, Value.int IntKind.i64 x_8] ++ arrI IntKind.u8 f_3 16 0 ++ [Value.int IntKind.i64 x_9, Value.string x_10])) ∧
 ∀ (W : World),
 Loc w.heap.size
 [Blk.mk n_1 48
 (arrI IntKind.u8 f 32 0 ++ ([Value.string x, Value.string x_6,
 Value.int IntKind.i64 x_7, Value.int IntKind.i64 x_8] ++ arrI IntKind.u8 f_3 16 0 ++ [Value.int IntKind.i64 x_9, Value.string x_10]))
 (wrM 0)]
 w' W →
 R
 (Ending.returned
 (Value.agg
 (arrI IntKind.u8 f 32 0 ++ ([Value.string x,
 Value.string x_6, Value.int IntKind.i64 x_7, Value.int IntKind.i64 x_8] ++ arrI IntKind.u8 f_3 16 0 ++ [Value.int IntKind.i64 x_9, Value.string x_10])).toArray))
 W))
theorem vc_minf (p : Option Addr) (n : Nat) (c : Nat) (f : FuncId) (fa : Array Value) (fb : Array Value) (w : World) (R : Ending → World → Prop) (h : VC_minf p n c f fa fb w R) : Calls Tryz.prog 78 ([Value.slice
    p n c,
  Value.func (Fn.func f) fa fb] : List Value).toArray w R := by
  have e : execR2 { P := Tryz.prog, loops := [(5, [(6, Ck.int IntKind.i64)])], pur := pur1, tails := [(7, 6)], joins := [], boxes := [] } Tryz.f78.results.toList R (Tryz.f78.body.getD .skip) (initF [Value.slice
    p n c,
  Value.func (Fn.func f) fa
    fb] (Tryz.f78.ntmps - ([Value.slice p n c,
  Value.func (Fn.func f) fa fb] : List Value).length)) w = VC_minf p n c f fa fb w R := by kernel_rfl
  have hb : Tryz.f78.body = some (Tryz.f78.body.getD .skip) := by kernel_rfl
  exact calls_of_exec2' (P := Tryz.prog) (fn := Tryz.f78) (c := Tryz.f78.body.getD .skip) (args := [Value.slice p n c,
  Value.func (Fn.func f) fa fb]) (w := w) (R := R) pur1_ok Tryz.func78 hb e h

def VC_acompact (p : Option Addr) (n : Nat) (c : Nat) (w : World) (R : Ending → World → Prop) : Prop :=
 bsp (decide ((↑n : Int) < 2)) (R (Ending.returned (Value.slice p n c)) w)
 (∃ (I : List Value → World → Prop),
 ∃ (m : List Value → World → Nat),
 I [Value.int IntKind.i64 1] w ∧
 ∀ (x : Int) (w' : World),
 I [Value.int IntKind.i64 x] w' →
 bsp (decide (x < (↑n : Int)))
 (nn true p fun (b o : Nat) =>
 (0 ≤ x ∧ x < (↑n : Int)) ∧
 ∃ (f : Nat → Int),
 (∀ (W : World),
 Loc w.heap.size [] w' W →
 AtL W b (o + x.toNat * 16)
 (arrI IntKind.u8 f 16 0)) ∧
 nn true p fun (b o : Nat) =>
 (0 ≤ IntKind.i64.wrap (x - 1) ∧ IntKind.i64.wrap (x - 1) < (↑n : Int)) ∧
 ∃ (f_1 : Nat → Int),
 (∀ (W : World),
 Loc w.heap.size [] w' W →
 AtL W b (o + (IntKind.i64.wrap (x - 1)).toNat * 16)
 (arrI IntKind.u8 f_1 16 0)) ∧
 ∃ (r : Bool),
 EqP Tryz.prog 45
 (Value.agg
 (arrI IntKind.u8 f 16 0).toArray)
 (Value.agg
 (arrI IntKind.u8 f_1 16 0).toArray)
 r ∧
 bsp r
 ((0 ≤ x ∧ x ≤ (↑n : Int)) ∧
 ∀ (W : World),
 Loc w.heap.size [] w' W →
 ∃ (I : List Value → World → Prop),
 ∃ (m : List Value → World → Nat),
 I [Value.int IntKind.i64 1, Value.int IntKind.i64 x] W ∧
 ∀ (x_1 x_2 : Int) (w' : World),
 I [Value.int IntKind.i64 x_1, Value.int IntKind.i64 x_2] w' →
 bsp (decide (x_1 < (↑(n - x.toNat) : Int)))
 (nn true (slA p c x.toNat 16) fun (b o : Nat) =>
 (0 ≤ x_1 ∧ x_1 < (↑(n - x.toNat) : Int)) ∧
 ∃ (f : Nat → Int),
 (∀ (W : World),
 Loc w.heap.size [] w' W →
 AtL W b (o + x_1.toNat * 16)
 (arrI IntKind.u8 f 16 0)) ∧
 nn true (slA p c x.toNat 16) fun (b o : Nat) =>
 (0 ≤ IntKind.i64.wrap (x_1 - 1) ∧ IntKind.i64.wrap (x_1 - 1) < (↑(n - x.toNat) : Int)) ∧
 ∃ (f_2 : Nat → Int),
 (∀ (W : World),
 Loc w.heap.size [] w' W →
 AtL W b (o + (IntKind.i64.wrap (x_1 - 1)).toNat * 16)
 (arrI IntKind.u8 f_2 16 0)) ∧
 ∃ (r : Bool),
 EqP Tryz.prog 45
 (Value.agg
 (arrI IntKind.u8 f 16 0).toArray)
 (Value.agg
 (arrI IntKind.u8 f_2 16 0).toArray)
 r ∧
 bsp (!r)
 (nn true (slA p c x.toNat 16) fun (b o : Nat) =>
 (0 ≤ x_1 ∧ x_1 < (↑(n - x.toNat) : Int)) ∧
 ∃ (f : Nat → Int),
 (∀ (W : World),
 Loc w.heap.size [] w' W →
 AtL W b (o + x_1.toNat * 16)
 (arrI IntKind.u8 f 16 0)) ∧
 nn true p fun (b o : Nat) =>
 (0 ≤ x_2 ∧ x_2 < (↑n : Int)) ∧
 ∀ (W : World),
 Loc w.heap.size [] w' W →
 WrL W b (o + x_2.toNat * 16) 16 ∧
 ∀ (w1 : World),
 PutB W b (o + x_2.toNat * 16)
 (arrI IntKind.u8 f 16 0)
 w1 →
 KeptL [] W w1 ∧
 I
 [Value.int IntKind.i64 (IntKind.i64.wrap (x_1 + 1)),
 Value.int IntKind.i64 (IntKind.i64.wrap (x_2 + 1))]
 w1 ∧
 m
 [Value.int IntKind.i64 (IntKind.i64.wrap (x_1 + 1)),
 Value.int IntKind.i64 (IntKind.i64.wrap (x_2 + 1))]
 w1 <
 m [Value.int IntKind.i64 x_1, Value.int IntKind.i64 x_2] w')
 (∀ (W : World),
 Loc w.heap.size [] w' W →
 I
 [Value.int IntKind.i64 (IntKind.i64.wrap (x_1 + 1)),
 Value.int IntKind.i64 x_2]
 W ∧
 m
 [Value.int IntKind.i64 (IntKind.i64.wrap (x_1 + 1)),
 Value.int IntKind.i64 x_2]
 W <
 m [Value.int IntKind.i64 x_1, Value.int IntKind.i64 x_2] w'))
 ((0 ≤ x_2 ∧ x_2 ≤ (↑n : Int)) ∧
 ∃ (w1 : World),
 BltP Tryz.prog Builtin.clear [28]
 [Value.slice (slA p c x_2.toNat 16) (n - x_2.toNat) (c - x_2.toNat)] w' w1 ∧
 KeptL [] w' w1 ∧
 (0 ≤ x_2 ∧ x_2 ≤ (↑c : Int)) ∧ R (Ending.returned (Value.slice p x_2.toNat c)) w1))
 (∀ (W : World),
 Loc w.heap.size [] w' W →
 I [Value.int IntKind.i64 (IntKind.i64.wrap (x + 1))] W ∧
 m [Value.int IntKind.i64 (IntKind.i64.wrap (x + 1))] W < m [Value.int IntKind.i64 x] w'))
 (R (Ending.returned (Value.slice p n c)) w'))
theorem vc_acompact (p : Option Addr) (n : Nat) (c : Nat) (w : World) (R : Ending → World → Prop) (h : VC_acompact p n c w R) : Calls Tryz.prog 74 ([Value.slice
    p n c] : List Value).toArray w R := by
  have e : execR2 { P := Tryz.prog, loops := [(4, [(3, Ck.int IntKind.i64)]), (9, [(5, Ck.int IntKind.i64), (3, Ck.int IntKind.i64)])], pur := pur1, tails := [], joins := [], boxes := [] } Tryz.f74.results.toList R (Tryz.f74.body.getD .skip) (initF [Value.slice
    p n c] (Tryz.f74.ntmps - ([Value.slice p n c] : List Value).length)) w = VC_acompact p n c w R := by kernel_rfl
  have hb : Tryz.f74.body = some (Tryz.f74.body.getD .skip) := by kernel_rfl
  exact calls_of_exec2' (P := Tryz.prog) (fn := Tryz.f74) (c := Tryz.f74.body.getD .skip) (args := [Value.slice p n
    c]) (w := w) (R := R) pur1_ok Tryz.func74 hb e h

def VC_avalues (p : Option Addr) (n : Nat) (c : Nat) (w : World) (R : Ending → World → Prop) : Prop :=
 ∀ (n_1 : Nat) (W : World),
 Loc w.heap.size [Blk.mk n_1 28 [Value.slice p n c] 2] w W →
 R (Ending.returned (Value.func (Fn.func 105) #[] #[Value.pointer (some (Addr.mk n_1 0 none))])) W
theorem vc_avalues (p : Option Addr) (n : Nat) (c : Nat) (w : World) (R : Ending → World → Prop) (h : VC_avalues p n c w R) : Calls Tryz.prog 72 ([Value.slice
    p n c] : List Value).toArray w R := by
  have e : execR2 { P := Tryz.prog, loops := [], pur := pur1, tails := [], joins := [], boxes := [] } Tryz.f72.results.toList R (Tryz.f72.body.getD .skip) (initF [Value.slice
    p n c] (Tryz.f72.ntmps - ([Value.slice p n c] : List Value).length)) w = VC_avalues p n c w R := by kernel_rfl
  have hb : Tryz.f72.body = some (Tryz.f72.body.getD .skip) := by kernel_rfl
  exact calls_of_exec2' (P := Tryz.prog) (fn := Tryz.f72) (c := Tryz.f72.body.getD .skip) (args := [Value.slice p n
    c]) (w := w) (R := R) pur1_ok Tryz.func72 hb e h

end Go.Proofs.YtfacflbmlfbeeaaGreatDoor

/- The formulas of functions by the symbolic evaluator, and that each gives the call's contract. Written by a program (gen.py). No condition. -/
namespace Go.Proofs.YtfacflbmlfbeeaaGreatDoor
set_option maxRecDepth 100000
set_option linter.unusedVariables false

def VC_acollect (f : FuncId) (fa : Array Value) (fb : Array Value) (w : World) (R : Ending → World → Prop) : Prop :=
 CallsS Tryz.prog 129 #[Value.slice none 0 0, Value.func (Fn.func f) fa fb] w fun (e : Ending) (w' : World) =>
 ∃ (p : Option Addr),
 ∃ (n : Nat),
 ∃ (c : Nat), e = Ending.returned (Value.slice p n c) ∧ KeptL [] w w' ∧ R (Ending.returned (Value.slice p n c)) w'
theorem vc_acollect (f : FuncId) (fa : Array Value) (fb : Array Value) (w : World) (R : Ending → World → Prop) (h : VC_acollect f fa fb w R) : Calls Tryz.prog 103 ([Value.func
    (Fn.func f) fa fb] : List Value).toArray w R := by
  have e : execR2 { P := Tryz.prog, loops := [], pur := pur1, tails := [], joins := [], boxes := [] } Tryz.f103.results.toList R (Tryz.f103.body.getD .skip) (initF [Value.func
    (Fn.func f) fa
    fb] (Tryz.f103.ntmps - ([Value.func (Fn.func f) fa
    fb] : List Value).length)) w = VC_acollect f fa fb w R := by kernel_rfl
  have hb : Tryz.f103.body = some (Tryz.f103.body.getD .skip) := by kernel_rfl
  exact calls_of_exec2' (P := Tryz.prog) (fn := Tryz.f103) (c := Tryz.f103.body.getD .skip) (args := [Value.func
    (Fn.func f) fa fb]) (w := w) (R := R) pur1_ok Tryz.func103 hb e h

def VC_asorted (f : FuncId) (g : FuncId) (fa : Array Value) (fb : Array Value) (ga : Array Value) (gb : Array Value) (w : World) (R : Ending → World → Prop) : Prop :=
 CallsS Tryz.prog 103 #[Value.func (Fn.func f) fa fb] w fun (e : Ending) (w' : World) =>
 ∃ (p : Option Addr),
 ∃ (n : Nat),
 ∃ (c : Nat),
 e = Ending.returned (Value.slice p n c) ∧
 KeptL [] w w' ∧
 CallsS Tryz.prog 104 #[Value.slice p n c, Value.func (Fn.func g) ga gb] w' fun (e : Ending) (w'_1 : World) =>
 e = Ending.returned (Value.tuple #[]) ∧ KeptL [] w' w'_1 ∧ R (Ending.returned (Value.slice p n c)) w'_1
theorem vc_asorted (f : FuncId) (g : FuncId) (fa : Array Value) (fb : Array Value) (ga : Array Value) (gb : Array Value) (w : World) (R : Ending → World → Prop) (h : VC_asorted f g fa fb ga gb w R) : Calls Tryz.prog 71 ([Value.func
    (Fn.func f) fa fb,
  Value.func (Fn.func g) ga gb] : List Value).toArray w R := by
  have e : execR2 { P := Tryz.prog, loops := [], pur := pur1, tails := [], joins := [], boxes := [] } Tryz.f71.results.toList R (Tryz.f71.body.getD .skip) (initF [Value.func
    (Fn.func f) fa fb,
  Value.func (Fn.func g) ga
    gb] (Tryz.f71.ntmps - ([Value.func (Fn.func f) fa fb,
  Value.func (Fn.func g) ga gb] : List Value).length)) w = VC_asorted f g fa fb ga gb w R := by kernel_rfl
  have hb : Tryz.f71.body = some (Tryz.f71.body.getD .skip) := by kernel_rfl
  exact calls_of_exec2' (P := Tryz.prog) (fn := Tryz.f71) (c := Tryz.f71.body.getD .skip) (args := [Value.func
    (Fn.func f) fa fb,
  Value.func (Fn.func g) ga gb]) (w := w) (R := R) pur1_ok Tryz.func71 hb e h

end Go.Proofs.YtfacflbmlfbeeaaGreatDoor

/- The formulas of functions by the symbolic evaluator, and that each gives the call's contract. Written by a program (gen.py). No condition. -/
namespace Go.Proofs.YtfacflbmlfbeeaaGreatDoor
set_option maxRecDepth 100000
set_option linter.unusedVariables false

def VC_gncmp1 (s : ByteArray) (t : ByteArray) (w : World) (R : Ending → World → Prop) : Prop :=
 CallsS Tryz.prog 87 #[Value.string s] w fun (e : Ending) (w' : World) =>
 ∃ (p : Option Addr),
 ∃ (n : Nat),
 ∃ (c : Nat),
 e = Ending.returned (Value.slice p n c) ∧
 CallsS Tryz.prog 87 #[Value.string t] w' fun (e : Ending) (w' : World) =>
 ∃ (p_1 : Option Addr),
 ∃ (n_1 : Nat),
 ∃ (c_1 : Nat),
 e = Ending.returned (Value.slice p_1 n_1 c_1) ∧
 CallsS Tryz.prog 128 #[Value.slice p n c, Value.slice p_1 n_1 c_1] w' fun (e : Ending) (w' : World) =>
 ∃ (x : Int), e = Ending.returned (Value.int IntKind.i64 x) ∧ R (Ending.returned (Value.int IntKind.i64 x)) w'
theorem vc_gncmp1 (s : ByteArray) (t : ByteArray) (w : World) (R : Ending → World → Prop) (h : VC_gncmp1 s t w R) : Calls Tryz.prog 102 ([Value.string
    s,
  Value.string t] : List Value).toArray w R := by
  have e : execR { P := Tryz.prog, loops := [], pur := pur1, tails := [], joins := [], boxes := [] } Tryz.f102.results.toList R (Tryz.f102.body.getD .skip) (initF [Value.string
    s,
  Value.string
    t] (Tryz.f102.ntmps - ([Value.string s,
  Value.string t] : List Value).length)) w = VC_gncmp1 s t w R := by kernel_rfl
  have hb : Tryz.f102.body = some (Tryz.f102.body.getD .skip) := by kernel_rfl
  exact calls_of_exec' (P := Tryz.prog) (fn := Tryz.f102) (c := Tryz.f102.body.getD .skip) (args := [Value.string s,
  Value.string t]) (w := w) (R := R) pur1_ok Tryz.func102 hb e h

def VC_slcmp1 (p : Option Addr) (n : Nat) (c : Nat) (q : Option Addr) (k : Nat) (d : Nat) (w : World) (R : Ending → World → Prop) : Prop :=
 ∃ (I : List Value → World → Prop),
 ∃ (m : List Value → World → Nat),
 I [Value.int IntKind.i64 0] w ∧
 ∀ (x : Int) (w' : World),
 I [Value.int IntKind.i64 x] w' →
 bsp (decide (x < (↑n : Int)))
 (nn true p fun (b o : Nat) =>
 (0 ≤ x ∧ x < (↑n : Int)) ∧
 ∃ (x_1 : ByteArray),
 w'.cell? (Addr.mk b (o + x.toNat) none) = some (Value.string x_1) ∧
 bsp (decide (x ≥ (↑k : Int))) (R (Ending.returned (Value.int IntKind.i64 1)) w')
 (nn true q fun (b o : Nat) =>
 (0 ≤ x ∧ x < (↑k : Int)) ∧
 ∃ (x_2 : ByteArray),
 w'.cell? (Addr.mk b (o + x.toNat) none) = some (Value.string x_2) ∧
 CallsS Tryz.prog 145 #[Value.string x_1, Value.string x_2] w' fun (e : Ending) (w'_1 : World) =>
 ∃ (x_3 : Int),
 e = Ending.returned (Value.int IntKind.i64 x_3) ∧
 bsp (x_3 != 0) (R (Ending.returned (Value.int IntKind.i64 x_3)) w'_1)
 (I [Value.int IntKind.i64 (IntKind.i64.wrap (x + 1))] w'_1 ∧
 m [Value.int IntKind.i64 (IntKind.i64.wrap (x + 1))] w'_1 < m [Value.int IntKind.i64 x] w')))
 (bsp (decide ((↑n : Int) < (↑k : Int))) (R (Ending.returned (Value.int IntKind.i64 (-1))) w')
 (R (Ending.returned (Value.int IntKind.i64 0)) w'))
theorem vc_slcmp1 (p : Option Addr) (n : Nat) (c : Nat) (q : Option Addr) (k : Nat) (d : Nat) (w : World) (R : Ending → World → Prop) (h : VC_slcmp1 p n c q k d w R) : Calls Tryz.prog 128 ([Value.slice
    p n c,
  Value.slice q k d] : List Value).toArray w R := by
  have e : execR { P := Tryz.prog, loops := [(2, [(11, Ck.int IntKind.i64)])], pur := pur1, tails := [], joins := [], boxes := [] } Tryz.f128.results.toList R (Tryz.f128.body.getD .skip) (initF [Value.slice
    p n c,
  Value.slice q k
    d] (Tryz.f128.ntmps - ([Value.slice p n c,
  Value.slice q k d] : List Value).length)) w = VC_slcmp1 p n c q k d w R := by kernel_rfl
  have hb : Tryz.f128.body = some (Tryz.f128.body.getD .skip) := by kernel_rfl
  exact calls_of_exec' (P := Tryz.prog) (fn := Tryz.f128) (c := Tryz.f128.body.getD .skip) (args := [Value.slice p n c,
  Value.slice q k d]) (w := w) (R := R) pur1_ok Tryz.func128 hb e h

def VC_gparts1 (s : ByteArray) (w : World) (R : Ending → World → Prop) : Prop :=
 CallsS Tryz.prog 108 #[Value.string s, Value.string (ByteArray.mk #[46])] w fun (e : Ending) (w' : World) =>
 ∃ (p : Option Addr),
 ∃ (n : Nat), ∃ (c : Nat), e = Ending.returned (Value.slice p n c) ∧ R (Ending.returned (Value.slice p n c)) w'
theorem vc_gparts1 (s : ByteArray) (w : World) (R : Ending → World → Prop) (h : VC_gparts1 s w R) : Calls Tryz.prog 87 ([Value.string
    s] : List Value).toArray w R := by
  have e : execR { P := Tryz.prog, loops := [], pur := pur1, tails := [], joins := [], boxes := [] } Tryz.f87.results.toList R (Tryz.f87.body.getD .skip) (initF [Value.string
    s] (Tryz.f87.ntmps - ([Value.string s] : List Value).length)) w = VC_gparts1 s w R := by kernel_rfl
  have hb : Tryz.f87.body = some (Tryz.f87.body.getD .skip) := by kernel_rfl
  exact calls_of_exec' (P := Tryz.prog) (fn := Tryz.f87) (c := Tryz.f87.body.getD .skip) (args := [Value.string
    s]) (w := w) (R := R) pur1_ok Tryz.func87 hb e h

end Go.Proofs.YtfacflbmlfbeeaaGreatDoor

/- Chapter 39: the contracts of the comparisons of authors and of submissions, of their sorts, of slices.SortedFunc, Compact, MinFunc. Rows that are not too long. -/
namespace Go.Proofs.YtfacflbmlfbeeaaGreatDoor
open Go.RowKit Go.Sort

/-! ### Authors -/
def auB (f : Nat → Int) : List UInt8 := (auI f).map fun x => x.toNat.toUInt8
theorem bytesOf_auB (f : Nat → Int) : Lib.bytesOf (auI f) = auB f := rfl
set_option maxRecDepth 100000 in
theorem bcompare16_run {w : World} {b b' o o' : Nat} {f g : Nat → Int} (h : ∀ j, j < 16 → w.cell? ⟨b, o + j, none⟩ = some (.int .u8 (f j))) (h' : ∀ j, j < 16 → w.cell? ⟨b', o' + j, none⟩ = some (.int .u8 (g j))) (c c' : Nat) :
    (Extern.BytealgCompare.compare #[.slice (some ⟨b, o, none⟩) 16 c, .slice (some ⟨b', o', none⟩) 16 c']).run Tryz.prog w = .ok (.int .i64 (Lib.compareBytes (auB f) (auB g))) w := by
  have key : ∀ (b o : Nat) (f : Nat → Int), (∀ j, j < 16 → w.cell? ⟨b, o + j, none⟩ = some (.int .u8 (f j))) → (Extern.Bytes.loadBytes ⟨b, o, none⟩ 16 .empty).run Tryz.prog w = .ok ⟨(auB f).toArray⟩ w := fun b o f h => by
    have := Lib.run_loadBytesX (P := Tryz.prog) w (auI f) ⟨b, o, none⟩ .empty (fun j x hj => by
      have hlt : j < 16 := by have := (List.getElem?_eq_some_iff.1 hj).1; simpa [auI] using this
      rw [auI_get f hlt] at hj
      simp at hj
      subst hj
      have e : (⟨b, o, none⟩ : Addr).add j = ⟨b, o + j, none⟩ := by
        unfold Addr.add
        simp
      rw [e]
      exact h j hlt)
    have hl : (auI f).length = 16 := by simp [auI]
    rw [hl, bytesOf_auB] at this
    rw [this]
    generalize auB f = l
    have e : ByteArray.empty.data ++ l.toArray = l.toArray := by
      show (#[] : Array UInt8) ++ l.toArray = l.toArray
      simp
    rw [e]
  change Sem.run Tryz.prog (do pure (goInt (Extern.BytealgCompare.cmp (← Extern.Bytes.bytesOf (.slice (some ⟨b, o, none⟩) 16 c)) (← Extern.Bytes.bytesOf (.slice (some ⟨b', o', none⟩) 16 c'))))) w = _
  simp only [Extern.Bytes.bytesOf, Sem.run_bind, key b o f h, key b' o' g h', Sem.run_pure, Result.andThen]
  rw [Lib.cmp_eq]
  rfl
set_option maxHeartbeats 1000000 in
set_option maxRecDepth 100000 in
theorem bcompare16_any {w : World} {b b' o o' : Nat} {f g : Nat → Int} (h : ∀ j, j < 16 → w.cell? ⟨b, o + j, none⟩ = some (.int .u8 (f j))) (h' : ∀ j, j < 16 → w.cell? ⟨b', o' + j, none⟩ = some (.int .u8 (g j))) (c c' : Nat) :
    Calls Tryz.prog 106 #[.slice (some ⟨b, o, none⟩) 16 c, .slice (some ⟨b', o', none⟩) 16 c'] w fun e w' => e = .returned (.int .i64 (Lib.compareBytes (auB f) (auB g))) ∧ w' = w := by
  have hr := bcompare16_run h h' c c'
  generalize Lib.compareBytes (auB f) (auB g) = r at hr ⊢
  clear h h'
  go_enter Tryz.func106, Tryz.ntmps106
  go_wp2
  rw [run_callFunc_extern Tryz.func131 (by kernel_rfl) (by kernel_rfl) (by kernel_rfl) (e := Extern.BytealgCompare.compare) (by kernel_rfl), hr]
  simp only [Result.andThen]
  rw [Oper.upon_value]
  go_wp2
  go_ret
  exact ⟨rfl, rfl⟩


def cfA (x y : Nat → Int) : Int := Lib.compareBytes (auB x) (auB y)
theorem cfA_ord : Ord3 cfA := cb_ord auB
theorem acmp_any (f g : Nat → Int) (w : World) : Calls Tryz.prog 73 #[.agg (auC f).toArray, .agg (auC g).toArray] w fun e w' => e = .returned (.int .i64 (cfA f g)) ∧ K0 w w' ∧ w.drawn ≤ w'.drawn := by
  refine vc_acmp _ _ w _ ?_
  intro n w1 hn n1 w2 hn1
  have b1 := (hn1.kp (fun _ => False)).blk hn.block (fun h => h)
  have b2 := hn1.block
  have hd : w2.drawn = w.drawn := by rw [hn1.hw, hn.hw]; rfl
  refine ⟨(bcompare16_any (w := w2.drew) (f := f) (g := g) (fun j hj => cell_at (blk_drew b1) ?_) (fun j hj => cell_at (blk_drew b2) ?_) 16 16).mono fun e w' ⟨he, hw⟩ => ⟨_, he, rfl, ?_, ?_⟩⟩
  · rw [Nat.zero_add]; simpa [auC] using arrI_get .u8 f 16 0 j hj
  · rw [Nat.zero_add]; simpa [auC] using arrI_get .u8 g 16 0 j hj
  · rw [hw]; exact ((hn.kp _).trans (hn1.kp _)).drew
  · rw [hw]; show w.drawn ≤ w2.drawn + 1; omega
theorem auC_one (x : Nat → Int) : ∀ v ∈ auC x, v.oneCell' = true := arr_one x 16
theorem auC_flat (l : List (Nat → Int)) : (l.flatMap auC).length = l.length * 16 := len_flat auC 16 l (fun _ _ => rfl)
set_option maxHeartbeats 1000000 in
theorem asort_any (cs : List (Nat → Int)) (p : Option Addr) (c : Nat) (w : World) {base : Nat} (ho : w.ownsRow base 45 16 (.slice p cs.length c) cs.length (cs.flatMap auC)) (hl : cs.length ≤ 1000000) :
    Calls Tryz.prog 104 #[.slice p cs.length c, .func (.func 73) #[] #[]] w fun e w' => e = .returned (.tuple #[]) ∧
      ∃ cs' : List (Nat → Int), cs'.Perm cs ∧ (cs'.Pairwise fun x y => ¬ cfA y x < 0) ∧
        w'.ownsRow base 45 16 (.slice p cs'.length c) cs'.length (cs'.flatMap auC) ∧ Kp (fun i => (Value.slice p cs.length c).ownBlock = some i) w w' := by
  rcases Nat.eq_zero_or_pos cs.length with h0 | h0
  · have : cs = [] := List.eq_nil_of_length_eq_zero h0
    subst this
    exact (Tryz.slices_SortFunc_none104 p c _ w).mono fun e w' ⟨he, hw⟩ => ⟨he, [], .refl _, .nil, by rw [hw]; exact ho, by rw [hw]; exact .refl _ _⟩
  rcases ho.2 with ⟨_, hz⟩ | ⟨g, cap, cur, he, hbase, hg, hcap, hmax, hcs, _⟩
  · omega
  simp only [Value.slice.injEq, true_and] at he
  obtain ⟨rfl, rfl⟩ := he
  have hcell : ∀ k x, cs[k]? = some x → ∀ j v, (auC x)[j]? = some v → w.cell? ⟨g, k * 16 + j, none⟩ = some v := fun k x hk j v hv => by
    have hj : j < 16 := by rw [← auC_length x]; exact (List.getElem?_eq_some_iff.1 hv).1
    obtain ⟨g', e', hc⟩ := own_cellL ho (i := k * 16 + j) (v := v) (by rw [flat_get auC 16 cs k x j (fun y _ => auC_length y) hk hj]; exact hv)
    simp only [Option.some.injEq, Addr.mk.injEq, and_true] at e'
    subst e'
    exact hc
  have key : ∀ (d : Array (Nat → Int)) (t : Nat), t < d.size * 16 → ∃ x v, d[t / 16]? = some x ∧ (auC x)[t % 16]? = some v ∧ (flatK auC 16 d)[t]! = v := fun d t ht => by
    have h1 : t / 16 < d.size := by omega
    have h2 : t % 16 < (auC d[t / 16]!).length := by rw [auC_length]; omega
    refine ⟨d[t / 16]!, (auC d[t / 16]!)[t % 16], ?_, List.getElem?_eq_getElem h2, ?_⟩
    · rw [Array.getElem?_eq_getElem h1, getElem!_pos d _ h1]
    · rw [get_flatK auC 16 d t ht, getElem!_pos (auC d[t / 16]!) (t % 16) h2]
  have hH : HoldsK auC 16 w g 0 cs.toArray := by
    intro t ht
    rw [size_flatK] at ht
    obtain ⟨x, v, h1, h2, h3⟩ := key cs.toArray t ht
    refine ⟨?_, frozen_block hg _⟩
    rw [h3, Nat.zero_add]
    have := hcell (t / 16) x (by simpa using h1) (t % 16) v h2
    rw [show t / 16 * 16 + t % 16 = t by omega] at this
    exact this
  have eg : ∀ args w, (callFunc 73 args).run Tryz.prog w = .ok (.enter 73 args) w := enters_of Tryz.func73 (by kernel_rfl) rfl
  have hcmp : CmpLays Tryz.prog 73 #[] auC 16 cfA g 0 cs.toArray.size w := fun m os dk _ x y => (acmp_any x y _).mono fun e w' ⟨he, hk, hd⟩ => ⟨he, grow_of hk hd⟩
  have hS := AnyQ.slices_SortFunc (α := (Nat → Int)) Tryz.laysSlF06_f104 16 Tryz.isAgg45 Tryz.sizeOf45 auC auC_length auC_one cfA cfA_ord.swo 73 #[] g 0 c cs.toArray w eg hcmp hH (block_lt hg) (by simp; omega)
  change Calls Tryz.prog 104 #[.slice (some ⟨g, 0, none⟩) cs.length c, .func (.func 73) #[] #[]] w _ at hS
  refine hS.mono fun e w' ⟨he, d', m, os, hperm, hsort, hw⟩ => ?_
  have hs1 : d'.size = cs.length := by simpa using hperm.1
  have hp : d'.toList.Perm cs := by
    have h1 := hperm.1
    have h2 := hperm.2.2
    rw [show d'.extract 0 cs.toArray.size = d' from by rw [← h1]; exact Array.extract_size] at h2
    rw [show cs.toArray.extract 0 cs.toArray.size = cs.toArray from Array.extract_size] at h2
    exact h2
  have hlen : d'.toList.length = cs.length := hp.length_eq
  refine ⟨he, d'.toList, hp, ?_, ?_, ?_⟩
  · rw [List.pairwise_iff_getElem]
    intro i j hi hj hij
    have := hsort i j (Nat.zero_le _) hij (by simp only [List.size_toArray]; omega)
    have e1 : d'[i]! = d'.toList[i] := by
      rw [getElem!_pos d' i (by simpa using hi)]
      simp
    have e2 : d'[j]! = d'.toList[j] := by
      rw [getElem!_pos d' j (by simpa using hj)]
      simp
    rw [e1, e2] at this
    intro hc
    have h3 : decide (cfA d'.toList[j] d'.toList[i] < 0) = true := decide_eq_true hc
    rw [show ltOf cfA d'.toList[j] d'.toList[i] = decide (cfA d'.toList[j] d'.toList[i] < 0) from rfl, h3] at this
    cases this
  · obtain ⟨cur', hc1, hc2⟩ := sortW_blk auC 16 w g 0 m d' os hg
    refine ⟨auC_flat _, .inr ⟨g, c, cur', by rw [hlen], hbase, by rw [hw]; exact hc2, by omega, hmax, by rw [hc1, hcs], ?_⟩⟩
    have hHo := holdsK_sortWorldK_c auC 16 w g 0 cs.toArray d' m os hH (block_lt hg) hperm.1
    apply List.ext_getElem?
    intro t
    rw [List.getElem?_take]
    rcases Nat.lt_or_ge t (d'.toList.length * 16) with ht | ht
    · rw [if_pos ht]
      have ht' : t < d'.size * 16 := by simpa using ht
      have h1 := (hHo t (by rw [size_flatK]; exact ht')).1
      obtain ⟨x', v', h3, h4, h5⟩ := key d' t ht'
      rw [h5, Nat.zero_add, cell_block hc2] at h1
      rw [Array.getElem?_toList, h1]
      have := flat_get auC 16 d'.toList (t / 16) x' (t % 16) (fun y _ => auC_length y) (by simpa using h3) (by omega)
      rw [show t / 16 * 16 + t % 16 = t by omega] at this
      rw [this, h4]
      rfl
    · rw [if_neg (by omega), List.getElem?_eq_none (by rw [auC_flat]; exact ht)]
  · rw [hw]
    exact (sortW_kp auC 16 w g 0 m d' os).mono fun i _ e => by rw [e]; rfl

/-! ### Submissions -/
theorem cmpOr3_any (a b d : Int) (n c : Nat) (t : TypeId) (w : World) (hb : w.heap[n]? = some (.cells #[.int .i64 a, .int .i64 b, .int .i64 d] t (0, 0))) : Calls Tryz.prog 99 #[.slice (some ⟨n, 0, none⟩) 3 c] w fun e w' => e = .returned (.int .i64 (if a ≠ 0 then a else if b ≠ 0 then b else d)) ∧ w' = w := by
  refine vc_cmpOr (some ⟨n, 0, none⟩) 3 c w _ ?_
  refine count1 3 (by decide) (fun k w' => (0 < k → a = 0) ∧ (1 < k → b = 0) ∧ (2 < k → d = 0) ∧ w' = w) ⟨fun h => by omega, fun h => by omega, fun h => by omega, rfl⟩ ?_
  rintro I m k w' hk ⟨h0, h1, h2, rfl⟩ next
  refine bsp_intro (fun hlt => ?_) (fun hge => ?_)
  · have hlt : k < 3 := by simp at hlt; omega
    show (0 ≤ (k : Int) ∧ (k : Int) < ((3 : Nat) : Int)) ∧ _
    rw [Int.toNat_natCast]
    obtain rfl | rfl | rfl : k = 0 ∨ k = 1 ∨ k = 2 := by omega
    · refine ⟨by omega, a, cell_at hb rfl, bsp_intro (fun h => ⟨?_, rfl⟩) (fun h => next hlt _ ⟨fun _ => ?_, fun h => by omega, fun h => by omega, rfl⟩)⟩
      · have h : a ≠ 0 := by simpa using h
        rw [if_pos h]
      · simpa using h
    · have ha := h0 (by omega)
      refine ⟨by omega, b, cell_at hb rfl, bsp_intro (fun h => ⟨?_, rfl⟩) (fun h => next hlt _ ⟨fun _ => ha, fun _ => by simpa using h, fun h => by omega, rfl⟩)⟩
      rw [if_neg (by omega), if_pos (by simpa using h)]
    · have ha := h0 (by omega)
      have hb' := h1 (by omega)
      refine ⟨by omega, d, cell_at hb rfl, bsp_intro (fun h => ⟨?_, rfl⟩) (fun h => next hlt _ ⟨fun _ => ha, fun _ => hb', fun _ => by simpa using h, rfl⟩)⟩
      rw [if_neg (by omega), if_neg (by omega)]
  · have : k = 3 := by simp at hge; omega
    subst this
    rw [if_neg (by have := h0 (by omega); omega), if_neg (by have := h1 (by omega); omega), h2 (by omega)]
    exact ⟨rfl, rfl⟩
theorem cfT_eq (x y : Sb) : cfT x y = Lib.compareInt x.r y.r := by unfold cfT Lib.compareInt; rfl
theorem gparts1_any (s : ByteArray) (w : World) (hs : s.size ≤ 1073741824) (hG : GW w) : Calls Tryz.prog 87 #[.string s] w fun e w' => (∃ (p : Option Addr) (c : Nat), e = .returned (.slice p (partsD s).length c) ∧ StrP w' p (partsD s)) ∧ K0 w w' ∧ w.drawn ≤ w'.drawn := by
  refine vc_gparts1 s w _ ?_
  obtain ⟨mm, hG1⟩ := hG
  refine ⟨(Tryz.strings_Split s ⟨#[46]⟩ mm w (by omega) hG1 (by decide)).mono fun e w2 ⟨he, hw2⟩ => ?_⟩
  have hlen : (partsD s).length = Lib.countB s ⟨#[46]⟩ + 1 := Lib.splitB_all ⟨#[46]⟩ (by decide) 0 _ s rfl
  have hn2 : NewB w (.cells ((partsD s).map .string).toArray 9) w.heap.size w2 := ⟨rfl, hw2⟩
  rw [← hlen] at he
  have k2 : K0 w w2 := hn2.kp _
  refine ⟨_, _, _, he, ⟨_, _, rfl, fun k z hk => ⟨_, 0, rfl, ?_⟩⟩, k2, by rw [hw2]; exact Nat.le_refl _⟩
  rw [Nat.zero_add]
  exact cell_at hn2.block (by simp [hk])
theorem lsC_step {a b : List ByteArray} {k : Nat} {x y : ByteArray} (hx : a[k]? = some x) (hy : b[k]? = some y) : lsC (a.drop k) (b.drop k) = if Lib.compareBytes x.data.toList y.data.toList ≠ 0 then Lib.compareBytes x.data.toList y.data.toList else lsC (a.drop (k + 1)) (b.drop (k + 1)) := by
  have h1 := (List.getElem?_eq_some_iff.1 hx).1
  have h2 := (List.getElem?_eq_some_iff.1 hy).1
  have e1 : a.drop k = x :: a.drop (k + 1) := by
    rw [List.drop_eq_getElem_cons h1]
    rw [List.getElem?_eq_getElem h1] at hx
    cases hx; rfl
  have e2 : b.drop k = y :: b.drop (k + 1) := by
    rw [List.drop_eq_getElem_cons h2]
    rw [List.getElem?_eq_getElem h2] at hy
    cases hy; rfl
  rw [e1, e2]; rfl
theorem slcmp1_any (a b : List ByteArray) (p q : Option Addr) (c d : Nat) (w : World) (ha : StrP w p a) (hb : StrP w q b) (hla : a.length ≤ 4611686018427387904) (hlb : b.length ≤ 4611686018427387904) :
    Calls Tryz.prog 128 #[.slice p a.length c, .slice q b.length d] w fun e w' => e = .returned (.int .i64 (lsC a b)) ∧ w' = w := by
  refine vc_slcmp1 p a.length c q b.length d w _ ?_
  refine count1 a.length (by omega) (fun k w' => w' = w ∧ k ≤ b.length ∧ lsC a b = lsC (a.drop k) (b.drop k)) ⟨rfl, by omega, rfl⟩ ?_
  rintro I m k w' hk ⟨rfl, hkb, hI⟩ next
  refine bsp_intro (fun hlt => ?_) (fun hge => ?_)
  · have hlt : k < a.length := by simp at hlt; omega
    obtain ⟨x, b1, o1, hx, hp, hc1⟩ := ha.get hlt
    rw [Int.toNat_natCast]
    refine nn_is hp ⟨⟨by omega, by omega⟩, x, hc1, bsp_intro (fun h => ?_) (fun h => ?_)⟩
    · have h : b.length ≤ k := by simp at h; omega
      have e1 : b.drop k = [] := List.drop_eq_nil_of_le h
      have e2 : a.drop k = x :: a.drop (k + 1) := by
        rw [List.drop_eq_getElem_cons hlt]
        rw [List.getElem?_eq_getElem hlt] at hx
        cases hx; rfl
      rw [hI, e1, e2]
      exact ⟨rfl, rfl⟩
    · have h : k < b.length := by simp at h; omega
      obtain ⟨y, b2, o2, hy, hq, hc2⟩ := hb.get h
      refine nn_is hq ⟨⟨by omega, by omega⟩, y, hc2, ⟨(cmpS_any x y w').mono fun e w2 ⟨he, hw⟩ => ⟨_, he, ?_⟩⟩⟩
      subst hw
      rw [lsC_step hx hy] at hI
      refine bsp_intro (fun h3 => ?_) (fun h3 => ?_)
      · have h3 : Lib.compareBytes x.data.toList y.data.toList ≠ 0 := by simpa using h3
        rw [if_pos h3] at hI
        rw [hI]
        exact ⟨rfl, rfl⟩
      · have h3 : Lib.compareBytes x.data.toList y.data.toList = 0 := by simpa using h3
        rw [if_neg (by omega)] at hI
        exact next hlt _ ⟨rfl, h, hI⟩
  · have : k = a.length := by simp at hge; omega
    subst this
    rw [List.drop_length] at hI
    refine bsp_intro (fun h => ?_) (fun h => ?_)
    · have h : a.length < b.length := by simpa using h
      rw [List.drop_eq_getElem_cons h] at hI
      rw [hI]
      exact ⟨rfl, rfl⟩
    · have h : a.length = b.length := by simp at h; omega
      rw [h, List.drop_length] at hI
      rw [hI]
      exact ⟨rfl, rfl⟩
theorem gncmp1_any (s t : ByteArray) (w : World) (hs : s.size ≤ 1073741824) (ht : t.size ≤ 1073741824) (hG : GW w) : Calls Tryz.prog 102 #[.string s, .string t] w fun e w' => e = .returned (.int .i64 (gnC s t)) ∧ K0 w w' ∧ w.drawn ≤ w'.drawn := by
  refine vc_gncmp1 s t w _ ⟨(gparts1_any s w hs hG).mono fun e w1 ⟨⟨p, c, he, hP⟩, k1, d1⟩ => ⟨_, _, _, he, ⟨(gparts1_any t w1 ht (hG.kp k1 (fun h => h))).mono fun e w2 ⟨⟨q, d, he, hQ⟩, k2, d2⟩ => ⟨_, _, _, he, ?_⟩⟩⟩⟩
  have l1 := partsD_le s.size s (Nat.le_refl _)
  have l2 := partsD_le t.size t (Nat.le_refl _)
  exact ⟨(slcmp1_any (partsD s) (partsD t) p q c d w2 (hP.k0 k2) hQ (by omega) (by omega)).mono fun e w3 ⟨he, hw⟩ => ⟨_, he, rfl, by rw [hw]; exact k1.trans k2, by rw [hw]; omega⟩⟩
theorem mdcmp_any (x y : Sb) (w : World) (hx : x.g.size ≤ 1073741824) (hy : y.g.size ≤ 1073741824) (hG : GW w) : Calls Tryz.prog 68 #[.agg (sbC x).toArray, .agg (sbC y).toArray] w fun e w' => e = .returned (.int .i64 (cfM x y)) ∧ K0 w w' ∧ w.drawn ≤ w'.drawn := by
  refine vc_mdcmp _ _ w _ ?_
  intro n w1 hn n1 w2 hn1
  have b1 := (hn1.kp (fun _ => False)).blk hn.block (fun h => h)
  have b2 := hn1.block
  have hd : w2.drawn = w.drawn := by rw [hn1.hw, hn.hw]; rfl
  have k2 : K0 w w2 := (hn.kp _).trans (hn1.kp _)
  refine ⟨fun wx => K0 w2 wx, (Kp.refl _ _).drew, x.r, fun wx h => cell_at (h.blk b1 (fun h => h)) rfl, y.r, fun wx h => cell_at (h.blk b2 (fun h => h)) rfl, x.id, fun wx h => AtL_block (h.blk b1 (fun h => h)) rfl, y.id, fun wx h => AtL_block (h.blk b2 (fun h => h)) rfl, x.g, fun wx h => cell_at (h.blk b1 (fun h => h)) rfl, y.g, fun wx h => cell_at (h.blk b2 (fun h => h)) rfl, ?_⟩
  refine ⟨(Tryz.cmp_Compare_int x.r y.r w2.drew).mono fun e w3 ⟨he, hw⟩ => ⟨_, he, by rw [hw]; exact (Kp.refl _ _).drew, ?_⟩⟩
  subst hw
  refine ⟨(mcompare_any x.id y.id w2.drew).mono fun e w4 ⟨he, hk4, hd4⟩ => ⟨_, he, (Kp.refl _ _).drew.trans hk4, ?_⟩⟩
  refine ⟨(gncmp1_any x.g y.g w4 hx hy (hG.kp (k2.drew.trans hk4) (fun h => h))).mono fun e w5 ⟨he, hk5, hd5⟩ => ⟨_, he, fun n3 w6 hn6 => ?_⟩⟩
  refine ⟨(cmpOr3_any _ _ _ n3 3 _ w6 hn6.block).mono fun e w7 ⟨he, hw⟩ => ⟨_, he, ?_, ?_, ?_⟩⟩
  · unfold cfM cfI; rw [cfT_eq]
  · rw [hw]; exact ((k2.drew.trans hk4).trans hk5).trans (hn6.kp _)
  · rw [hw, hn6.hw]
    show w.drawn ≤ w5.drawn
    have : w2.drew.drawn = w2.drawn + 1 := rfl
    omega
/-- Submissions whose group's name is not too long. -/
abbrev SbX := {x : Sb // x.g.size ≤ 1073741824}
instance : Inhabited SbX := ⟨⟨sbz, by decide⟩⟩
def sbXC (x : SbX) : List Value := sbC x.1
theorem sbXC_length (x : SbX) : (sbXC x).length = 54 := rfl
def cfX (x y : SbX) : Int := cfM x.1 y.1
theorem cfX_ord : Ord3 cfX := ⟨fun x y => cfM_ord.anti x.1 y.1, fun x y z => cfM_ord.tlt x.1 y.1 z.1, fun x y z => cfM_ord.el x.1 y.1 z.1, fun x y z => cfM_ord.le x.1 y.1 z.1⟩
theorem sbC_one (x : Sb) : ∀ v ∈ sbC x, v.oneCell' = true := fun v hv => by
  unfold sbC at hv
  rcases List.mem_append.1 hv with h | h
  · exact arr_one x.id 32 v h
  rcases List.mem_append.1 h with h | h
  · simp only [List.mem_cons, List.not_mem_nil, or_false] at h
    rcases h with h | h | h | h <;> (subst h; rfl)
  rcases List.mem_append.1 h with h | h
  · exact arr_one x.mo 16 v h
  · simp only [List.mem_cons, List.not_mem_nil, or_false] at h
    rcases h with h | h <;> (subst h; rfl)
theorem sbXC_one (x : SbX) : ∀ v ∈ sbXC x, v.oneCell' = true := sbC_one x.1
theorem mdcmpX_any (x y : SbX) (w : World) (hG : GW w) : Calls Tryz.prog 68 #[.agg (sbXC x).toArray, .agg (sbXC y).toArray] w fun e w' => e = .returned (.int .i64 (cfX x y)) ∧ K0 w w' ∧ w.drawn ≤ w'.drawn := mdcmp_any x.1 y.1 w x.2 y.2 hG
theorem sbXC_flat (l : List SbX) : (l.flatMap sbXC).length = l.length * 54 := len_flat sbXC 54 l (fun _ _ => rfl)
set_option maxHeartbeats 1000000 in
theorem msortX_any (cs : List SbX) (p : Option Addr) (c : Nat) (w : World) {base : Nat} (ho : w.ownsRow base 48 54 (.slice p cs.length c) cs.length (cs.flatMap sbXC)) (hl : cs.length ≤ 1000000) (hG : GW w) :
    Calls Tryz.prog 67 #[.slice p cs.length c, .func (.func 68) #[] #[]] w fun e w' => e = .returned (.tuple #[]) ∧
      ∃ cs' : List SbX, cs'.Perm cs ∧ (cs'.Pairwise fun x y => ¬ cfX y x < 0) ∧
        w'.ownsRow base 48 54 (.slice p cs'.length c) cs'.length (cs'.flatMap sbXC) ∧ Kp (fun i => (Value.slice p cs.length c).ownBlock = some i) w w' := by
  rcases Nat.eq_zero_or_pos cs.length with h0 | h0
  · have : cs = [] := List.eq_nil_of_length_eq_zero h0
    subst this
    exact (Tryz.slices_SortFunc_none67 p c _ w).mono fun e w' ⟨he, hw⟩ => ⟨he, [], .refl _, .nil, by rw [hw]; exact ho, by rw [hw]; exact .refl _ _⟩
  rcases ho.2 with ⟨_, hz⟩ | ⟨g, cap, cur, he, hbase, hg, hcap, hmax, hcs, _⟩
  · omega
  simp only [Value.slice.injEq, true_and] at he
  obtain ⟨rfl, rfl⟩ := he
  have hcell : ∀ k x, cs[k]? = some x → ∀ j v, (sbXC x)[j]? = some v → w.cell? ⟨g, k * 54 + j, none⟩ = some v := fun k x hk j v hv => by
    have hj : j < 54 := by rw [← sbXC_length x]; exact (List.getElem?_eq_some_iff.1 hv).1
    obtain ⟨g', e', hc⟩ := own_cellL ho (i := k * 54 + j) (v := v) (by rw [flat_get sbXC 54 cs k x j (fun y _ => sbXC_length y) hk hj]; exact hv)
    simp only [Option.some.injEq, Addr.mk.injEq, and_true] at e'
    subst e'
    exact hc
  have key : ∀ (d : Array SbX) (t : Nat), t < d.size * 54 → ∃ x v, d[t / 54]? = some x ∧ (sbXC x)[t % 54]? = some v ∧ (flatK sbXC 54 d)[t]! = v := fun d t ht => by
    have h1 : t / 54 < d.size := by omega
    have h2 : t % 54 < (sbXC d[t / 54]!).length := by rw [sbXC_length]; omega
    refine ⟨d[t / 54]!, (sbXC d[t / 54]!)[t % 54], ?_, List.getElem?_eq_getElem h2, ?_⟩
    · rw [Array.getElem?_eq_getElem h1, getElem!_pos d _ h1]
    · rw [get_flatK sbXC 54 d t ht, getElem!_pos (sbXC d[t / 54]!) (t % 54) h2]
  have hH : HoldsK sbXC 54 w g 0 cs.toArray := by
    intro t ht
    rw [size_flatK] at ht
    obtain ⟨x, v, h1, h2, h3⟩ := key cs.toArray t ht
    refine ⟨?_, frozen_block hg _⟩
    rw [h3, Nat.zero_add]
    have := hcell (t / 54) x (by simpa using h1) (t % 54) v h2
    rw [show t / 54 * 54 + t % 54 = t by omega] at this
    exact this
  have eg : ∀ args w, (callFunc 68 args).run Tryz.prog w = .ok (.enter 68 args) w := enters_of Tryz.func68 (by kernel_rfl) rfl
  have hGW : ∀ m os dk, GW (sortWorldK sbXC 54 w g 0 m dk os) := fun m os dk => hG.kp (sortW_kp sbXC 54 w g 0 m dk os) (fun e => by
    obtain ⟨x0, hx0⟩ : ∃ x, cs[0]? = some x := ⟨_, List.getElem?_eq_getElem h0⟩
    have h1 := hcell 0 x0 hx0 0 (.int .u8 (x0.1.id 0)) rfl
    obtain ⟨mm, hm⟩ := hG
    have e : 0 = g := e
    subst e
    rw [show 0 * 54 + 0 = 0 from rfl, hm] at h1
    cases h1)
  have hcmp : CmpLays Tryz.prog 68 #[] sbXC 54 cfX g 0 cs.toArray.size w := fun m os dk _ x y => (mdcmpX_any x y _ (hGW m os dk)).mono fun e w' ⟨he, hk, hd⟩ => ⟨he, grow_of hk hd⟩
  have hS := AnyQ.slices_SortFunc (α := SbX) Tryz.laysSlF06_f67 54 Tryz.isAgg48 Tryz.sizeOf48 sbXC sbXC_length sbXC_one cfX cfX_ord.swo 68 #[] g 0 c cs.toArray w eg hcmp hH (block_lt hg) (by simp; omega)
  change Calls Tryz.prog 67 #[.slice (some ⟨g, 0, none⟩) cs.length c, .func (.func 68) #[] #[]] w _ at hS
  refine hS.mono fun e w' ⟨he, d', m, os, hperm, hsort, hw⟩ => ?_
  have hs1 : d'.size = cs.length := by simpa using hperm.1
  have hp : d'.toList.Perm cs := by
    have h1 := hperm.1
    have h2 := hperm.2.2
    rw [show d'.extract 0 cs.toArray.size = d' from by rw [← h1]; exact Array.extract_size] at h2
    rw [show cs.toArray.extract 0 cs.toArray.size = cs.toArray from Array.extract_size] at h2
    exact h2
  have hlen : d'.toList.length = cs.length := hp.length_eq
  refine ⟨he, d'.toList, hp, ?_, ?_, ?_⟩
  · rw [List.pairwise_iff_getElem]
    intro i j hi hj hij
    have := hsort i j (Nat.zero_le _) hij (by simp only [List.size_toArray]; omega)
    have e1 : d'[i]! = d'.toList[i] := by
      rw [getElem!_pos d' i (by simpa using hi)]
      simp
    have e2 : d'[j]! = d'.toList[j] := by
      rw [getElem!_pos d' j (by simpa using hj)]
      simp
    rw [e1, e2] at this
    intro hc
    have h3 : decide (cfX d'.toList[j] d'.toList[i] < 0) = true := decide_eq_true hc
    rw [show ltOf cfX d'.toList[j] d'.toList[i] = decide (cfX d'.toList[j] d'.toList[i] < 0) from rfl, h3] at this
    cases this
  · obtain ⟨cur', hc1, hc2⟩ := sortW_blk sbXC 54 w g 0 m d' os hg
    refine ⟨sbXC_flat _, .inr ⟨g, c, cur', by rw [hlen], hbase, by rw [hw]; exact hc2, by omega, hmax, by rw [hc1, hcs], ?_⟩⟩
    have hHo := holdsK_sortWorldK_c sbXC 54 w g 0 cs.toArray d' m os hH (block_lt hg) hperm.1
    apply List.ext_getElem?
    intro t
    rw [List.getElem?_take]
    rcases Nat.lt_or_ge t (d'.toList.length * 54) with ht | ht
    · rw [if_pos ht]
      have ht' : t < d'.size * 54 := by simpa using ht
      have h1 := (hHo t (by rw [size_flatK]; exact ht')).1
      obtain ⟨x', v', h3, h4, h5⟩ := key d' t ht'
      rw [h5, Nat.zero_add, cell_block hc2] at h1
      rw [Array.getElem?_toList, h1]
      have := flat_get sbXC 54 d'.toList (t / 54) x' (t % 54) (fun y _ => sbXC_length y) (by simpa using h3) (by omega)
      rw [show t / 54 * 54 + t % 54 = t by omega] at this
      rw [this, h4]
      rfl
    · rw [if_neg (by omega), List.getElem?_eq_none (by rw [sbXC_flat]; exact ht)]
  · rw [hw]
    exact (sortW_kp sbXC 54 w g 0 m d' os).mono fun i _ e => by rw [e]; rfl

end Go.Proofs.YtfacflbmlfbeeaaGreatDoor

/- Chapter 39: the contracts of the sort of submissions, of slices.SortedFunc, Compact, MinFunc. Rows that are not too long. -/
namespace Go.Proofs.YtfacflbmlfbeeaaGreatDoor
open Go.RowKit Go.Sort

theorem attach_map {α : Type} {P : α → Prop} : ∀ (l : List α), (∀ x ∈ l, P x) → ∃ cs : List {x // P x}, cs.map (·.1) = l
  | [], _ => ⟨[], rfl⟩
  | x :: l, h => by
    obtain ⟨cs, hc⟩ := attach_map l fun y hy => h y (by simp [hy])
    exact ⟨⟨x, h x (by simp)⟩ :: cs, by simp [hc]⟩
theorem flat_x (cs : List SbX) : cs.flatMap sbXC = (cs.map (·.1)).flatMap sbC := by
  induction cs with
  | nil => rfl
  | cons x r ih => simp only [List.flatMap_cons, List.map_cons]; rw [ih]; rfl
theorem msort_any (l : List Sb) (p : Option Addr) (c : Nat) (w : World) {base : Nat} (ho : w.ownsRow base 48 54 (.slice p l.length c) l.length (l.flatMap sbC)) (hg : ∀ x ∈ l, x.g.size ≤ 1073741824) (hl : l.length ≤ 1000000) (hG : GW w) :
    Calls Tryz.prog 67 #[.slice p l.length c, .func (.func 68) #[] #[]] w fun e w' => e = .returned (.tuple #[]) ∧
      ∃ l' : List Sb, l'.Perm l ∧ (l'.Pairwise fun x y => ¬ cfM y x < 0) ∧
        w'.ownsRow base 48 54 (.slice p l'.length c) l'.length (l'.flatMap sbC) ∧ Kp (fun i => (Value.slice p l.length c).ownBlock = some i) w w' := by
  obtain ⟨cs, hc⟩ := attach_map l hg
  have hlen : cs.length = l.length := by rw [← hc, List.length_map]
  rw [← hlen] at ho ⊢
  rw [← hc, ← flat_x] at ho
  refine (msortX_any cs p c w ho (by omega) hG).mono fun e w' ⟨he, cs', hp, hs, ho', hk⟩ => ⟨he, cs'.map (·.1), ?_, ?_, ?_, hk⟩
  · rw [← hc]; exact hp.map _
  · rw [List.pairwise_map]; exact hs
  · rw [List.length_map, ← flat_x]; exact ho'

/-! ### slices.SortedFunc -/
theorem asorted_any (zs : List (Nat → Int)) (p : Option Addr) (c Bs : Nat) (w : World) (hB : w.cell? ⟨Bs, 0, none⟩ = some (.slice p zs.length c)) (hBs : Bs < w.heap.size) (hR : RowA auC 16 w p zs) (hp : ∀ g o, p = some ⟨g, o, none⟩ → g < w.heap.size) (hz : zs.length ≤ 1000000) :
    Calls Tryz.prog 71 #[.func (.func 105) #[] #[.pointer (some ⟨Bs, 0, none⟩)], .func (.func 73) #[] #[]] w fun e w' =>
      (∃ (p' : Option Addr) (c' : Nat) (l' : List (Nat → Int)), e = .returned (.slice p' l'.length c') ∧ l'.Perm zs ∧ (l'.Pairwise fun x y => ¬ cfA y x < 0) ∧ w'.ownsRow w.heap.size 45 16 (.slice p' l'.length c') l'.length (l'.flatMap auC)) ∧ K0 w w' := by
  refine vc_asorted _ _ _ _ _ _ w _ ?_
  have hcol : Calls Tryz.prog 103 #[.func (.func 105) #[] #[.pointer (some ⟨Bs, 0, none⟩)]] w fun e w' => (∃ (p' : Option Addr) (c' : Nat), e = .returned (.slice p' zs.length c') ∧ w'.ownsRow w.heap.size 45 16 (.slice p' zs.length c') zs.length (zs.flatMap auC)) ∧ K0 w w' := by
    refine vc_acollect _ _ _ w _ ⟨(callsIn_wide.1 (aapp_in 4 (by omega) Bs p c zs hz w hBs hB hR hp)).mono fun e w' ⟨v, he, ho, hb⟩ => ?_⟩
    have hk : K0 w w' := ⟨hb.os, hb.tape, hb.output, hb.size, fun i hi _ => hb.block i hi⟩
    rcases ho.2 with ⟨rfl, h0⟩ | ⟨g, cap, cur, rfl, _⟩
    · exact ⟨none, 0, 0, he, .of_k0 hk, ⟨none, 0, by rw [h0], by rw [h0] at ho ⊢; exact ho⟩, hk⟩
    · exact ⟨_, _, _, he, .of_k0 hk, ⟨_, _, rfl, ho⟩, hk⟩
  refine ⟨hcol.mono fun e w1 ⟨⟨p', c', he, ho⟩, k1⟩ => ⟨_, _, _, he, .of_k0 k1, ?_⟩⟩
  refine ⟨(asort_any zs p' c' w1 ho hz).mono fun e w2 ⟨he2, l', hp', hs, ho', k2⟩ => ?_⟩
  have k02 : K0 w w2 := k1.fresh k2 (fun i hi e => by have := own_ge ho e; omega)
  have hk2 : KeptL [] w1 w2 := .of_kp k2 (fun n hn => by cases hn)
  exact ⟨he2, hk2, ⟨p', c', l', by rw [hp'.length_eq], hp', hs, ho'⟩, k02⟩

/-! ### Compact -/
def adjI (l : List (Nat → Int)) : Prop := ∃ (k : Nat) (x y : Nat → Int), l[k]? = some x ∧ l[k + 1]? = some y ∧ auI x = auI y
theorem zeroAu (w : World) : (zeroValue 45).run Tryz.prog w = .ok (auV fun _ => 0) w := by kernel_rfl
set_option maxHeartbeats 1000000 in
theorem acompact_any (l : List (Nat → Int)) (p : Option Addr) (c : Nat) (w : World) {base : Nat} (ho : w.ownsRow base 45 16 (.slice p l.length c) l.length (l.flatMap auC)) (hb : ∀ m ∈ l, BY m) (hl : l.length ≤ 1000000) :
    Calls Tryz.prog 74 #[.slice p l.length c] w fun e w' => (∃ m : Nat, e = .returned (.slice p m c) ∧ (m = l.length ∧ ¬ adjI l ∨ m < l.length ∧ adjI l)) ∧ Kp (fun i => (Value.slice p l.length c).ownBlock = some i) w w' := by
  refine vc_acompact p l.length c w _ (bsp_intro (fun h => ?_) (fun h => ?_))
  · have h : l.length < 2 := by simp at h; omega
    refine ⟨⟨_, rfl, .inl ⟨rfl, fun ⟨k, x, y, h1, h2, _⟩ => ?_⟩⟩, .refl _ _⟩
    have := (List.getElem?_eq_some_iff.1 h2).1
    omega
  have h2 : 2 ≤ l.length := by simp at h; omega
  obtain ⟨g, cap, cur, hv, hbase, hg, hcap, hmax, hcs, _⟩ : ∃ g cap cur, Value.slice p l.length c = .slice (some ⟨g, 0, none⟩) l.length cap ∧ base ≤ g ∧ w.heap[g]? = some (.cells cur 45 (0, 0)) ∧ l.length ≤ cap ∧ cap ≤ maxLen ∧ cur.size = cap * 16 ∧ True := by
    rcases ho.2 with ⟨_, h0⟩ | ⟨g, cap, cur, hv, hb, hg, h4, h5, h6, h7⟩
    · omega
    · exact ⟨g, cap, cur, hv, hb, hg, h4, h5, h6, trivial⟩
  simp only [Value.slice.injEq, true_and] at hv
  obtain ⟨rfl, rfl⟩ := hv
  have hB : (Value.slice (some (Addr.mk g 0 none)) l.length c).ownBlock = some g := rfl
  have row : ∀ {W : World} {l' : List (Nat → Int)}, l'.length = l.length → W.ownsRow base 45 16 (.slice (some ⟨g, 0, none⟩) l.length c) l.length (l'.flatMap auC) → ∀ k, k < l.length → ∃ y, l'[k]? = some y ∧ AtL W g (0 + k * 16) (auC y) := fun hlen ho k hk => by
    rw [← hlen] at ho hk
    obtain ⟨y, b1, o1, hy, hp, hat⟩ := (RowA.own ho auC_length (by decide)).get hk
    obtain ⟨g', hg', hat'⟩ := own_at auC ho (fun y _ => auC_length y) (by decide) hy
    simp only [Option.some.injEq, Addr.mk.injEq, and_true] at hg'
    subst hg'
    exact ⟨y, hy, hat'⟩
  refine ⟨fun vs w' => ∃ x : Nat, vs = [.int .i64 (x : Int)] ∧ 1 ≤ x ∧ x ≤ l.length ∧ K0 w w' ∧ (∀ k a b, k + 1 < x → l[k]? = some a → l[k + 1]? = some b → auI a ≠ auI b),
    fun vs _ => (match vs with | .int _ a :: _ => l.length - a.toNat | _ => 0), ⟨1, rfl, by omega, by omega, .refl _ _, fun k a b h => by omega⟩, ?_⟩
  rintro x w1 ⟨x, hv, hx1, hxl, k1, hno⟩
  simp only [List.cons.injEq, Value.int.injEq, true_and, and_true] at hv
  subst hv
  have ho1 := owns_kp ho k1 (fun _ _ h => h)
  refine bsp_intro (fun hlt => ?_) (fun hge => ?_)
  · have hlt : x < l.length := by simp at hlt; omega
    obtain ⟨a, ha, hata⟩ := row rfl ho1 x hlt
    obtain ⟨b, hbb, hatb⟩ := row rfl ho1 (x - 1) (by omega)
    have e1 : IntKind.i64.wrap ((x : Int) - 1) = ((x - 1 : Nat) : Int) := by rw [wr64 (by omega) (by omega)]; omega
    rw [e1, Int.toNat_natCast, Int.toNat_natCast]
    refine nn_is rfl ⟨⟨by omega, by omega⟩, a, fun W hW => hata.k0 (hW.kk rfl), nn_is rfl ⟨⟨by omega, by omega⟩, b, fun W hW => hatb.k0 (hW.kk rfl), _, auEq (hb _ (List.mem_of_getElem? ha)) (hb _ (List.mem_of_getElem? hbb)), bsp_intro (fun hr => ?_) (fun hr => ?_)⟩⟩
    · have hr : auI a = auI b := by simpa using hr
      have hadj : adjI l := ⟨x - 1, b, a, hbb, by rw [Nat.sub_add_cancel hx1]; exact ha, hr.symm⟩
      refine ⟨⟨by omega, by omega⟩, fun W hW => ?_⟩
      have kW : K0 w W := k1.trans (hW.kk rfl)
      have eS : slA (some (Addr.mk g 0 none)) c x 16 = some ⟨g, x * 16, none⟩ := by
        unfold slA
        rw [if_neg (by omega)]
        simp [add_plain]
      rw [eS]
      refine ⟨fun vs w' => ∃ (x1 x2 : Nat) (l' : List (Nat → Int)), vs = [.int .i64 (x1 : Int), .int .i64 (x2 : Int)] ∧ 1 ≤ x1 ∧ x1 ≤ l.length - x ∧ x ≤ x2 ∧ x2 + 1 ≤ x + x1 ∧ l'.length = l.length ∧ (∀ m ∈ l', BY m) ∧
          w'.ownsRow base 45 16 (.slice (some ⟨g, 0, none⟩) l.length c) l.length (l'.flatMap auC) ∧ Kp (· = g) w w',
        fun vs _ => (match vs with | .int _ a :: _ => l.length - a.toNat | _ => 0), ⟨1, x, l, rfl, by omega, by omega, by omega, by omega, rfl, hb, owns_kp ho kW (fun _ _ h => h), kW.mono fun _ _ h => h.elim⟩, ?_⟩
      rintro y1 y2 w2 ⟨x1, x2, l', hv, h1, h3, h4, h5, hl', hb', ho2, k2⟩
      simp only [List.cons.injEq, Value.int.injEq, true_and, and_true] at hv
      obtain ⟨rfl, rfl⟩ := hv
      rw [Int.toNat_natCast, Int.toNat_natCast]
      refine bsp_intro (fun hlt2 => ?_) (fun hge2 => ?_)
      · have hlt2 : x1 < l.length - x := by simp at hlt2; omega
        obtain ⟨a2, ha2, hata2⟩ := row hl' ho2 (x + x1) (by omega)
        obtain ⟨b2, hb2, hatb2⟩ := row hl' ho2 (x + x1 - 1) (by omega)
        have e2 : IntKind.i64.wrap ((x1 : Int) - 1) = ((x1 - 1 : Nat) : Int) := by rw [wr64 (by omega) (by omega)]; omega
        have o1 : 0 + (x + x1) * 16 = x * 16 + x1 * 16 := by omega
        have o2 : 0 + (x + x1 - 1) * 16 = x * 16 + (x1 - 1) * 16 := by omega
        rw [o1] at hata2
        rw [o2] at hatb2
        rw [e2, Int.toNat_natCast]
        have inc1 : IntKind.i64.wrap ((x1 : Int) + 1) = ((x1 + 1 : Nat) : Int) := inc64 (by omega)
        have inc2 : IntKind.i64.wrap ((x2 : Int) + 1) = ((x2 + 1 : Nat) : Int) := inc64 (by omega)
        refine nn_is rfl ⟨⟨by omega, by omega⟩, a2, fun W hW => hata2.k0 (hW.kk rfl), nn_is rfl ⟨⟨by omega, by omega⟩, b2, fun W hW => hatb2.k0 (hW.kk rfl), _, auEq (hb' _ (List.mem_of_getElem? ha2)) (hb' _ (List.mem_of_getElem? hb2)), bsp_intro (fun hr2 => ?_) (fun hr2 => ?_)⟩⟩
        · refine nn_is rfl ⟨⟨by omega, by omega⟩, a2, fun W hW => hata2.k0 (hW.kk rfl), nn_is rfl ⟨⟨by omega, by omega⟩, fun W3 hW3 => ?_⟩⟩
          have k3 : K0 w2 W3 := hW3.kk rfl
          have ho3 := owns_kp ho2 k3 (fun _ _ h => h)
          obtain ⟨g', hg', hwr⟩ := own_wr ho3 (k := x2) (by omega)
          simp only [Option.some.injEq, Addr.mk.injEq, and_true] at hg'
          subst hg'
          refine ⟨hwr, fun w4 hp4 => ⟨.of_kp hp4.kp (fun n hn => by cases hn), ?_⟩⟩
          have ho4 := own_set (y := a2) ho3 hl'.symm auC_length (by decide) (by omega) hp4
          rw [inc1, inc2]
          refine ⟨⟨x1 + 1, x2 + 1, l'.set x2 a2, rfl, by omega, by omega, by omega, by omega, by rw [List.length_set]; exact hl', fun m hm => ?_, ho4, (k2.trans (k3.mono fun _ _ h => h.elim)).trans hp4.kp⟩, by simp only [Int.toNat_natCast]; omega⟩
          rcases List.mem_or_eq_of_mem_set hm with h | h
          · exact hb' m h
          · rw [h]; exact hb' _ (List.mem_of_getElem? ha2)
        · intro W3 hW3
          have k3 : K0 w2 W3 := hW3.kk rfl
          rw [inc1]
          exact ⟨⟨x1 + 1, x2, l', rfl, by omega, by omega, h4, by omega, hl', hb', owns_kp ho2 k3 (fun _ _ h => h), k2.trans (k3.mono fun _ _ h => h.elim)⟩, by simp only [Int.toNat_natCast]; omega⟩
      · have hge2 : x1 = l.length - x := by simp at hge2; omega
        obtain ⟨cur2, hcur, hsz⟩ : ∃ cur2, w2.heap[g]? = some (.cells cur2 45 (0, 0)) ∧ cur2.size = c * 16 := by
          rcases ho2.2 with ⟨hv, _⟩ | ⟨g', cap, cur2, hv, hb2, hg2, h42, h52, h62, h72⟩
          · simp at hv
          · simp only [Value.slice.injEq, true_and, Option.some.injEq, Addr.mk.injEq, and_true] at hv
            obtain ⟨rfl, rfl⟩ := hv
            exact ⟨cur2, hg2, h62⟩
        have eZ : slA (some (Addr.mk g 0 none)) c x2 16 = some ⟨g, x2 * 16, none⟩ := by
          unfold slA
          rw [if_neg (by omega)]
          simp [add_plain]
        obtain ⟨w3, hbl, k3, _⟩ := clear_row (P := Tryz.prog) (w := w2) (t := 28) Tryz.underlying28 zeroAu (b := g) (o := x2 * 16) (m := l.length - x2) (c := c - x2) hcur (by omega)
          (by rw [hsz]; show x2 * 16 + (l.length - x2) * 16 ≤ c * 16; omega) (fun v hv => auC_one _ v (by simpa [auV, Value.cells] using hv))
        rw [eZ]
        refine ⟨⟨by omega, by omega⟩, w3, hbl, .of_kp k3 (fun n hn => by cases hn), ⟨by omega, by omega⟩, ⟨x2, rfl, .inr ⟨by omega, hadj⟩⟩, (k2.trans k3).mono fun i _ e => by rw [hB, e]⟩
    · have hr : auI a ≠ auI b := by simpa using hr
      intro W hW
      rw [inc64 (by omega)]
      refine ⟨⟨x + 1, rfl, by omega, hlt, k1.trans (hW.kk rfl), fun k a' b' hk ha' hb' => ?_⟩, by simp only [Int.toNat_natCast]; omega⟩
      rcases Nat.lt_or_ge (k + 1) x with h | h
      · exact hno k a' b' h ha' hb'
      · have : k = x - 1 := by omega
        subst this
        rw [hbb] at ha'
        rw [Nat.sub_add_cancel hx1, ha] at hb'
        cases ha'; cases hb'
        exact fun e => hr e.symm
  · have : x = l.length := by simp at hge; omega
    subst this
    refine ⟨⟨_, rfl, .inl ⟨rfl, fun ⟨k, a, b, h1, h3, h4⟩ => ?_⟩⟩, k1.mono fun _ _ h => h.elim⟩
    exact hno k a b (List.getElem?_eq_some_iff.1 h3).1 h1 h3 h4

end Go.Proofs.YtfacflbmlfbeeaaGreatDoor
