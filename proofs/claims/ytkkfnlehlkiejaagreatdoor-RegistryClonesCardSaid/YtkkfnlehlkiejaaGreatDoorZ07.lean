/- Chapter 21: definitions compared and sorted. -/
import Derived.Test.YtkkfnlehlkiejaaGreatDoorZ06
import Derived.Test.YtkkfnlehlkiejaaGreatDoorZ03
import Derived.Lib.BytesEntry
import Derived.Sort.Grow
import Derived.Test.YtkkfnlehlkiejaaGreatDoorZ05
import Derived.Test.YtkkfnlehlkiejaaGreatDoorProg
import Derived.Test.YtkkfnlehlkiejaaGreatDoorZ02
import Derived.KernelRfl
import Derived.Maps.RangeRun
namespace Go.Proofs.YtkkfnlehlkiejaaGreatDoor
open Go.RowKit Go.Sort

theorem bytesOf_idB (f : Nat → Int) : Lib.bytesOf (idI f) = idB f := rfl
set_option maxRecDepth 100000 in
theorem bcompare_run {w : World} {b b' o o' : Nat} {f g : Nat → Int} (h : ∀ j, j < 32 → w.cell? ⟨b, o + j, none⟩ = some (.int .u8 (f j))) (h' : ∀ j, j < 32 → w.cell? ⟨b', o' + j, none⟩ = some (.int .u8 (g j))) (c c' : Nat) :
    (Extern.BytealgCompare.compare #[.slice (some ⟨b, o, none⟩) 32 c, .slice (some ⟨b', o', none⟩) 32 c']).run Tryz.prog w = .ok (.int .i64 (Lib.compareBytes (idB f) (idB g))) w := by
  have key : ∀ (b o : Nat) (f : Nat → Int), (∀ j, j < 32 → w.cell? ⟨b, o + j, none⟩ = some (.int .u8 (f j))) → (Extern.Bytes.loadBytes ⟨b, o, none⟩ 32 .empty).run Tryz.prog w = .ok ⟨(idB f).toArray⟩ w := fun b o f h => by
    have := Lib.run_loadBytesX (P := Tryz.prog) w (idI f) ⟨b, o, none⟩ .empty (fun j x hj => by
      have hlt : j < 32 := by have := (List.getElem?_eq_some_iff.1 hj).1; simpa [idI] using this
      rw [idI_get f hlt] at hj
      simp at hj
      subst hj
      have e : (⟨b, o, none⟩ : Addr).add j = ⟨b, o + j, none⟩ := by
        unfold Addr.add
        simp
      rw [e]
      exact h j hlt)
    have hl : (idI f).length = 32 := by simp [idI]
    rw [hl, bytesOf_idB] at this
    rw [this]
    generalize idB f = l
    have e : ByteArray.empty.data ++ l.toArray = l.toArray := by
      show (#[] : Array UInt8) ++ l.toArray = l.toArray
      simp
    rw [e]
  change Sem.run Tryz.prog (do pure (goInt (Extern.BytealgCompare.cmp (← Extern.Bytes.bytesOf (.slice (some ⟨b, o, none⟩) 32 c)) (← Extern.Bytes.bytesOf (.slice (some ⟨b', o', none⟩) 32 c'))))) w = _
  simp only [Extern.Bytes.bytesOf, Sem.run_bind, key b o f h, key b' o' g h', Sem.run_pure, Result.andThen]
  rw [Lib.cmp_eq]
  rfl
set_option maxHeartbeats 1000000 in
set_option maxRecDepth 100000 in
theorem bcompare_any {w : World} {b b' o o' : Nat} {f g : Nat → Int} (h : ∀ j, j < 32 → w.cell? ⟨b, o + j, none⟩ = some (.int .u8 (f j))) (h' : ∀ j, j < 32 → w.cell? ⟨b', o' + j, none⟩ = some (.int .u8 (g j))) (c c' : Nat) :
    Calls Tryz.prog 119 #[.slice (some ⟨b, o, none⟩) 32 c, .slice (some ⟨b', o', none⟩) 32 c'] w fun e w' => e = .returned (.int .i64 (Lib.compareBytes (idB f) (idB g))) ∧ w' = w := by
  have hr := bcompare_run h h' c c'
  generalize Lib.compareBytes (idB f) (idB g) = r at hr ⊢
  clear h h'
  go_enter Tryz.func119, Tryz.ntmps119
  go_wp2
  rw [run_callFunc_extern Tryz.func133 (by kernel_rfl) (by kernel_rfl) (by kernel_rfl) (e := Extern.BytealgCompare.compare) (by kernel_rfl), hr]
  simp only [Result.andThen]
  rw [Oper.upon_value]
  go_wp2
  go_ret
  exact ⟨rfl, rfl⟩

theorem mcompare_any (f g : Nat → Int) (w : World) : Calls Tryz.prog 97 #[.agg (arrI .u8 f 32 0).toArray, .agg (arrI .u8 g 32 0).toArray] w fun e w' => e = .returned (.int .i64 (Lib.compareBytes (idB f) (idB g))) ∧ K0 w w' ∧ w.drawn ≤ w'.drawn := by
  refine vc_mcompare _ _ w _ ?_
  intro n w1 hn n1 w2 hn1
  have b1 := (hn1.kp (fun _ => False)).blk hn.block (fun h => h)
  have b2 := hn1.block
  have hd : w2.drawn = w.drawn := by rw [hn1.hw, hn.hw]; rfl
  refine ⟨(bcompare_any (w := w2.drew) (f := f) (g := g) (fun j hj => cell_at (blk_drew b1) ?_) (fun j hj => cell_at (blk_drew b2) ?_) 32 32).mono fun e w' ⟨he, hw⟩ => ⟨_, he, rfl, ?_, ?_⟩⟩
  · rw [Nat.zero_add]; simpa using arrI_get .u8 f 32 0 j hj
  · rw [Nat.zero_add]; simpa using arrI_get .u8 g 32 0 j hj
  · rw [hw]; exact ((hn.kp _).trans (hn1.kp _)).drew
  · rw [hw]; show w.drawn ≤ w2.drawn + 1; omega
theorem cmpOr_any (a b : Int) (n c : Nat) (t : TypeId) (w : World) (hb : w.heap[n]? = some (.cells #[.int .i64 a, .int .i64 b] t (0, 0))) : Calls Tryz.prog 73 #[.slice (some ⟨n, 0, none⟩) 2 c] w fun e w' => e = .returned (.int .i64 (if a ≠ 0 then a else b)) ∧ w' = w := by
  refine vc_cmpOr (some ⟨n, 0, none⟩) 2 c w _ ?_
  refine count1 2 (by decide) (fun k w' => (0 < k → a = 0) ∧ (1 < k → b = 0) ∧ w' = w) ⟨fun h => by omega, fun h => by omega, rfl⟩ ?_
  rintro I m k w' hk ⟨h0, h1, rfl⟩ next
  refine bsp_intro (fun hlt => ?_) (fun hge => ?_)
  · have hlt : k < 2 := by simp at hlt; omega
    show (0 ≤ (k : Int) ∧ (k : Int) < ((2 : Nat) : Int)) ∧ _
    rw [Int.toNat_natCast]
    obtain rfl | rfl : k = 0 ∨ k = 1 := by omega
    · refine ⟨by omega, a, cell_at hb rfl, bsp_intro (fun h => ⟨?_, rfl⟩) (fun h => next hlt _ ⟨fun _ => ?_, fun h => by omega, rfl⟩)⟩
      · have h : a ≠ 0 := by simpa using h
        rw [if_pos h]
      · simpa using h
    · have ha := h0 (by omega)
      refine ⟨by omega, b, cell_at hb rfl, bsp_intro (fun h => ⟨?_, rfl⟩) (fun h => next hlt _ ⟨fun _ => ha, fun _ => by simpa using h, rfl⟩)⟩
      rw [if_neg (by omega)]
  · have : k = 2 := by simp at hge; omega
    subst this
    rw [if_neg (by have := h0 (by omega); omega), h1 (by omega)]
    exact ⟨rfl, rfl⟩

/-! ### Texts compared -/
theorem bl_cb : ∀ a b : List UInt8, Op.bytesLess a b = decide (Lib.compareBytes a b < 0)
  | [], [] => rfl
  | [], _ :: _ => rfl
  | _ :: _, [] => rfl
  | a :: l, b :: m => by
    unfold Op.bytesLess Lib.compareBytes
    by_cases h1 : a < b
    · simp [h1]
    · by_cases h2 : b < a
      · have h3 : a ≠ b := fun e => by subst e; exact h1 h2
        simp [h1, h2, h3]
      · have h3 : a = b := UInt8.le_antisymm (UInt8.not_lt.1 h2) (UInt8.not_lt.1 h1)
        subst h3
        simp [bl_cb l m]
theorem nanS_any (a : ByteArray) (w : World) : Calls Tryz.prog 95 #[.string a] w fun e w' => e = .returned (.bool false) ∧ w' = w := vc_nanS a w _ ⟨by simp, rfl⟩
theorem cmpS_any (a b : ByteArray) (w : World) : Calls Tryz.prog 74 #[.string a, .string b] w fun e w' => e = .returned (.int .i64 (Lib.compareBytes a.data.toList b.data.toList)) ∧ w' = w := by
  refine vc_cmpS a b w _ ⟨(nanS_any a w).mono fun e w1 ⟨he, hw⟩ => ⟨_, he, ?_⟩⟩
  subst hw
  refine ⟨(nanS_any b w1).mono fun e w2 ⟨he, hw⟩ => ⟨_, he, ?_⟩⟩
  subst hw
  have e1 : a.toList = a.data.toList := ByteArray.toList_eq a
  have e2 : b.toList = b.data.toList := ByteArray.toList_eq b
  rw [e1, e2, bl_cb]
  have ha := cb_anti a.data.toList b.data.toList
  have hcases : Lib.compareBytes a.data.toList b.data.toList = -1 ∨ Lib.compareBytes a.data.toList b.data.toList = 0 ∨ Lib.compareBytes a.data.toList b.data.toList = 1 := by
    have key : ∀ l m : List UInt8, Lib.compareBytes l m = -1 ∨ Lib.compareBytes l m = 0 ∨ Lib.compareBytes l m = 1 := by
      intro l
      induction l with
      | nil => intro m; cases m <;> simp [Lib.compareBytes]
      | cons x l ih =>
        intro m
        cases m with
        | nil => simp [Lib.compareBytes]
        | cons y m =>
          unfold Lib.compareBytes
          split
          · exact .inl rfl
          split
          · exact .inr (.inr rfl)
          · exact ih m
    exact key _ _
  refine bsp_intro (fun h => by cases h) (fun _ => bsp_intro (fun h => by cases h) (fun _ => bsp_intro (fun h => ?_) (fun h => bsp_intro (fun h2 => ?_) (fun h2 => ?_))))
  · have h := of_decide_eq_true h
    exact ⟨by congr 2; omega, rfl⟩
  · have h := of_decide_eq_false h
    simp only [Bool.not_eq_true', Bool.or_eq_false_iff, beq_eq_false_iff_ne] at h2
    have : Lib.compareBytes a.data.toList b.data.toList ≠ 0 := fun e => h2.2 (cb_zero _ _ e)
    exact ⟨by congr 2; omega, rfl⟩
  · have h := of_decide_eq_false h
    rw [decide_eq_false h] at h2
    have h3 : a.data.toList = b.data.toList := by simpa using h2
    exact ⟨by congr 2; rw [h3, cb_self], rfl⟩

/-! ### Definitions compared -/
def cfG (x y : DX) : Int := Lib.compareBytes x.d.g.data.toList y.d.g.data.toList
def cfV (x y : DX) : Int := if y.d.v < x.d.v then -1 else if x.d.v < y.d.v then 1 else 0
def cfP (x y : DX) : Int := if cfV x y ≠ 0 then cfV x y else Lib.compareBytes (idB x.d.id) (idB y.d.id)
def cfD (x y : DX) : Int := if cfG x y ≠ 0 then cfG x y else cfP x y
theorem cfV_ord : Ord3 cfV where
  anti x y := by unfold cfV; split <;> split <;> omega
  tlt x y z h1 h2 := by unfold cfV at *; split at h1 <;> split at h2 <;> split <;> omega
  el x y z h1 h2 := by unfold cfV at *; split at h1 <;> split at h2 <;> split <;> omega
  le x y z h1 h2 := by unfold cfV at *; split at h1 <;> split at h2 <;> split <;> omega
theorem cfP_ord : Ord3 cfP := cfV_ord.thn (cb_ord (fun x : DX => idB x.d.id)) (fun x y z h1 h2 => by unfold cfV at *; split at h1 <;> split at h2 <;> split <;> omega)
theorem cfD_ord : Ord3 cfD := (cb_ord (fun x : DX => x.d.g.data.toList)).thn cfP_ord (fun x y z h1 h2 => by
  have e1 := cb_zero _ _ h1
  have e2 := cb_zero _ _ h2
  rw [e1, e2]; exact cb_self _)
theorem cfV_eq (x y : DX) : cfV x y = Lib.compareInt y.d.v x.d.v := by unfold cfV Lib.compareInt; rfl
theorem dprec_any (x y : DX) (w : World) : Calls Tryz.prog 75 #[.agg (dfC x).toArray, .agg (dfC y).toArray] w fun e w' => e = .returned (.int .i64 (cfP x y)) ∧ K0 w w' ∧ w.drawn ≤ w'.drawn := by
  refine vc_dprec _ _ w _ ?_
  intro n w1 hn n1 w2 hn1
  have b1 := (hn1.kp (fun _ => False)).blk hn.block (fun h => h)
  have b2 := hn1.block
  have hd : w2.drawn = w.drawn := by rw [hn1.hw, hn.hw]; rfl
  have k2 : K0 w w2 := (hn.kp _).trans (hn1.kp _)
  refine ⟨fun wx => K0 w2 wx, (Kp.refl _ _).drew, y.d.v, fun wx h => cell_at (h.blk b2 (fun h => h)) rfl, x.d.v, fun wx h => cell_at (h.blk b1 (fun h => h)) rfl, x.d.id, fun wx h => AtL_block (h.blk b1 (fun h => h)) rfl, y.d.id, fun wx h => AtL_block (h.blk b2 (fun h => h)) rfl, ?_⟩
  refine ⟨(Tryz.cmp_Compare_int y.d.v x.d.v w2.drew).mono fun e w3 ⟨he, hw⟩ => ⟨_, he, by rw [hw]; exact (Kp.refl _ _).drew, ?_⟩⟩
  subst hw
  refine ⟨(mcompare_any x.d.id y.d.id w2.drew).mono fun e w4 ⟨he, hk4, hd4⟩ => ⟨_, he, fun n3 w5 hn5 => ?_⟩⟩
  refine ⟨(cmpOr_any _ _ n3 2 _ w5 hn5.block).mono fun e w6 ⟨he, hw⟩ => ⟨_, he, ?_, ?_, ?_⟩⟩
  · unfold cfP; rw [cfV_eq]
  · rw [hw]; exact (k2.drew.trans hk4).trans (hn5.kp _)
  · rw [hw, hn5.hw]
    show w.drawn ≤ w4.drawn
    have : w2.drew.drawn = w2.drawn + 1 := rfl
    omega
theorem pcmp_any (x y : DX) (w : World) : Calls Tryz.prog 72 #[.agg (dfC x).toArray, .agg (dfC y).toArray] w fun e w' => e = .returned (.int .i64 (cfD x y)) ∧ K0 w w' ∧ w.drawn ≤ w'.drawn := by
  refine vc_pcmp _ _ w _ ?_
  intro n w1 hn n1 w2 hn1
  have b1 := (hn1.kp (fun _ => False)).blk hn.block (fun h => h)
  have b2 := hn1.block
  have hd : w2.drawn = w.drawn := by rw [hn1.hw, hn.hw]; rfl
  have k2 : K0 w w2 := (hn.kp _).trans (hn1.kp _)
  refine ⟨fun wx => K0 w2 wx, (Kp.refl _ _).drew, x.d.g, fun wx h => cell_at (h.blk b1 (fun h => h)) rfl, y.d.g, fun wx h => cell_at (h.blk b2 (fun h => h)) rfl, x.d.id, x.d.au, x.d.g, x.d.v, x.d.rm, x.d.md, x.p, x.d.ms.length, x.c, x.d.tx, fun wx h => AtL_block (h.blk b1 (fun h => h)) rfl, y.d.id, y.d.au, y.d.g, y.d.v, y.d.rm, y.d.md, y.p, y.d.ms.length, y.c, y.d.tx, fun wx h => AtL_block (h.blk b2 (fun h => h)) rfl, ?_⟩
  refine ⟨(cmpS_any x.d.g y.d.g w2.drew).mono fun e w3 ⟨he, hw⟩ => ⟨_, he, by rw [hw]; exact (Kp.refl _ _).drew, ?_⟩⟩
  subst hw
  refine ⟨(dprec_any x y w2.drew).mono fun e w4 ⟨he, hk4, hd4⟩ => ⟨_, he, fun n3 w5 hn5 => ?_⟩⟩
  refine ⟨(cmpOr_any _ _ n3 2 _ w5 hn5.block).mono fun e w6 ⟨he, hw⟩ => ⟨_, he, rfl, ?_, ?_⟩⟩
  · rw [hw]; exact (k2.drew.trans hk4).trans (hn5.kp _)
  · rw [hw, hn5.hw]
    show w.drawn ≤ w4.drawn
    have : w2.drew.drawn = w2.drawn + 1 := rfl
    omega

/-! ### Sorted -/
theorem sortW_kp {α : Type} [Inhabited α] (enc : α → List Value) (k : Nat) (w : World) (blk off m : Nat) (dk : Array α) (os : Array Obj) : Kp (· = blk) w (sortWorldK enc k w blk off m dk os) := by
  refine ⟨rfl, rfl, rfl, size_sortWorldK_c enc k w blk off m dk os, fun i hi hne => ?_⟩
  show (((Sort.ahead w m).heap.modify blk _) ++ os)[i]? = _
  rw [Array.getElem?_append_left (by simpa [Sort.ahead] using hi), Array.getElem?_modify, if_neg (fun e => hne e.symm)]
  rfl
/-- The row's block is of the same make. -/
theorem sortW_blk {α : Type} [Inhabited α] (enc : α → List Value) (k : Nat) (w : World) (blk off m : Nat) (dk : Array α) (os : Array Obj) {cur : Array Value} {t : TypeId} (h : w.heap[blk]? = some (.cells cur t (0, 0))) : ∃ cur' : Array Value, cur'.size = cur.size ∧ (sortWorldK enc k w blk off m dk os).heap[blk]? = some (.cells cur' t (0, 0)) := by
  have hlt := block_lt h
  refine ⟨putCells id off (flatK enc k dk) cur, by simp [putCells], ?_⟩
  show (((Sort.ahead w m).heap.modify blk (onCells (putCells id off (flatK enc k dk)))) ++ os)[blk]? = _
  rw [Array.getElem?_append_left (by simpa [Sort.ahead] using hlt), Array.getElem?_modify, if_pos rfl]
  have e : (Sort.ahead w m).heap[blk]? = w.heap[blk]? := rfl
  rw [e, h]
  rfl
instance : Inhabited DX := ⟨⟨dz, none, 0⟩⟩
theorem dfC_one (x : DX) : ∀ v ∈ dfC x, v.oneCell' = true := fun v hv => by
  unfold dfC at hv
  rcases List.mem_append.1 hv with h | h
  · exact arr_one x.d.id 32 v h
  rcases List.mem_append.1 h with h | h
  · exact arr_one x.d.au 16 v h
  · simp only [List.mem_cons, List.not_mem_nil, or_false] at h
    rcases h with h | h | h | h | h | h <;> (subst h; rfl)
theorem dfC_flat (l : List DX) : (l.flatMap dfC).length = l.length * 54 := len_flat dfC 54 l (fun _ _ => rfl)
set_option maxHeartbeats 1000000 in
theorem psort_any (cs : List DX) (p : Option Addr) (c : Nat) (w : World) {base : Nat} (ho : w.ownsRow base 56 54 (.slice p cs.length c) cs.length (cs.flatMap dfC)) (hl : cs.length ≤ 1000000) :
    Calls Tryz.prog 71 #[.slice p cs.length c, .func (.func 72) #[] #[]] w fun e w' => e = .returned (.tuple #[]) ∧
      ∃ cs' : List DX, cs'.Perm cs ∧ (cs'.Pairwise fun x y => ¬ cfD y x < 0) ∧
        w'.ownsRow base 56 54 (.slice p cs'.length c) cs'.length (cs'.flatMap dfC) ∧ Kp (fun i => (Value.slice p cs.length c).ownBlock = some i) w w' := by
  rcases Nat.eq_zero_or_pos cs.length with h0 | h0
  · have : cs = [] := List.eq_nil_of_length_eq_zero h0
    subst this
    exact (Tryz.slices_SortFunc_none71 p c _ w).mono fun e w' ⟨he, hw⟩ => ⟨he, [], .refl _, .nil, by rw [hw]; exact ho, by rw [hw]; exact .refl _ _⟩
  rcases ho.2 with ⟨_, hz⟩ | ⟨g, cap, cur, he, hbase, hg, hcap, hmax, hcs, _⟩
  · omega
  simp only [Value.slice.injEq, true_and] at he
  obtain ⟨rfl, rfl⟩ := he
  have hcell : ∀ k x, cs[k]? = some x → ∀ j v, (dfC x)[j]? = some v → w.cell? ⟨g, k * 54 + j, none⟩ = some v := fun k x hk j v hv => by
    have hj : j < 54 := by rw [← dfC_length x]; exact (List.getElem?_eq_some_iff.1 hv).1
    obtain ⟨g', e', hc⟩ := own_cellL ho (i := k * 54 + j) (v := v) (by rw [flat_get dfC 54 cs k x j (fun y _ => dfC_length y) hk hj]; exact hv)
    simp only [Option.some.injEq, Addr.mk.injEq, and_true] at e'
    subst e'
    exact hc
  have key : ∀ (d : Array DX) (t : Nat), t < d.size * 54 → ∃ x v, d[t / 54]? = some x ∧ (dfC x)[t % 54]? = some v ∧ (flatK dfC 54 d)[t]! = v := fun d t ht => by
    have h1 : t / 54 < d.size := by omega
    have h2 : t % 54 < (dfC d[t / 54]!).length := by rw [dfC_length]; omega
    refine ⟨d[t / 54]!, (dfC d[t / 54]!)[t % 54], ?_, List.getElem?_eq_getElem h2, ?_⟩
    · rw [Array.getElem?_eq_getElem h1, getElem!_pos d _ h1]
    · rw [get_flatK dfC 54 d t ht, getElem!_pos (dfC d[t / 54]!) (t % 54) h2]
  have hH : HoldsK dfC 54 w g 0 cs.toArray := by
    intro t ht
    rw [size_flatK] at ht
    obtain ⟨x, v, h1, h2, h3⟩ := key cs.toArray t ht
    refine ⟨?_, frozen_block hg _⟩
    rw [h3, Nat.zero_add]
    have := hcell (t / 54) x (by simpa using h1) (t % 54) v h2
    rw [show t / 54 * 54 + t % 54 = t by omega] at this
    exact this
  have eg : ∀ args w, (callFunc 72 args).run Tryz.prog w = .ok (.enter 72 args) w := enters_of Tryz.func72 (by kernel_rfl) rfl
  have hcmp : CmpLays Tryz.prog 72 #[] dfC 54 cfD g 0 cs.toArray.size w := fun m os dk _ x y => (pcmp_any x y _).mono fun e w' ⟨he, hk, hd⟩ => ⟨he, grow_of hk hd⟩
  have hS := AnyQ.slices_SortFunc (α := DX) Tryz.laysSlF06_f71 54 Tryz.isAgg56 Tryz.sizeOf56 dfC dfC_length dfC_one cfD cfD_ord.swo 72 #[] g 0 c cs.toArray w eg hcmp hH (block_lt hg) (by simp; omega)
  change Calls Tryz.prog 71 #[.slice (some ⟨g, 0, none⟩) cs.length c, .func (.func 72) #[] #[]] w _ at hS
  refine hS.mono fun e w' ⟨he, d', m, os, hperm, hsort, hw⟩ => ?_
  have hs1 : d'.size = cs.length := by simpa using hperm.1
  have hp : d'.toList.Perm cs := by
    have h1 := hperm.1
    have h2 := hperm.2.2
    rw [show d'.extract 0 cs.toArray.size = d' from by rw [← h1]; exact Array.extract_size] at h2
    rw [show cs.toArray.extract 0 cs.toArray.size = cs.toArray from Array.extract_size] at h2
    exact h2
  have hlen : d'.toList.length = cs.length := hp.length_eq
  refine ⟨he, d'.toList, hp, ?_, ?_, ?_⟩
  · rw [List.pairwise_iff_getElem]
    intro i j hi hj hij
    have := hsort i j (Nat.zero_le _) hij (by simp only [List.size_toArray]; omega)
    have e1 : d'[i]! = d'.toList[i] := by
      rw [getElem!_pos d' i (by simpa using hi)]
      simp
    have e2 : d'[j]! = d'.toList[j] := by
      rw [getElem!_pos d' j (by simpa using hj)]
      simp
    rw [e1, e2] at this
    intro hc
    have h3 : decide (cfD d'.toList[j] d'.toList[i] < 0) = true := decide_eq_true hc
    rw [show ltOf cfD d'.toList[j] d'.toList[i] = decide (cfD d'.toList[j] d'.toList[i] < 0) from rfl, h3] at this
    cases this
  · obtain ⟨cur', hc1, hc2⟩ := sortW_blk dfC 54 w g 0 m d' os hg
    refine ⟨dfC_flat _, .inr ⟨g, c, cur', by rw [hlen], hbase, by rw [hw]; exact hc2, by omega, hmax, by rw [hc1, hcs], ?_⟩⟩
    have hHo := holdsK_sortWorldK_c dfC 54 w g 0 cs.toArray d' m os hH (block_lt hg) hperm.1
    apply List.ext_getElem?
    intro t
    rw [List.getElem?_take]
    rcases Nat.lt_or_ge t (d'.toList.length * 54) with ht | ht
    · rw [if_pos ht]
      have ht' : t < d'.size * 54 := by simpa using ht
      have h1 := (hHo t (by rw [size_flatK]; exact ht')).1
      obtain ⟨x', v', h3, h4, h5⟩ := key d' t ht'
      rw [h5, Nat.zero_add, cell_block hc2] at h1
      rw [Array.getElem?_toList, h1]
      have := flat_get dfC 54 d'.toList (t / 54) x' (t % 54) (fun y _ => dfC_length y) (by simpa using h3) (by omega)
      rw [show t / 54 * 54 + t % 54 = t by omega] at this
      rw [this, h4]
      rfl
    · rw [if_neg (by omega), List.getElem?_eq_none (by rw [dfC_flat]; exact ht)]
  · rw [hw]
    exact (sortW_kp dfC 54 w g 0 m d' os).mono fun i _ e => by rw [e]; rfl

end Go.Proofs.YtkkfnlehlkiejaaGreatDoor

/- delete of a map's entry, clear of a row's end, slices that are shorter. Generic: no program, no condition. -/
namespace Go.Proofs.YtkkfnlehlkiejaaGreatDoor
open Go.RowKit Go.Maps

theorem map_erase {α β : Type} (f : α → β) : ∀ (l : List α) (i : Nat), (l.eraseIdx i).map f = (l.map f).eraseIdx i
  | [], _ => rfl
  | _ :: _, 0 => rfl
  | x :: l, i + 1 => by simp [map_erase f l i]
section
variable {α : Type} {P : Program} {k t e : TypeId} {enc : α → Value} {w w1 : World} {b : Nat} {l : List (α × Value)}
variable [DecidableEq α]
theorem adel_none {β : Type} {l : List (α × β)} {a : α} (h : ∀ p ∈ l, p.1 ≠ a) : adel l a = l := List.filter_eq_self.2 fun p hp => by simp [h p hp]
theorem adel_at {β : Type} : ∀ {l : List (α × β)} {a : α} {v : β} {j : Nat}, (l.Pairwise fun p q => p.1 ≠ q.1) → l[j]? = some (a, v) → adel l a = l.eraseIdx j
  | [], a, v, j, _, h => by simp at h
  | (x, u) :: l, a, v, 0, hd, h => by
    simp at h
    obtain ⟨rfl, rfl⟩ := h
    have := adel_none (fun p hp => fun e => (List.pairwise_cons.1 hd).1 p hp e.symm)
    unfold adel at this ⊢
    rw [List.filter_cons, if_neg (by simp), this]; rfl
  | (x, u) :: l, a, v, j + 1, hd, h => by
    have h' : l[j]? = some (a, v) := by simpa using h
    have hne : x ≠ a := (List.pairwise_cons.1 hd).1 (a, v) (List.mem_of_getElem? h')
    have ih := adel_at (List.pairwise_cons.1 hd).2 h'
    unfold adel at ih ⊢
    rw [List.filter_cons, if_pos (by simp [hne]), ih]; rfl
theorem aget_adel {β : Type} (l : List (α × β)) (a c : α) : aget (adel l a) c = if a = c then none else aget l c := by
  induction l with
  | nil => simp [adel, aget]
  | cons p r ih =>
    obtain ⟨x, u⟩ := p
    unfold adel at ih ⊢
    rw [List.filter_cons]
    by_cases h : x = a
    · subst h
      rw [if_neg (by simp), ih]
      by_cases h2 : x = c
      · rw [if_pos h2, if_pos h2]
      · rw [if_neg h2, if_neg h2]; simp [aget, h2]
    · rw [if_pos (by simp [h])]
      unfold aget
      by_cases h2 : x = c
      · subst h2; simp [Ne.symm h]
      · simp only [h2, if_false]; exact ih
variable (hinj : ∀ x y, enc x = enc y → x = y)
include hinj
/-- An entry of a map is struck. -/
theorem MapB.del (h : MapB P k enc w b l) (K : Keyed P k) (ht : P.underlying t = some (.map k e)) {a : α} {kl : Lit} (ha : keyOf P k (enc a) = some kl) :
    ∃ w1, BltP P .delete [t, k] [.map (some b), enc a] w w1 ∧ MapB P k enc w1 b (adel l a) ∧ Kp (· = b) w w1 := by
  obtain ⟨es, c, hb, he⟩ := h.blk
  have hkp : ∀ o, Kp (· = b) w (ChangeMaps.setBlock w b o) := fun o => ⟨rfl, rfl, rfl, by simp [ChangeMaps.setBlock], fun i _ hi => ChangeMaps.heap_setBlock_other hb _ (fun e => hi (by rw [e]))⟩
  have hkeys : ∀ p ∈ adel l a, ∃ kl, keyOf P k (enc p.1) = some kl := fun p hp => h.key p (List.mem_filter.1 hp).1
  have hdis : (adel l a).Pairwise fun p q => p.1 ≠ q.1 := List.Pairwise.sublist List.filter_sublist h.dis
  rcases map_find hinj K he h.key h.dis ha (w := w) with ⟨h1, h2⟩ | ⟨j, x, u, h1, h2, h3, h4, h5⟩
  · refine ⟨ChangeMaps.setBlock w b (.map es c), ⟨fun ty cs => ?_⟩, ⟨⟨_, _, ChangeMaps.heap_setBlock_same hb _, ?_⟩, hkeys, hdis, fun es' c' h' => by rw [ChangeMaps.heap_setBlock_same hb] at h'; cases h'; exact h.brn es c hb⟩, hkp _⟩
    · simp [builtin, Builtin.delete_, run_underlying ht, MapKept.run_getObj_map hb, K.check w _ ha, h2, MapKept.run_setObj_map _ hb, Result.andThen, ChangeMaps.setBlock]
    · rw [adel_none (aget_none.1 h1), he]
  · refine ⟨ChangeMaps.setBlock w b (.map (es.eraseIdxIfInBounds j) c), ⟨fun ty cs => ?_⟩, ⟨⟨_, _, ChangeMaps.heap_setBlock_same hb _, ?_⟩, hkeys, hdis, fun es' c' h' => by
      rw [ChangeMaps.heap_setBlock_same hb] at h'
      cases h'
      have h6 := h.brn es c hb
      have hs : List.Sublist (es.eraseIdxIfInBounds j).toList es.toList := by rw [Array.toList_eraseIdxIfInBounds]; exact List.eraseIdx_sublist _ _
      exact ⟨h6.1.sublist (hs.map _), fun x hx => h6.2 x (hs.subset hx)⟩⟩, hkp _⟩
    · simp [builtin, Builtin.delete_, run_underlying ht, MapKept.run_getObj_map hb, K.check w _ ha, h2, MapKept.run_setObj_map _ hb, Result.andThen, ChangeMaps.setBlock]
    · rw [adel_at h.dis h3]
      rw [map_erase, ← he, ← map_erase]
      simp
end

/-! ### The end of a row is cleared -/
theorem putL_len : ∀ (vs c : List Value) (o : Nat), (putL c o vs).length = c.length
  | [], c, o => rfl
  | v :: r, c, o => by simp only [putL]; rw [putL_len r]; simp
theorem erase_flat {α : Type} (f : α → List Value) (L : Nat) (l : List α) (i : Nat) (hl : ∀ y, (f y).length = L) : (l.flatMap f).take (i * L) ++ (l.flatMap f).drop ((i + 1) * L) = (l.eraseIdx i).flatMap f := by
  rw [take_flat f L l i (fun y _ => hl y), drop_flat f L l (i + 1) (fun y _ => hl y), ← List.flatMap_append, List.eraseIdx_eq_take_drop_succ]
end Go.Proofs.YtkkfnlehlkiejaaGreatDoor

/- The formulas of functions by the symbolic evaluator, and that each gives the call's contract. Written by a program (gen.py). No condition. -/
namespace Go.Proofs.YtkkfnlehlkiejaaGreatDoor
set_option maxRecDepth 100000
set_option linter.unusedVariables false

def VC_rnew (p : Option Addr) (n : Nat) (c : Nat) (w : World) (R : Ending → World → Prop) : Prop :=
 bsp (decide ((↑n : Int) > 64))
 (R (Ending.returned (Value.tuple #[Value.pointer none, Value.int IntKind.i64 64, Value.int IntKind.i64 9])) w)
 (CallsS Tryz.prog 44 #[Value.slice p n c] w fun (e : Ending) (w' : World) =>
 ∃ (p_1 : Option Addr),
 ∃ (n_1 : Nat),
 ∃ (c : Nat),
 e = Ending.returned (Value.slice p_1 n_1 c) ∧
 KeptL [] w w' ∧
 ∀ (n_2 : Nat) (w1 : World),
 NewB w' (Obj.map #[] 0) n_2 w1 →
 KeptL [] w' w1 ∧
 ∀ (n_3 : Nat) (W : World),
 Loc w.heap.size [Blk.mk n_3 99 [Value.slice p_1 n_1 c, Value.slice none 0 0, Value.map (some n_2)] 2] w1 W →
 ∃ (I : List Value → World → Prop),
 ∃ (m : List Value → World → Nat),
 I [Value.int IntKind.i64 0] W ∧
 ∀ (x : Int) (w' : World),
 I [Value.int IntKind.i64 x] w' →
 bsp (decide (x < (↑n : Int)))
 (nn true p fun (b o : Nat) =>
 (0 ≤ x ∧ x < (↑n : Int)) ∧
 ∃ (x_1 : ByteArray),
 ∃ (f : Nat → Int),
 AtL w' b (o + x.toNat * 17)
 ([Value.string x_1] ++ arrI IntKind.u8 f 16 0) ∧
 ∀ (n : Nat) (W : World),
 Loc w.heap.size
 [Blk.mk n 94
 ([Value.string x_1] ++ arrI IntKind.u8 f 16 0)
 (wrM 2)]
 w' W →
 CallsS Tryz.prog 35 #[Value.string x_1] W fun (e : Ending) (w'_1 : World) =>
 ∃ (x_2 : Option Addr),
 ∃ (x_3 : Int),
 ∃ (x_4 : Int),
 e =
 Ending.returned
 (Value.tuple
 #[Value.pointer x_2, Value.int IntKind.i64 x_3, Value.int IntKind.i64 x_4]) ∧
 KeptL [n] W w'_1 ∧
 bsp (x_4 != 0)
 (R
 (Ending.returned
 (Value.tuple
 #[Value.pointer none, Value.int IntKind.i64 x, Value.int IntKind.i64 x_4]))
 w'_1)
 (∃ (p : Option Addr),
 ∃ (n_4 : Nat),
 ∃ (c : Nat),
 w'_1.cell? (Addr.mk n_3 (0 + 1) none) = some (Value.slice p n_4 c) ∧
 ∀ (n_5 : Nat) (W : World),
 Loc w.heap.size
 [Blk.mk n_5 74 [Value.pointer x_2] 2,
 Blk.mk n 94
 ([Value.string x_1] ++ arrI IntKind.u8 f 16 0)
 0]
 w'_1 W →
 ∃ (base : Nat),
 ∃ (xs : List Value),
 W.ownsRow base 74 1 (Value.slice p n_4 c) n_4 xs ∧
 n_4 + 1 ≤ 9223372036854775807 ∧
 (n_4 + 1) * 8 ≤ 140737488355328 ∧
 base ≤ W.heap.size ∧
 ∀ (p' : Option Addr) (c' : Nat) (w'_2 : World),
 w'_2.ownsRow base 74 1 (Value.slice p' (n_4 + 1) c') (n_4 + 1)
 (xs ++ [Value.pointer x_2]) →
 W.grownBy w'_2 (Value.slice p n_4 c).ownBlock →
 (n_4 + 1 ≤ c → p' = p ∧ c' = c) →
 KeptL [n] W w'_2 ∧
 ((∃ (u : Value), w'_2.cell? (Addr.mk n_3 (0 + 1) none) = some u) ∧
 w'_2.frozen? (Addr.mk n_3 (0 + 1) none) = false) ∧
 ∀ (w1 : World),
 PutB w'_2 n_3 (0 + 1) [Value.slice p' (n_4 + 1) c'] w1 →
 KeptL [n] w'_2 w1 ∧
 I [Value.int IntKind.i64 (IntKind.i64.wrap (x + 1))] w1 ∧
 m [Value.int IntKind.i64 (IntKind.i64.wrap (x + 1))] w1 <
 m [Value.int IntKind.i64 x] w'))
 (R
 (Ending.returned
 (Value.tuple
 #[Value.pointer (some (Addr.mk n_3 0 none)), Value.int IntKind.i64 0, Value.int IntKind.i64 0]))
 w'))
theorem vc_rnew (p : Option Addr) (n : Nat) (c : Nat) (w : World) (R : Ending → World → Prop) (h : VC_rnew p n c w R) : Calls Tryz.prog 13 ([Value.slice
    p n c] : List Value).toArray w R := by
  have e : execR2 { P := Tryz.prog, loops := [(5, [(21, Ck.int IntKind.i64)])], pur := pur1, tails := [], joins := [], boxes := [] } Tryz.f13.results.toList R (Tryz.f13.body.getD .skip) (initF [Value.slice
    p n c] (Tryz.f13.ntmps - ([Value.slice p n c] : List Value).length)) w = VC_rnew p n c w R := by kernel_rfl
  have hb : Tryz.f13.body = some (Tryz.f13.body.getD .skip) := by kernel_rfl
  exact calls_of_exec2' (P := Tryz.prog) (fn := Tryz.f13) (c := Tryz.f13.body.getD .skip) (args := [Value.slice p n
    c]) (w := w) (R := R) pur1_ok Tryz.func13 hb e h

def VC_auclone (p : Option Addr) (n : Nat) (c : Nat) (w : World) (R : Ending → World → Prop) : Prop :=
 bsp p.isNone (R (Ending.returned (Value.slice none 0 0)) w)
 (∀ (n_1 : Nat) (W : World),
 Loc w.heap.size [Blk.mk n_1 94 [] 2] w W →
 ∃ (base : Nat),
 ∃ (xs : List Value),
 ∃ (news : List Value),
 W.ownsRow base 94 17 (Value.slice (some (Addr.mk n_1 0 none)) 0 0) 0 xs ∧
 news.length = n * 17 ∧
 SrcP W p news ∧
 0 + n ≤ 9223372036854775807 ∧
 (0 + n) * 32 ≤ 140737488355328 ∧
 base ≤ W.heap.size ∧
 ∀ (p' : Option Addr) (c' : Nat) (w' : World),
 w'.ownsRow base 94 17 (Value.slice p' (0 + n) c') (0 + n) (xs ++ news) →
 W.grownBy w' (Value.slice (some (Addr.mk n_1 0 none)) 0 0).ownBlock →
 (0 + n ≤ 0 → p' = some (Addr.mk n_1 0 none) ∧ c' = 0) →
 KeptL [] W w' ∧ R (Ending.returned (Value.slice p' (0 + n) c')) w')
theorem vc_auclone (p : Option Addr) (n : Nat) (c : Nat) (w : World) (R : Ending → World → Prop) (h : VC_auclone p n c w R) : Calls Tryz.prog 44 ([Value.slice
    p n c] : List Value).toArray w R := by
  have e : execR2 { P := Tryz.prog, loops := [], pur := pur1, tails := [], joins := [], boxes := [] } Tryz.f44.results.toList R (Tryz.f44.body.getD .skip) (initF [Value.slice
    p n c] (Tryz.f44.ntmps - ([Value.slice p n c] : List Value).length)) w = VC_auclone p n c w R := by kernel_rfl
  have hb : Tryz.f44.body = some (Tryz.f44.body.getD .skip) := by kernel_rfl
  exact calls_of_exec2' (P := Tryz.prog) (fn := Tryz.f44) (c := Tryz.f44.body.getD .skip) (args := [Value.slice p n
    c]) (w := w) (R := R) pur1_ok Tryz.func44 hb e h

def VC_risauth (b : Nat) (s : ByteArray) (a : Nat → Int) (w : World) (R : Ending → World → Prop) : Prop :=
 ∀ (n : Nat),
 ∃ (p : Option Addr),
 ∃ (n_1 : Nat),
 ∃ (c : Nat),
 (∀ (W : World),
 Loc w.heap.size
 [Blk.mk n 53
 (arrI IntKind.u8 a 16 0)
 2]
 w W →
 W.cell? (Addr.mk b 0 none) = some (Value.slice p n_1 c)) ∧
 ∀ (W : World),
 Loc w.heap.size
 [Blk.mk n 53
 (arrI IntKind.u8 a 16 0)
 2]
 w W →
 ∃ (I : List Value → World → Prop),
 ∃ (m : List Value → World → Nat),
 I [Value.int IntKind.i64 0] W ∧
 ∀ (x : Int) (w' : World),
 I [Value.int IntKind.i64 x] w' →
 Loc w.heap.size
 [Blk.mk n 53
 (arrI IntKind.u8 a 16 0)
 0]
 w' w' →
 bsp (decide (x < (↑n_1 : Int)))
 (nn true p fun (b_1 o : Nat) =>
 (0 ≤ x ∧ x < (↑n_1 : Int)) ∧
 ∃ (x_1 : ByteArray),
 ∃ (f : Nat → Int),
 AtL w' b_1 (o + x.toNat * 17)
 ([Value.string x_1] ++ arrI IntKind.u8 f 16 0) ∧
 ∀ (n_2 : Nat),
 ∃ (r : Bool),
 EqP Tryz.prog 53
 (Value.agg
 (arrI IntKind.u8 f 16 0).toArray)
 (Value.agg
 (arrI IntKind.u8 a 16 0).toArray)
 r ∧
 ∃ (p : Option Addr),
 ∃ (n_3 : Nat),
 ∃ (c : Nat),
 gimp r
 (∀ (W : World),
 Loc w.heap.size
 [Blk.mk n 53
 (arrI IntKind.u8 a 16 0)
 0,
 Blk.mk n_2 94
 ([Value.string x_1] ++ arrI IntKind.u8 f 16 0)
 (wrM 2)]
 w' W →
 W.cell? (Addr.mk b (0 + 1) none) = some (Value.slice p n_3 c)) ∧
 nn r p fun (b o : Nat) =>
 gimp r (0 ≤ x ∧ x < (↑n_3 : Int)) ∧
 ∃ (x_2 : Option Addr),
 gimp r
 (∀ (W : World),
 Loc w.heap.size
 [Blk.mk n 53
 (arrI IntKind.u8 a 16 0)
 0,
 Blk.mk n_2 94
 ([Value.string x_1] ++ arrI IntKind.u8 f 16 0)
 (wrM 2)]
 w' W →
 W.cell? (Addr.mk b (o + x.toNat) none) = some (Value.pointer x_2)) ∧
 ∀ (W : World),
 Loc w.heap.size
 [Blk.mk n 53
 (arrI IntKind.u8 a 16 0)
 0,
 Blk.mk n_2 94
 ([Value.string x_1] ++ arrI IntKind.u8 f 16 0)
 (wrM 2)]
 w' W →
 bsp r
 (CallsS Tryz.prog 46 #[Value.pointer x_2, Value.string s] W
 fun (e : Ending) (w'_1 : World) =>
 ∃ (x_3 : Int),
 e = Ending.returned (Value.int IntKind.i64 x_3) ∧
 KeptL [n, n_2] W w'_1 ∧
 bsp (true && x_3 == 1) (R (Ending.returned (Value.bool true)) w'_1)
 (I [Value.int IntKind.i64 (IntKind.i64.wrap (x + 1))] w'_1 ∧
 m [Value.int IntKind.i64 (IntKind.i64.wrap (x + 1))] w'_1 <
 m [Value.int IntKind.i64 x] w'))
 (KeptL [n, n_2] W W ∧
 I [Value.int IntKind.i64 (IntKind.i64.wrap (x + 1))] W ∧
 m [Value.int IntKind.i64 (IntKind.i64.wrap (x + 1))] W <
 m [Value.int IntKind.i64 x] w'))
 (R (Ending.returned (Value.bool false)) w')
theorem vc_risauth (b : Nat) (s : ByteArray) (a : Nat → Int) (w : World) (R : Ending → World → Prop) (h : VC_risauth b s a w R) : Calls Tryz.prog 16 ([Value.pointer
    (some { block := b, off := 0 }),
  Value.string s, Value.agg (arrI IntKind.u8 a 16 0).toArray] : List Value).toArray w R := by
  have e : execR2 { P := Tryz.prog, loops := [(4, [(16, Ck.int IntKind.i64)])], pur := pur1, tails := [], joins := [], boxes := [] } Tryz.f16.results.toList R (Tryz.f16.body.getD .skip) (initF [Value.pointer
    (some { block := b, off := 0 }),
  Value.string s,
  Value.agg
    (arrI IntKind.u8 a 16
        0).toArray] (Tryz.f16.ntmps - ([Value.pointer (some { block := b, off := 0 }), Value.string s,
  Value.agg (arrI IntKind.u8 a 16 0).toArray] : List Value).length)) w = VC_risauth b s a w R := by kernel_rfl
  have hb : Tryz.f16.body = some (Tryz.f16.body.getD .skip) := by kernel_rfl
  exact calls_of_exec2' (P := Tryz.prog) (fn := Tryz.f16) (c := Tryz.f16.body.getD .skip) (args := [Value.pointer
    (some { block := b, off := 0 }),
  Value.string s, Value.agg (arrI IntKind.u8 a 16 0).toArray]) (w := w) (R := R) pur1_ok Tryz.func16 hb e h

def VC_rdrop (b : Nat) (i : Nat → Int) (w : World) (R : Ending → World → Prop) : Prop :=
 ∀ (n : Nat) (W : World),
 Loc w.heap.size
 [Blk.mk n 52
 (arrI IntKind.u8 i 32 0)
 2]
 w W →
 ∃ (S : World → Prop),
 S W ∧
 ∃ (x : Option Nat),
 (∀ (w' : World), S w' → w'.cell? (Addr.mk b (0 + 2) none) = some (Value.map x)) ∧
 ∃ (f : Nat → Int),
 (∀ (w' : World),
 S w' →
 AtL w' n 0
 (arrI IntKind.u8 f 32 0)) ∧
 ∃ (f_1 : Nat → Int),
 ∃ (f_2 : Nat → Int),
 ∃ (x_1 : ByteArray),
 ∃ (x_2 : Int),
 ∃ (x_3 : Bool),
 ∃ (x_4 : Bool),
 ∃ (p : Option Addr),
 ∃ (n_1 : Nat),
 ∃ (c : Nat),
 ∃ (x_5 : ByteArray),
 ∃ (b_1 : Bool),
 (∀ (w' : World),
 S w' →
 LookP Tryz.prog 96 (Value.map x)
 (Value.agg
 (arrI IntKind.u8 f 32 0).toArray)
 true
 (Value.tuple
 #[Value.agg
 (arrI IntKind.u8 f_1 32 0 ++ (arrI IntKind.u8 f_2 16 0 ++ [Value.string x_1, Value.int IntKind.i64 x_2, Value.bool x_3, Value.bool x_4,
 Value.slice p n_1 c, Value.string x_5])).toArray,
 Value.bool b_1])
 w') ∧
 ∀ (n_2 : Nat) (w1 : World),
 NewB W
 (Obj.cells
 #[Value.int IntKind.u8 0, Value.int IntKind.u8 0, Value.int IntKind.u8 0,
 Value.int IntKind.u8 0, Value.int IntKind.u8 0, Value.int IntKind.u8 0, Value.int IntKind.u8 0,
 Value.int IntKind.u8 0, Value.int IntKind.u8 0, Value.int IntKind.u8 0, Value.int IntKind.u8 0,
 Value.int IntKind.u8 0, Value.int IntKind.u8 0, Value.int IntKind.u8 0, Value.int IntKind.u8 0,
 Value.int IntKind.u8 0, Value.int IntKind.u8 0, Value.int IntKind.u8 0, Value.int IntKind.u8 0,
 Value.int IntKind.u8 0, Value.int IntKind.u8 0, Value.int IntKind.u8 0, Value.int IntKind.u8 0,
 Value.int IntKind.u8 0, Value.int IntKind.u8 0, Value.int IntKind.u8 0, Value.int IntKind.u8 0,
 Value.int IntKind.u8 0, Value.int IntKind.u8 0, Value.int IntKind.u8 0, Value.int IntKind.u8 0,
 Value.int IntKind.u8 0, Value.int IntKind.u8 0, Value.int IntKind.u8 0, Value.int IntKind.u8 0,
 Value.int IntKind.u8 0, Value.int IntKind.u8 0, Value.int IntKind.u8 0, Value.int IntKind.u8 0,
 Value.int IntKind.u8 0, Value.int IntKind.u8 0, Value.int IntKind.u8 0, Value.int IntKind.u8 0,
 Value.int IntKind.u8 0, Value.int IntKind.u8 0, Value.int IntKind.u8 0, Value.int IntKind.u8 0,
 Value.int IntKind.u8 0, Value.string (ByteArray.mk #[]), Value.int IntKind.i64 0,
 Value.bool false, Value.bool false, Value.slice none 0 0, Value.string (ByteArray.mk #[])]
 56)
 n_2 w1 →
 S w1 ∧
 WrL w1 n_2 0 54 ∧
 ∀ (w1_1 : World),
 PutB w1 n_2 0
 (arrI IntKind.u8 f_1 32 0 ++ (arrI IntKind.u8 f_2 16 0 ++ [Value.string x_1, Value.int IntKind.i64 x_2, Value.bool x_3, Value.bool x_4,
 Value.slice p n_1 c, Value.string x_5]))
 w1_1 →
 KeptL [n] W w1_1 ∧
 bsp (!b_1) (R (Ending.returned (Value.int IntKind.i64 8)) w1_1)
 (∃ (x : Option Nat),
 (∀ (W : World),
 Loc w.heap.size
 [Blk.mk n 52
 (arrI IntKind.u8 i 32 0)
 0]
 w1_1 W →
 W.cell? (Addr.mk b (0 + 2) none) = some (Value.map x)) ∧
 ∀ (W : World),
 Loc w.heap.size
 [Blk.mk n 52
 (arrI IntKind.u8 i 32 0)
 0]
 w1_1 W →
 ∃ (w1 : World),
 BltP Tryz.prog Builtin.delete [96, 52]
 [Value.map x,
 Value.agg
 (arrI IntKind.u8 i 32 0).toArray]
 W w1 ∧
 KeptL [n] W w1 ∧ R (Ending.returned (Value.int IntKind.i64 0)) w1)
theorem vc_rdrop (b : Nat) (i : Nat → Int) (w : World) (R : Ending → World → Prop) (h : VC_rdrop b i w R) : Calls Tryz.prog 43 ([Value.pointer
    (some { block := b, off := 0 }),
  Value.agg (arrI IntKind.u8 i 32 0).toArray] : List Value).toArray w R := by
  have e : execR2 { P := Tryz.prog, loops := [], pur := pur1, tails := [(3, 9), (6, 5)], joins := [], boxes := [] } Tryz.f43.results.toList R (Tryz.f43.body.getD .skip) (initF [Value.pointer
    (some { block := b, off := 0 }),
  Value.agg
    (arrI IntKind.u8 i 32
        0).toArray] (Tryz.f43.ntmps - ([Value.pointer (some { block := b, off := 0 }),
  Value.agg (arrI IntKind.u8 i 32 0).toArray] : List Value).length)) w = VC_rdrop b i w R := by kernel_rfl
  have hb : Tryz.f43.body = some (Tryz.f43.body.getD .skip) := by kernel_rfl
  exact calls_of_exec2' (P := Tryz.prog) (fn := Tryz.f43) (c := Tryz.f43.body.getD .skip) (args := [Value.pointer
    (some { block := b, off := 0 }),
  Value.agg (arrI IntKind.u8 i 32 0).toArray]) (w := w) (R := R) pur1_ok Tryz.func43 hb e h

def VC_rlen (b : Nat) (w : World) (R : Ending → World → Prop) : Prop :=
 ∃ (x : Option Nat),
 w.cell? (Addr.mk b (0 + 2) none) = some (Value.map x) ∧
 ∃ (n : Int), LenP Tryz.prog 96 (Value.map x) n w ∧ R (Ending.returned (Value.int IntKind.i64 n)) w
theorem vc_rlen (b : Nat) (w : World) (R : Ending → World → Prop) (h : VC_rlen b w R) : Calls Tryz.prog 19 ([Value.pointer
    (some { block := b, off := 0 })] : List Value).toArray w R := by
  have e : execR2 { P := Tryz.prog, loops := [], pur := pur1, tails := [], joins := [], boxes := [] } Tryz.f19.results.toList R (Tryz.f19.body.getD .skip) (initF [Value.pointer
    (some
      { block := b,
        off :=
          0 })] (Tryz.f19.ntmps - ([Value.pointer
    (some { block := b, off := 0 })] : List Value).length)) w = VC_rlen b w R := by kernel_rfl
  have hb : Tryz.f19.body = some (Tryz.f19.body.getD .skip) := by kernel_rfl
  exact calls_of_exec2' (P := Tryz.prog) (fn := Tryz.f19) (c := Tryz.f19.body.getD .skip) (args := [Value.pointer
    (some { block := b, off := 0 })]) (w := w) (R := R) pur1_ok Tryz.func19 hb e h

end Go.Proofs.YtkkfnlehlkiejaaGreatDoor

/- The formulas of functions by the symbolic evaluator, and that each gives the call's contract. Written by a program (gen.py). No condition. -/
namespace Go.Proofs.YtkkfnlehlkiejaaGreatDoor
set_option maxRecDepth 100000
set_option linter.unusedVariables false

def VC_radd (b : Nat) (id : Nat → Int) (au : Nat → Int) (g : ByteArray) (v : Int) (rm : Bool) (md : Bool) (p : Option Addr) (n : Nat) (c : Nat) (t : ByteArray) (w : World) (R : Ending → World → Prop) : Prop :=
 ∀ (n_1 : Nat) (W : World),
 Loc w.heap.size
 [Blk.mk n_1 56
 (arrI IntKind.u8 id 32 0 ++ (arrI IntKind.u8 au 16 0 ++ [Value.string g,
 Value.int IntKind.i64 v, Value.bool rm, Value.bool md, Value.slice p n c, Value.string t]))
 2]
 w W →
 CallsS Tryz.prog 24
 #[Value.agg
 (arrI IntKind.u8 id 32 0 ++ (arrI IntKind.u8 au 16 0 ++ [Value.string g,
 Value.int IntKind.i64 v, Value.bool rm, Value.bool md, Value.slice p n c, Value.string t])).toArray]
 W fun (e : Ending) (w' : World) =>
 ∃ (x : Int),
 e = Ending.returned (Value.int IntKind.i64 x) ∧
 KeptL [n_1] W w' ∧
 bsp (x != 0) (R (Ending.returned (Value.int IntKind.i64 x)) w')
 (CallsS Tryz.prog 16
 #[Value.pointer (some (Addr.mk b 0 none)), Value.string g,
 Value.agg
 (arrI IntKind.u8 au 16 0).toArray]
 w' fun (e : Ending) (w'_1 : World) =>
 ∃ (x : Bool),
 e = Ending.returned (Value.bool x) ∧
 KeptL [n_1] w' w'_1 ∧
 bsp (!x) (R (Ending.returned (Value.int IntKind.i64 20)) w'_1)
 (∀ (W : World),
 Loc w.heap.size
 [Blk.mk n_1 56
 (arrI IntKind.u8 id 32 0 ++ (arrI IntKind.u8 au 16 0 ++ [Value.string g, Value.int IntKind.i64 v, Value.bool rm, Value.bool md, Value.slice p n c,
 Value.string t]))
 0]
 w'_1 W →
 ∃ (S : World → Prop),
 S W ∧
 ∃ (x : Option Nat),
 (∀ (w' : World), S w' → w'.cell? (Addr.mk b (0 + 2) none) = some (Value.map x)) ∧
 ∃ (f : Nat → Int),
 (∀ (w' : World),
 S w' →
 AtL w' n_1 0
 (arrI IntKind.u8 f 32 0)) ∧
 ∃ (f_1 : Nat → Int),
 ∃ (f_2 : Nat → Int),
 ∃ (x_1 : ByteArray),
 ∃ (x_2 : Int),
 ∃ (x_3 : Bool),
 ∃ (x_4 : Bool),
 ∃ (p_1 : Option Addr),
 ∃ (n_2 : Nat),
 ∃ (c_1 : Nat),
 ∃ (x_5 : ByteArray),
 ∃ (b_1 : Bool),
 (∀ (w' : World),
 S w' →
 LookP Tryz.prog 96 (Value.map x)
 (Value.agg
 (arrI IntKind.u8 f 32 0).toArray)
 true
 (Value.tuple
 #[Value.agg
 (arrI IntKind.u8 f_1 32 0 ++ (arrI IntKind.u8 f_2 16 0 ++ [Value.string x_1,
 Value.int IntKind.i64 x_2, Value.bool x_3, Value.bool x_4,
 Value.slice p_1 n_2 c_1, Value.string x_5])).toArray,
 Value.bool b_1])
 w') ∧
 ∀ (n_3 : Nat) (w1 : World),
 NewB W
 (Obj.cells
 #[Value.int IntKind.u8 0, Value.int IntKind.u8 0, Value.int IntKind.u8 0,
 Value.int IntKind.u8 0, Value.int IntKind.u8 0, Value.int IntKind.u8 0,
 Value.int IntKind.u8 0, Value.int IntKind.u8 0, Value.int IntKind.u8 0,
 Value.int IntKind.u8 0, Value.int IntKind.u8 0, Value.int IntKind.u8 0,
 Value.int IntKind.u8 0, Value.int IntKind.u8 0, Value.int IntKind.u8 0,
 Value.int IntKind.u8 0, Value.int IntKind.u8 0, Value.int IntKind.u8 0,
 Value.int IntKind.u8 0, Value.int IntKind.u8 0, Value.int IntKind.u8 0,
 Value.int IntKind.u8 0, Value.int IntKind.u8 0, Value.int IntKind.u8 0,
 Value.int IntKind.u8 0, Value.int IntKind.u8 0, Value.int IntKind.u8 0,
 Value.int IntKind.u8 0, Value.int IntKind.u8 0, Value.int IntKind.u8 0,
 Value.int IntKind.u8 0, Value.int IntKind.u8 0, Value.int IntKind.u8 0,
 Value.int IntKind.u8 0, Value.int IntKind.u8 0, Value.int IntKind.u8 0,
 Value.int IntKind.u8 0, Value.int IntKind.u8 0, Value.int IntKind.u8 0,
 Value.int IntKind.u8 0, Value.int IntKind.u8 0, Value.int IntKind.u8 0,
 Value.int IntKind.u8 0, Value.int IntKind.u8 0, Value.int IntKind.u8 0,
 Value.int IntKind.u8 0, Value.int IntKind.u8 0, Value.int IntKind.u8 0,
 Value.string (ByteArray.mk #[]), Value.int IntKind.i64 0, Value.bool false,
 Value.bool false, Value.slice none 0 0, Value.string (ByteArray.mk #[])]
 56)
 n_3 w1 →
 S w1 ∧
 WrL w1 n_3 0 54 ∧
 ∀ (w1_1 : World),
 PutB w1 n_3 0
 (arrI IntKind.u8 f_1 32 0 ++ (arrI IntKind.u8 f_2 16 0 ++ [Value.string x_1,
 Value.int IntKind.i64 x_2, Value.bool x_3, Value.bool x_4,
 Value.slice p_1 n_2 c_1, Value.string x_5]))
 w1_1 →
 KeptL [n_1] W w1_1 ∧
 bsp b_1 (R (Ending.returned (Value.int IntKind.i64 7)) w1_1)
 (∃ (x : Option Nat),
 w1_1.cell? (Addr.mk b (0 + 2) none) = some (Value.map x) ∧
 ∃ (n_4 : Int),
 LenP Tryz.prog 96 (Value.map x) n_4 w1_1 ∧
 bsp (decide (n_4 ≥ 4096))
 (R (Ending.returned (Value.int IntKind.i64 9)) w1_1)
 (∀ (W : World),
 Loc w.heap.size
 [Blk.mk n_1 56
 (arrI IntKind.u8 id 32 0 ++ (arrI IntKind.u8 au 16 0 ++ [Value.string g, Value.int IntKind.i64 v, Value.bool rm,
 Value.bool md, Value.slice p n c, Value.string t]))
 0]
 w1_1 W →
 ∃ (S : World → Prop),
 S W ∧
 ∃ (x : Option Nat),
 (∀ (w' : World),
 S w' → w'.cell? (Addr.mk b (0 + 2) none) = some (Value.map x)) ∧
 ∃ (f : Nat → Int),
 (∀ (w' : World),
 S w' →
 AtL w' n_1 0
 (arrI IntKind.u8 f 32 0)) ∧
 ∃ (f_3 : Nat → Int),
 ∃ (f_4 : Nat → Int),
 ∃ (x_6 : ByteArray),
 ∃ (x_7 : Int),
 ∃ (x_8 : Bool),
 ∃ (x_9 : Bool),
 ∃ (p : Option Addr),
 ∃ (n : Nat),
 ∃ (c : Nat),
 ∃ (x_10 : ByteArray),
 (∀ (w' : World),
 S w' →
 AtL w' n_1 0
 (arrI IntKind.u8 f_3 32 0 ++ (arrI IntKind.u8 f_4 16 0 ++ [Value.string x_6,
 Value.int IntKind.i64 x_7, Value.bool x_8,
 Value.bool x_9, Value.slice p n c,
 Value.string x_10]))) ∧
 CallsS Tryz.prog 53
 #[Value.agg
 (arrI IntKind.u8 f_3 32 0 ++ (arrI IntKind.u8 f_4 16 0 ++ [Value.string x_6,
 Value.int IntKind.i64 x_7, Value.bool x_8,
 Value.bool x_9, Value.slice p n c,
 Value.string x_10])).toArray]
 W fun (e : Ending) (w' : World) =>
 ∃ (f_5 : Nat → Int),
 ∃ (f_6 : Nat → Int),
 ∃ (x_11 : ByteArray),
 ∃ (x_12 : Int),
 ∃ (x_13 : Bool),
 ∃ (x_14 : Bool),
 ∃ (p : Option Addr),
 ∃ (n : Nat),
 ∃ (c : Nat),
 ∃ (x_15 : ByteArray),
 e =
 Ending.returned
 (Value.agg
 (arrI IntKind.u8 f_5 32 0 ++ (arrI IntKind.u8 f_6 16 0 ++ [Value.string x_11,
 Value.int IntKind.i64 x_12,
 Value.bool x_13, Value.bool x_14,
 Value.slice p n c, Value.string x_15])).toArray) ∧
 S w' ∧
 ∃ (w1 : World),
 UpdP Tryz.prog 96 (Value.map x)
 (Value.agg
 (arrI IntKind.u8 f 32 0).toArray)
 (Value.agg
 (arrI IntKind.u8 f_5 32 0 ++ (arrI IntKind.u8 f_6 16 0 ++ [Value.string x_11,
 Value.int IntKind.i64 x_12,
 Value.bool x_13, Value.bool x_14,
 Value.slice p n c, Value.string x_15])).toArray)
 w' w1 ∧
 KeptL [n_1] W w1 ∧
 R
 (Ending.returned
 (Value.int IntKind.i64 0))
 w1))))
theorem vc_radd (b : Nat) (id : Nat → Int) (au : Nat → Int) (g : ByteArray) (v : Int) (rm : Bool) (md : Bool) (p : Option Addr) (n : Nat) (c : Nat) (t : ByteArray) (w : World) (R : Ending → World → Prop) (h : VC_radd b id au g v rm md p n c t w R) : Calls Tryz.prog 22 ([Value.pointer
    (some { block := b, off := 0 }),
  Value.agg
    (arrI IntKind.u8 id 32 0 ++
        (arrI IntKind.u8 au 16 0 ++
          [Value.string g, Value.int IntKind.i64 v, Value.bool rm, Value.bool md, Value.slice p n c,
            Value.string t])).toArray] : List Value).toArray w R := by
  have e : execR2 { P := Tryz.prog, loops := [], pur := pur1, tails := [(8, 10), (13, 7)], joins := [], boxes := [] } Tryz.f22.results.toList R (Tryz.f22.body.getD .skip) (initF [Value.pointer
    (some { block := b, off := 0 }),
  Value.agg
    (arrI IntKind.u8 id 32 0 ++
        (arrI IntKind.u8 au 16 0 ++
          [Value.string g, Value.int IntKind.i64 v, Value.bool rm, Value.bool md, Value.slice p n c,
            Value.string
              t])).toArray] (Tryz.f22.ntmps - ([Value.pointer (some { block := b, off := 0 }),
  Value.agg
    (arrI IntKind.u8 id 32 0 ++
        (arrI IntKind.u8 au 16 0 ++
          [Value.string g, Value.int IntKind.i64 v, Value.bool rm, Value.bool md, Value.slice p n c,
            Value.string t])).toArray] : List Value).length)) w = VC_radd b id au g v rm md p n c t w R := by kernel_rfl
  have hb : Tryz.f22.body = some (Tryz.f22.body.getD .skip) := by kernel_rfl
  exact calls_of_exec2' (P := Tryz.prog) (fn := Tryz.f22) (c := Tryz.f22.body.getD .skip) (args := [Value.pointer
    (some { block := b, off := 0 }),
  Value.agg
    (arrI IntKind.u8 id 32 0 ++
        (arrI IntKind.u8 au 16 0 ++
          [Value.string g, Value.int IntKind.i64 v, Value.bool rm, Value.bool md, Value.slice p n c,
            Value.string t])).toArray]) (w := w) (R := R) pur1_ok Tryz.func22 hb e h

def VC_rpick (b : Nat) (f : FuncId) (fa : Array Value) (fb : Array Value) (w : World) (R : Ending → World → Prop) : Prop :=
 ∃ (x : Option Nat),
 w.cell? (Addr.mk b (0 + 2) none) = some (Value.map x) ∧
 ∃ (n : Nat),
 ∃ (w1 : World),
 RngP Tryz.prog 96 (Value.map x) n w w1 ∧
 KeptL [] w w1 ∧
 ∃ (I : List Value → World → Prop),
 ∃ (m : List Value → World → Nat),
 I [Value.slice none 0 0] w1 ∧
 ∀ (p : Option Addr) (n_1 c : Nat) (w' : World),
 I [Value.slice p n_1 c] w' →
 ∃ (b : Bool),
 ∃ (r : List Value),
 ∃ (w1 : World),
 NxtP Tryz.prog (Value.pointer (some (Addr.mk n 0 none))) b r w' w1 ∧
 KeptL [] w' w1 ∧
 bsp b
 (∃ (f_1 : Nat → Int),
 ∃ (f_2 : Nat → Int),
 ∃ (f_3 : Nat → Int),
 ∃ (x : ByteArray),
 ∃ (x_1 : Int),
 ∃ (x_2 : Bool),
 ∃ (x_3 : Bool),
 ∃ (p_1 : Option Addr),
 ∃ (n_2 : Nat),
 ∃ (c_1 : Nat),
 ∃ (x_4 : ByteArray),
 EntP Tryz.prog (Value.pointer (some (Addr.mk n 0 none)))
 (Value.tuple
 #[Value.agg
 (arrI IntKind.u8 f_1 32 0).toArray,
 Value.agg
 (arrI IntKind.u8 f_2 32 0 ++ (arrI IntKind.u8 f_3 16 0 ++ [Value.string x,
 Value.int IntKind.i64 x_1, Value.bool x_2, Value.bool x_3, Value.slice p_1 n_2 c_1,
 Value.string x_4])).toArray])
 w1 ∧
 ∀ (n : Nat) (W : World),
 Loc w.heap.size
 [Blk.mk n 56
 (arrI IntKind.u8 f_2 32 0 ++ (arrI IntKind.u8 f_3 16 0 ++ [Value.string x,
 Value.int IntKind.i64 x_1, Value.bool x_2, Value.bool x_3, Value.slice p_1 n_2 c_1,
 Value.string x_4]))
 (wrM 2)]
 w1 W →
 ∃ (f_4 : Nat),
 ∃ (a : Array Value),
 ∃ (b : Array Value),
 Value.func (Fn.func f) fa fb = Value.func (Fn.func f_4) a b ∧
 okFn Tryz.prog f_4 = true ∧
 CallsS Tryz.prog f_4
 (appA a
 [Value.agg
 (arrI IntKind.u8 f_2 32 0 ++ (arrI IntKind.u8 f_3 16 0 ++ [Value.string x,
 Value.int IntKind.i64 x_1, Value.bool x_2, Value.bool x_3,
 Value.slice p_1 n_2 c_1, Value.string x_4])).toArray]
 b)
 W fun (e : Ending) (w'_1 : World) =>
 ∃ (x_5 : Bool),
 e = Ending.returned (Value.bool x_5) ∧
 KeptL [n] W w'_1 ∧
 bsp x_5
 (CallsS Tryz.prog 53
 #[Value.agg
 (arrI IntKind.u8 f_2 32 0 ++ (arrI IntKind.u8 f_3 16 0 ++ [Value.string x, Value.int IntKind.i64 x_1, Value.bool x_2, Value.bool x_3,
 Value.slice p_1 n_2 c_1, Value.string x_4])).toArray]
 w'_1 fun (e : Ending) (w'_2 : World) =>
 ∃ (f : Nat → Int),
 ∃ (f_5 : Nat → Int),
 ∃ (x_6 : ByteArray),
 ∃ (x_7 : Int),
 ∃ (x_8 : Bool),
 ∃ (x_9 : Bool),
 ∃ (p_2 : Option Addr),
 ∃ (n_3 : Nat),
 ∃ (c_2 : Nat),
 ∃ (x_10 : ByteArray),
 e =
 Ending.returned
 (Value.agg
 (arrI IntKind.u8 f 32 0 ++ (arrI IntKind.u8 f_5 16 0 ++ [Value.string x_6, Value.int IntKind.i64 x_7, Value.bool x_8,
 Value.bool x_9, Value.slice p_2 n_3 c_2, Value.string x_10])).toArray) ∧
 KeptL [n] w'_1 w'_2 ∧
 ∀ (n_4 : Nat) (W : World),
 Loc w.heap.size
 [Blk.mk n_4 56
 (arrI IntKind.u8 f 32 0 ++ (arrI IntKind.u8 f_5 16 0 ++ [Value.string x_6,
 Value.int IntKind.i64 x_7, Value.bool x_8, Value.bool x_9,
 Value.slice p_2 n_3 c_2, Value.string x_10]))
 2,
 Blk.mk n 56
 (arrI IntKind.u8 f_2 32 0 ++ (arrI IntKind.u8 f_3 16 0 ++ [Value.string x,
 Value.int IntKind.i64 x_1, Value.bool x_2, Value.bool x_3,
 Value.slice p_1 n_2 c_1, Value.string x_4]))
 0]
 w'_2 W →
 ∃ (base : Nat),
 ∃ (xs : List Value),
 W.ownsRow base 56 54 (Value.slice p n_1 c) n_1 xs ∧
 n_1 + 1 ≤ 9223372036854775807 ∧
 (n_1 + 1) * 120 ≤ 140737488355328 ∧
 base ≤ W.heap.size ∧
 ∀ (p' : Option Addr) (c' : Nat) (w'_3 : World),
 w'_3.ownsRow base 56 54 (Value.slice p' (n_1 + 1) c')
 (n_1 + 1)
 (xs ++
 (arrI IntKind.u8 f 32 0 ++ (arrI IntKind.u8 f_5 16 0 ++ [Value.string x_6,
 Value.int IntKind.i64 x_7, Value.bool x_8,
 Value.bool x_9, Value.slice p_2 n_3 c_2,
 Value.string x_10]))) →
 W.grownBy w'_3 (Value.slice p n_1 c).ownBlock →
 (n_1 + 1 ≤ c → p' = p ∧ c' = c) →
 KeptL [n] W w'_3 ∧
 I [Value.slice p' (n_1 + 1) c'] w'_3 ∧
 m [Value.slice p' (n_1 + 1) c'] w'_3 <
 m [Value.slice p n_1 c] w')
 (I [Value.slice p n_1 c] w'_1 ∧
 m [Value.slice p n_1 c] w'_1 < m [Value.slice p n_1 c] w'))
 (CallsS Tryz.prog 71 #[Value.slice p n_1 c, Value.func (Fn.func 72) #[] #[]] w1
 fun (e : Ending) (w' : World) =>
 e = Ending.returned (Value.tuple #[]) ∧ KeptL [] w1 w' ∧ R (Ending.returned (Value.slice p n_1 c)) w')
theorem vc_rpick (b : Nat) (f : FuncId) (fa : Array Value) (fb : Array Value) (w : World) (R : Ending → World → Prop) (h : VC_rpick b f fa fb w R) : Calls Tryz.prog 50 ([Value.pointer
    (some { block := b, off := 0 }),
  Value.func (Fn.func f) fa fb] : List Value).toArray w R := by
  have e : execR2 { P := Tryz.prog, loops := [(5, [(5, Ck.slice)])], pur := pur1, tails := [], joins := [], boxes := [], rngs := [(14, 96)] } Tryz.f50.results.toList R (Tryz.f50.body.getD .skip) (initF [Value.pointer
    (some { block := b, off := 0 }),
  Value.func (Fn.func f) fa
    fb] (Tryz.f50.ntmps - ([Value.pointer (some { block := b, off := 0 }),
  Value.func (Fn.func f) fa fb] : List Value).length)) w = VC_rpick b f fa fb w R := by kernel_rfl
  have hb : Tryz.f50.body = some (Tryz.f50.body.getD .skip) := by kernel_rfl
  exact calls_of_exec2' (P := Tryz.prog) (fn := Tryz.f50) (c := Tryz.f50.body.getD .skip) (args := [Value.pointer
    (some { block := b, off := 0 }),
  Value.func (Fn.func f) fa fb]) (w := w) (R := R) pur1_ok Tryz.func50 hb e h

end Go.Proofs.YtkkfnlehlkiejaaGreatDoor

/- Chapter 21: a registry in the memory; the contracts of New, IsAuthority, Len, Drop, Add. The library's variable MaxLen holds a number. -/
namespace Go.Proofs.YtkkfnlehlkiejaaGreatDoor
open Go.RowKit Go.Maps

theorem entsS_err : ∀ (ps : List ByteArray) (a : Int) (acc : List Ent) (o e : Int), entsS ps a acc = .inr (o, e) → e ≠ 0
  | [], _, _, _, _, h => by simp [entsS] at h
  | x :: r, a, acc, o, e, h => by
    unfold entsS at h
    split at h
    · simp at h; omega
    · split at h
      · rename_i o' e' hc
        simp at h
        have := (compileR_off _ _ _ hc).2
        rw [← h.2]; exact this
      · exact entsS_err r _ _ o e h
theorem listR_err {s : ByteArray} {o e : Int} (h : listR s = .inr (o, e)) : e ≠ 0 := by
  unfold listR at h
  split at h
  · simp at h; omega
  · exact entsS_err _ _ _ _ _ h

/-! ### What a map's writing leaves -/
theorem cell_ne_map {w : World} {g o mb : Nat} {v : Value} {es : Array MapEntry} {c : Nat} (h : w.cell? ⟨g, o, none⟩ = some v) (hm : w.heap[mb]? = some (.map es c)) : g ≠ mb := fun e => by
  subst e
  unfold World.cell? at h
  simp only [hm] at h
  cases h
theorem AtL.kpM {w w' : World} {g o mb : Nat} {cs : List Value} {es : Array MapEntry} {c : Nat} (h : AtL w g o cs) (hk : Kp (· = mb) w w') (hm : w.heap[mb]? = some (.map es c)) : AtL w' g o cs :=
  ⟨At_of _ _ fun j v hv => by
    have hc := h.cell hv
    exact hk.cell' hc (fun e => cell_ne_map hc hm e)⟩
theorem RowA.kpM {α : Type} {f : α → List Value} {L : Nat} {w w' : World} {p : Option Addr} {l : List α} {mb : Nat} {es : Array MapEntry} {c : Nat} (h : RowA f L w p l) (hk : Kp (· = mb) w w') (hm : w.heap[mb]? = some (.map es c)) : RowA f L w' p l := fun k y hy => by
  obtain ⟨b, o, h1, h2⟩ := h k y hy
  exact ⟨b, o, h1, h2.kpM hk hm⟩
theorem ListR.kpT {D M : Nat → Prop} {w w' : World} {b : Nat} {s : ByteArray} {es : List Ent} (h : ListR D w b s es) (hk : Kp M w w') (hm : ∀ k c t f, M k → w.heap[k]? = some (.cells c t f) → t ≠ 116 ∧ t ≠ 120 ∧ t ≠ 149 ∧ t ≠ 167) : ListR D w' b s es := by
  obtain ⟨p, n, c, bs, h1, h2, h3, h4, h5, h6⟩ := h
  refine ⟨p, n, c, bs, hk.blk h1 (fun e => (hm b _ _ _ e h1).1 rfl), h2, owns_kp h3 hk (fun k hk' e => ?_), h4, h5, fun k b' e hb he => (h6 k b' e hb he).kpT hk (fun k c t f hM hh => (hm k c t f hM hh).2.2)⟩
  obtain ⟨cc, hc⟩ := own_type h3 hk'
  exact (hm k _ _ _ e hc).2.1 rfl
theorem ListR.all {D : Nat → Prop} {w : World} {b : Nat} {s : ByteArray} {es : List Ent} (h : ListR D w b s es) : ListR (fun _ => True) w b s es := h.mono (fun _ _ _ => trivial)

/-! ### Registries -/
abbrev dfV (x : DX) : Value := .agg (dfC x).toArray
def dxz : DX := ⟨dz, none, 0⟩
def RegS (w : World) (b mb : Nat) (A : List Au) : Prop := ∃ (ap : Option Addr) (ac : Nat) (lp : Option Addr) (lc : Nat),
  w.heap[b]? = some (.cells #[.slice ap A.length ac, .slice lp A.length lc, .map (some mb)] 99 (0, 0)) ∧ RowA atC 17 w ap A ∧
  ∀ (k : Nat) (x : Au), A[k]? = some x → ∃ (g o lb : Nat) (es : List Ent), lp = some ⟨g, o, none⟩ ∧ w.cell? ⟨g, o + k, none⟩ = some (.pointer (some ⟨lb, 0, none⟩)) ∧ listR x.pt = .inl es ∧ ListR (fun _ => True) w lb x.pt es
/-- A registry in the memory: in block b, its map in block mb. -/
structure Reg (w : World) (b mb : Nat) (A : List Au) (l : List (List Int × DX)) : Prop where
  st : RegS w b mb A
  map : MapB Tryz.prog 52 byA w mb (amap dfV l)
  str : ∀ a x, aget l a = some x → RowA auC 16 w x.p x.d.ms ∧ (∀ g o, x.p = some ⟨g, o, none⟩ → b < g)
  ok : ∀ a x, aget l a = some x → dchk x.d = 0 ∧ x.d.ms.length ≤ x.c ∧ a = idI x.d.id ∧ x.d.OK
  au : ∀ x ∈ A, BY x.au
theorem zeroDf (w : World) : (zeroValue 56).run Tryz.prog w = .ok (dfV dxz) w := by kernel_rfl
section
variable {w w' : World} {b mb : Nat} {A : List Au} {l : List (List Int × DX)}
theorem RegS.k0 (h : RegS w b mb A) (hk : K0 w w') : RegS w' b mb A := by
  obtain ⟨ap, ac, lp, lc, h1, h2, h3⟩ := h
  refine ⟨ap, ac, lp, lc, hk.blk h1 (fun h => h), h2.k0 hk, fun k x hx => ?_⟩
  obtain ⟨g, o, lb, es, a1, a2, a3, a4⟩ := h3 k x hx
  exact ⟨g, o, lb, es, a1, hk.cell' a2 (fun h => h), a3, a4.kp hk (fun _ _ _ h => h)⟩
theorem RegS.kpM {es : Array MapEntry} {c : Nat} (h : RegS w b mb A) (hk : Kp (· = mb) w w') (hm : w.heap[mb]? = some (.map es c)) : RegS w' b mb A := by
  obtain ⟨ap, ac, lp, lc, h1, h2, h3⟩ := h
  refine ⟨ap, ac, lp, lc, hk.blk h1 (fun e => by have e : b = mb := e; subst e; rw [hm] at h1; cases h1), h2.kpM hk hm, fun k x hx => ?_⟩
  obtain ⟨g, o, lb, es, a1, a2, a3, a4⟩ := h3 k x hx
  exact ⟨g, o, lb, es, a1, hk.cell' a2 (fun e => cell_ne_map a2 hm e), a3, a4.kpT hk (fun k c t f e hh => by have e : k = mb := e; subst e; rw [hm] at hh; cases hh)⟩
theorem Reg.k0 (h : Reg w b mb A l) (hk : K0 w w') : Reg w' b mb A l :=
  ⟨h.st.k0 hk, h.map.kp hk (fun h => h), fun a x hx => ⟨(h.str a x hx).1.k0 hk, (h.str a x hx).2⟩, h.ok, h.au⟩
theorem Reg.cellM (h : Reg w b mb A l) : w.cell? ⟨b, 0 + 2, none⟩ = some (.map (some mb)) := by
  obtain ⟨ap, ac, lp, lc, h1, _⟩ := h.st
  exact cell_at h1 rfl
theorem Reg.look (h : Reg w b mb A l) {f : Nat → Int} (hf : BY f) : LookP Tryz.prog 96 (.map (some mb)) (.agg (arrI .u8 f 32 0).toArray) true (.tuple #[dfV ((aget l (idI f)).getD dxz), .bool (aget l (idI f)).isSome]) w := by
  have := MapB.look byA_inj h.map idKeyed Tryz.underlying96 (zeroDf w) (idKey (idI_len f) (idI_bd hf)) true
  rw [aget_amap] at this
  cases hg : aget l (idI f) with
  | none => rw [hg] at this; exact this
  | some x => rw [hg] at this; exact this
theorem Reg.upd (h : Reg w b mb A l) (x : DX) (h1 : RowA auC 16 w x.p x.d.ms) (h2 : ∀ g o, x.p = some ⟨g, o, none⟩ → b < g) (h3 : dchk x.d = 0 ∧ x.d.ms.length ≤ x.c ∧ x.d.OK) :
    ∃ w1, UpdP Tryz.prog 96 (.map (some mb)) (.agg (arrI .u8 x.d.id 32 0).toArray) (dfV x) w w1 ∧ Reg w1 b mb A (aset l (idI x.d.id) x) ∧ Kp (· = mb) w w1 := by
  obtain ⟨w1, hu, hm, hk⟩ := MapB.upd byA_inj h.map idKeyed Tryz.underlying96 (idKey (idI_len x.d.id) (idI_bd h3.2.2.id)) (dfV x)
  rw [aset_amap] at hm
  obtain ⟨es, c, hb, _⟩ := h.map.blk
  refine ⟨w1, hu, ⟨h.st.kpM hk hb, hm, fun a y hy => ?_, fun a y hy => ?_, h.au⟩, hk⟩
  · rw [aget_aset] at hy
    split at hy
    · cases hy; exact ⟨h1.kpM hk hb, h2⟩
    · exact ⟨(h.str a y hy).1.kpM hk hb, (h.str a y hy).2⟩
  · rw [aget_aset] at hy
    split at hy
    · rename_i e; cases hy; exact ⟨h3.1, h3.2.1, by first | exact e | exact e.symm, h3.2.2⟩
    · exact h.ok a y hy
theorem Reg.del (h : Reg w b mb A l) {f : Nat → Int} (hf : BY f) :
    ∃ w1, BltP Tryz.prog .delete [96, 52] [.map (some mb), .agg (arrI .u8 f 32 0).toArray] w w1 ∧ Reg w1 b mb A (adel l (idI f)) ∧ Kp (· = mb) w w1 := by
  obtain ⟨w1, hu, hm, hk⟩ := MapB.del byA_inj h.map idKeyed Tryz.underlying96 (idKey (idI_len f) (idI_bd hf))
  have e : adel (amap dfV l) (idI f) = amap dfV (adel l (idI f)) := by unfold adel amap; rw [List.filter_map]; rfl
  rw [e] at hm
  obtain ⟨es, c, hb, _⟩ := h.map.blk
  refine ⟨w1, hu, ⟨h.st.kpM hk hb, hm, fun a y hy => ?_, fun a y hy => ?_, h.au⟩, hk⟩
  · rw [aget_adel] at hy
    split at hy
    · cases hy
    · exact ⟨(h.str a y hy).1.kpM hk hb, (h.str a y hy).2⟩
  · rw [aget_adel] at hy
    split at hy
    · cases hy
    · exact h.ok a y hy
theorem Reg.len (h : Reg w b mb A l) : LenP Tryz.prog 96 (.map (some mb)) (l.length : Nat) w := by
  obtain ⟨es, c, hb, he⟩ := h.map.blk
  have hl : es.size = l.length := by
    have := congrArg List.length he
    simpa [amap] using this
  constructor
  intro ty
  simp [Builtin.len_, run_underlying Tryz.underlying96, MapKept.run_getObj_map hb, Result.andThen, hl, goInt]
end
theorem rlen_any {w : World} {b mb : Nat} {A : List Au} {l : List (List Int × DX)} (h : Reg w b mb A l) :
    Calls Tryz.prog 19 #[.pointer (some ⟨b, 0, none⟩)] w fun e w' => e = .returned (.int .i64 (l.length : Nat)) ∧ K0 w w' :=
  vc_rlen b w _ ⟨_, h.cellM, _, h.len, rfl, .refl _ _⟩
theorem isAu_step {A : List Au} {k : Nat} {x : Au} (g : ByteArray) (a : Nat → Int) (hx : A[k]? = some x) : isAu (A.drop k) g a = ((decide (auI x.au = auI a) && (match listR x.pt with | .inl es => verd es g == 1 | .inr _ => false)) || isAu (A.drop (k + 1)) g a) := by
  have hlt := (List.getElem?_eq_some_iff.1 hx).1
  have e : A.drop k = x :: A.drop (k + 1) := by
    rw [List.drop_eq_getElem_cons hlt]
    rw [List.getElem?_eq_getElem hlt] at hx
    cases hx; rfl
  rw [e]; rfl
theorem risauth_any {w : World} {b mb : Nat} {A : List Au} (h : RegS w b mb A) (hA : ∀ x ∈ A, BY x.au) (hl : A.length ≤ 64) (g : ByteArray) (a : Nat → Int) (ha : BY a) (hg : g.size ≤ 9223372036854775807) :
    Calls Tryz.prog 16 #[.pointer (some ⟨b, 0, none⟩), .string g, .agg (arrI .u8 a 16 0).toArray] w fun e w' => e = .returned (.bool (isAu A g a)) ∧ K0 w w' := by
  obtain ⟨ap, ac, lp, lc, h1, h2, h3⟩ := h
  refine vc_risauth b g a w _ (fun n => ⟨ap, A.length, ac, fun W hW => cell_at ((hW.kk rfl : K0 w W).blk h1 (fun h => h)) rfl, fun W hW => ?_⟩)
  have kW : K0 w W := hW.kk rfl
  refine ⟨fun vs w' => ∃ k : Nat, vs = [.int .i64 (k : Int)] ∧ k ≤ A.length ∧ isAu (A.drop k) g a = isAu A g a ∧ K0 w w',
    fun vs _ => (match vs with | .int _ x :: _ => A.length - x.toNat | _ => 0), ⟨0, rfl, by omega, rfl, kW⟩, ?_⟩
  rintro x w1 ⟨k, hv, hk, hI, k1⟩ _
  simp only [List.cons.injEq, Value.int.injEq, true_and, and_true] at hv
  subst hv
  refine bsp_intro (fun hlt => ?_) (fun hge => ?_)
  · have hlt : k < A.length := by simp at hlt; omega
    obtain ⟨x, b1, o1, hx, hp, hat⟩ := (h2.k0 k1).get hlt
    obtain ⟨g2, o2, lb, es, hlp, hc, hes, hL⟩ := h3 k x hx
    have hxm := List.mem_of_getElem? hx
    rw [isAu_step g a hx, hes] at hI
    have hI : ((decide (auI x.au = auI a) && (verd es g == 1)) || isAu (A.drop (k + 1)) g a) = isAu A g a := hI
    rw [Int.toNat_natCast]
    refine nn_is hp ⟨⟨by omega, by omega⟩, x.pt, x.au, hat, fun n2 => ⟨_, auEq (hA x hxm) ha, lp, A.length, lc, gimp_intro fun _ W hW => cell_at ((hW.k0 k1).blk h1 (fun h => h)) rfl, nn_is hlp ⟨gimp_intro fun _ => ⟨by omega, by omega⟩, _, gimp_intro fun _ W hW => (hW.k0 k1).cell' hc (fun h => h), fun W2 hW2 => ?_⟩⟩⟩
    have k2 : K0 w W2 := hW2.k0 k1
    have hls := listR_ok hes
    refine bsp_intro (fun hr => ?_) (fun hr => ?_)
    · refine ⟨(verdict_any (hL.kp k2 (fun _ _ _ h => h)) hls.1 hls.2 g hg).mono fun e w3 ⟨he, k3⟩ => ⟨_, he, .of_k0 k3, bsp_intro (fun h1 => ?_) (fun h1 => ?_)⟩⟩
      · have h1 : (verd es g == 1) = true := by simpa using h1
        rw [hr, h1] at hI
        rw [← hI]
        exact ⟨rfl, k2.trans k3⟩
      · have h1 : (verd es g == 1) = false := by simpa using h1
        rw [h1, Bool.and_false, Bool.false_or] at hI
        exact ⟨⟨k + 1, by rw [inc64 (by omega)], hlt, hI, k2.trans k3⟩, by rw [inc64 (by omega)]; simp only [Int.toNat_natCast]; omega⟩
    · rw [hr, Bool.false_and, Bool.false_or] at hI
      exact ⟨.refl _ _, ⟨k + 1, by rw [inc64 (by omega)], hlt, hI, k2⟩, by rw [inc64 (by omega)]; simp only [Int.toNat_natCast]; omega⟩
  · have hk2 : k = A.length := by simp at hge; omega
    subst hk2
    rw [List.drop_length] at hI
    rw [← hI]
    exact ⟨rfl, k1⟩

/-! ### Drop, Add -/
theorem rdrop_any {w : World} {b mb : Nat} {A : List Au} {l : List (List Int × DX)} (h : Reg w b mb A l) (f : Nat → Int) (hf : BY f) :
    Calls Tryz.prog 43 #[.pointer (some ⟨b, 0, none⟩), .agg (arrI .u8 f 32 0).toArray] w fun e w' => ((aget l (idI f) = none ∧ e = .returned (.int .i64 8) ∧ Reg w' b mb A l) ∨ ((aget l (idI f)).isSome = true ∧ e = .returned (.int .i64 0) ∧ Reg w' b mb A (adel l (idI f)))) ∧ Kp (· = mb) w w' := by
  refine vc_rdrop b f w _ (fun n W hW => ?_)
  have kW : K0 w W := hW.kk rfl
  have hb0 := hW.cells 0 rfl
  have hnl := block_lt hb0
  simp only at hnl
  refine ⟨fun wx => K0 W wx, .refl _ _, some mb, fun wx k => ((h.k0 kW).k0 k).cellM, f, fun wx k => AtL_block (k.blk hb0 (fun h => h)) rfl, _, _, _, _, _, _, _, _, _, _, _, fun wx k => ((h.k0 kW).k0 k).look hf, fun n2 w1 hn2 => ⟨hn2.kp _, WrL_block hn2.block (by show 0 + 54 ≤ 54; omega), fun w2 p2 => ?_⟩⟩
  have k1 : K0 W w1 := hn2.kp _
  have g2 : W.heap.size ≤ n2 := hn2.ge
  have k2 : K0 W w2 := put_k0 k1 p2 g2
  have h2 := (h.k0 kW).k0 k2
  refine ⟨.of_k0 k2, bsp_intro (fun hb => ?_) (fun hb => ⟨some mb, fun W3 hW3 => (h2.k0 (hW3.kk rfl)).cellM, fun W3 hW3 => ?_⟩)⟩
  · have : aget l (idI f) = none := by
      cases hg : aget l (idI f) with
      | none => rfl
      | some x => rw [hg] at hb; simp at hb
    exact ⟨.inl ⟨this, rfl, h2⟩, (kW.trans k2).mono fun _ _ h => h.elim⟩
  · have k3 : K0 w2 W3 := hW3.kk rfl
    obtain ⟨w4, hu, hR, k4⟩ := (h2.k0 k3).del hf
    have hs : (aget l (idI f)).isSome = true := by simpa using hb
    have hn3 := hW3.cells 0 rfl
    obtain ⟨es, c, hmb, _⟩ := (h2.k0 k3).map.blk
    refine ⟨w4, hu, .of_kp k4 (fun z hz e => ?_), .inr ⟨hs, rfl, hR⟩, ((kW.trans k2).trans k3 |>.mono fun _ _ h => h.elim).trans k4⟩
    simp only [List.mem_cons, List.not_mem_nil, or_false] at hz
    subst hz
    have e : z = mb := e
    subst e
    rw [hmb] at hn3
    cases hn3
def addE (A : List Au) (l : List (List Int × DX)) (d : Df) : Int := if dchk d ≠ 0 then dchk d else if isAu A d.g d.au = false then 20 else if (aget l (idI d.id)).isSome = true then 7 else if 4096 ≤ l.length then 9 else 0
theorem gnE_sz {g : ByteArray} (h : gnE g = 0) : g.size ≤ 80 := by
  unfold gnE at h
  split at h
  · cases h
  · omega
theorem dchk_sz {d : Df} (h : dchk d = 0) : gnE d.g = 0 ∧ 0 ≤ d.v ∧ d.v ≤ 1000000 ∧ d.ms.length ≤ 8 ∧ d.tx.size ≤ 200 := by
  unfold dchk at h
  split at h
  · rename_i h1; exact absurd h h1
  rename_i h1
  split at h
  · cases h
  rename_i h2
  split at h
  · cases h
  split at h
  · cases h
  rename_i h3
  split at h
  · cases h
  split at h
  · cases h
  rename_i h4
  exact ⟨Classical.byContradiction h1, by omega, by omega, by omega, by omega⟩
set_option maxHeartbeats 1000000 in
theorem radd_any {w : World} {b mb : Nat} {A : List Au} {l : List (List Int × DX)} (h : Reg w b mb A l) (hAl : A.length ≤ 64) (x : DX) (hR : RowA auC 16 w x.p x.d.ms) (hc : x.d.ms.length ≤ x.c) (ho : x.d.OK) (hG : GW w) :
    Calls Tryz.prog 22 #[.pointer (some ⟨b, 0, none⟩), dfV x] w fun e w' => e = .returned (.int .i64 (addE A l x.d)) ∧ ((addE A l x.d ≠ 0 ∧ Reg w' b mb A l ∧ K0 w w') ∨
      (addE A l x.d = 0 ∧ ∃ (p' : Option Addr) (c' : Nat), Reg w' b mb A (aset l (idI x.d.id) ⟨x.d, p', c'⟩) ∧ (∀ g o, p' = some ⟨g, o, none⟩ → w.heap.size ≤ g) ∧ Kp (· = mb) w w')) := by
  refine vc_radd b x.d.id x.d.au x.d.g x.d.v x.d.rm x.d.md x.p x.d.ms.length x.c x.d.tx w _ (fun n1 W hW => ?_)
  have kW : K0 w W := hW.kk rfl
  have hb0 := hW.cells 0 rfl
  have hnl := block_lt hb0
  simp only at hnl
  unfold addE
  refine ⟨(dcheck_any x W (hR.k0 kW) hc ho (hG.kp kW (fun h => h))).mono fun e w1 ⟨he, k1⟩ => ⟨_, he, .of_k0 k1, bsp_intro (fun h1 => ?_) (fun h1 => ?_)⟩⟩
  · have h1 : dchk x.d ≠ 0 := by simpa using h1
    rw [if_pos h1]
    exact ⟨rfl, .inl ⟨h1, h.k0 (kW.trans k1), kW.trans k1⟩⟩
  have h1 : dchk x.d = 0 := by simpa using h1
  have hsz := dchk_sz h1
  have hgs := gnE_sz hsz.1
  rw [if_neg (by rw [h1]; decide)]
  have k01 := kW.trans k1
  refine ⟨(risauth_any (h.k0 k01).st h.au hAl x.d.g x.d.au ho.au (by omega)).mono fun e w2 ⟨he, k2⟩ => ⟨_, he, .of_k0 k2, bsp_intro (fun h2 => ?_) (fun h2 => fun W3 hW3 => ?_)⟩⟩
  · have h2 : isAu A x.d.g x.d.au = false := by simpa using h2
    rw [if_pos h2]
    exact ⟨rfl, .inl ⟨by decide, h.k0 (k01.trans k2), k01.trans k2⟩⟩
  rw [if_neg (by simpa using h2)]
  have k3 : K0 w W3 := hW3.k0 (k01.trans k2)
  have hb3 := hW3.cells 0 rfl
  have hn3l := block_lt hb3
  simp only at hn3l
  refine ⟨fun wx => K0 W3 wx, .refl _ _, some mb, fun wx k => ((h.k0 k3).k0 k).cellM, x.d.id, fun wx k => AtL_block (k.blk hb3 (fun h => h)) rfl, _, _, _, _, _, _, _, _, _, _, _, fun wx k => ((h.k0 k3).k0 k).look ho.id, fun n4 w4 hn4 => ⟨hn4.kp _, WrL_block hn4.block (by show 0 + 54 ≤ 54; omega), fun w5 p5 => ?_⟩⟩
  have k5 : K0 W3 w5 := put_k0 (hn4.kp _) p5 hn4.ge
  have k05 := k3.trans k5
  refine ⟨.of_k0 k5, bsp_intro (fun h3 => ?_) (fun h3 => ?_)⟩
  · rw [if_pos h3]
    exact ⟨rfl, .inl ⟨by decide, h.k0 k05, k05⟩⟩
  rw [if_neg (by rw [h3]; decide)]
  refine ⟨some mb, (h.k0 k05).cellM, _, (h.k0 k05).len, bsp_intro (fun h4 => ?_) (fun h4 => fun W6 hW6 => ?_)⟩
  · have h4 : 4096 ≤ l.length := by simp at h4; omega
    rw [if_pos h4]
    exact ⟨rfl, .inl ⟨by decide, h.k0 k05, k05⟩⟩
  rw [if_neg (by simp at h4; omega)]
  have k6 : K0 w W6 := hW6.k0 k05
  have hb6 := hW6.cells 0 rfl
  refine ⟨fun wx => K0 W6 wx, .refl _ _, some mb, fun wx k => ((h.k0 k6).k0 k).cellM, x.d.id, fun wx k => AtL_block (k.blk hb6 (fun h => h)) rfl, x.d.id, x.d.au, x.d.g, x.d.v, x.d.rm, x.d.md, x.p, x.d.ms.length, x.c, x.d.tx, fun wx k => AtL_block (k.blk hb6 (fun h => h)) rfl, ?_⟩
  refine ⟨(dclone_any x W6 (hR.k0 k6) (by omega)).mono fun e w7 ⟨⟨p', c', he, hop⟩, k7⟩ => ⟨_, _, _, _, _, _, _, _, _, _, he, k7, ?_⟩⟩
  have k07 := k6.trans k7
  have hpg : ∀ g o, p' = some ⟨g, o, none⟩ → W6.heap.size ≤ g := fun g o e => by subst e; exact own_ge hop rfl
  obtain ⟨ap, ac, lp, lc, hrb, _⟩ := h.st
  have hbl := block_lt hrb
  obtain ⟨w8, hu, hR8, k8⟩ := (h.k0 k07).upd ⟨x.d, p', c'⟩ (RowA.own hop auC_length (by decide)) (fun g o e => by have := hpg g o e; have := k6.size; omega) ⟨h1, own_le hop, ho⟩
  have hn7 := k7.blk hb6 (fun h => h)
  obtain ⟨es, cc, hmb, _⟩ := (h.k0 k07).map.blk
  refine ⟨w8, hu, .of_kp ((k7.mono fun _ _ h => h.elim).trans k8) (fun z hz e => ?_), rfl, .inr ⟨rfl, p', c', hR8, fun g o e => Nat.le_trans k6.size (hpg g o e), (k07.mono fun _ _ h => h.elim).trans k8⟩⟩
  simp only [List.mem_cons, List.not_mem_nil, or_false] at hz
  subst hz
  have e : z = mb := e
  subst e
  rw [hmb] at hn7
  cases hn7

end Go.Proofs.YtkkfnlehlkiejaaGreatDoor

/- Ranges over maps: an iterator's block, what is left, a step. Generic: no program, no condition. -/
namespace Go.Proofs.YtkkfnlehlkiejaaGreatDoor
open Go.RowKit Go.Maps

/-- How many entries are left. -/
def leftN (w : World) (r b : Nat) : Nat := match w.heap[r]?, w.heap[b]? with
  | some (.mapIter _ _ seen _), some (.map es _) => (leftOf es seen).size
  | _, _ => 0
/-- Block r holds an iterator over the map in block b; todo is left. -/
structure RngB {α : Type} (enc : α → Value) (w : World) (r b : Nat) (todo : List (α × Value)) : Prop where
  h : ∃ es clock since c0 seen, w.heap[b]? = some (.map es clock) ∧ w.heap[r]? = some (.mapIter (some b) since seen c0) ∧ (∀ x ∈ es.toList, x.born < since) ∧ since ≤ c0 ∧ since ≤ clock ∧ (es.toList.map (·.born)).Nodup ∧
    (leftOf es seen).toList.map (fun e => (e.key, e.val)) = todo.map (fun p => (enc p.1, p.2))
section
variable {α : Type} {P : Program} {k t e : TypeId} {enc : α → Value} {w w1 : World} {r b : Nat} {l todo : List (α × Value)}
theorem RngB.kp {M : Nat → Prop} {w' : World} (h : RngB enc w r b todo) (hk : Kp M w w') (hr : ¬ M r) (hb : ¬ M b) : RngB enc w' r b todo := by
  obtain ⟨es, cl, si, c0, se, h1, h2, h3⟩ := h.h
  exact ⟨es, cl, si, c0, se, hk.blk h1 hb, hk.blk h2 hr, h3⟩
theorem RngB.left (h : RngB enc w r b todo) : leftN w r b = todo.length := by
  obtain ⟨es, cl, si, c0, se, h1, h2, h3, h4, h5, h6, h7⟩ := h.h
  unfold leftN
  rw [h1, h2]
  have := congrArg List.length h7
  simpa using this
theorem MapB.range (h : MapB P k enc w b l) (ht : P.underlying t = some (.map k e)) : ∃ n w1, RngP P t (.map (some b)) n w w1 ∧ RngB enc w1 n b l ∧ K0 w w1 ∧ w.heap.size ≤ n ∧ n < w1.heap.size := by
  obtain ⟨es, c, hb, he⟩ := h.blk
  obtain ⟨h1, h2⟩ := h.brn es c hb
  have hk : K0 w (w.alloc (.mapIter (some b) c #[] c)) := ⟨rfl, rfl, rfl, by simp, fun i hi _ => Below.heap_alloc _ _ _ hi⟩
  refine ⟨w.heap.size, w.alloc (.mapIter (some b) c #[] c), ⟨run_range_map w t k e b es c ht hb⟩, ⟨es, c, c, c, #[], hk.blk hb (fun h => h), heap_alloc_new _ _, h2, Nat.le_refl _, Nat.le_refl _, h1, ?_⟩, hk, Nat.le_refl _, by simp⟩
  rw [← he]
  unfold leftOf
  rw [Array.filter_eq_self.2 (fun x _ => by simp)]
theorem left_erase {L : List MapEntry} (hn : (L.map (·.born)).Nodup) {j : Nat} {x : MapEntry} (hj : L[j]? = some x) : L.filter (fun y => !(y.born == x.born)) = L.eraseIdx j := by
  induction L generalizing j with
  | nil => simp at hj
  | cons y r ih =>
    have hn' : y.born ∉ r.map (·.born) ∧ (r.map (·.born)).Nodup := List.nodup_cons.1 hn
    cases j with
    | zero =>
      have e : y = x := by simpa using hj
      subst e
      rw [List.filter_cons, if_neg (by simp), List.eraseIdx_cons_zero]
      refine List.filter_eq_self.2 fun z hz => ?_
      have : z.born ≠ y.born := fun e => hn'.1 (by rw [← e]; exact List.mem_map.2 ⟨z, hz, rfl⟩)
      simpa using this
    | succ j =>
      have hj' : r[j]? = some x := by simpa using hj
      have : y.born ≠ x.born := fun e => hn'.1 (by rw [e]; exact List.mem_map.2 ⟨x, List.mem_of_getElem? hj', rfl⟩)
      rw [List.filter_cons, if_pos (by simpa using this), List.eraseIdx_cons_succ, ih hn'.2 hj']
theorem map_erase' {β γ : Type} (f : β → γ) : ∀ (L : List β) (j : Nat), (L.eraseIdx j).map f = (L.map f).eraseIdx j
  | [], _ => by simp
  | _ :: _, 0 => rfl
  | x :: L, j + 1 => by simp [List.eraseIdx_cons_succ, map_erase' f L j]
theorem sb_same {w : World} {r : Nat} {x : Obj} (h : w.heap[r]? = some x) (o : Obj) : (ChangeMaps.setBlock w r o).heap[r]? = some o := by
  have hlt : r < w.heap.size := by
    rcases Nat.lt_or_ge r w.heap.size with h' | h'
    · exact h'
    · rw [Array.getElem?_eq_none h'] at h; cases h
  simp [ChangeMaps.setBlock, hlt]
theorem sb_other (w : World) (r : Nat) (o : Obj) {i : Nat} (h : i ≠ r) : (ChangeMaps.setBlock w r o).heap[i]? = w.heap[i]? := by
  simp [ChangeMaps.setBlock, Ne.symm h]
/-- A step. -/
theorem RngB.next (h : RngB enc w r b todo) :
    (todo = [] ∧ NxtP P (.pointer (some ⟨r, 0, none⟩)) false [] w w) ∨
    ∃ (j : Nat) (p : α × Value) (w1 : World), todo[j]? = some p ∧ NxtP P (.pointer (some ⟨r, 0, none⟩)) true [enc p.1, p.2] w w1 ∧ EntP P (.pointer (some ⟨r, 0, none⟩)) (.tuple #[enc p.1, p.2]) w1 ∧ RngB enc w1 r b (todo.eraseIdx j) ∧ Kp (· = r) w w1 := by
  obtain ⟨es, cl, si, c0, se, h1, h2, h3, h4, h5, h6, h7⟩ := h.h
  have hlen := congrArg List.length h7
  simp only [List.length_map] at hlen
  rcases run_next_at (P := P) w 0 r b si c0 se es cl h2 h1 h3 h4 with ⟨h8, _⟩ | ⟨x, hx, w1, hw1, hrun⟩
  · refine .inl ⟨List.eq_nil_of_length_eq_zero (by rw [← hlen]; simpa using h8), ⟨fun ty => ?_⟩⟩
    rcases run_next_at (P := P) w ty r b si c0 se es cl h2 h1 h3 h4 with ⟨_, h9⟩ | ⟨x, hx, _⟩
    · exact h9
    · have : leftOf es se = #[] := Array.eq_empty_of_size_eq_zero h8
      rw [this] at hx; simp at hx
  · obtain ⟨j, hj, hjx⟩ := List.getElem_of_mem hx
    have hjx' : (leftOf es se).toList[j]? = some x := by rw [List.getElem?_eq_getElem hj, hjx]
    have hp : (todo.map (fun p => (enc p.1, p.2)))[j]? = some (x.key, x.val) := by rw [← h7, List.getElem?_map, hjx']; rfl
    rw [List.getElem?_map, Option.map_eq_some_iff] at hp
    obtain ⟨p, hp, hpe⟩ := hp
    simp only [Prod.mk.injEq] at hpe
    have hkw : Kp (· = r) w (ChangeMaps.setBlock w1 r (.mapIter (some b) si (se.push x.born) cl)) := by
      have hw : Kp (· = r) w w1 := by
        rcases hw1 with rfl | rfl
        · exact .refl _ _
        · exact ⟨rfl, rfl, rfl, Nat.le_refl _, fun _ _ _ => rfl⟩
      have hr1 : w1.heap[r]? = some (.mapIter (some b) si se c0) := by rcases hw1 with rfl | rfl <;> exact h2
      exact hw.trans ⟨rfl, rfl, rfl, by simp [ChangeMaps.setBlock], fun i _ hi => sb_other _ _ _ hi⟩
    have hrb : b ≠ r := fun e => by rw [e, h2] at h1; cases h1
    have hr1 : w1.heap[r]? = some (.mapIter (some b) si se c0) := by rcases hw1 with rfl | rfl <;> exact h2
    have hb1 := hkw.blk h1 hrb
    have hr2 : (ChangeMaps.setBlock w1 r (.mapIter (some b) si (se.push x.born) cl)).heap[r]? = some (.mapIter (some b) si (se.push x.born) cl) := sb_same hr1 _
    refine .inr ⟨j, p, _, hp, ⟨fun ty => ?_⟩, ⟨?_⟩, ⟨es, cl, si, cl, se.push x.born, hb1, hr2, h3, h5, h5, h6, ?_⟩, hkw⟩
    · rw [hpe.1, hpe.2]; exact hrun
    · rw [hpe.1, hpe.2]; exact run_entry_at _ r b si se es cl x hr2 hb1 (mem_left hx).1 h6
    · rw [map_erase', ← h7, ← map_erase']
      congr 1
      have hL : ((leftOf es se).toList.map (·.born)).Nodup := by
        unfold leftOf
        rw [Array.toList_filter]
        exact h6.sublist (List.filter_sublist.map _)
      rw [← left_erase hL hjx']
      unfold leftOf
      rw [Array.toList_filter, Array.toList_filter, List.filter_filter]
      refine List.filter_congr fun y _ => ?_
      rw [contains_push]
      cases se.contains y.born <;> simp
end

end Go.Proofs.YtkkfnlehlkiejaaGreatDoor

/- The formulas of functions by the symbolic evaluator, and that each gives the call's contract. Written by a program (gen.py). No condition. -/
namespace Go.Proofs.YtkkfnlehlkiejaaGreatDoor
set_option maxRecDepth 100000
set_option linter.unusedVariables false

def VC_rcur (b : Nat) (s : ByteArray) (w : World) (R : Ending → World → Prop) : Prop :=
 ∀ (n : Nat) (W : World),
 Loc w.heap.size
 [Blk.mk n 56
 [Value.int IntKind.u8 0, Value.int IntKind.u8 0, Value.int IntKind.u8 0, Value.int IntKind.u8 0,
 Value.int IntKind.u8 0, Value.int IntKind.u8 0, Value.int IntKind.u8 0, Value.int IntKind.u8 0,
 Value.int IntKind.u8 0, Value.int IntKind.u8 0, Value.int IntKind.u8 0, Value.int IntKind.u8 0,
 Value.int IntKind.u8 0, Value.int IntKind.u8 0, Value.int IntKind.u8 0, Value.int IntKind.u8 0,
 Value.int IntKind.u8 0, Value.int IntKind.u8 0, Value.int IntKind.u8 0, Value.int IntKind.u8 0,
 Value.int IntKind.u8 0, Value.int IntKind.u8 0, Value.int IntKind.u8 0, Value.int IntKind.u8 0,
 Value.int IntKind.u8 0, Value.int IntKind.u8 0, Value.int IntKind.u8 0, Value.int IntKind.u8 0,
 Value.int IntKind.u8 0, Value.int IntKind.u8 0, Value.int IntKind.u8 0, Value.int IntKind.u8 0,
 Value.int IntKind.u8 0, Value.int IntKind.u8 0, Value.int IntKind.u8 0, Value.int IntKind.u8 0,
 Value.int IntKind.u8 0, Value.int IntKind.u8 0, Value.int IntKind.u8 0, Value.int IntKind.u8 0,
 Value.int IntKind.u8 0, Value.int IntKind.u8 0, Value.int IntKind.u8 0, Value.int IntKind.u8 0,
 Value.int IntKind.u8 0, Value.int IntKind.u8 0, Value.int IntKind.u8 0, Value.int IntKind.u8 0,
 Value.string (ByteArray.mk #[]), Value.int IntKind.i64 0, Value.bool false, Value.bool false,
 Value.slice none 0 0, Value.string (ByteArray.mk #[])]
 2]
 w W →
 CallsS Tryz.prog 31 #[Value.pointer (some (Addr.mk b 0 none)), Value.string s] W fun (e : Ending) (w' : World) =>
 ∃ (p : Option Addr),
 ∃ (n_1 : Nat),
 ∃ (c : Nat),
 e = Ending.returned (Value.slice p n_1 c) ∧
 KeptL [n] W w' ∧
 nn (!(↑n_1 : Int) == 0) p fun (b o : Nat) =>
 gimp (!(↑n_1 : Int) == 0) ((0 : Int) ≤ 0 ∧ 0 < (↑n_1 : Int)) ∧
 ∃ (x : Bool),
 gimp (!(↑n_1 : Int) == 0) (w'.cell? (Addr.mk b (o + 50) none) = some (Value.bool x)) ∧
 bsp ((↑n_1 : Int) == 0 || x)
 (∀ (W : World),
 Loc w.heap.size
 [Blk.mk n 56
 [Value.int IntKind.u8 0, Value.int IntKind.u8 0, Value.int IntKind.u8 0, Value.int IntKind.u8 0,
 Value.int IntKind.u8 0, Value.int IntKind.u8 0, Value.int IntKind.u8 0, Value.int IntKind.u8 0,
 Value.int IntKind.u8 0, Value.int IntKind.u8 0, Value.int IntKind.u8 0, Value.int IntKind.u8 0,
 Value.int IntKind.u8 0, Value.int IntKind.u8 0, Value.int IntKind.u8 0, Value.int IntKind.u8 0,
 Value.int IntKind.u8 0, Value.int IntKind.u8 0, Value.int IntKind.u8 0, Value.int IntKind.u8 0,
 Value.int IntKind.u8 0, Value.int IntKind.u8 0, Value.int IntKind.u8 0, Value.int IntKind.u8 0,
 Value.int IntKind.u8 0, Value.int IntKind.u8 0, Value.int IntKind.u8 0, Value.int IntKind.u8 0,
 Value.int IntKind.u8 0, Value.int IntKind.u8 0, Value.int IntKind.u8 0, Value.int IntKind.u8 0,
 Value.int IntKind.u8 0, Value.int IntKind.u8 0, Value.int IntKind.u8 0, Value.int IntKind.u8 0,
 Value.int IntKind.u8 0, Value.int IntKind.u8 0, Value.int IntKind.u8 0, Value.int IntKind.u8 0,
 Value.int IntKind.u8 0, Value.int IntKind.u8 0, Value.int IntKind.u8 0, Value.int IntKind.u8 0,
 Value.int IntKind.u8 0, Value.int IntKind.u8 0, Value.int IntKind.u8 0, Value.int IntKind.u8 0,
 Value.string (ByteArray.mk #[]), Value.int IntKind.i64 0, Value.bool false, Value.bool false,
 Value.slice none 0 0, Value.string (ByteArray.mk #[])]
 (wrM 0)]
 w' W →
 R
 (Ending.returned
 (Value.tuple
 #[Value.agg
 #[Value.int IntKind.u8 0, Value.int IntKind.u8 0, Value.int IntKind.u8 0, Value.int IntKind.u8 0,
 Value.int IntKind.u8 0, Value.int IntKind.u8 0, Value.int IntKind.u8 0, Value.int IntKind.u8 0,
 Value.int IntKind.u8 0, Value.int IntKind.u8 0, Value.int IntKind.u8 0, Value.int IntKind.u8 0,
 Value.int IntKind.u8 0, Value.int IntKind.u8 0, Value.int IntKind.u8 0, Value.int IntKind.u8 0,
 Value.int IntKind.u8 0, Value.int IntKind.u8 0, Value.int IntKind.u8 0, Value.int IntKind.u8 0,
 Value.int IntKind.u8 0, Value.int IntKind.u8 0, Value.int IntKind.u8 0, Value.int IntKind.u8 0,
 Value.int IntKind.u8 0, Value.int IntKind.u8 0, Value.int IntKind.u8 0, Value.int IntKind.u8 0,
 Value.int IntKind.u8 0, Value.int IntKind.u8 0, Value.int IntKind.u8 0, Value.int IntKind.u8 0,
 Value.int IntKind.u8 0, Value.int IntKind.u8 0, Value.int IntKind.u8 0, Value.int IntKind.u8 0,
 Value.int IntKind.u8 0, Value.int IntKind.u8 0, Value.int IntKind.u8 0, Value.int IntKind.u8 0,
 Value.int IntKind.u8 0, Value.int IntKind.u8 0, Value.int IntKind.u8 0, Value.int IntKind.u8 0,
 Value.int IntKind.u8 0, Value.int IntKind.u8 0, Value.int IntKind.u8 0, Value.int IntKind.u8 0,
 Value.string (ByteArray.mk #[]), Value.int IntKind.i64 0, Value.bool false, Value.bool false,
 Value.slice none 0 0, Value.string (ByteArray.mk #[])],
 Value.bool false]))
 W)
 (nn true p fun (b o : Nat) =>
 ((0 : Int) ≤ 0 ∧ 0 < (↑n_1 : Int)) ∧
 ∃ (f : Nat → Int),
 ∃ (f_1 : Nat → Int),
 ∃ (x : ByteArray),
 ∃ (x_1 : Int),
 ∃ (x_2 : Bool),
 ∃ (x_3 : Bool),
 ∃ (p : Option Addr),
 ∃ (n_2 : Nat),
 ∃ (c : Nat),
 ∃ (x_4 : ByteArray),
 AtL w' b o
 (arrI IntKind.u8 f 32 0 ++ (arrI IntKind.u8 f_1 16 0 ++ [Value.string x, Value.int IntKind.i64 x_1, Value.bool x_2, Value.bool x_3,
 Value.slice p n_2 c, Value.string x_4])) ∧
 ∀ (W : World),
 Loc w.heap.size
 [Blk.mk n 56
 (arrI IntKind.u8 f 32 0 ++ (arrI IntKind.u8 f_1 16 0 ++ [Value.string x, Value.int IntKind.i64 x_1,
 Value.bool x_2, Value.bool x_3, Value.slice p n_2 c, Value.string x_4]))
 (wrM 0)]
 w' W →
 R
 (Ending.returned
 (Value.tuple
 #[Value.agg
 (arrI IntKind.u8 f 32 0 ++ (arrI IntKind.u8 f_1 16 0 ++ [Value.string x,
 Value.int IntKind.i64 x_1, Value.bool x_2, Value.bool x_3, Value.slice p n_2 c,
 Value.string x_4])).toArray,
 Value.bool true]))
 W)
theorem vc_rcur (b : Nat) (s : ByteArray) (w : World) (R : Ending → World → Prop) (h : VC_rcur b s w R) : Calls Tryz.prog 29 ([Value.pointer
    (some { block := b, off := 0 }),
  Value.string s] : List Value).toArray w R := by
  have e : execR2 { P := Tryz.prog, loops := [], pur := pur1, tails := [], joins := [], boxes := [] } Tryz.f29.results.toList R (Tryz.f29.body.getD .skip) (initF [Value.pointer
    (some { block := b, off := 0 }),
  Value.string
    s] (Tryz.f29.ntmps - ([Value.pointer (some { block := b, off := 0 }),
  Value.string s] : List Value).length)) w = VC_rcur b s w R := by kernel_rfl
  have hb : Tryz.f29.body = some (Tryz.f29.body.getD .skip) := by kernel_rfl
  exact calls_of_exec2' (P := Tryz.prog) (fn := Tryz.f29) (c := Tryz.f29.body.getD .skip) (args := [Value.pointer
    (some { block := b, off := 0 }),
  Value.string s]) (w := w) (R := R) pur1_ok Tryz.func29 hb e h

def VC_rmod (b : Nat) (s : ByteArray) (w : World) (R : Ending → World → Prop) : Prop :=
 CallsS Tryz.prog 29 #[Value.pointer (some (Addr.mk b 0 none)), Value.string s] w fun (e : Ending) (w' : World) =>
 ∃ (f : Nat → Int),
 ∃ (f_1 : Nat → Int),
 ∃ (x : ByteArray),
 ∃ (x_1 : Int),
 ∃ (x_2 : Bool),
 ∃ (x_3 : Bool),
 ∃ (p : Option Addr),
 ∃ (n : Nat),
 ∃ (c : Nat),
 ∃ (x_4 : ByteArray),
 ∃ (x_5 : Bool),
 e =
 Ending.returned
 (Value.tuple
 #[Value.agg
 (arrI IntKind.u8 f 32 0 ++ (arrI IntKind.u8 f_1 16 0 ++ [Value.string x, Value.int IntKind.i64 x_1, Value.bool x_2, Value.bool x_3, Value.slice p n c,
 Value.string x_4])).toArray,
 Value.bool x_5]) ∧
 KeptL [] w w' ∧
 ∀ (n_1 : Nat),
 ∃ (x_6 : Bool),
 gimp x_5
 (∀ (W : World),
 Loc w.heap.size
 [Blk.mk n_1 56
 (arrI IntKind.u8 f 32 0 ++ (arrI IntKind.u8 f_1 16 0 ++ [Value.string x, Value.int IntKind.i64 x_1, Value.bool x_2, Value.bool x_3, Value.slice p n c,
 Value.string x_4]))
 (wrM 2)]
 w' W →
 W.cell? (Addr.mk n_1 (0 + 51) none) = some (Value.bool x_6)) ∧
 ∀ (W : World),
 Loc w.heap.size
 [Blk.mk n_1 56
 (arrI IntKind.u8 f 32 0 ++ (arrI IntKind.u8 f_1 16 0 ++ [Value.string x, Value.int IntKind.i64 x_1, Value.bool x_2, Value.bool x_3, Value.slice p n c,
 Value.string x_4]))
 (wrM 2)]
 w' W →
 R (Ending.returned (Value.bool (x_5 && x_6))) W
theorem vc_rmod (b : Nat) (s : ByteArray) (w : World) (R : Ending → World → Prop) (h : VC_rmod b s w R) : Calls Tryz.prog 32 ([Value.pointer
    (some { block := b, off := 0 }),
  Value.string s] : List Value).toArray w R := by
  have e : execR2 { P := Tryz.prog, loops := [], pur := pur1, tails := [], joins := [], boxes := [] } Tryz.f32.results.toList R (Tryz.f32.body.getD .skip) (initF [Value.pointer
    (some { block := b, off := 0 }),
  Value.string
    s] (Tryz.f32.ntmps - ([Value.pointer (some { block := b, off := 0 }),
  Value.string s] : List Value).length)) w = VC_rmod b s w R := by kernel_rfl
  have hb : Tryz.f32.body = some (Tryz.f32.body.getD .skip) := by kernel_rfl
  exact calls_of_exec2' (P := Tryz.prog) (fn := Tryz.f32) (c := Tryz.f32.body.getD .skip) (args := [Value.pointer
    (some { block := b, off := 0 }),
  Value.string s]) (w := w) (R := R) pur1_ok Tryz.func32 hb e h

def VC_rever (b : Nat) (s : ByteArray) (a : Nat → Int) (w : World) (R : Ending → World → Prop) : Prop :=
 ∀ (n n_1 : Nat) (W : World),
 Loc w.heap.size
 [Blk.mk n_1 53
 (arrI IntKind.u8 a 16 0)
 2,
 Blk.mk n 9 [Value.string s] 2]
 w W →
 CallsS Tryz.prog 50
 #[Value.pointer (some (Addr.mk b 0 none)),
 Value.func (Fn.func 51) #[] #[Value.pointer (some (Addr.mk n 0 none)), Value.pointer (some (Addr.mk n_1 0 none))]]
 W fun (e : Ending) (w' : World) =>
 ∃ (p : Option Addr),
 ∃ (n : Nat),
 ∃ (c : Nat),
 e = Ending.returned (Value.slice p n c) ∧
 KeptL [] W w' ∧ R (Ending.returned (Value.bool (decide ((↑n : Int) > 0)))) w'
theorem vc_rever (b : Nat) (s : ByteArray) (a : Nat → Int) (w : World) (R : Ending → World → Prop) (h : VC_rever b s a w R) : Calls Tryz.prog 20 ([Value.pointer
    (some { block := b, off := 0 }),
  Value.string s, Value.agg (arrI IntKind.u8 a 16 0).toArray] : List Value).toArray w R := by
  have e : execR2 { P := Tryz.prog, loops := [], pur := pur1, tails := [], joins := [], boxes := [] } Tryz.f20.results.toList R (Tryz.f20.body.getD .skip) (initF [Value.pointer
    (some { block := b, off := 0 }),
  Value.string s,
  Value.agg
    (arrI IntKind.u8 a 16
        0).toArray] (Tryz.f20.ntmps - ([Value.pointer (some { block := b, off := 0 }), Value.string s,
  Value.agg (arrI IntKind.u8 a 16 0).toArray] : List Value).length)) w = VC_rever b s a w R := by kernel_rfl
  have hb : Tryz.f20.body = some (Tryz.f20.body.getD .skip) := by kernel_rfl
  exact calls_of_exec2' (P := Tryz.prog) (fn := Tryz.f20) (c := Tryz.f20.body.getD .skip) (args := [Value.pointer
    (some { block := b, off := 0 }),
  Value.string s, Value.agg (arrI IntKind.u8 a 16 0).toArray]) (w := w) (R := R) pur1_ok Tryz.func20 hb e h

def VC_rvers (b : Nat) (s : ByteArray) (w : World) (R : Ending → World → Prop) : Prop :=
 ∀ (n : Nat) (W : World),
 Loc w.heap.size [Blk.mk n 9 [Value.string s] 2] w W →
 CallsS Tryz.prog 50
 #[Value.pointer (some (Addr.mk b 0 none)), Value.func (Fn.func 57) #[] #[Value.pointer (some (Addr.mk n 0 none))]] W
 fun (e : Ending) (w' : World) =>
 ∃ (p : Option Addr),
 ∃ (n : Nat),
 ∃ (c : Nat), e = Ending.returned (Value.slice p n c) ∧ KeptL [] W w' ∧ R (Ending.returned (Value.slice p n c)) w'
theorem vc_rvers (b : Nat) (s : ByteArray) (w : World) (R : Ending → World → Prop) (h : VC_rvers b s w R) : Calls Tryz.prog 31 ([Value.pointer
    (some { block := b, off := 0 }),
  Value.string s] : List Value).toArray w R := by
  have e : execR2 { P := Tryz.prog, loops := [], pur := pur1, tails := [], joins := [], boxes := [] } Tryz.f31.results.toList R (Tryz.f31.body.getD .skip) (initF [Value.pointer
    (some { block := b, off := 0 }),
  Value.string
    s] (Tryz.f31.ntmps - ([Value.pointer (some { block := b, off := 0 }),
  Value.string s] : List Value).length)) w = VC_rvers b s w R := by kernel_rfl
  have hb : Tryz.f31.body = some (Tryz.f31.body.getD .skip) := by kernel_rfl
  exact calls_of_exec2' (P := Tryz.prog) (fn := Tryz.f31) (c := Tryz.f31.body.getD .skip) (args := [Value.pointer
    (some { block := b, off := 0 }),
  Value.string s]) (w := w) (R := R) pur1_ok Tryz.func31 hb e h

def VC_reverC (id : Nat → Int) (au : Nat → Int) (g : ByteArray) (v : Int) (rm : Bool) (md : Bool) (p : Option Addr) (n : Nat) (c : Nat) (t : ByteArray) (b1 : Nat) (o1 : Nat) (b2 : Nat) (o2 : Nat) (w : World) (R : Ending → World → Prop) : Prop :=
 ∀ (n_1 : Nat),
 ∃ (x : ByteArray),
 (∀ (W : World),
 Loc w.heap.size
 [Blk.mk n_1 56
 (arrI IntKind.u8 id 32 0 ++ (arrI IntKind.u8 au 16 0 ++ [Value.string g,
 Value.int IntKind.i64 v, Value.bool rm, Value.bool md, Value.slice p n c, Value.string t]))
 2]
 w W →
 W.cell? (Addr.mk b1 o1 none) = some (Value.string x)) ∧
 ∃ (p_1 : Option Addr),
 ∃ (n_2 : Nat),
 ∃ (c_1 : Nat),
 gimp (g.toList == x.toList)
 (∀ (W : World),
 Loc w.heap.size
 [Blk.mk n_1 56
 (arrI IntKind.u8 id 32 0 ++ (arrI IntKind.u8 au 16 0 ++ [Value.string g,
 Value.int IntKind.i64 v, Value.bool rm, Value.bool md, Value.slice p n c, Value.string t]))
 2]
 w W →
 W.cell? (Addr.mk n_1 (0 + 52) none) = some (Value.slice p_1 n_2 c_1)) ∧
 ∃ (f : Nat → Int),
 gimp (g.toList == x.toList)
 (∀ (W : World),
 Loc w.heap.size
 [Blk.mk n_1 56
 (arrI IntKind.u8 id 32 0 ++ (arrI IntKind.u8 au 16 0 ++ [Value.string g, Value.int IntKind.i64 v, Value.bool rm, Value.bool md, Value.slice p n c,
 Value.string t]))
 2]
 w W →
 AtL W b2 o2
 (arrI IntKind.u8 f 16 0)) ∧
 ∀ (W : World),
 Loc w.heap.size
 [Blk.mk n_1 56
 (arrI IntKind.u8 id 32 0 ++ (arrI IntKind.u8 au 16 0 ++ [Value.string g,
 Value.int IntKind.i64 v, Value.bool rm, Value.bool md, Value.slice p n c, Value.string t]))
 2]
 w W →
 bsp (g.toList == x.toList)
 (CallsS Tryz.prog 52
 #[Value.slice p_1 n_2 c_1,
 Value.agg
 (arrI IntKind.u8 f 16 0).toArray]
 W fun (e : Ending) (w' : World) =>
 ∃ (x : Bool),
 e = Ending.returned (Value.bool x) ∧ KeptL [n_1] W w' ∧ R (Ending.returned (Value.bool (true && x))) w')
 (KeptL [n_1] W W ∧ R (Ending.returned (Value.bool false)) W)
theorem vc_reverC (id : Nat → Int) (au : Nat → Int) (g : ByteArray) (v : Int) (rm : Bool) (md : Bool) (p : Option Addr) (n : Nat) (c : Nat) (t : ByteArray) (b1 : Nat) (o1 : Nat) (b2 : Nat) (o2 : Nat) (w : World) (R : Ending → World → Prop) (h : VC_reverC id au g v rm md p n c t b1 o1 b2 o2 w R) : Calls Tryz.prog 51 ([Value.agg
    (arrI IntKind.u8 id 32 0 ++
        (arrI IntKind.u8 au 16 0 ++
          [Value.string g, Value.int IntKind.i64 v, Value.bool rm, Value.bool md, Value.slice p n c,
            Value.string t])).toArray,
  Value.pointer (some { block := b1, off := o1 }),
  Value.pointer (some { block := b2, off := o2 })] : List Value).toArray w R := by
  have e : execR2 { P := Tryz.prog, loops := [], pur := pur1, tails := [], joins := [], boxes := [] } Tryz.f51.results.toList R (Tryz.f51.body.getD .skip) (initF [Value.agg
    (arrI IntKind.u8 id 32 0 ++
        (arrI IntKind.u8 au 16 0 ++
          [Value.string g, Value.int IntKind.i64 v, Value.bool rm, Value.bool md, Value.slice p n c,
            Value.string t])).toArray,
  Value.pointer (some { block := b1, off := o1 }),
  Value.pointer
    (some
      { block := b2,
        off :=
          o2 })] (Tryz.f51.ntmps - ([Value.agg
    (arrI IntKind.u8 id 32 0 ++
        (arrI IntKind.u8 au 16 0 ++
          [Value.string g, Value.int IntKind.i64 v, Value.bool rm, Value.bool md, Value.slice p n c,
            Value.string t])).toArray,
  Value.pointer (some { block := b1, off := o1 }),
  Value.pointer
    (some
      { block := b2,
        off := o2 })] : List Value).length)) w = VC_reverC id au g v rm md p n c t b1 o1 b2 o2 w R := by kernel_rfl
  have hb : Tryz.f51.body = some (Tryz.f51.body.getD .skip) := by kernel_rfl
  exact calls_of_exec2' (P := Tryz.prog) (fn := Tryz.f51) (c := Tryz.f51.body.getD .skip) (args := [Value.agg
    (arrI IntKind.u8 id 32 0 ++
        (arrI IntKind.u8 au 16 0 ++
          [Value.string g, Value.int IntKind.i64 v, Value.bool rm, Value.bool md, Value.slice p n c,
            Value.string t])).toArray,
  Value.pointer (some { block := b1, off := o1 }),
  Value.pointer (some { block := b2, off := o2 })]) (w := w) (R := R) pur1_ok Tryz.func51 hb e h

def VC_rversC (id : Nat → Int) (au : Nat → Int) (g : ByteArray) (v : Int) (rm : Bool) (md : Bool) (p : Option Addr) (n : Nat) (c : Nat) (t : ByteArray) (b1 : Nat) (o1 : Nat) (w : World) (R : Ending → World → Prop) : Prop :=
 ∀ (n_1 : Nat),
 ∃ (x : ByteArray),
 (∀ (W : World),
 Loc w.heap.size
 [Blk.mk n_1 56
 (arrI IntKind.u8 id 32 0 ++ (arrI IntKind.u8 au 16 0 ++ [Value.string g,
 Value.int IntKind.i64 v, Value.bool rm, Value.bool md, Value.slice p n c, Value.string t]))
 2]
 w W →
 W.cell? (Addr.mk b1 o1 none) = some (Value.string x)) ∧
 ∀ (W : World),
 Loc w.heap.size
 [Blk.mk n_1 56
 (arrI IntKind.u8 id 32 0 ++ (arrI IntKind.u8 au 16 0 ++ [Value.string g,
 Value.int IntKind.i64 v, Value.bool rm, Value.bool md, Value.slice p n c, Value.string t]))
 2]
 w W →
 R (Ending.returned (Value.bool (g.toList == x.toList))) W
theorem vc_rversC (id : Nat → Int) (au : Nat → Int) (g : ByteArray) (v : Int) (rm : Bool) (md : Bool) (p : Option Addr) (n : Nat) (c : Nat) (t : ByteArray) (b1 : Nat) (o1 : Nat) (w : World) (R : Ending → World → Prop) (h : VC_rversC id au g v rm md p n c t b1 o1 w R) : Calls Tryz.prog 57 ([Value.agg
    (arrI IntKind.u8 id 32 0 ++
        (arrI IntKind.u8 au 16 0 ++
          [Value.string g, Value.int IntKind.i64 v, Value.bool rm, Value.bool md, Value.slice p n c,
            Value.string t])).toArray,
  Value.pointer (some { block := b1, off := o1 })] : List Value).toArray w R := by
  have e : execR2 { P := Tryz.prog, loops := [], pur := pur1, tails := [], joins := [], boxes := [] } Tryz.f57.results.toList R (Tryz.f57.body.getD .skip) (initF [Value.agg
    (arrI IntKind.u8 id 32 0 ++
        (arrI IntKind.u8 au 16 0 ++
          [Value.string g, Value.int IntKind.i64 v, Value.bool rm, Value.bool md, Value.slice p n c,
            Value.string t])).toArray,
  Value.pointer
    (some
      { block := b1,
        off :=
          o1 })] (Tryz.f57.ntmps - ([Value.agg
    (arrI IntKind.u8 id 32 0 ++
        (arrI IntKind.u8 au 16 0 ++
          [Value.string g, Value.int IntKind.i64 v, Value.bool rm, Value.bool md, Value.slice p n c,
            Value.string t])).toArray,
  Value.pointer
    (some
      { block := b1,
        off := o1 })] : List Value).length)) w = VC_rversC id au g v rm md p n c t b1 o1 w R := by kernel_rfl
  have hb : Tryz.f57.body = some (Tryz.f57.body.getD .skip) := by kernel_rfl
  exact calls_of_exec2' (P := Tryz.prog) (fn := Tryz.f57) (c := Tryz.f57.body.getD .skip) (args := [Value.agg
    (arrI IntKind.u8 id 32 0 ++
        (arrI IntKind.u8 au 16 0 ++
          [Value.string g, Value.int IntKind.i64 v, Value.bool rm, Value.bool md, Value.slice p n c,
            Value.string t])).toArray,
  Value.pointer (some { block := b1, off := o1 })]) (w := w) (R := R) pur1_ok Tryz.func57 hb e h

end Go.Proofs.YtkkfnlehlkiejaaGreatDoor

/- Chapter 21: the contracts of pick, Versions, Current, Moderated, EverModerator. No condition but sizes. -/
namespace Go.Proofs.YtkkfnlehlkiejaaGreatDoor
open Go.RowKit Go.Maps

theorem erase_perm {α : Type} : ∀ (l : List α) (j : Nat) (x : α), l[j]? = some x → (x :: l.eraseIdx j).Perm l
  | [], _, _, h => by simp at h
  | y :: r, 0, x, h => by
    have e : y = x := by simpa using h
    subst e; exact .refl _
  | y :: r, j + 1, x, h => by
    rw [List.eraseIdx_cons_succ]
    exact (List.Perm.swap y x _).trans ((erase_perm r j x (by simpa using h)).cons y)
theorem own_types {w : World} {b1 b2 : Nat} {e1 e2 : TypeId} {s1 s2 : Nat} {v1 v2 : Value} {n1 n2 : Nat} {x1 x2 : List Value} (h1 : w.ownsRow b1 e1 s1 v1 n1 x1) (h2 : w.ownsRow b2 e2 s2 v2 n2 x2) (he : e1 ≠ e2) {k : Nat} (k1 : v1.ownBlock = some k) (k2 : v2.ownBlock = some k) : False := by
  obtain ⟨c1, hc1⟩ := own_type h1 k1
  obtain ⟨c2, hc2⟩ := own_type h2 k2
  rw [hc1] at hc2
  simp only [Option.some.injEq, Obj.cells.injEq] at hc2
  exact he hc2.2.1
/-- The moderators of a definition, in memory of their own. -/
def MO (w : World) (B : Nat) (x : DX) : Prop := w.ownsRow B 53 16 (.slice x.p x.d.ms.length x.c) x.d.ms.length (x.d.ms.flatMap auC)
theorem MO.kp {w w' : World} {B : Nat} {x : DX} (h : MO w B x) {M : Nat → Prop} (hk : Kp M w w') (hm : ∀ k, (Value.slice x.p x.d.ms.length x.c).ownBlock = some k → ¬ M k) : MO w' B x := owns_kp h hk hm
theorem MO.k0 {w w' : World} {B : Nat} {x : DX} (h : MO w B x) (hk : K0 w w') : MO w' B x := owns_kp h hk (fun _ _ h => h)
theorem MO.row {w : World} {B : Nat} {x : DX} (h : MO w B x) : RowA auC 16 w x.p x.d.ms := RowA.own h auC_length (by decide)
theorem MO.grown {w w' : World} {B B2 : Nat} {x : DX} (h : MO w B x) {v : Value} {n : Nat} {xs : List Value} (ho : w.ownsRow B2 56 54 v n xs) (hk : Kp (fun k => v.ownBlock = some k) w w') : MO w' B x :=
  owns_kp h hk (fun _ k1 k2 => own_types h ho (by decide) k1 k2)
def accL (acc : DX → Bool) (l : List (List Int × DX)) : List Df := ((l.map (·.2)).filter acc).map (·.d)
theorem accL_perm {acc : DX → Bool} {l : List (List Int × DX)} {j : Nat} {q : List Int × DX} (hj : l[j]? = some q) : ((if acc q.2 = true then [q.2.d] else []) ++ accL acc (l.eraseIdx j)).Perm (accL acc l) := by
  have h1 := ((((erase_perm l j q hj).map (·.2)).filter acc).map (fun x : DX => x.d))
  unfold accL
  rw [List.map_cons, List.filter_cons] at h1
  by_cases h : acc q.2 = true
  · rw [if_pos h] at h1 ⊢; exact h1
  · rw [if_neg h] at h1 ⊢; exact h1
set_option maxHeartbeats 2000000 in
theorem rpick_any {w : World} {b mb : Nat} {A : List Au} {l : List (List Int × DX)} (h : Reg w b mb A l) (hl : l.length ≤ 4096) (f : FuncId) (fa fb : Array Value) (hok : okFn Tryz.prog f = true) (acc : DX → Bool)
    (hF : ∀ q ∈ l, ∀ w1, K0 w w1 → Calls Tryz.prog f (appA fa [dfV q.2] fb) w1 fun e w2 => e = .returned (.bool (acc q.2)) ∧ K0 w1 w2) :
    Calls Tryz.prog 50 #[.pointer (some ⟨b, 0, none⟩), .func (.func f) fa fb] w fun e w' => (∃ (cs : List DX) (p : Option Addr) (c : Nat), e = .returned (.slice p cs.length c) ∧ w'.ownsRow w.heap.size 56 54 (.slice p cs.length c) cs.length (cs.flatMap dfC) ∧
      (cs.map (·.d)).Perm (accL acc l) ∧ cs.Pairwise (fun x y => ¬ cfD y x < 0) ∧ ∀ x ∈ cs, MO w' w.heap.size x) ∧ K0 w w' := by
  have hmw := h.map.lt
  refine vc_rpick b f fa fb w _ ⟨some mb, h.cellM, ?_⟩
  obtain ⟨r, w1, hrun, hR, k1, gr, rlt⟩ := h.map.range (t := 96) Tryz.underlying96
  refine ⟨r, w1, hrun, .of_k0 k1, ?_⟩
  have gw1 : w.heap.size ≤ w1.heap.size := k1.size
  refine ⟨fun vs w' => ∃ (cs : List DX) (todo : List (List Int × DX)) (p : Option Addr) (c : Nat), vs = [.slice p cs.length c] ∧ RngB byA w' r mb (amap dfV todo) ∧ todo.Sublist l ∧ cs.length + todo.length ≤ l.length ∧ (cs.map (·.d) ++ accL acc todo).Perm (accL acc l) ∧
      w'.ownsRow w1.heap.size 56 54 (.slice p cs.length c) cs.length (cs.flatMap dfC) ∧ (∀ x ∈ cs, MO w' w1.heap.size x) ∧ Kp (· = r) w1 w',
    fun _ w' => leftN w' r mb, ⟨[], l, none, 0, rfl, hR, .refl _, by simp, .refl _, World.ownsRow_nil _ _ _ _, (fun x hx => by cases hx), .refl _ _⟩, ?_⟩
  rintro p0 n0 c0 w2 ⟨cs, todo, p, c, hv, hR2, hsub, hlen, hperm, ho2, hM2, k2⟩
  simp only [List.cons.injEq, Value.slice.injEq, and_true] at hv
  obtain ⟨rfl, rfl, rfl⟩ := hv
  have kw2 : K0 w w2 := k1.fresh k2 (fun j hj e => by omega)
  rcases hR2.next (P := Tryz.prog) with ⟨hnil, hnx⟩ | ⟨j, q, w3, hj, hnx, hent, hR3, k3⟩
  · have htodo : todo = [] := by
      cases todo with
      | nil => rfl
      | cons x t => simp [amap] at hnil
    subst htodo
    refine ⟨false, [], w2, hnx, .refl _ _, bsp_intro (fun h => by cases h) (fun _ => ?_)⟩
    refine ⟨(psort_any cs p0 c0 w2 ho2 (by omega)).mono fun e w3 ⟨he, cs', hp, hs, ho3, k3⟩ => ⟨he, ⟨k3.size, fun x hx => by cases hx⟩, ⟨cs', p0, c0, by rw [hp.length_eq], own_base ho3 gw1, ?_, hs, fun x hx => ?_⟩, kw2.fresh k3 (fun j hj e => by have := own_ge ho2 e; omega)⟩⟩
    · have hperm : (cs.map (fun x : DX => x.d) ++ []).Perm (accL acc l) := hperm
      rw [List.append_nil] at hperm
      exact (hp.map _).trans hperm
    · exact own_base ((hM2 x (hp.subset hx)).grown ho2 k3) gw1
  · have hj' : ((todo.map fun p => (p.1, dfV p.2)))[j]? = some q := hj
    rw [List.getElem?_map, Option.map_eq_some_iff] at hj'
    obtain ⟨q, hqj, rfl⟩ := hj'
    have hmem : q ∈ l := hsub.subset (List.mem_of_getElem? hqj)
    have hdis : l.Pairwise fun p q => p.1 ≠ q.1 := by
      have := h.map.dis
      unfold amap at this
      rw [List.pairwise_map] at this
      exact this
    have hag : aget l q.1 = some q.2 := aget_at hdis hmem
    obtain ⟨_, hqc, hqk, hqo⟩ := h.ok _ _ hag
    have hqr := (h.str _ _ hag).1
    have hqz := dchk_sz (h.ok _ _ hag).1
    have her : (amap dfV todo).eraseIdx j = amap dfV (todo.eraseIdx j) := by unfold amap; rw [map_erase']
    rw [her] at hR3
    have hjl := (List.getElem?_eq_some_iff.1 hqj).1
    have helen : (todo.eraseIdx j).length = todo.length - 1 := List.length_eraseIdx_of_lt hjl
    have hpm := accL_perm (acc := acc) hqj
    have hl2 := hR2.left
    have hlam : (amap dfV todo).length = todo.length := by simp [amap]
    have hlam3 : (amap dfV (todo.eraseIdx j)).length = todo.length - 1 := by simp [amap, helen]
    have hr3 : r < w3.heap.size := by
      have := k2.size; have := k3.size; omega
    have kw3 : K0 w w3 := kw2.fresh k3 (fun j hj e => by omega)
    have hent : EntP Tryz.prog (.pointer (some ⟨r, 0, none⟩)) (.tuple #[byA q.1, dfV q.2]) w3 := hent
    rw [hqk] at hent
    have hMr : ∀ x ∈ cs, MO w3 w1.heap.size x := fun x hx => (hM2 x hx).kp k3 (fun k hk e => by have := own_ge (hM2 x hx) hk; omega)
    refine ⟨true, _, w3, hnx, .of_kp k3 (fun y hy e => by cases hy), bsp_intro (fun _ => ?_) (fun h => by cases h)⟩
    have ho3 := owns_kp ho2 k3 (fun k hk e => by have := own_ge ho2 hk; omega)
    refine ⟨q.2.d.id, q.2.d.id, q.2.d.au, q.2.d.g, q.2.d.v, q.2.d.rm, q.2.d.md, q.2.p, q.2.d.ms.length, q.2.c, q.2.d.tx, hent, fun n4 W5 hW5 => ⟨f, fa, fb, rfl, hok, ?_⟩⟩
    have k5 : K0 w3 W5 := hW5.kk rfl
    have kw5 := kw3.trans k5
    refine ⟨(hF q hmem W5 kw5).mono fun e w6 ⟨he, k6⟩ => ⟨_, he, .of_k0 k6, bsp_intro (fun hd => ?_) (fun hd => ?_)⟩⟩
    · have kw6 := kw5.trans k6
      refine ⟨(dclone_any q.2 w6 (hqr.k0 kw6) (by omega)).mono fun e w7 ⟨⟨p', c', he, hop⟩, k7⟩ => ⟨_, _, _, _, _, _, _, _, _, _, he, .of_k0 k7, fun n7 W8 hW8 => ?_⟩⟩
      have k8 : K0 w7 W8 := hW8.kk rfl
      have k38 := ((k5.trans k6).trans k7).trans k8
      have ho8 := owns_kp ho3 k38 (fun _ _ h => h)
      have e1 : cs.length + 1 = (cs ++ [(⟨q.2.d, p', c'⟩ : DX)]).length := by simp
      have hop8 : MO W8 w1.heap.size ⟨q.2.d, p', c'⟩ := own_base (owns_kp hop k8 (fun _ _ h => h)) (by have := k2.size; have := k3.size; have := k5.size; have := k6.size; omega)
      have hb8 := hW8.cells 1 rfl
      refine ⟨w1.heap.size, cs.flatMap dfC, ho8, by omega, by omega, Nat.le_trans k2.size (Nat.le_trans k3.size k38.size), fun p9 c9 w9 ho9 hg9 _ => ⟨?_, ⟨cs ++ [⟨q.2.d, p', c'⟩], todo.eraseIdx j, p9, c9, by rw [← e1], ?_, ((List.eraseIdx_sublist _ _).trans hsub), by rw [← e1, helen]; omega, ?_, by rw [← e1, List.flatMap_append, List.flatMap_singleton]; exact ho9, fun x hx => ?_, ?_⟩, ?_⟩⟩
      · refine .of_kp (kp_grown hg9) (fun z hz => ?_)
        simp only [List.mem_cons, List.not_mem_nil, or_false] at hz
        intro e
        rw [hz] at e
        have h1 := own_lt ho3 e
        have h3 : w3.heap.size ≤ n4 := hW5.fresh 0 rfl rfl
        omega
      · refine (hR3.kp k38 (fun h => h) (fun h => h)).kp (kp_grown hg9) (fun e => ?_) (fun e => ?_)
        · have := own_ge ho8 e; have := own_lt ho8 e; omega
        · have := own_ge ho8 e; omega
      · refine List.Perm.trans ?_ hperm
        rw [List.map_append, List.append_assoc]
        refine List.Perm.append_left _ ?_
        rw [if_pos hd] at hpm
        exact hpm
      · rcases List.mem_append.1 hx with hx | hx
        · exact ((hMr x hx).k0 k38).grown ho8 (kp_grown hg9)
        · simp only [List.mem_cons, List.not_mem_nil, or_false] at hx
          subst hx
          exact hop8.grown ho8 (kp_grown hg9)
      · refine ((k2.trans k3).trans (k38.mono fun _ _ h => h.elim)).fresh (kp_grown hg9) (fun i hi e => ?_)
        have := own_ge ho8 e; omega
      · show leftN w9 r mb < leftN w2 r mb
        rw [hl2, hlam]
        have hR6 := (hR3.kp k38 (fun h => h) (fun h => h)).kp (kp_grown hg9) (fun e => by have := own_ge ho8 e; omega) (fun e => by have := own_ge ho8 e; omega)
        rw [hR6.left, hlam3]; omega
    · have k36 := k5.trans k6
      have hR5 := hR3.kp k36 (fun h => h) (fun h => h)
      refine ⟨⟨cs, todo.eraseIdx j, p0, c0, rfl, hR5, ((List.eraseIdx_sublist _ _).trans hsub), by rw [helen]; omega, ?_, owns_kp ho3 k36 (fun _ _ h => h), fun x hx => (hMr x hx).k0 k36, (k2.trans k3).trans (k36.mono fun _ _ h => h.elim)⟩, ?_⟩
      · refine List.Perm.trans ?_ hperm
        refine List.Perm.append_left _ ?_
        rw [if_neg (by rw [hd]; decide)] at hpm
        exact hpm
      · show leftN w6 r mb < leftN w2 r mb
        rw [hl2, hlam, hR5.left, hlam3]; omega

/-! ### Versions -/
theorem rversC_any (x : DX) (b1 : Nat) (s : ByteArray) (w : World) (hc : w.cell? ⟨b1, 0, none⟩ = some (.string s)) :
    Calls Tryz.prog 57 #[dfV x, .pointer (some ⟨b1, 0, none⟩)] w fun e w' => e = .returned (.bool (decide (x.d.g = s))) ∧ K0 w w' := by
  refine vc_rversC x.d.id x.d.au x.d.g x.d.v x.d.rm x.d.md x.p x.d.ms.length x.c x.d.tx b1 0 w _ (fun n1 => ⟨s, fun W hW => (hW.kk rfl : K0 w W).cell' hc (fun h => h), fun W hW => ⟨by rw [str_beq], hW.kk rfl⟩⟩)
theorem reverC_any (x : DX) (b1 b2 : Nat) (s : ByteArray) (a : Nat → Int) (w : World) (hc : w.cell? ⟨b1, 0, none⟩ = some (.string s)) (ha : AtL w b2 0 (arrI .u8 a 16 0)) (hR : RowA auC 16 w x.p x.d.ms) (ho : x.d.OK) (hb : BY a) (hl : x.d.ms.length ≤ 4611686018427387904) :
    Calls Tryz.prog 51 #[dfV x, .pointer (some ⟨b1, 0, none⟩), .pointer (some ⟨b2, 0, none⟩)] w fun e w' => e = .returned (.bool (decide (x.d.g = s) && decide (auI a ∈ x.d.ms.map auI))) ∧ K0 w w' := by
  refine vc_reverC x.d.id x.d.au x.d.g x.d.v x.d.rm x.d.md x.p x.d.ms.length x.c x.d.tx b1 0 b2 0 w _ (fun n1 => ⟨s, fun W hW => (hW.kk rfl : K0 w W).cell' hc (fun h => h), x.p, x.d.ms.length, x.c, gimp_intro fun _ W hW => cell_at (hW.cells 0 rfl) rfl, a, gimp_intro fun _ W hW => ha.k0 (hW.kk rfl), fun W hW => ?_⟩)
  have kW : K0 w W := hW.kk rfl
  rw [str_beq]
  refine bsp_intro (fun h => ?_) (fun h => ?_)
  · rw [h]
    exact ⟨(acont_any x.d.ms x.p x.c a W (hR.k0 kW) ho.ms hb hl).mono fun e w1 ⟨he, k1⟩ => ⟨_, he, .of_k0 k1, rfl, kW.trans k1⟩⟩
  · rw [h]
    exact ⟨.refl _ _, rfl, kW⟩
/-- The definitions of a group, in the order in which they prevail. -/
def VerL (l : List (List Int × DX)) (s : ByteArray) (cs : List DX) : Prop := (cs.map (·.d)).Perm (accL (fun x => decide (x.d.g = s)) l) ∧ cs.Pairwise (fun x y => ¬ cfD y x < 0)
theorem rvers_any {w : World} {b mb : Nat} {A : List Au} {l : List (List Int × DX)} (h : Reg w b mb A l) (hl : l.length ≤ 4096) (s : ByteArray) :
    Calls Tryz.prog 31 #[.pointer (some ⟨b, 0, none⟩), .string s] w fun e w' => (∃ (cs : List DX) (p : Option Addr) (c : Nat), e = .returned (.slice p cs.length c) ∧ w'.ownsRow w.heap.size 56 54 (.slice p cs.length c) cs.length (cs.flatMap dfC) ∧
      VerL l s cs ∧ ∀ x ∈ cs, MO w' w.heap.size x) ∧ K0 w w' := by
  refine vc_rvers b s w _ (fun n W hW => ?_)
  have kW : K0 w W := hW.kk rfl
  have hc := cell_at (o := 0) (v := .string s) (hW.cells 0 rfl) rfl
  refine ⟨(rpick_any (h.k0 kW) hl 57 #[] #[.pointer (some ⟨n, 0, none⟩)] (by kernel_rfl) (fun x => decide (x.d.g = s)) (fun q _ w1 k => rversC_any q.2 n s w1 (k.cell' hc (fun h => h)))).mono fun e w1 ⟨⟨cs, p, c, he, ho, hp, hs, hM⟩, k1⟩ => ⟨_, _, _, he, .of_k0 k1, ⟨cs, p, c, rfl, own_base ho kW.size, ⟨hp, hs⟩, fun x hx => own_base (hM x hx) kW.size⟩, kW.trans k1⟩⟩
theorem rever_any {w : World} {b mb : Nat} {A : List Au} {l : List (List Int × DX)} (h : Reg w b mb A l) (hl : l.length ≤ 4096) (s : ByteArray) (a : Nat → Int) (ha : BY a) :
    Calls Tryz.prog 20 #[.pointer (some ⟨b, 0, none⟩), .string s, .agg (arrI .u8 a 16 0).toArray] w fun e w' => e = .returned (.bool (l.any fun q => decide (q.2.d.g = s) && decide (auI a ∈ q.2.d.ms.map auI))) ∧ K0 w w' := by
  refine vc_rever b s a w _ (fun n n1 W hW => ?_)
  have kW : K0 w W := hW.kk rfl
  have hc := cell_at (o := 0) (v := .string s) (hW.cells 1 rfl) rfl
  have hat : AtL W n1 0 (arrI .u8 a 16 0) := AtL_block (hW.cells 0 rfl) rfl
  have hdis : l.Pairwise fun p q => p.1 ≠ q.1 := by
    have := h.map.dis
    unfold amap at this
    rw [List.pairwise_map] at this
    exact this
  refine ⟨(rpick_any (h.k0 kW) hl 51 #[] #[.pointer (some ⟨n, 0, none⟩), .pointer (some ⟨n1, 0, none⟩)] (by kernel_rfl) (fun x => decide (x.d.g = s) && decide (auI a ∈ x.d.ms.map auI)) (fun q hq w1 k => ?_)).mono fun e w1 ⟨⟨cs, p, c, he, ho, hp, hs, hM⟩, k1⟩ => ⟨_, _, _, he, .of_k0 k1, ?_, kW.trans k1⟩⟩
  · have hag : aget l q.1 = some q.2 := aget_at hdis hq
    have hz := dchk_sz (h.ok _ _ hag).1
    exact reverC_any q.2 n n1 s a w1 (k.cell' hc (fun h => h)) (hat.k0 k) ((h.str _ _ hag).1.k0 (kW.trans k)) (h.ok _ _ hag).2.2.2 ha (by omega)
  · have hlen := hp.length_eq
    rw [List.length_map] at hlen
    congr 2
    rw [hlen]
    unfold accL
    rw [List.length_map, Bool.eq_iff_iff, decide_eq_true_eq, List.any_eq_true]
    constructor
    · intro hpos
      have hpos : 0 < ((l.map (·.2)).filter fun x => decide (x.d.g = s) && decide (auI a ∈ x.d.ms.map auI)).length := by omega
      obtain ⟨x, hx⟩ := List.exists_mem_of_length_pos hpos
      rw [List.mem_filter] at hx
      obtain ⟨q, hq, e⟩ := List.mem_map.1 hx.1
      exact ⟨q, hq, by rw [e]; exact hx.2⟩
    · rintro ⟨q, hq, e⟩
      have : q.2 ∈ ((l.map (·.2)).filter fun x => decide (x.d.g = s) && decide (auI a ∈ x.d.ms.map auI)) := List.mem_filter.2 ⟨List.mem_map.2 ⟨q, hq, rfl⟩, e⟩
      have := List.length_pos_of_mem this
      omega
/-- What is in force. -/
def headC (cs : List DX) : Option DX := match cs with | x :: _ => if x.d.rm = true then none else some x | [] => none
theorem rcur_any {w : World} {b mb : Nat} {A : List Au} {l : List (List Int × DX)} (h : Reg w b mb A l) (hl : l.length ≤ 4096) (s : ByteArray) :
    Calls Tryz.prog 29 #[.pointer (some ⟨b, 0, none⟩), .string s] w fun e w' => (∃ cs : List DX, VerL l s cs ∧ (∀ x ∈ cs, MO w' w.heap.size x) ∧ e = .returned (.tuple #[dfV ((headC cs).getD dxz), .bool (headC cs).isSome])) ∧ K0 w w' := by
  refine vc_rcur b s w _ (fun n W hW => ?_)
  have kW : K0 w W := hW.kk rfl
  have gn : w.heap.size ≤ n := hW.fresh 0 rfl rfl
  have hnl := block_lt (hW.cells 0 rfl)
  simp only at hnl
  refine ⟨(rvers_any (h.k0 kW) hl s).mono fun e w1 ⟨⟨cs, p, c, he, ho, hV, hM⟩, k1⟩ => ⟨_, _, _, he, .of_k0 k1, ?_⟩⟩
  have k01 := kW.trans k1
  have hMw : ∀ x ∈ cs, MO w1 w.heap.size x := fun x hx => own_base (hM x hx) kW.size
  have hMn : ∀ (W2 : World), Kp (· = n) w1 W2 → ∀ x ∈ cs, MO W2 w.heap.size x := fun W2 hk x hx => own_base ((hM x hx).kp hk (fun k hk e => by have := own_ge (hM x hx) hk; omega)) kW.size
  have hKp : ∀ {T : List Blk} {W2 : World}, Loc w.heap.size T w1 W2 → (∀ x ∈ T, x.n = n) → Kp (· = n) w1 W2 := fun hL hT => hL.kp.mono fun k _ ⟨x, hx, _, e⟩ => by rw [← e]; exact hT x hx
  cases cs with
  | nil =>
    have e : (!((([] : List DX).length : Int) == 0)) = false := rfl
    rw [e]
    refine nn_off fun b1 o1 => ⟨gimp_intro fun h => (by cases h), false, gimp_intro fun h => (by cases h), bsp_intro (fun _ => fun W2 hW2 => ⟨⟨[], hV, (fun x hx => by cases hx), rfl⟩, hW2.k0 k01⟩) (fun h => by cases h)⟩
  | cons x r =>
    have hrow : RowA dfC 54 w1 p (x :: r) := RowA.own ho dfC_length (by decide)
    obtain ⟨y, b1, o1, hy, hp, hat⟩ := hrow.get (k := 0) (by simp)
    cases hy
    rw [Nat.zero_mul, Nat.add_zero] at hat
    have e : ((((x :: r).length : Nat) : Int) == 0) = false := by
      rw [List.length_cons, beq_eq_false_iff_ne]; omega
    rw [e]
    have hlt : (0 : Int) < (((x :: r).length : Nat) : Int) := by rw [List.length_cons]; omega
    refine nn_is hp ⟨gimp_intro fun _ => ⟨Int.le_refl _, hlt⟩, x.d.rm, gimp_intro fun _ => hat.cell (j := 50) rfl, bsp_intro (fun hb => fun W2 hW2 => ?_) (fun hb => nn_is hp ⟨⟨Int.le_refl _, hlt⟩, x.d.id, x.d.au, x.d.g, x.d.v, x.d.rm, x.d.md, x.p, x.d.ms.length, x.c, x.d.tx, hat, fun W2 hW2 => ?_⟩)⟩
    · have hb : x.d.rm = true := by simpa using hb
      have hh : headC (x :: r) = none := if_pos hb
      exact ⟨⟨x :: r, hV, hMn W2 (hKp hW2 (fun y hy => by simp only [List.mem_cons, List.not_mem_nil, or_false] at hy; rw [hy])), by rw [hh]; rfl⟩, hW2.k0 k01⟩
    · have hb : ¬ x.d.rm = true := by simpa using hb
      have hh : headC (x :: r) = some x := if_neg hb
      exact ⟨⟨x :: r, hV, hMn W2 (hKp hW2 (fun y hy => by simp only [List.mem_cons, List.not_mem_nil, or_false] at hy; rw [hy])), by rw [hh]; rfl⟩, hW2.k0 k01⟩
theorem rmod_any {w : World} {b mb : Nat} {A : List Au} {l : List (List Int × DX)} (h : Reg w b mb A l) (hl : l.length ≤ 4096) (s : ByteArray) :
    Calls Tryz.prog 32 #[.pointer (some ⟨b, 0, none⟩), .string s] w fun e w' => (∃ cs : List DX, VerL l s cs ∧ e = .returned (.bool ((headC cs).isSome && ((headC cs).getD dxz).d.md))) ∧ K0 w w' := by
  refine vc_rmod b s w _ ⟨(rcur_any h hl s).mono fun e w1 ⟨⟨cs, hV, hM, he⟩, k1⟩ => ⟨_, _, _, _, _, _, _, _, _, _, _, he, .of_k0 k1, fun n1 => ⟨_, gimp_intro fun _ W hW => cell_at (hW.cells 0 rfl) rfl, fun W hW => ⟨⟨cs, hV, rfl⟩, k1.trans (hW.kk rfl)⟩⟩⟩⟩

end Go.Proofs.YtkkfnlehlkiejaaGreatDoor

/- Chapter 21: the contract of New. Lists of at most 2^30 bytes; the library's variable MaxLen holds a number. -/
namespace Go.Proofs.YtkkfnlehlkiejaaGreatDoor
open Go.RowKit Go.Maps

theorem atC_one (x : Au) : ∀ u ∈ atC x, u.oneCell' = true := fun u hu => by
  unfold atC at hu
  rcases List.mem_append.1 hu with h | h
  · simp at h; subst h; rfl
  · exact arr_one x.au 16 u h
theorem auclone_any (l : List Au) (p : Option Addr) (c : Nat) (w : World) (hR : RowA atC 17 w p l) (hl : l.length ≤ 1000000) :
    Calls Tryz.prog 44 #[.slice p l.length c] w fun e w' => (∃ (p' : Option Addr) (c' : Nat), e = .returned (.slice p' l.length c') ∧ w'.ownsRow w.heap.size 94 17 (.slice p' l.length c') l.length (l.flatMap atC)) ∧ K0 w w' := by
  refine vc_auclone p l.length c w _ (bsp_intro (fun h => ?_) (fun h => fun n1 W hW => ?_))
  · obtain rfl : p = none := by simpa using h
    have := rowA_none hR
    subst this
    exact ⟨⟨none, 0, rfl, World.ownsRow_nil _ _ _ _⟩, .refl _ _⟩
  have kW : K0 w W := hW.kk rfl
  have g1 : w.heap.size ≤ n1 := hW.fresh 0 rfl rfl
  have h0 := hW.cells 0 rfl
  refine ⟨w.heap.size, [], l.flatMap atC, own_none g1 h0, by rw [len_flat atC 17 l (fun y _ => atC_length y)], src_rowA (hR.k0 kW) atC_length atC_one (by decide), by omega, by omega, kW.size, fun p' c' w' ho hg _ => ?_⟩
  rw [Nat.zero_add] at ho
  rw [Nat.zero_add]
  refine ⟨⟨(kp_grown hg).size, fun _ hx => by cases hx⟩, ⟨p', c', rfl, by simpa using ho⟩, kW.fresh (kp_grown hg) (fun j hj e => by simp only [Value.ownBlock, Option.some.injEq] at e; omega)⟩
theorem newE_step {l : List Au} {k : Nat} {x : Au} (hx : l[k]? = some x) : newE (l.drop k) k = match listR x.pt with
    | .inl _ => newE (l.drop (k + 1)) (k + 1)
    | .inr (_, e) => (k, e) := by
  have hlt := (List.getElem?_eq_some_iff.1 hx).1
  have e : l.drop k = x :: l.drop (k + 1) := by
    rw [List.drop_eq_getElem_cons hlt]
    rw [List.getElem?_eq_getElem hlt] at hx
    cases hx; rfl
  rw [e]; rfl
def ptrV (b : Nat) : Value := .pointer (some ⟨b, 0, none⟩)
set_option maxHeartbeats 2000000 in
theorem rnew_any (l : List Au) (p : Option Addr) (c : Nat) (w : World) (hR : RowA atC 17 w p l) (hb : ∀ x ∈ l, BY x.au) (hsz : ∀ x ∈ l, x.pt.size ≤ 1073741824) (hG : GW w) :
    Calls Tryz.prog 13 #[.slice p l.length c] w fun e w' => ((64 < l.length ∧ e = .returned (.tuple #[.pointer none, .int .i64 64, .int .i64 9])) ∨
      (l.length ≤ 64 ∧ (newE l 0).2 ≠ 0 ∧ e = .returned (.tuple #[.pointer none, .int .i64 ((newE l 0).1 : Nat), .int .i64 (newE l 0).2])) ∨
      (l.length ≤ 64 ∧ (newE l 0) = (0, 0) ∧ ∃ b mb : Nat, e = .returned (.tuple #[.pointer (some ⟨b, 0, none⟩), .int .i64 0, .int .i64 0]) ∧ Reg w' b mb l [] ∧ w.heap.size ≤ b ∧ w.heap.size ≤ mb)) ∧ K0 w w' := by
  refine vc_rnew p l.length c w _ (bsp_intro (fun h => ?_) (fun h => ?_))
  · exact ⟨.inl ⟨by simp at h; omega, rfl⟩, .refl _ _⟩
  have h64 : l.length ≤ 64 := by simp at h; omega
  refine ⟨(auclone_any l p c w hR (by omega)).mono fun e w1 ⟨⟨cp, cc, he, hoc⟩, k1⟩ => ⟨_, _, _, he, .of_k0 k1, fun n2 w2 hn2 => ⟨.of_k0 (hn2.kp _), fun n3 W hW => ?_⟩⟩⟩
  have k2 : K0 w1 w2 := hn2.kp _
  have g2 : w1.heap.size ≤ n2 := hn2.ge
  have hm2 : MapB Tryz.prog 52 byA w2 n2 ([] : List (List Int × Value)) := hn2.map
  have kW : K0 w2 W := hW.kk rfl
  have b3 := hW.cells 0 rfl
  have g3 : w2.heap.size ≤ n3 := hW.fresh 0 rfl rfl
  have l3 := block_lt b3
  simp only at l3
  have hn2l := hm2.lt
  have k0W := (k1.trans k2).trans kW
  have hocW := owns_kp hoc (k2.trans kW) (fun _ _ h => h)
  have hcl : ∀ g, (Value.slice cp l.length cc).ownBlock = some g → g < n3 := fun g e => by have := own_lt hoc e; omega
  refine ⟨fun vs w' => ∃ (k : Nat) (lp : Option Addr) (lc : Nat) (bs : List Nat), vs = [.int .i64 (k : Int)] ∧ k ≤ l.length ∧ newE (l.drop k) k = newE l 0 ∧ bs.length = k ∧
      w'.heap[n3]? = some (.cells #[.slice cp l.length cc, .slice lp k lc, .map (some n2)] 99 (0, 0)) ∧ w'.ownsRow W.heap.size 74 1 (.slice lp k lc) k (bs.map ptrV) ∧
      (∀ (j lb : Nat) (x : Au), bs[j]? = some lb → l[j]? = some x → ∃ es, listR x.pt = .inl es ∧ ListR (fun _ => True) w' lb x.pt es) ∧ Kp (fun j => j = n3 ∨ W.heap.size ≤ j) W w',
    fun vs _ => (match vs with | .int _ x :: _ => l.length - x.toNat | _ => 0), ⟨0, none, 0, [], rfl, by omega, rfl, rfl, b3, World.ownsRow_nil _ _ _ _, (fun j lb x h => by cases h), .refl _ _⟩, ?_⟩
  rintro x w3 ⟨k, lp, lc, bs, hv, hk, hE, hbl, hb3, hol, hL, k3⟩
  simp only [List.cons.injEq, Value.int.injEq, true_and, and_true] at hv
  subst hv
  have k03 : K0 w w3 := k0W.fresh k3 (fun j hj e => by rcases e with e | e <;> (have := k0W.size; have := k1.size; omega))
  refine bsp_intro (fun hlt => ?_) (fun hge => ?_)
  · have hlt : k < l.length := by simp at hlt; omega
    obtain ⟨x, b1, o1, hx, hp, hat⟩ := (hR.k0 k03).get hlt
    have hxm := List.mem_of_getElem? hx
    rw [newE_step hx] at hE
    rw [Int.toNat_natCast]
    refine nn_is hp ⟨⟨by omega, by omega⟩, x.pt, x.au, hat, fun n4 W4 hW4 => ?_⟩
    have k4 : K0 w3 W4 := hW4.kk rfl
    have b4 := hW4.cells 0 rfl
    have g4 : w3.heap.size ≤ n4 := hW4.fresh 0 rfl rfl
    have l4 := block_lt b4
    simp only at l4
    refine ⟨(parseList_any x.pt W4 (hsz x hxm) (hG.kp (k03.trans k4) (fun h => h))).mono fun e w5 ⟨k5, hQ⟩ => ?_⟩
    have k45 := k4.trans k5
    cases hl : listR x.pt with
    | inr oe =>
      obtain ⟨oo, ee⟩ := oe
      rw [hl] at hQ hE
      have hne := listR_err hl
      have hE : (k, ee) = newE l 0 := hE
      refine ⟨_, _, _, hQ, .of_k0 k5, bsp_intro (fun _ => ⟨.inr (.inl ⟨h64, by rw [← hE]; exact hne, by rw [← hE]⟩), k03.trans k45⟩) (fun h => absurd h (by simpa using hne))⟩
    | inl es =>
      rw [hl] at hQ hE
      obtain ⟨lb, he, hLb⟩ := hQ
      have hE : newE (l.drop (k + 1)) (k + 1) = newE l 0 := hE
      refine ⟨_, _, _, he, .of_k0 k5, bsp_intro (fun h => by cases h) (fun _ => ⟨lp, k, lc, cell_at (k45.blk hb3 (fun h => h)) rfl, fun n6 W6 hW6 => ?_⟩)⟩
      have k6 : K0 w5 W6 := hW6.kk rfl
      have k36 := k45.trans k6
      have ho6 := owns_kp hol k36 (fun _ _ h => h)
      have hb6 := k36.blk hb3 (fun h => h)
      have b6 := hW6.cells 1 rfl
      have hlb6 : ListR (fun _ => True) W6 lb x.pt es := hLb.all.kp k6 (fun _ _ _ h => h)
      refine ⟨W.heap.size, bs.map ptrV, ho6, by omega, by omega, Nat.le_trans k3.size k36.size, fun lp' lc' w7 ho7 hg7 _ => ?_⟩
      have kg := kp_grown hg7
      have hb7 := kg.blk hb6 (fun e => by have := own_ge ho6 e; omega)
      refine ⟨.of_kp kg (fun z hz e => ?_), cell_wr hb7 (by show 0 + 1 < 3; omega), fun w8 p8 => ?_⟩
      · simp only [List.mem_cons, List.not_mem_nil, or_false] at hz
        rw [hz] at e
        have := own_lt hol e
        omega
      have hb8 : w8.heap[n3]? = some (.cells #[.slice cp l.length cc, .slice lp' (k + 1) lc', .map (some n2)] 99 (0, 0)) := by rw [p8.block hb7]; rfl
      have k68 : Kp (fun j => (Value.slice lp k lc).ownBlock = some j ∨ j = n3) W6 w8 := (kg.mono fun _ _ h => .inl h).trans (p8.kp.mono fun _ _ h => .inr h)
      have hTy : ∀ j c t f, ((Value.slice lp k lc).ownBlock = some j ∨ j = n3) → W6.heap[j]? = some (.cells c t f) → t ≠ 116 ∧ t ≠ 120 ∧ t ≠ 149 ∧ t ≠ 167 := fun j c t f hj hh => by
        rcases hj with hj | rfl
        · obtain ⟨cc, hcc⟩ := own_type ho6 hj
          rw [hcc] at hh
          simp only [Option.some.injEq, Obj.cells.injEq] at hh
          rw [← hh.2.1]; decide
        · rw [hb6] at hh
          simp only [Option.some.injEq, Obj.cells.injEq] at hh
          rw [← hh.2.1]; decide
      have eb : (bs ++ [lb]).length = k + 1 := by simp [hbl]
      have k38 : Kp (fun j => j = n3 ∨ W.heap.size ≤ j) W w8 := by
        refine (k3.trans (k36.mono fun _ _ h => h.elim)).trans (k68.mono fun j hj e => ?_)
        rcases e with e | e
        · exact .inr (own_ge hol e)
        · exact .inl e
      refine ⟨.of_kp p8.kp (fun z hz e => ?_), ⟨k + 1, lp', lc', bs ++ [lb], by rw [inc64 (by omega)], hlt, hE, eb, hb8, ?_, fun j lb' y hj hy => ?_, k38⟩, by rw [inc64 (by omega)]; simp only [Int.toNat_natCast]; omega⟩
      · simp only [List.mem_cons, List.not_mem_nil, or_false] at hz
        rw [hz] at e
        have e : n4 = n3 := e
        have := k3.size
        omega
      · rw [List.map_append]
        exact owns_kp ho7 p8.kp (fun j hj e => by have := own_ge ho7 hj; have e : j = n3 := e; omega)
      · rcases Nat.lt_or_ge j bs.length with hjl | hjl
        · rw [List.getElem?_append_left hjl] at hj
          obtain ⟨es', h1, h2⟩ := hL j lb' y hj hy
          exact ⟨es', h1, (h2.kp k36 (fun _ _ _ h => h)).kpT k68 hTy⟩
        · rw [List.getElem?_append_right hjl] at hj
          have hjk : j = k := by
            rcases Nat.lt_or_ge (j - bs.length) 1 with h | h
            · omega
            · rw [List.getElem?_eq_none (by simpa using h)] at hj; cases hj
          subst hjk
          rw [hx] at hy
          cases hy
          rw [show j - bs.length = 0 by omega] at hj
          simp only [List.getElem?_cons_zero, Option.some.injEq] at hj
          subst hj
          exact ⟨es, hl, hlb6.kpT k68 hTy⟩
  · have hk2 : k = l.length := by simp at hge; omega
    subst hk2
    rw [List.drop_length] at hE
    have hE : (0, 0) = newE l 0 := hE
    have hoc3 := owns_kp hocW k3 (fun j hj e => by have := hcl j hj; rcases e with e | e <;> omega)
    have hm3 : MapB Tryz.prog 52 byA w3 n2 (amap dfV []) := (hm2.kp kW (fun h => h)).kp k3 (fun e => by have := kW.size; rcases e with e | e <;> omega)
    refine ⟨.inr (.inr ⟨h64, hE.symm, n3, n2, rfl, ⟨⟨cp, cc, lp, lc, hb3, RowA.own hoc3 atC_length (by decide), fun k x hx => ?_⟩, hm3, (fun a x hx => by cases hx), (fun a x hx => by cases hx), hb⟩, by have := k1.size; have := k2.size; omega, by have := k1.size; omega⟩), k03⟩
    have hkl := (List.getElem?_eq_some_iff.1 hx).1
    obtain ⟨lb, hlb⟩ : ∃ lb, bs[k]? = some lb := ⟨_, List.getElem?_eq_getElem (by omega)⟩
    obtain ⟨es, h1, h2⟩ := hL k lb x hlb hx
    obtain ⟨g, hp, hc⟩ := own_cellL hol (i := k) (v := ptrV lb) (by rw [List.getElem?_map, hlb]; rfl)
    exact ⟨g, 0, lb, es, hp, by rw [Nat.zero_add]; exact hc, h1, h2⟩

end Go.Proofs.YtkkfnlehlkiejaaGreatDoor
