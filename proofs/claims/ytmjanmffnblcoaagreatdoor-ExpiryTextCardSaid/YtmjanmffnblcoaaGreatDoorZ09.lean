/- Chapter 42: the contracts of ascii.Digits and Print. The library's table of powers of ten reads as laid. -/
import Derived.Test.YtmjanmffnblcoaaGreatDoorZ05
import Derived.Test.YtmjanmffnblcoaaGreatDoorZ07
import Derived.Test.YtmjanmffnblcoaaGreatDoorZ08
import Derived.Test.YtmjanmffnblcoaaGreatDoorProg
import Derived.Test.YtmjanmffnblcoaaGreatDoorZ02
import Derived.Test.YtmjanmffnblcoaaGreatDoorZ04
import Derived.KernelRfl
import Derived.Shelf.SlGeneric
import Derived.Shelf.SlSortCmp.NoneTotal
import Derived.Ground.SlsfProg
namespace Go.Proofs.YtmjanmffnblcoaaGreatDoor
open Go.RowKit

/-- The table of powers of ten reads as it was laid. -/
def GT (w : World) : Prop := Lib.TabIs Tryz.prog w "internal/strconv.uint64pow10" .u64 Lib.pow10Tab
theorem GT.k0 {w w' : World} (h : GT w) (hk : K0 w w') : GT w' := by
  unfold GT Lib.TabIs World.var? at *
  cases hg : Tryz.prog.globalNamed "internal/strconv.uint64pow10" with
  | none => simp [hg] at h
  | some g =>
    simp only [hg, Option.bind_some] at h ⊢
    have hlt : g < w.heap.size := by
      rcases Nat.lt_or_ge g w.heap.size with h' | h'
      · exact h'
      · rw [Array.getElem?_eq_none h'] at h; simp at h
    rw [hk.block g hlt (fun h => h)]
    exact h
theorem grow_k0 (w : World) (k : Nat) (os : Array Obj) : K0 w (Go.Sort.grow (w.drewN k) os) :=
  ⟨rfl, rfl, rfl, by show w.heap.size ≤ (w.heap ++ os).size; rw [Array.size_append]; omega, fun j hj _ => by show (w.heap ++ os)[j]? = _; rw [Array.getElem?_append_left hj]⟩
theorem digits_any (u : Nat) (w : World) (hT : GT w) (hu : u ≤ 4611686018427387904) :
    Calls Tryz.prog 21 #[.int .i64 u] w fun e w' => e = .returned (.string (decT u)) ∧ K0 w w' := by
  refine vc_digits u w _ ⟨(Tryz.strconv_Itoa u (by omega) (by omega) w hT).mono fun e w1 ⟨he, k, os, hw⟩ => ⟨_, he, ?_⟩⟩
  have k1 : K0 w w1 := by rw [hw]; exact grow_k0 w k os
  exact ⟨.of_k0 k1, by rw [Lib.itoa_nonneg]; rfl, k1⟩

theorem txtF_le : ∀ {l : List Rl} {i : Nat}, rlF l = 0 → (txtF (l.take i)).size ≤ 95 * l.length
  | [], i, _ => by rw [List.take_nil]; exact Nat.le_refl _
  | r :: l, 0, _ => by show 0 ≤ _; omega
  | r :: l, i + 1, h => by
    obtain ⟨h1, h2⟩ := rlF_cons h
    have ih := txtF_le (i := i) h2
    have hb := bdT_size h1
    have e : (txtF ((r :: l).take (i + 1))).size = (bdT r).size + 1 + (txtF (l.take i)).size := app_size
    rw [e, List.length_cons]; omega
theorem rlF_get : ∀ {l : List Rl} {i : Nat} {r : Rl}, rlF l = 0 → l[i]? = some r → rl1 r = 0
  | [], _, _, _, h => by simp at h
  | x :: l, 0, r, h, e => by simp at e; subst e; exact (rlF_cons h).1
  | x :: l, i + 1, r, h, e => rlF_get (rlF_cons h).2 (by simpa using e)
theorem nneg {a : Nat} (h : a ≤ 1073741824) : ((9223372036854775807 : Int) - (a : Int)).NonNeg := by
  exact Int.nonneg_def.2 ⟨9223372036854775807 - a, by omega⟩

theorem eprint_any (L : List Rl) (p : Option Addr) (c : Nat) (w : World) (hR : RowA rlC 3 w p L) (hT : GT w) :
    Calls Tryz.prog 9 #[.slice p L.length c] w fun e w' => e = .returned (.tuple #[.string (if chkR L = 0 then txtF L else ⟨#[]⟩), .int .i64 (chkR L)]) ∧ K0 w w' := by
  refine vc_eprint p L.length c w _ ⟨(echeck_any L p c w hR).mono fun e w1 ⟨he, k1⟩ => ⟨_, he, .of_k0 k1, bsp_intro (fun h0 => ?_) (fun h0 => ?_)⟩⟩
  · have h0 : ¬ chkR L = 0 := by simpa using h0
    rw [if_neg h0]
    exact ⟨rfl, k1⟩
  have h0 : chkR L = 0 := by simpa using h0
  have h64 := chkR_len h0
  have hF : rlF L = 0 := by
    unfold chkR at h0
    split at h0
    · cases h0
    · exact h0
  rw [if_pos h0, h0]
  intro nb W hW
  have kW : K0 w W := k1.trans (hW.kk rfl)
  have gb : w.heap.size ≤ nb := Nat.le_trans k1.size (hW.fresh 0 rfl rfl)
  have hB : Bld nb ⟨#[]⟩ W := .new (hW.cells 0 rfl)
  refine ⟨fun vs w' => ∃ i : Nat, vs = [.int .i64 (i : Int)] ∧ i ≤ L.length ∧ Bld nb (txtF (L.take i)) w' ∧ K0 w w',
    fun vs _ => (match vs with | .int _ x :: _ => L.length - x.toNat | _ => 0), ⟨0, rfl, by omega, hB, kW⟩, ?_⟩
  rintro x w2 ⟨i, hv, hi, hB2, k2⟩
  simp only [List.cons.injEq, Value.int.injEq, true_and, and_true] at hv
  subst hv
  refine bsp_intro (fun hlt => ?_) (fun hge => ?_)
  · have hlt : i < L.length := by simp at hlt; omega
    obtain ⟨r, b, o, hr, hp, hat⟩ := (hR.k0 k2).get hlt
    rw [Int.toNat_natCast]
    refine nn_is hp ⟨⟨by omega, by omega⟩, r.pat, r.lo, r.hi, hat, fun n W3 hW3 => ?_⟩
    have hr1 := rlF_get hF hr
    obtain ⟨⟨z1, _, _⟩, z2, z3, z4, z5⟩ := rl1_fit hr1
    have k3 : K0 w2 W3 := hW3.kk rfl
    have hc3 : W3.heap[n]? = some (.cells #[.string r.pat, .int .i64 r.lo, .int .i64 r.hi] 40 (0, 0)) := hW3.cells 0 rfl
    have el : ((r.lo.toNat : Nat) : Int) = r.lo := by omega
    have eh : ((r.hi.toNat : Nat) : Int) = r.hi := by omega
    have dl := decT_len (u := r.lo.toNat) (by omega)
    have dh := decT_len (u := r.hi.toNat) (by omega)
    have hnn : n ≠ nb := fun e => by have h1 : w2.heap.size ≤ n := hW3.fresh 0 rfl rfl; have := hB2.lt; omega
    refine ⟨fun wx => K0 W3 wx, .refl _ _, r.pat, fun wx k => cell_at (k.blk hc3 (fun h => h)) rfl, nneg (by rw [size_one]; omega), r.lo, fun wx k => cell_at (k.blk hc3 (fun h => h)) rfl, r.hi, fun wx k => cell_at (k.blk hc3 (fun h => h)) rfl, ?_⟩
    have hd := digits_any r.lo.toNat W3 (hT.k0 (k2.trans k3)) (by omega)
    rw [el] at hd
    refine ⟨hd.mono fun e w4 ⟨he4, k4⟩ => ⟨_, he4, k4, nneg (by simp only [ByteArray.size_append, size_one]; omega), nneg (by simp only [ByteArray.size_append, size_one]; omega), ?_⟩⟩
    have hd' := digits_any r.hi.toNat w4 (hT.k0 ((k2.trans k3).trans k4)) (by omega)
    rw [eh] at hd'
    refine ⟨hd'.mono fun e w5 ⟨he5, k5⟩ => ⟨_, he5, k4.trans k5, nneg (by simp only [ByteArray.size_append, size_one]; omega), nneg (by simp only [ByteArray.size_append, size_one]; omega), ?_⟩⟩
    have hB5 := hB2.k0 ((k3.trans k4).trans k5)
    have hle := txtF_le (i := i) hF
    refine ⟨(hB5.write _ (by simp only [ByteArray.size_append, size_one]; omega)).mono fun e w6 ⟨he6, hB6, k6, hf6⟩ => ⟨_, _, he6, ⟨Nat.le_trans (k4.trans k5).size k6.size, fun m hm hlt' => ?_⟩, ⟨i + 1, by rw [inc64 (by omega)], hlt, ?_, ?_⟩, by rw [inc64 (by omega)]; simp only [Int.toNat_natCast]; omega⟩⟩
    · obtain rfl : m = n := by simpa using hm
      have hc5 := (k4.trans k5).blk hc3 (fun h => h)
      rw [hf6 _ _ _ _ hc5 hnn (by decide), hc5]
      exact hc3.symm
    · rw [take_snoc hr, txtF_snoc]
      exact hB6
    · exact (((k2.trans k3).trans k4).trans k5).fresh k6 (fun j hj e => by omega)
  · have hi : i = L.length := by simp at hge; omega
    subst hi
    rw [List.take_length] at hB2
    exact ⟨hB2.text.mono fun e w3 ⟨he, k3⟩ => ⟨_, he, ⟨k3.size, fun m hm => by cases hm⟩, rfl, k2.fresh k3 (fun j hj e => by omega)⟩⟩

end Go.Proofs.YtmjanmffnblcoaaGreatDoor

/- delete of a map's entry, clear of a row's end, slices that are shorter. Generic: no program, no condition. -/
namespace Go.Proofs.YtmjanmffnblcoaaGreatDoor
open Go.RowKit Go.Maps

theorem map_erase {α β : Type} (f : α → β) : ∀ (l : List α) (i : Nat), (l.eraseIdx i).map f = (l.map f).eraseIdx i
  | [], _ => rfl
  | _ :: _, 0 => rfl
  | x :: l, i + 1 => by simp [map_erase f l i]
section
variable {α : Type} {P : Program} {k t e : TypeId} {enc : α → Value} {w w1 : World} {b : Nat} {l : List (α × Value)}
variable [DecidableEq α]
theorem adel_none {β : Type} {l : List (α × β)} {a : α} (h : ∀ p ∈ l, p.1 ≠ a) : adel l a = l := List.filter_eq_self.2 fun p hp => by simp [h p hp]
theorem adel_at {β : Type} : ∀ {l : List (α × β)} {a : α} {v : β} {j : Nat}, (l.Pairwise fun p q => p.1 ≠ q.1) → l[j]? = some (a, v) → adel l a = l.eraseIdx j
  | [], a, v, j, _, h => by simp at h
  | (x, u) :: l, a, v, 0, hd, h => by
    simp at h
    obtain ⟨rfl, rfl⟩ := h
    have := adel_none (fun p hp => fun e => (List.pairwise_cons.1 hd).1 p hp e.symm)
    unfold adel at this ⊢
    rw [List.filter_cons, if_neg (by simp), this]; rfl
  | (x, u) :: l, a, v, j + 1, hd, h => by
    have h' : l[j]? = some (a, v) := by simpa using h
    have hne : x ≠ a := (List.pairwise_cons.1 hd).1 (a, v) (List.mem_of_getElem? h')
    have ih := adel_at (List.pairwise_cons.1 hd).2 h'
    unfold adel at ih ⊢
    rw [List.filter_cons, if_pos (by simp [hne]), ih]; rfl
theorem aget_adel {β : Type} (l : List (α × β)) (a c : α) : aget (adel l a) c = if a = c then none else aget l c := by
  induction l with
  | nil => simp [adel, aget]
  | cons p r ih =>
    obtain ⟨x, u⟩ := p
    unfold adel at ih ⊢
    rw [List.filter_cons]
    by_cases h : x = a
    · subst h
      rw [if_neg (by simp), ih]
      by_cases h2 : x = c
      · rw [if_pos h2, if_pos h2]
      · rw [if_neg h2, if_neg h2]; simp [aget, h2]
    · rw [if_pos (by simp [h])]
      unfold aget
      by_cases h2 : x = c
      · subst h2; simp [Ne.symm h]
      · simp only [h2, if_false]; exact ih
variable (hinj : ∀ x y, enc x = enc y → x = y)
include hinj
/-- An entry of a map is struck. -/
theorem MapB.del (h : MapB P k enc w b l) (K : Keyed P k) (ht : P.underlying t = some (.map k e)) {a : α} {kl : Lit} (ha : keyOf P k (enc a) = some kl) :
    ∃ w1, BltP P .delete [t, k] [.map (some b), enc a] w w1 ∧ MapB P k enc w1 b (adel l a) ∧ Kp (· = b) w w1 := by
  obtain ⟨es, c, hb, he⟩ := h.blk
  have hkp : ∀ o, Kp (· = b) w (ChangeMaps.setBlock w b o) := fun o => ⟨rfl, rfl, rfl, by simp [ChangeMaps.setBlock], fun i _ hi => ChangeMaps.heap_setBlock_other hb _ (fun e => hi (by rw [e]))⟩
  have hkeys : ∀ p ∈ adel l a, ∃ kl, keyOf P k (enc p.1) = some kl := fun p hp => h.key p (List.mem_filter.1 hp).1
  have hdis : (adel l a).Pairwise fun p q => p.1 ≠ q.1 := List.Pairwise.sublist List.filter_sublist h.dis
  rcases map_find hinj K he h.key h.dis ha (w := w) with ⟨h1, h2⟩ | ⟨j, x, u, h1, h2, h3, h4, h5⟩
  · refine ⟨ChangeMaps.setBlock w b (.map es c), ⟨fun ty cs => ?_⟩, ⟨⟨_, _, ChangeMaps.heap_setBlock_same hb _, ?_⟩, hkeys, hdis⟩, hkp _⟩
    · simp [builtin, Builtin.delete_, run_underlying ht, MapKept.run_getObj_map hb, K.check w _ ha, h2, MapKept.run_setObj_map _ hb, Result.andThen, ChangeMaps.setBlock]
    · rw [adel_none (aget_none.1 h1), he]
  · refine ⟨ChangeMaps.setBlock w b (.map (es.eraseIdxIfInBounds j) c), ⟨fun ty cs => ?_⟩, ⟨⟨_, _, ChangeMaps.heap_setBlock_same hb _, ?_⟩, hkeys, hdis⟩, hkp _⟩
    · simp [builtin, Builtin.delete_, run_underlying ht, MapKept.run_getObj_map hb, K.check w _ ha, h2, MapKept.run_setObj_map _ hb, Result.andThen, ChangeMaps.setBlock]
    · rw [adel_at h.dis h3]
      rw [map_erase, ← he, ← map_erase]
      simp
end

/-! ### The end of a row is cleared -/
theorem putL_len : ∀ (vs c : List Value) (o : Nat), (putL c o vs).length = c.length
  | [], c, o => rfl
  | v :: r, c, o => by simp only [putL]; rw [putL_len r]; simp
theorem putL_take : ∀ (vs c : List Value) (o k : Nat), k ≤ o → (putL c o vs).take k = c.take k
  | [], c, o, k, _ => rfl
  | v :: r, c, o, k, h => by
    simp only [putL]
    rw [putL_take r _ (o + 1) k (by omega)]
    apply List.ext_getElem?
    intro i
    rw [List.getElem?_take, List.getElem?_take]
    split
    · rw [List.getElem?_set]
      rw [if_neg (by omega)]
    · rfl
theorem oneB_all : ∀ l : List Value, (∀ v ∈ l, v.oneCell' = true) → oneB l = true
  | [], _ => rfl
  | v :: r, h => by
    have h1 := h v (by simp)
    have h2 := oneB_all r (fun u hu => h u (by simp [hu]))
    cases v <;> first | exact h2 | (simp [Value.oneCell'] at h1)
theorem zeroCells_mem {z : Array Value} {n : Nat} {v : Value} (h : v ∈ (Builtin.zeroCells z n).toList) : v ∈ z.toList := by
  unfold Builtin.zeroCells at h
  rw [Array.toList_map, List.mem_map] at h
  obtain ⟨i, hi, rfl⟩ := h
  have hi : i < n * z.size := by simpa using hi
  have hz : 0 < z.size := by
    rcases Nat.eq_zero_or_pos z.size with h0 | h0
    · rw [h0] at hi; omega
    · exact h0
  have : i % z.size < z.size := Nat.mod_lt _ hz
  rw [getElem!_pos z _ this]
  simp
theorem zeroCells_len {z : Array Value} {n : Nat} : (Builtin.zeroCells z n).toList.length = n * z.size := by simp [Builtin.zeroCells]
theorem clear_row {P : Program} {w : World} {t e T : TypeId} (ht : P.underlying t = some (.slice e)) {z : Value} (hz : ∀ w, (zeroValue e).run P w = .ok z w) {b o m c : Nat} {cells : Array Value} (hb : w.heap[b]? = some (.cells cells T (0, 0)))
    (hm : 0 < m) (hl : o + m * z.cells.size ≤ cells.size) (h1 : ∀ v ∈ z.cells.toList, v.oneCell' = true) :
    ∃ w1, BltP P .clear [t] [.slice (some ⟨b, o, none⟩) m c] w w1 ∧ Kp (· = b) w w1 ∧ w1.heap[b]? = some (.cells (putL cells.toList o (Builtin.zeroCells z.cells m).toList).toArray T (0, 0)) := by
  have hst := run_storeCells_w (P := P) (b := b) (o := o) (Builtin.zeroCells z.cells m).toList 0 w (oneB_all _ fun v hv => h1 v (zeroCells_mem hv)) (fun j hj => by
    rw [zeroCells_len] at hj
    exact cell_wr hb (by omega))
  refine ⟨wset w b o (Builtin.zeroCells z.cells m).toList, ⟨fun ty cs => ?_⟩, wset_kp _ _ _, wset_block _ _ _ _ hb⟩
  obtain ⟨m, rfl⟩ : ∃ k, m = k + 1 := ⟨m - 1, by omega⟩
  rw [Nat.add_zero] at hst
  simp [builtin, Builtin.clear_, run_underlying ht, hz, hst, Result.andThen]
/-- The front of a row is a row. -/
theorem own_pre {w : World} {base : Nat} {e : TypeId} {L n c m : Nat} {p : Option Addr} {xs : List Value} (h : w.ownsRow base e L (.slice p n c) n xs) (hm : m ≤ n) (hn : 0 < n) : w.ownsRow base e L (.slice p m c) m (xs.take (m * L)) := by
  have hl := h.1
  refine ⟨by rw [List.length_take, hl]; exact Nat.min_eq_left (Nat.mul_le_mul_right _ hm), ?_⟩
  rcases h.2 with ⟨_, h0⟩ | ⟨g, cap, cur, hv, hb, hg, h4, h5, h6, h7⟩
  · omega
  · simp only [Value.slice.injEq, true_and] at hv
    obtain ⟨rfl, rfl⟩ := hv
    refine .inr ⟨g, c, cur, rfl, hb, hg, by omega, h5, h6, ?_⟩
    rw [← h7, List.take_take, Nat.min_eq_left (Nat.mul_le_mul_right _ hm)]
/-- What lies behind a row is written. -/
theorem own_tail {w w1 : World} {base : Nat} {e : TypeId} {L n c g o : Nat} {xs vs : List Value} (h : w.ownsRow base e L (.slice (some ⟨g, 0, none⟩) n c) n xs) {cells : Array Value} (hg : w.heap[g]? = some (.cells cells e (0, 0))) (ho : n * L ≤ o) (hw : w1.heap[g]? = some (.cells (putL cells.toList o vs).toArray e (0, 0))) :
    w1.ownsRow base e L (.slice (some ⟨g, 0, none⟩) n c) n xs := by
  refine ⟨h.1, ?_⟩
  rcases h.2 with ⟨hv, _⟩ | ⟨g', cap, cur, hv, hb, hg', h4, h5, h6, h7⟩
  · simp at hv
  · simp only [Value.slice.injEq, true_and, Option.some.injEq, Addr.mk.injEq, and_true] at hv
    obtain ⟨rfl, rfl⟩ := hv
    rw [hg] at hg'
    simp only [Option.some.injEq, Obj.cells.injEq, and_true] at hg'
    subst hg'
    refine .inr ⟨g, c, _, rfl, hb, hw, h4, h5, ?_, ?_⟩
    · simp [putL_len, h6]
    · show (putL cells.toList o vs).take (n * L) = xs
      rw [putL_take _ _ _ _ ho, h7]
theorem erase_flat {α : Type} (f : α → List Value) (L : Nat) (l : List α) (i : Nat) (hl : ∀ y, (f y).length = L) : (l.flatMap f).take (i * L) ++ (l.flatMap f).drop ((i + 1) * L) = (l.eraseIdx i).flatMap f := by
  rw [take_flat f L l i (fun y _ => hl y), drop_flat f L l (i + 1) (fun y _ => hl y), ← List.flatMap_append, List.eraseIdx_eq_take_drop_succ]
end Go.Proofs.YtmjanmffnblcoaaGreatDoor

/- Rows of numbers compared one after the other (plain). No condition. -/
namespace Go.Proofs.YtmjanmffnblcoaaGreatDoor
open Go.Sort

def cmpIs : List Int → List Int → Int
  | [], [] => 0
  | [], _ :: _ => -1
  | _ :: _, [] => 1
  | a :: l, b :: r => if a < b then -1 else if b < a then 1 else cmpIs l r
theorem cmpIs_anti : ∀ a b : List Int, cmpIs a b = - cmpIs b a
  | [], [] => rfl
  | [], _ :: _ => rfl
  | _ :: _, [] => rfl
  | a :: us, b :: bs => by
    have ih := cmpIs_anti us bs
    simp only [cmpIs]
    by_cases h1 : a < b
    · rw [if_pos h1, if_neg (by omega), if_pos h1]
    · by_cases h2 : b < a
      · rw [if_neg h1, if_pos h2, if_pos h2]; rfl
      · rw [if_neg h1, if_neg h2, if_neg h2, if_neg h1]; exact ih
theorem cmpIs_zero : ∀ a b : List Int, cmpIs a b = 0 → a = b
  | [], [], _ => rfl
  | [], _ :: _, h => by simp [cmpIs] at h
  | _ :: _, [], h => by simp [cmpIs] at h
  | a :: us, b :: bs, h => by
    simp only [cmpIs] at h
    split at h
    · cases h
    · split at h
      · cases h
      · have : a = b := by omega
        rw [this, cmpIs_zero us bs h]
theorem cmpIs_self (a : List Int) : cmpIs a a = 0 := by have := cmpIs_anti a a; omega
theorem cmpIs_tlt : ∀ a b c : List Int, cmpIs a b < 0 → cmpIs b c < 0 → cmpIs a c < 0
  | [], [], _, h, _ => by simp [cmpIs] at h
  | _ :: _, [], _, h, _ => by simp [cmpIs] at h
  | [], _ :: _, [], _, h => by simp [cmpIs] at h
  | [], _ :: _, _ :: _, _, _ => by simp [cmpIs]
  | _ :: _, _ :: _, [], _, h => by simp [cmpIs] at h
  | a :: us, b :: bs, c :: cs, h1, h2 => by
    have ih := cmpIs_tlt us bs cs
    simp only [cmpIs] at h1 h2 ⊢
    repeat' split
    all_goals first | decide | (split at h1 <;> split at h2 <;> first | omega | (split at h1 <;> first | omega | (split at h2 <;> first | omega | (apply ih <;> assumption))) | (split at h2 <;> first | omega | (apply ih <;> assumption)))
theorem cmpIs_ord {α : Type} (f : α → List Int) : Ord3 fun x y => cmpIs (f x) (f y) where
  anti x y := cmpIs_anti _ _
  tlt x y z := cmpIs_tlt _ _ _
  el x y z h1 h2 := by rw [cmpIs_zero _ _ h1]; exact h2
  le x y z h1 h2 := by rw [← cmpIs_zero _ _ h2]; exact h1
theorem cmpIs_hit : ∀ (n i : Nat) (f g : Nat → Int) (k : Nat), k < n → (∀ j, j < k → f (i + j) = g (i + j)) → f (i + k) ≠ g (i + k) → cmpIs ((List.range' i n).map f) ((List.range' i n).map g) = cI (f (i + k)) (g (i + k))
  | 0, i, f, g, k, hk, _, _ => by omega
  | n + 1, i, f, g, 0, _, _, hne => by
    rw [Nat.add_zero] at hne ⊢
    rw [List.range'_succ, List.map_cons, List.map_cons]
    unfold cmpIs cI
    by_cases hlt : f i < g i
    · simp [hlt]
    · have : g i < f i := by omega
      simp [hlt, this]
  | n + 1, i, f, g, k + 1, hk, heq, hne => by
    have h0 : f i = g i := by have := heq 0 (by omega); simpa using this
    have ih := cmpIs_hit n (i + 1) f g k (by omega) (fun j hj => by rw [show i + 1 + j = i + (j + 1) by omega]; exact heq (j + 1) (by omega)) (by rw [show i + 1 + k = i + (k + 1) by omega]; exact hne)
    rw [show i + (k + 1) = i + 1 + k by omega, ← ih, List.range'_succ, List.map_cons, List.map_cons, h0]
    simp [cmpIs]
theorem cmpIs_id {f g : Nat → Int} {k : Nat} (hk : k < 32) (heq : ∀ j, j < k → f j = g j) (hne : f k ≠ g k) : cmpIs (idI f) (idI g) = cI (f k) (g k) := by
  have := cmpIs_hit 32 0 f g k hk (fun j hj => by rw [Nat.zero_add]; exact heq j hj) (by rw [Nat.zero_add]; exact hne)
  rw [Nat.zero_add] at this
  rw [← this]
  unfold idI
  rw [List.range_eq_range']
theorem cmpIs_same {f g : Nat → Int} (heq : ∀ j, j < 32 → f j = g j) : cmpIs (idI f) (idI g) = 0 := by
  have : idI f = idI g := by
    unfold idI
    rw [List.map_congr_left (l := List.range 32) (f := f) (g := g) (fun j hj => heq j (List.mem_range.1 hj))]
  rw [this]
  exact cmpIs_self _
theorem cI_ne {a b : Int} : (cI a b != 0) = decide (a ≠ b) := by
  unfold cI
  by_cases h : a < b
  · have : a ≠ b := by omega
    simp [h, this]
  · by_cases h2 : b < a
    · have : a ≠ b := by omega
      simp [h, h2, this]
    · have : a = b := by omega
      simp [this]
theorem cmpIs_bytes : ∀ a b : List Int, (∀ x ∈ a, 0 ≤ x ∧ x ≤ 255) → (∀ x ∈ b, 0 ≤ x ∧ x ≤ 255) → Lib.compareBytes (a.map fun x => x.toNat.toUInt8) (b.map fun x => x.toNat.toUInt8) = cmpIs a b
  | [], [], _, _ => rfl
  | [], _ :: _, _, _ => rfl
  | _ :: _, [], _, _ => rfl
  | x :: a, y :: b, ha, hb => by
    have ih := cmpIs_bytes a b (fun z hz => ha z (by simp [hz])) (fun z hz => hb z (by simp [hz]))
    have h1 := ha x (by simp)
    have h2 := hb y (by simp)
    have e : ∀ a b : Int, 0 ≤ a → a ≤ 255 → 0 ≤ b → b ≤ 255 → (a.toNat.toUInt8 < b.toNat.toUInt8 ↔ a < b) := fun a b p1 p2 p3 p4 => by
      rw [UInt8.lt_iff_toNat_lt]
      simp [Nat.toUInt8]
      omega
    rw [List.map_cons, List.map_cons]
    simp only [Lib.compareBytes, cmpIs, e _ _ h1.1 h1.2 h2.1 h2.2, e _ _ h2.1 h2.2 h1.1 h1.2, ih]
/-- A number first, then a row of numbers. -/
def cfJ (x y : Int × List Int) : Int := if (if x.1 < y.1 then (-1 : Int) else if y.1 < x.1 then 1 else 0) ≠ 0 then (if x.1 < y.1 then (-1 : Int) else if y.1 < x.1 then 1 else 0) else cmpIs x.2 y.2
theorem cfJ_ord : Ord3 cfJ := (ci_ord (fun x : Int × List Int => x.1)).thn (cmpIs_ord (fun x : Int × List Int => x.2)) (fun x y z h1 h2 => by split at h1 <;> split at h2 <;> split <;> omega)
theorem cfJ_K {x y : Int × List Int} (hx : ∀ z ∈ x.2, 0 ≤ z ∧ z ≤ 255) (hy : ∀ z ∈ y.2, 0 ≤ z ∧ z ≤ 255) : cfK (x.1, x.2.map fun z => z.toNat.toUInt8) (y.1, y.2.map fun z => z.toNat.toUInt8) = cfJ x y := by
  unfold cfK cfJ
  simp only
  rw [cmpIs_bytes _ _ hx hy]
theorem Ord3.on {α β : Type} {cf : β → β → Int} (h : Ord3 cf) (f : α → β) : Ord3 fun x y => cf (f x) (f y) := ⟨fun _ _ => h.anti _ _, fun _ _ _ => h.tlt _ _ _, fun _ _ _ => h.el _ _ _, fun _ _ _ => h.le _ _ _⟩

end Go.Proofs.YtmjanmffnblcoaaGreatDoor

/- The formulas of functions by the symbolic evaluator, and that each gives the call's contract. Written by a program (gen.py). No condition. -/
namespace Go.Proofs.YtmjanmffnblcoaaGreatDoor
set_option maxRecDepth 100000
set_option linter.unusedVariables false

def VC_eidxC (p : Option Addr) (n : Nat) (c : Nat) (f : FuncId) (fa : Array Value) (fb : Array Value) (w : World) (R : Ending → World → Prop) : Prop :=
 ∃ (I : List Value → World → Prop),
 ∃ (m : List Value → World → Nat),
 I [Value.int IntKind.i64 0] w ∧
 ∀ (x : Int) (w' : World),
 I [Value.int IntKind.i64 x] w' →
 bsp (decide (x < (↑n : Int)))
 (nn true p fun (b o : Nat) =>
 (0 ≤ x ∧ x < (↑n : Int)) ∧
 ∃ (f_1 : Nat → Int),
 ∃ (x_1 : Int),
 ∃ (x_2 : Int),
 ∃ (p : Option Addr),
 ∃ (n : Nat),
 ∃ (c : Nat),
 ∃ (x_3 : Int),
 ∃ (x_4 : Int),
 ∃ (p_1 : Option Addr),
 ∃ (n_1 : Nat),
 ∃ (c_1 : Nat),
 ∃ (x_5 : Bool),
 ∃ (x_6 : Bool),
 ∃ (x_7 : Bool),
 ∃ (x_8 : Bool),
 AtL w' b (o + x.toNat * 42)
 (arrI IntKind.u8 f_1 32 0 ++ [Value.int IntKind.i64 x_1,
 Value.int IntKind.i64 x_2, Value.slice p n c, Value.int IntKind.i64 x_3,
 Value.int IntKind.i64 x_4, Value.slice p_1 n_1 c_1, Value.bool x_5, Value.bool x_6,
 Value.bool x_7, Value.bool x_8]) ∧
 ∃ (f_2 : Nat),
 ∃ (a : Array Value),
 ∃ (b : Array Value),
 Value.func (Fn.func f) fa fb = Value.func (Fn.func f_2) a b ∧
 okFn Tryz.prog f_2 = true ∧
 CallsS Tryz.prog f_2
 (appA a
 [Value.agg
 (arrI IntKind.u8 f_1 32 0 ++ [Value.int IntKind.i64 x_1, Value.int IntKind.i64 x_2, Value.slice p n c,
 Value.int IntKind.i64 x_3, Value.int IntKind.i64 x_4, Value.slice p_1 n_1 c_1,
 Value.bool x_5, Value.bool x_6, Value.bool x_7, Value.bool x_8]).toArray]
 b)
 w' fun (e : Ending) (w'_1 : World) =>
 ∃ (x_9 : Bool),
 e = Ending.returned (Value.bool x_9) ∧
 KeptL [] w' w'_1 ∧
 bsp x_9 (R (Ending.returned (Value.int IntKind.i64 x)) w'_1)
 (I [Value.int IntKind.i64 (IntKind.i64.wrap (x + 1))] w'_1 ∧
 m [Value.int IntKind.i64 (IntKind.i64.wrap (x + 1))] w'_1 <
 m [Value.int IntKind.i64 x] w'))
 (R (Ending.returned (Value.int IntKind.i64 (-1))) w')
theorem vc_eidxC (p : Option Addr) (n : Nat) (c : Nat) (f : FuncId) (fa : Array Value) (fb : Array Value) (w : World) (R : Ending → World → Prop) (h : VC_eidxC p n c f fa fb w R) : Calls Tryz.prog 49 ([Value.slice
    p n c,
  Value.func (Fn.func f) fa fb] : List Value).toArray w R := by
  have e : execR2 { P := Tryz.prog, loops := [(2, [(8, Ck.int IntKind.i64)])], pur := pur2, tails := [], joins := [], boxes := [] } Tryz.f49.results.toList R (Tryz.f49.body.getD .skip) (initF [Value.slice
    p n c,
  Value.func (Fn.func f) fa
    fb] (Tryz.f49.ntmps - ([Value.slice p n c,
  Value.func (Fn.func f) fa fb] : List Value).length)) w = VC_eidxC p n c f fa fb w R := by kernel_rfl
  have hb : Tryz.f49.body = some (Tryz.f49.body.getD .skip) := by kernel_rfl
  exact calls_of_exec2' (P := Tryz.prog) (fn := Tryz.f49) (c := Tryz.f49.body.getD .skip) (args := [Value.slice p n c,
  Value.func (Fn.func f) fa fb]) (w := w) (R := R) pur2_ok Tryz.func49 hb e h

def VC_edelete (p : Option Addr) (n : Nat) (c : Nat) (i : Int) (j : Int) (w : World) (R : Ending → World → Prop) : Prop :=
 (0 ≤ i ∧ i ≤ j ∧ j ≤ (↑n : Int) ∧ (↑n : Int) ≤ (↑c : Int)) ∧
 bsp (i == j) (R (Ending.returned (Value.slice p n c)) w)
 ((0 ≤ i ∧ i ≤ (↑c : Int)) ∧
 (0 ≤ j ∧ j ≤ (↑n : Int)) ∧
 ∀ (W : World),
 Loc w.heap.size [] w W →
 ∃ (base : Nat),
 ∃ (xs : List Value),
 ∃ (news : List Value),
 W.ownsRow base 103 42 (Value.slice p i.toNat c) i.toNat xs ∧
 news.length = (n - j.toNat) * 42 ∧
 SrcP W (slA p c j.toNat 42) news ∧
 i.toNat + (n - j.toNat) ≤ 9223372036854775807 ∧
 (i.toNat + (n - j.toNat)) * 128 ≤ 140737488355328 ∧
 base ≤ W.heap.size ∧
 ∀ (p' : Option Addr) (c' : Nat) (w' : World),
 w'.ownsRow base 103 42 (Value.slice p' (i.toNat + (n - j.toNat)) c') (i.toNat + (n - j.toNat))
 (xs ++ news) →
 W.grownBy w' (Value.slice p i.toNat c).ownBlock →
 (i.toNat + (n - j.toNat) ≤ c → p' = p ∧ c' = c) →
 KeptL [] W w' ∧
 (0 ≤ (↑(i.toNat + (n - j.toNat)) : Int) ∧
 (↑(i.toNat + (n - j.toNat)) : Int) ≤ (↑n : Int) ∧ (↑n : Int) ≤ (↑c' : Int)) ∧
 ∃ (w1 : World),
 BltP Tryz.prog Builtin.clear [98]
 [Value.slice (slA p' c' (↑(i.toNat + (n - j.toNat)) : Int).toNat 42)
 ((↑n : Int).toNat - (↑(i.toNat + (n - j.toNat)) : Int).toNat)
 (c' - (↑(i.toNat + (n - j.toNat)) : Int).toNat)]
 w' w1 ∧
 KeptL [] w' w1 ∧ R (Ending.returned (Value.slice p' (i.toNat + (n - j.toNat)) c')) w1)
theorem vc_edelete (p : Option Addr) (n : Nat) (c : Nat) (i : Int) (j : Int) (w : World) (R : Ending → World → Prop) (h : VC_edelete p n c i j w R) : Calls Tryz.prog 52 ([Value.slice
    p n c,
  Value.int IntKind.i64 i, Value.int IntKind.i64 j] : List Value).toArray w R := by
  have e : execR2 { P := Tryz.prog, loops := [], pur := pur2, tails := [(5, 6)], joins := [], boxes := [] } Tryz.f52.results.toList R (Tryz.f52.body.getD .skip) (initF [Value.slice
    p n c,
  Value.int IntKind.i64 i,
  Value.int IntKind.i64
    j] (Tryz.f52.ntmps - ([Value.slice p n c, Value.int IntKind.i64 i,
  Value.int IntKind.i64 j] : List Value).length)) w = VC_edelete p n c i j w R := by kernel_rfl
  have hb : Tryz.f52.body = some (Tryz.f52.body.getD .skip) := by kernel_rfl
  exact calls_of_exec2' (P := Tryz.prog) (fn := Tryz.f52) (c := Tryz.f52.body.getD .skip) (args := [Value.slice p n c,
  Value.int IntKind.i64 i, Value.int IntKind.i64 j]) (w := w) (R := R) pur2_ok Tryz.func52 hb e h

def VC_scompare (p : Option Addr) (n : Nat) (c : Nat) (q : Option Addr) (k : Nat) (d : Nat) (w : World) (R : Ending → World → Prop) : Prop :=
 ∃ (I : List Value → World → Prop),
 ∃ (m : List Value → World → Nat),
 I [Value.int IntKind.i64 0] w ∧
 ∀ (x : Int) (w' : World),
 I [Value.int IntKind.i64 x] w' →
 bsp (decide (x < (↑n : Int)))
 (nn true p fun (b o : Nat) =>
 (0 ≤ x ∧ x < (↑n : Int)) ∧
 ∃ (x_1 : Int),
 w'.cell? (Addr.mk b (o + x.toNat) none) = some (Value.int IntKind.u8 x_1) ∧
 bsp (decide (x ≥ (↑k : Int))) (R (Ending.returned (Value.int IntKind.i64 1)) w')
 (nn true q fun (b o : Nat) =>
 (0 ≤ x ∧ x < (↑k : Int)) ∧
 ∃ (x_2 : Int),
 w'.cell? (Addr.mk b (o + x.toNat) none) = some (Value.int IntKind.u8 x_2) ∧
 bsp (cI x_1 x_2 != 0) (R (Ending.returned (Value.int IntKind.i64 (cI x_1 x_2))) w')
 (I [Value.int IntKind.i64 (IntKind.i64.wrap (x + 1))] w' ∧
 m [Value.int IntKind.i64 (IntKind.i64.wrap (x + 1))] w' < m [Value.int IntKind.i64 x] w')))
 (bsp (decide ((↑n : Int) < (↑k : Int))) (R (Ending.returned (Value.int IntKind.i64 (-1))) w')
 (R (Ending.returned (Value.int IntKind.i64 0)) w'))
theorem vc_scompare (p : Option Addr) (n : Nat) (c : Nat) (q : Option Addr) (k : Nat) (d : Nat) (w : World) (R : Ending → World → Prop) (h : VC_scompare p n c q k d w R) : Calls Tryz.prog 45 ([Value.slice
    p n c,
  Value.slice q k d] : List Value).toArray w R := by
  have e : execR2 { P := Tryz.prog, loops := [(2, [(11, Ck.int IntKind.i64)])], pur := pur2, tails := [], joins := [], boxes := [] } Tryz.f45.results.toList R (Tryz.f45.body.getD .skip) (initF [Value.slice
    p n c,
  Value.slice q k
    d] (Tryz.f45.ntmps - ([Value.slice p n c,
  Value.slice q k d] : List Value).length)) w = VC_scompare p n c q k d w R := by kernel_rfl
  have hb : Tryz.f45.body = some (Tryz.f45.body.getD .skip) := by kernel_rfl
  exact calls_of_exec2' (P := Tryz.prog) (fn := Tryz.f45) (c := Tryz.f45.body.getD .skip) (args := [Value.slice p n c,
  Value.slice q k d]) (w := w) (R := R) pur2_ok Tryz.func45 hb e h

def VC_ecmp (id : Nat → Int) (dt : Int) (ar : Int) (gp : Option Addr) (gn : Nat) (gc : Nat) (by_ : Int) (ct : Int) (hp : Option Addr) (hn : Nat) (hc : Nat) (wd : Bool) (fx : Bool) (ov : Bool) (my : Bool) (id2 : Nat → Int) (dt2 : Int) (ar2 : Int) (gp2 : Option Addr) (gn2 : Nat) (gc2 : Nat) (by2_ : Int) (ct2 : Int) (hp2 : Option Addr) (hn2 : Nat) (hc2 : Nat) (wd2 : Bool) (fx2 : Bool) (ov2 : Bool) (my2 : Bool) (w : World) (R : Ending → World → Prop) : Prop :=
 ∀ (n n_1 : Nat) (W : World),
 Loc w.heap.size
 [Blk.mk n_1 103
 (arrI IntKind.u8 id2 32 0 ++ [Value.int IntKind.i64 dt2,
 Value.int IntKind.i64 ar2, Value.slice gp2 gn2 gc2, Value.int IntKind.i64 by2_, Value.int IntKind.i64 ct2,
 Value.slice hp2 hn2 hc2, Value.bool wd2, Value.bool fx2, Value.bool ov2, Value.bool my2])
 2,
 Blk.mk n 103
 (arrI IntKind.u8 id 32 0 ++ [Value.int IntKind.i64 dt, Value.int IntKind.i64 ar,
 Value.slice gp gn gc, Value.int IntKind.i64 by_, Value.int IntKind.i64 ct, Value.slice hp hn hc, Value.bool wd,
 Value.bool fx, Value.bool ov, Value.bool my])
 2]
 w W →
 CallsS Tryz.prog 45 #[Value.slice (some (Addr.mk n 0 none)) 32 32, Value.slice (some (Addr.mk n_1 0 none)) 32 32] W
 fun (e : Ending) (w' : World) =>
 ∃ (x : Int),
 e = Ending.returned (Value.int IntKind.i64 x) ∧
 KeptL [] W w' ∧
 ∀ (n : Nat) (W : World),
 Loc w.heap.size [Blk.mk n 3 [Value.int IntKind.i64 (cI ar ar2), Value.int IntKind.i64 x] 2] w' W →
 CallsS Tryz.prog 43 #[Value.slice (some (Addr.mk n 0 none)) 2 2] W fun (e : Ending) (w' : World) =>
 ∃ (x : Int),
 e = Ending.returned (Value.int IntKind.i64 x) ∧
 KeptL [] W w' ∧ R (Ending.returned (Value.int IntKind.i64 x)) w'
theorem vc_ecmp (id : Nat → Int) (dt : Int) (ar : Int) (gp : Option Addr) (gn : Nat) (gc : Nat) (by_ : Int) (ct : Int) (hp : Option Addr) (hn : Nat) (hc : Nat) (wd : Bool) (fx : Bool) (ov : Bool) (my : Bool) (id2 : Nat → Int) (dt2 : Int) (ar2 : Int) (gp2 : Option Addr) (gn2 : Nat) (gc2 : Nat) (by2_ : Int) (ct2 : Int) (hp2 : Option Addr) (hn2 : Nat) (hc2 : Nat) (wd2 : Bool) (fx2 : Bool) (ov2 : Bool) (my2 : Bool) (w : World) (R : Ending → World → Prop) (h : VC_ecmp id dt ar gp gn gc by_ ct hp hn hc wd fx ov my id2 dt2 ar2 gp2 gn2 gc2 by2_ ct2 hp2 hn2 hc2 wd2 fx2 ov2 my2 w R) : Calls Tryz.prog 42 ([Value.agg
    (arrI IntKind.u8 id 32 0 ++
        [Value.int IntKind.i64 dt, Value.int IntKind.i64 ar, Value.slice gp gn gc, Value.int IntKind.i64 by_,
          Value.int IntKind.i64 ct, Value.slice hp hn hc, Value.bool wd, Value.bool fx, Value.bool ov,
          Value.bool my]).toArray,
  Value.agg
    (arrI IntKind.u8 id2 32 0 ++
        [Value.int IntKind.i64 dt2, Value.int IntKind.i64 ar2, Value.slice gp2 gn2 gc2, Value.int IntKind.i64 by2_,
          Value.int IntKind.i64 ct2, Value.slice hp2 hn2 hc2, Value.bool wd2, Value.bool fx2, Value.bool ov2,
          Value.bool my2]).toArray] : List Value).toArray w R := by
  have e : execR2 { P := Tryz.prog, loops := [], pur := pur2, tails := [(1, 13)], joins := [], boxes := [] } Tryz.f42.results.toList R (Tryz.f42.body.getD .skip) (initF [Value.agg
    (arrI IntKind.u8 id 32 0 ++
        [Value.int IntKind.i64 dt, Value.int IntKind.i64 ar, Value.slice gp gn gc, Value.int IntKind.i64 by_,
          Value.int IntKind.i64 ct, Value.slice hp hn hc, Value.bool wd, Value.bool fx, Value.bool ov,
          Value.bool my]).toArray,
  Value.agg
    (arrI IntKind.u8 id2 32 0 ++
        [Value.int IntKind.i64 dt2, Value.int IntKind.i64 ar2, Value.slice gp2 gn2 gc2, Value.int IntKind.i64 by2_,
          Value.int IntKind.i64 ct2, Value.slice hp2 hn2 hc2, Value.bool wd2, Value.bool fx2, Value.bool ov2,
          Value.bool
            my2]).toArray] (Tryz.f42.ntmps - ([Value.agg
    (arrI IntKind.u8 id 32 0 ++
        [Value.int IntKind.i64 dt, Value.int IntKind.i64 ar, Value.slice gp gn gc, Value.int IntKind.i64 by_,
          Value.int IntKind.i64 ct, Value.slice hp hn hc, Value.bool wd, Value.bool fx, Value.bool ov,
          Value.bool my]).toArray,
  Value.agg
    (arrI IntKind.u8 id2 32 0 ++
        [Value.int IntKind.i64 dt2, Value.int IntKind.i64 ar2, Value.slice gp2 gn2 gc2, Value.int IntKind.i64 by2_,
          Value.int IntKind.i64 ct2, Value.slice hp2 hn2 hc2, Value.bool wd2, Value.bool fx2, Value.bool ov2,
          Value.bool
            my2]).toArray] : List Value).length)) w = VC_ecmp id dt ar gp gn gc by_ ct hp hn hc wd fx ov my id2 dt2 ar2 gp2 gn2 gc2 by2_ ct2 hp2 hn2 hc2 wd2 fx2 ov2 my2 w R := by kernel_rfl
  have hb : Tryz.f42.body = some (Tryz.f42.body.getD .skip) := by kernel_rfl
  exact calls_of_exec2' (P := Tryz.prog) (fn := Tryz.f42) (c := Tryz.f42.body.getD .skip) (args := [Value.agg
    (arrI IntKind.u8 id 32 0 ++
        [Value.int IntKind.i64 dt, Value.int IntKind.i64 ar, Value.slice gp gn gc, Value.int IntKind.i64 by_,
          Value.int IntKind.i64 ct, Value.slice hp hn hc, Value.bool wd, Value.bool fx, Value.bool ov,
          Value.bool my]).toArray,
  Value.agg
    (arrI IntKind.u8 id2 32 0 ++
        [Value.int IntKind.i64 dt2, Value.int IntKind.i64 ar2, Value.slice gp2 gn2 gc2, Value.int IntKind.i64 by2_,
          Value.int IntKind.i64 ct2, Value.slice hp2 hn2 hc2, Value.bool wd2, Value.bool fx2, Value.bool ov2,
          Value.bool my2]).toArray]) (w := w) (R := R) pur2_ok Tryz.func42 hb e h

def VC_cmpOr2 (p : Option Addr) (n : Nat) (c : Nat) (w : World) (R : Ending → World → Prop) : Prop :=
 ∃ (I : List Value → World → Prop),
 ∃ (m : List Value → World → Nat),
 I [Value.int IntKind.i64 0] w ∧
 ∀ (x : Int) (w' : World),
 I [Value.int IntKind.i64 x] w' →
 bsp (decide (x < (↑n : Int)))
 (nn true p fun (b o : Nat) =>
 (0 ≤ x ∧ x < (↑n : Int)) ∧
 ∃ (x_1 : Int),
 w'.cell? (Addr.mk b (o + x.toNat) none) = some (Value.int IntKind.i64 x_1) ∧
 bsp (x_1 != 0) (R (Ending.returned (Value.int IntKind.i64 x_1)) w')
 (I [Value.int IntKind.i64 (IntKind.i64.wrap (x + 1))] w' ∧
 m [Value.int IntKind.i64 (IntKind.i64.wrap (x + 1))] w' < m [Value.int IntKind.i64 x] w'))
 (R (Ending.returned (Value.int IntKind.i64 0)) w')
theorem vc_cmpOr2 (p : Option Addr) (n : Nat) (c : Nat) (w : World) (R : Ending → World → Prop) (h : VC_cmpOr2 p n c w R) : Calls Tryz.prog 43 ([Value.slice
    p n c] : List Value).toArray w R := by
  have e : execR2 { P := Tryz.prog, loops := [(3, [(8, Ck.int IntKind.i64)])], pur := pur2, tails := [], joins := [], boxes := [] } Tryz.f43.results.toList R (Tryz.f43.body.getD .skip) (initF [Value.slice
    p n c] (Tryz.f43.ntmps - ([Value.slice p n c] : List Value).length)) w = VC_cmpOr2 p n c w R := by kernel_rfl
  have hb : Tryz.f43.body = some (Tryz.f43.body.getD .skip) := by kernel_rfl
  exact calls_of_exec2' (P := Tryz.prog) (fn := Tryz.f43) (c := Tryz.f43.body.getD .skip) (args := [Value.slice p n
    c]) (w := w) (R := R) pur2_ok Tryz.func43 hb e h

end Go.Proofs.YtmjanmffnblcoaaGreatDoor

/- The formulas of functions by the symbolic evaluator, and that each gives the call's contract. Written by a program (gen.py). No condition. -/
namespace Go.Proofs.YtmjanmffnblcoaaGreatDoor
set_option maxRecDepth 100000
set_option linter.unusedVariables false

def VC_ecmp1 (a : Array Value) (b : Array Value) (w : World) (R : Ending → World → Prop) : Prop :=
 ∀ (n : Nat) (w1 : World),
 NewB w (Obj.cells a 103) n w1 →
 ∀ (n_1 : Nat) (w1_1 : World),
 NewB w1 (Obj.cells b 103) n_1 w1_1 →
 ∃ (x : Int),
 w1_1.drew.cell? (Addr.mk n (0 + 33) none) = some (Value.int IntKind.i64 x) ∧
 ∃ (x_1 : Int),
 w1_1.drew.cell? (Addr.mk n_1 (0 + 33) none) = some (Value.int IntKind.i64 x_1) ∧
 CallsS Tryz.prog 45
 #[Value.slice (some (Addr.mk n 0 none)) 32 32, Value.slice (some (Addr.mk n_1 0 none)) 32 32] w1_1.drew
 fun (e : Ending) (w' : World) =>
 ∃ (x_2 : Int),
 e = Ending.returned (Value.int IntKind.i64 x_2) ∧
 ∀ (n : Nat) (w1 : World),
 NewB w' (Obj.cells #[Value.int IntKind.i64 (cI x x_1), Value.int IntKind.i64 x_2] 3) n w1 →
 CallsS Tryz.prog 43 #[Value.slice (some (Addr.mk n 0 none)) 2 2] w1 fun (e : Ending) (w' : World) =>
 ∃ (x : Int),
 e = Ending.returned (Value.int IntKind.i64 x) ∧ R (Ending.returned (Value.int IntKind.i64 x)) w'
theorem vc_ecmp1 (a : Array Value) (b : Array Value) (w : World) (R : Ending → World → Prop) (h : VC_ecmp1 a b w R) : Calls Tryz.prog 42 ([Value.agg
    a,
  Value.agg b] : List Value).toArray w R := by
  have e : execR { P := Tryz.prog, loops := [], pur := pur2, tails := [(1, 13)], joins := [], boxes := [] } Tryz.f42.results.toList R (Tryz.f42.body.getD .skip) (initF [Value.agg
    a,
  Value.agg
    b] (Tryz.f42.ntmps - ([Value.agg a, Value.agg b] : List Value).length)) w = VC_ecmp1 a b w R := by kernel_rfl
  have hb : Tryz.f42.body = some (Tryz.f42.body.getD .skip) := by kernel_rfl
  exact calls_of_exec' (P := Tryz.prog) (fn := Tryz.f42) (c := Tryz.f42.body.getD .skip) (args := [Value.agg a,
  Value.agg b]) (w := w) (R := R) pur2_ok Tryz.func42 hb e h

end Go.Proofs.YtmjanmffnblcoaaGreatDoor

/- Chapter 42: the contracts of IndexFunc, ContainsFunc, Held, the comparison of candidates, Delete. No condition but sizes. -/
namespace Go.Proofs.YtmjanmffnblcoaaGreatDoor
open Go.RowKit Go.Sort

/-- A candidate in the memory. -/
structure CX where
  a : AX
  fx : Bool
  ov : Bool
  my : Bool
def cxC (y : CX) : List Value := arrI .u8 y.a.id 32 0 ++ ([.int .i64 y.a.dt, .int .i64 y.a.ar, .slice y.a.gp y.a.gs.length y.a.gc, .int .i64 y.a.by_, .int .i64 y.a.ct, .slice y.a.hp y.a.hs.length y.a.hc, .bool y.a.wd, .bool y.fx, .bool y.ov, .bool y.my] : List Value)
theorem cxC_length (y : CX) : (cxC y).length = 42 := rfl
theorem axC_length (x : AX) : (axC x).length = 39 := rfl
theorem idL_length (f : Nat → Int) : (idL f).length = 32 := rfl
theorem idL_one (f : Nat → Int) : ∀ u ∈ idL f, u.oneCell' = true := by
  intro v h
  obtain ⟨j, hj, e⟩ := List.getElem_of_mem h
  have := arrI_get .u8 f 32 0 j hj
  rw [List.getElem?_eq_getElem hj] at this
  simp at this
  rw [← e, this]; rfl
theorem cxC_one (y : CX) : ∀ u ∈ cxC y, u.oneCell' = true := by
  intro v hv
  rcases List.mem_append.1 hv with h | h
  · exact idL_one _ v h
  · simp at h
    rcases h with rfl | rfl | rfl | rfl | rfl | rfl | rfl | rfl | rfl | rfl <;> rfl
theorem axC_one (x : AX) : ∀ u ∈ axC x, u.oneCell' = true := by
  intro v hv
  rcases List.mem_append.1 hv with h | h
  · exact idL_one _ v h
  · simp at h
    rcases h with rfl | rfl | rfl | rfl | rfl | rfl | rfl <;> rfl

theorem fidx_hit {α : Type} {g : α → Bool} {l : List α} {i : Nat} {y : α} (h : ∀ j z, j < i → l[j]? = some z → g z = false) (hy : l[i]? = some y) (hg : g y = true) : l.findIdx? g = some i := by
  obtain ⟨hi, e⟩ := List.getElem?_eq_some_iff.1 hy
  rw [List.findIdx?_eq_some_iff_getElem]
  refine ⟨hi, by rw [e]; exact hg, fun j hj => ?_⟩
  rw [h j _ hj (List.getElem?_eq_getElem (by omega))]
  decide
theorem fidx_miss {α : Type} {g : α → Bool} {l : List α} (h : ∀ j z, j < l.length → l[j]? = some z → g z = false) : l.findIdx? g = none := by
  rw [List.findIdx?_eq_none_iff]
  intro x hx
  obtain ⟨j, hj, e⟩ := List.getElem_of_mem hx
  exact h j x hj (by rw [List.getElem?_eq_getElem hj, e])
def fiR {α : Type} (g : α → Bool) (l : List α) : Int := match l.findIdx? g with | some i => i | none => -1

theorem eidxI_any (l : List (Nat → Int)) (p : Option Addr) (c : Nat) (f : FuncId) (fa fb : Array Value) (g : (Nat → Int) → Bool) (w : World) (hR : RowA idL 32 w p l) (hl : l.length ≤ 1048576) (hok : okFn Tryz.prog f = true)
    (hF : ∀ y ∈ l, ∀ w1, K0 w w1 → Calls Tryz.prog f (appA fa [.agg (arrI .u8 y 32 0).toArray] fb) w1 fun e w2 => e = .returned (.bool (g y)) ∧ K0 w1 w2) :
    Calls Tryz.prog 113 #[.slice p l.length c, .func (.func f) fa fb] w fun e w' => e = .returned (.int .i64 (fiR g l)) ∧ K0 w w' := by
  refine vc_eidxI p l.length c f fa fb w _ ?_
  refine ⟨fun vs w' => ∃ i : Nat, vs = [.int .i64 (i : Int)] ∧ i ≤ l.length ∧ (∀ j z, j < i → l[j]? = some z → g z = false) ∧ K0 w w',
    fun vs _ => (match vs with | .int _ x :: _ => l.length - x.toNat | _ => 0), ⟨0, rfl, by omega, (fun j z h => by omega), .refl _ _⟩, ?_⟩
  rintro x w1 ⟨i, hv, hi, hno, k1⟩
  simp only [List.cons.injEq, Value.int.injEq, true_and, and_true] at hv
  subst hv
  refine bsp_intro (fun hlt => ?_) (fun hge => ?_)
  · have hlt : i < l.length := by simp at hlt; omega
    obtain ⟨y, b, o, hy, rfl, hat⟩ := (hR.k0 k1).get hlt
    show (0 ≤ (i : Int) ∧ (i : Int) < (l.length : Int)) ∧ _
    rw [Int.toNat_natCast]
    refine ⟨by omega, y, hat, f, fa, fb, rfl, hok, ⟨(hF y (List.mem_of_getElem? hy) w1 k1).mono fun e w2 ⟨he, k2⟩ => ⟨_, he, .of_k0 k2, bsp_intro (fun hg => ?_) (fun hg => ?_)⟩⟩⟩
    · exact ⟨by unfold fiR; rw [fidx_hit hno hy hg], k1.trans k2⟩
    · refine ⟨⟨i + 1, by rw [inc64 (by omega)], hlt, fun j z hj hz => ?_, k1.trans k2⟩, by rw [inc64 (by omega)]; simp only [Int.toNat_natCast]; omega⟩
      rcases Nat.lt_or_ge j i with h | h
      · exact hno j z h hz
      · have : j = i := by omega
        subst this
        rw [hy] at hz
        simp at hz
        subst hz
        exact hg
  · have hi : i = l.length := by simp at hge; omega
    subst hi
    exact ⟨by unfold fiR; rw [fidx_miss hno], k1⟩
theorem fiR_any {α : Type} (g : α → Bool) (l : List α) : decide (fiR g l ≥ 0) = l.any g := by
  unfold fiR
  cases h : l.findIdx? g with
  | none =>
    rw [List.findIdx?_eq_none_iff] at h
    have : l.any g = false := List.any_eq_false.2 fun x hx => by simp [h x hx]
    rw [this]; decide
  | some i =>
    rw [List.findIdx?_eq_some_iff_getElem] at h
    obtain ⟨hi, h1, _⟩ := h
    have : l.any g = true := List.any_eq_true.2 ⟨l[i], List.getElem_mem hi, h1⟩
    rw [this]; simp
theorem econt_any (l : List (Nat → Int)) (p : Option Addr) (c : Nat) (f : FuncId) (fa fb : Array Value) (g : (Nat → Int) → Bool) (w : World) (hR : RowA idL 32 w p l) (hl : l.length ≤ 1048576) (hok : okFn Tryz.prog f = true)
    (hF : ∀ y ∈ l, ∀ w1, K0 w w1 → Calls Tryz.prog f (appA fa [.agg (arrI .u8 y 32 0).toArray] fb) w1 fun e w2 => e = .returned (.bool (g y)) ∧ K0 w1 w2) :
    Calls Tryz.prog 93 #[.slice p l.length c, .func (.func f) fa fb] w fun e w' => e = .returned (.bool (l.any g)) ∧ K0 w w' :=
  vc_econt p l.length c f fa fb w _ ⟨(eidxI_any l p c f fa fb g w hR hl hok hF).mono fun e w1 ⟨he, k1⟩ => ⟨_, he, .of_k0 k1, by rw [← fiR_any], k1⟩⟩
theorem eheld_any (x : AX) (f : FuncId) (fa fb : Array Value) (g : (Nat → Int) → Bool) (w : World) (hR : RowA idL 32 w x.hp x.hs) (hl : x.hs.length ≤ 1048576) (hok : okFn Tryz.prog f = true)
    (hF : ∀ y ∈ x.hs, ∀ w1, K0 w w1 → Calls Tryz.prog f (appA fa [.agg (arrI .u8 y 32 0).toArray] fb) w1 fun e w2 => e = .returned (.bool (g y)) ∧ K0 w1 w2) :
    Calls Tryz.prog 68 #[.agg (axC x).toArray, .func (.func f) fa fb] w fun e w' => e = .returned (.bool (x.hs.any g)) ∧ K0 w w' := by
  refine vc_eheld x.id x.dt x.ar x.gp x.gs.length x.gc x.by_ x.ct x.hp x.hs.length x.hc x.wd f fa fb w _ ?_
  intro n
  refine ⟨x.hp, x.hs.length, x.hc, fun W hW => cell_at (hW.cells 0 rfl) rfl, fun W hW => ?_⟩
  have kW : K0 w W := hW.kk rfl
  exact ⟨(econt_any x.hs x.hp x.hc f fa fb g W (hR.k0 kW) hl hok (fun y hy w1 k1 => hF y hy w1 (kW.trans k1))).mono fun e w1 ⟨he, k1⟩ => ⟨_, he, .of_k0 k1, by rw [Bool.true_and], kW.trans k1⟩⟩
theorem eheldN_any (x : AX) (w : World) : Calls Tryz.prog 68 #[.agg (axC x).toArray, .nilFunc] w fun e w' => e = .returned (.bool false) ∧ K0 w w' := by
  refine vc_eheldN x.id x.dt x.ar x.gp x.gs.length x.gc x.by_ x.ct x.hp x.hs.length x.hc x.wd w _ ?_
  intro n
  exact ⟨none, 0, 0, trivial, fun W hW => ⟨.refl _ _, rfl, hW.kk rfl⟩⟩

theorem eidxC_any (l : List CX) (p : Option Addr) (c : Nat) (f : FuncId) (fa fb : Array Value) (g : CX → Bool) (w : World) (hR : RowA cxC 42 w p l) (hl : l.length ≤ 1048576) (hok : okFn Tryz.prog f = true)
    (hF : ∀ y ∈ l, ∀ w1, K0 w w1 → Calls Tryz.prog f (appA fa [.agg (cxC y).toArray] fb) w1 fun e w2 => e = .returned (.bool (g y)) ∧ K0 w1 w2) :
    Calls Tryz.prog 49 #[.slice p l.length c, .func (.func f) fa fb] w fun e w' => e = .returned (.int .i64 (fiR g l)) ∧ K0 w w' := by
  refine vc_eidxC p l.length c f fa fb w _ ?_
  refine ⟨fun vs w' => ∃ i : Nat, vs = [.int .i64 (i : Int)] ∧ i ≤ l.length ∧ (∀ j z, j < i → l[j]? = some z → g z = false) ∧ K0 w w',
    fun vs _ => (match vs with | .int _ x :: _ => l.length - x.toNat | _ => 0), ⟨0, rfl, by omega, (fun j z h => by omega), .refl _ _⟩, ?_⟩
  rintro x w1 ⟨i, hv, hi, hno, k1⟩
  simp only [List.cons.injEq, Value.int.injEq, true_and, and_true] at hv
  subst hv
  refine bsp_intro (fun hlt => ?_) (fun hge => ?_)
  · have hlt : i < l.length := by simp at hlt; omega
    obtain ⟨y, b, o, hy, rfl, hat⟩ := (hR.k0 k1).get hlt
    show (0 ≤ (i : Int) ∧ (i : Int) < (l.length : Int)) ∧ _
    rw [Int.toNat_natCast]
    refine ⟨by omega, y.a.id, y.a.dt, y.a.ar, y.a.gp, y.a.gs.length, y.a.gc, y.a.by_, y.a.ct, y.a.hp, y.a.hs.length, y.a.hc, y.a.wd, y.fx, y.ov, y.my, hat, f, fa, fb, rfl, hok, ⟨(hF y (List.mem_of_getElem? hy) w1 k1).mono fun e w2 ⟨he, k2⟩ => ⟨_, he, .of_k0 k2, bsp_intro (fun hg => ?_) (fun hg => ?_)⟩⟩⟩
    · exact ⟨by unfold fiR; rw [fidx_hit hno hy hg], k1.trans k2⟩
    · refine ⟨⟨i + 1, by rw [inc64 (by omega)], hlt, fun j z hj hz => ?_, k1.trans k2⟩, by rw [inc64 (by omega)]; simp only [Int.toNat_natCast]; omega⟩
      rcases Nat.lt_or_ge j i with h | h
      · exact hno j z h hz
      · have : j = i := by omega
        subst this
        rw [hy] at hz
        simp at hz
        subst hz
        exact hg
  · have hi : i = l.length := by simp at hge; omega
    subst hi
    exact ⟨by unfold fiR; rw [fidx_miss hno], k1⟩

/-! ### The comparison -/
theorem scompare_any {w : World} {b b' o o' : Nat} {f g : Nat → Int} (h : AtL w b o (idL f)) (h' : AtL w b' o' (idL g)) (c c' : Nat) :
    Calls Tryz.prog 45 #[.slice (some ⟨b, o, none⟩) 32 c, .slice (some ⟨b', o', none⟩) 32 c'] w fun e w' => e = .returned (.int .i64 (cmpIs (idI f) (idI g))) ∧ w' = w := by
  refine vc_scompare (some ⟨b, o, none⟩) 32 c (some ⟨b', o', none⟩) 32 c' w _ ?_
  refine ⟨fun vs w' => ∃ i : Nat, vs = [.int .i64 (i : Int)] ∧ i ≤ 32 ∧ (∀ j, j < i → f j = g j) ∧ w' = w,
    fun vs _ => (match vs with | .int _ x :: _ => 32 - x.toNat | _ => 0), ⟨0, rfl, by omega, (fun j h => by omega), rfl⟩, ?_⟩
  rintro x w1 ⟨i, hv, hi, heq, rfl⟩
  simp only [List.cons.injEq, Value.int.injEq, true_and, and_true] at hv
  subst hv
  refine bsp_intro (fun hlt => ?_) (fun hge => ?_)
  · have hlt : i < 32 := by simp at hlt; omega
    show (0 ≤ (i : Int) ∧ (i : Int) < ((32 : Nat) : Int)) ∧ _
    rw [Int.toNat_natCast]
    refine ⟨by omega, f i, h.cell (by rw [arrI_get .u8 f 32 0 i hlt, Nat.zero_add]), bsp_intro (fun hx => ?_) (fun _ => ?_)⟩
    · exfalso; simp at hx; omega
    show (0 ≤ (i : Int) ∧ (i : Int) < ((32 : Nat) : Int)) ∧ _
    refine ⟨by omega, g i, h'.cell (by rw [arrI_get .u8 g 32 0 i hlt, Nat.zero_add]), ?_⟩
    rw [cI_ne]
    refine bsp_intro (fun hne => ?_) (fun hne => ?_)
    · have hne : f i ≠ g i := by simpa using hne
      exact ⟨by rw [cmpIs_id hlt heq hne], rfl⟩
    · have he : f i = g i := by simpa using hne
      refine ⟨⟨i + 1, by rw [inc64 (by omega)], hlt, fun j hj => ?_, rfl⟩, by rw [inc64 (by omega)]; simp only [Int.toNat_natCast]; omega⟩
      rcases Nat.lt_or_ge j i with h | h
      · exact heq j h
      · have : j = i := by omega
        subst this
        exact he
  · have hi : i = 32 := by simp at hge; omega
    subst hi
    exact bsp_intro (fun h => by simp at h) (fun _ => ⟨by rw [cmpIs_same heq], rfl⟩)
theorem cmpOr2_any (a b : Int) (n c : Nat) (t : TypeId) (w : World) (hb : w.heap[n]? = some (.cells #[.int .i64 a, .int .i64 b] t (0, 0))) :
    Calls Tryz.prog 43 #[.slice (some ⟨n, 0, none⟩) 2 c] w fun e w' => e = .returned (.int .i64 (if a ≠ 0 then a else b)) ∧ w' = w := by
  refine vc_cmpOr2 (some ⟨n, 0, none⟩) 2 c w _ ?_
  refine ⟨fun vs w' => ∃ i : Nat, vs = [.int .i64 (i : Int)] ∧ i ≤ 2 ∧ (0 < i → a = 0) ∧ (1 < i → b = 0) ∧ w' = w,
    fun vs _ => (match vs with | .int _ x :: _ => 2 - x.toNat | _ => 0), ⟨0, rfl, by omega, (fun h => by omega), (fun h => by omega), rfl⟩, ?_⟩
  rintro x w1 ⟨i, hv, hi, ha, hb0, rfl⟩
  simp only [List.cons.injEq, Value.int.injEq, true_and, and_true] at hv
  subst hv
  refine bsp_intro (fun hlt => ?_) (fun hge => ?_)
  · have hlt : i < 2 := by simp at hlt; omega
    show (0 ≤ (i : Int) ∧ (i : Int) < ((2 : Nat) : Int)) ∧ _
    rw [Int.toNat_natCast]
    rcases (show i = 0 ∨ i = 1 by omega) with rfl | rfl
    · refine ⟨by omega, a, cell_at hb rfl, bsp_intro (fun h => ?_) (fun h => ?_)⟩
      · have h : a ≠ 0 := by simpa using h
        exact ⟨by rw [if_pos h], rfl⟩
      · have h : a = 0 := by simpa using h
        exact ⟨⟨1, by rw [inc64 (by omega)], by omega, (fun _ => h), (fun h => by omega), rfl⟩, by rw [inc64 (by omega)]; simp⟩
    · have ha : a = 0 := ha (by omega)
      refine ⟨by omega, b, cell_at hb rfl, bsp_intro (fun h => ?_) (fun h => ?_)⟩
      · exact ⟨by rw [if_neg (by simpa using ha)], rfl⟩
      · have h : b = 0 := by simpa using h
        exact ⟨⟨2, by rw [inc64 (by omega)], by omega, (fun _ => ha), (fun _ => h), rfl⟩, by rw [inc64 (by omega)]; simp⟩
  · have hi : i = 2 := by simp at hge; omega
    subst hi
    have h1 := ha (by omega)
    have h2 := hb0 (by omega)
    exact ⟨by rw [if_neg (by simpa using h1), h2], rfl⟩
def keyX (x : CX) : Int × List Int := (x.a.ar, idI x.a.id)
def cfX (x y : CX) : Int := cfJ (keyX x) (keyX y)
theorem cfX_ord : Ord3 cfX := cfJ_ord.on keyX
theorem keyA_pl (x : AX) : keyA x.pl = (x.ar, idB x.id) := rfl
theorem ecmp_any (x y : CX) (w : World) :
    Calls Tryz.prog 42 #[.agg (cxC x).toArray, .agg (cxC y).toArray] w fun e w' => e = .returned (.int .i64 (cfX x y)) ∧ K0 w w' ∧ w.drawn ≤ w'.drawn := by
  refine vc_ecmp1 _ _ w _ ?_
  intro n w1 hn n1 w2 hn1
  have b1 := (hn1.kp (fun _ => False)).blk hn.block (fun h => h)
  have b2 := hn1.block
  have hd : w2.drawn = w.drawn := by rw [hn1.hw, hn.hw]; rfl
  have k2 : K0 w w2 := (hn.kp _).trans (hn1.kp _)
  refine ⟨x.a.ar, cell_at (blk_drew b1) rfl, y.a.ar, cell_at (blk_drew b2) rfl, ?_⟩
  refine ⟨(scompare_any (AtL_block (blk_drew b1) rfl) (AtL_block (blk_drew b2) rfl) 32 32).mono fun e w3 ⟨he, hw⟩ => ⟨_, he, fun n3 w5 hn5 => ?_⟩⟩
  subst hw
  refine ⟨(cmpOr2_any _ _ n3 2 _ w5 hn5.block).mono fun e w6 ⟨he, hw⟩ => ⟨_, he, rfl, ?_, ?_⟩⟩
  · rw [hw]; exact k2.drew.trans (hn5.kp _)
  · rw [hw, hn5.hw]
    show w.drawn ≤ w2.drawn + 1
    omega

/-! ### Delete -/
theorem candInfo : (zeroValue 103).run Tryz.prog = fun w => .ok (.agg (arrI .u8 (fun _ => 0) 32 0 ++ ([.int .i64 0, .int .i64 0, .slice none 0 0, .int .i64 0, .int .i64 0, .slice none 0 0, .bool false, .bool false, .bool false, .bool false] : List Value)).toArray) w := by kernel_rfl
theorem edelete_any (l : List CX) (p : Option Addr) (c i : Nat) (w : World) {base : Nat} (ho : w.ownsRow base 103 42 (.slice p l.length c) l.length (l.flatMap cxC)) (hi : i < l.length) (hl : l.length ≤ 1048576) :
    Calls Tryz.prog 52 #[.slice p l.length c, .int .i64 (i : Int), .int .i64 ((i + 1 : Nat) : Int)] w fun e w' =>
      e = .returned (.slice p (l.eraseIdx i).length c) ∧ w'.ownsRow base 103 42 (.slice p (l.eraseIdx i).length c) (l.eraseIdx i).length ((l.eraseIdx i).flatMap cxC) ∧ Kp (fun k => (Value.slice p l.length c).ownBlock = some k) w w' := by
  have hc := own_le ho
  have hel : (l.eraseIdx i).length = l.length - 1 := List.length_eraseIdx_of_lt hi
  refine vc_edelete p l.length c i ((i + 1 : Nat) : Int) w _ ?_
  unfold VC_edelete
  simp only [Int.toNat_natCast]
  refine ⟨⟨by omega, by omega, by omega, by omega⟩, bsp_intro (fun h => by exfalso; simp at h; omega) (fun _ => ⟨by omega, by omega, fun W hW => ?_⟩)⟩
  have kW : K0 w W := hW.kk rfl
  have hoW := owns_kp ho kW (fun _ _ h => h)
  have hlen := ho.1
  have one : ∀ u ∈ l.flatMap cxC, u.oneCell' = true := fun u hu => by obtain ⟨z, _, hz⟩ := List.mem_flatMap.1 hu; exact cxC_one z u hz
  have hbase : base ≤ W.heap.size := by
    rcases hoW.2 with ⟨_, h0⟩ | ⟨g, cap, cur, _, hb, hg, _⟩
    · omega
    · have := block_lt hg; omega
  refine ⟨base, _, _, own_pre hoW (Nat.le_of_lt hi) (by omega), ?_, src_drop hoW one (i := i + 1) hi, by omega, by omega, hbase, fun p' c' w1 ho1 hg1 hroom => ?_⟩
  · rw [List.length_drop, hlen, Nat.sub_mul]
  obtain ⟨rfl, rfl⟩ := hroom (by omega)
  have hk1 := kp_grown hg1
  refine ⟨.of_kp hk1 (fun n hn => by cases hn), by omega, ?_⟩
  rw [erase_flat cxC 42 l i cxC_length] at ho1
  have em : i + (l.length - (i + 1)) = l.length - 1 := by omega
  rw [em] at ho1 ⊢
  rcases ho1.2 with ⟨hv, h0⟩ | ⟨g, cap, cur, hv, hb, hg, h4, h5, h6, h7⟩
  · -- nothing stays: the row is there still
    exfalso
    simp only [Value.slice.injEq] at hv
    rcases hoW.2 with ⟨hv', h0'⟩ | ⟨g, cap, cur, hv', _⟩
    · omega
    · simp only [Value.slice.injEq] at hv'
      rw [hv.1] at hv'
      simp at hv'
  simp only [Value.slice.injEq, true_and] at hv
  obtain ⟨rfl, rfl⟩ := hv
  have eA : slA (some (Addr.mk g 0 none)) c' (l.length - 1) 42 = some ⟨g, (l.length - 1) * 42, none⟩ := by
    unfold slA
    rw [if_neg (by omega)]
    simp [add_plain]
  have hz := clear_row (P := Tryz.prog) (w := w1) (t := 98) Tryz.underlying98 (fun w => congrFun candInfo w) (b := g) (o := (l.length - 1) * 42) (m := 1) (c := c' - (l.length - 1)) hg (by decide)
    (by rw [h6]; show (l.length - 1) * 42 + 1 * 42 ≤ c' * 42; omega) (fun v hv => by
      rcases List.mem_append.1 hv with h | h
      · exact idL_one _ v h
      · simp at h
        rcases h with h | h | h <;> (rcases h with rfl | h <;> first | rfl | (subst h; rfl) | (rcases h with rfl | rfl <;> rfl)))
  obtain ⟨w2, hb2, k2, hblk⟩ := hz
  refine ⟨w2, ?_, .of_kp k2 (fun n hn => by cases hn), by rw [hel], ?_, ?_⟩
  · rw [eA]
    rw [show l.length - (l.length - 1) = 1 by omega]
    exact hb2
  · rw [hel]
    exact own_tail ho1 hg (Nat.le_refl _) hblk
  · have e1 : ∀ k, (Value.slice (some (Addr.mk g 0 none)) i c').ownBlock = some k ↔ k = g := fun k => by simp [Value.ownBlock, eq_comm]
    refine (kW.mono (fun _ _ h => h.elim)).trans ((hk1.mono fun k _ h => ?_).trans (k2.mono fun k _ h => ?_))
    · show (Value.slice (some (Addr.mk g 0 none)) l.length c').ownBlock = some k
      have := (e1 k).1 h
      rw [this]; rfl
    · show (Value.slice (some (Addr.mk g 0 none)) l.length c').ownBlock = some k
      rw [h]; rfl

end Go.Proofs.YtmjanmffnblcoaaGreatDoor

/-
  DERIVED: THE SHELF's CONTRACTS AT THIS DUMP, IN PLAIN WORDS (tools/lay-plain.mjs out of 'TryzShelf.lean', which tools/lay-shelf.mjs wrote): THE SAME DECLARATIONS UNDER THE SAME NAMES: 'import', 'namespace', 'open', 'def', 'theorem' AND NOTHING ELSE: no command of the shelf's: FOR A HAND-IN. Each laying: the table of numbers ('.._ren') and one theorem, a field a fact of the dump's own or the kernel's comparison; each contract: ONE APPLICATION.
-/
namespace Go.Proofs
open Go.Shelf
def Tryz.laysSlF06_f41_ren : Go.Shelf.Ren := ⟨fun | 6 => 41 | 15 => 65 | 14 => 64 | 28 => 90 | 29 => 91 | 20 => 82 | 21 => 83 | 22 => 84 | 23 => 85 | 24 => 86 | 25 => 87 | 26 => 88 | 27 => 89 | 46 => 108 | 47 => 109 | 48 => 110 | 49 => 111 | 50 => 112 | 57 => 119 | n => n, fun | 22 => 98 | 24 => 103 | 25 => 108 | 3 => 3 | 39 => 138 | 0 => 0 | 53 => 158 | 55 => 160 | 4 => 4 | 46 => 151 | 45 => 150 | 50 => 155 | 5 => 5 | 9 => 9 | 66 => 176 | 70 => 180 | 76 => 187 | 77 => 83 | n => n, fun | n => n⟩
theorem Tryz.laysSlF06_f41 : Go.Proofs.SlLaysF0.n6 Tryz.prog Tryz.laysSlF06_f41_ren := {
  mixed := by kernel_rfl
  f6 := ⟨Tryz.f41.name, by decide, Tryz.func41.trans (congrArg some (by kernel_rfl))⟩
  f14 := ⟨Tryz.f64.name, by decide, Tryz.func64.trans (congrArg some (by kernel_rfl))⟩
  f15 := Tryz.func65.trans (congrArg some (by kernel_rfl))
  f20 := ⟨Tryz.f82.name, by decide, Tryz.func82.trans (congrArg some (by kernel_rfl))⟩
  f21 := ⟨Tryz.f83.name, by decide, Tryz.func83.trans (congrArg some (by kernel_rfl))⟩
  f22 := ⟨Tryz.f84.name, by decide, Tryz.func84.trans (congrArg some (by kernel_rfl))⟩
  f23 := ⟨Tryz.f85.name, by decide, Tryz.func85.trans (congrArg some (by kernel_rfl))⟩
  f24 := ⟨Tryz.f86.name, by decide, Tryz.func86.trans (congrArg some (by kernel_rfl))⟩
  f25 := ⟨Tryz.f87.name, by decide, Tryz.func87.trans (congrArg some (by kernel_rfl))⟩
  f26 := ⟨Tryz.f88.name, by decide, Tryz.func88.trans (congrArg some (by kernel_rfl))⟩
  f27 := ⟨Tryz.f89.name, by decide, Tryz.func89.trans (congrArg some (by kernel_rfl))⟩
  f28 := Tryz.func90.trans (congrArg some (by kernel_rfl))
  f29 := Tryz.func91.trans (congrArg some (by kernel_rfl))
  f46 := ⟨Tryz.f108.name, by decide, Tryz.func108.trans (congrArg some (by kernel_rfl))⟩
  f47 := Tryz.func109.trans (congrArg some (by kernel_rfl))
  f48 := Tryz.func110.trans (congrArg some (by kernel_rfl))
  f49 := ⟨Tryz.f111.name, by decide, Tryz.func111.trans (congrArg some (by kernel_rfl))⟩
  f50 := ⟨Tryz.f112.name, by decide, Tryz.func112.trans (congrArg some (by kernel_rfl))⟩
  f57 := ⟨Tryz.f119.name, by decide, Tryz.func119.trans (congrArg some (by kernel_rfl))⟩
  t0 := Tryz.underlying0
  a0 := Tryz.isAgg0
  z0 := Tryz.sizeOf0
  v0 := Tryz.zeroValue0
  t3 := Tryz.underlying3
  a3 := Tryz.isAgg3
  z3 := Tryz.sizeOf3
  v3 := Tryz.zeroValue3
  t4 := Tryz.underlying4
  a4 := Tryz.isAgg4
  z4 := Tryz.sizeOf4
  v4 := Tryz.zeroValue4
  t5 := Tryz.underlying5
  a5 := Tryz.isAgg5
  z5 := Tryz.sizeOf5
  v5 := Tryz.zeroValue5
  t9 := Tryz.underlying9
  a9 := Tryz.isAgg9
  z9 := Tryz.sizeOf9
  v9 := Tryz.zeroValue9
  t22 := Tryz.underlying98
  a22 := Tryz.isAgg98
  z22 := Tryz.sizeOf98
  v22 := Tryz.zeroValue98
  t25 := Tryz.underlying108
  a25 := Tryz.isAgg108
  z25 := Tryz.sizeOf108
  v25 := Tryz.zeroValue108
  t39 := Tryz.underlying138
  a39 := Tryz.isAgg138
  z39 := Tryz.sizeOf138
  v39 := Tryz.zeroValue138
  t45 := Tryz.underlying150
  a45 := Tryz.isAgg150
  z45 := Tryz.sizeOf150
  v45 := Tryz.zeroValue150
  t46 := Tryz.underlying151
  a46 := Tryz.isAgg151
  z46 := Tryz.sizeOf151
  v46 := Tryz.zeroValue151
  t50 := Tryz.underlying155
  a50 := Tryz.isAgg155
  z50 := Tryz.sizeOf155
  v50 := Tryz.zeroValue155
  t53 := Tryz.underlying158
  a53 := Tryz.isAgg158
  z53 := Tryz.sizeOf158
  v53 := Tryz.zeroValue158
  t55 := Tryz.underlying160
  a55 := Tryz.isAgg160
  z55 := Tryz.sizeOf160
  v55 := Tryz.zeroValue160
  t66 := Tryz.underlying176
  a66 := Tryz.isAgg176
  z66 := Tryz.sizeOf176
  v66 := Tryz.zeroValue176
  t70 := Tryz.underlying180
  a70 := Tryz.isAgg180
  z70 := Tryz.sizeOf180
  v70 := Tryz.zeroValue180
  t76 := Tryz.underlying187
  a76 := Tryz.isAgg187
  z76 := Tryz.sizeOf187
  v76 := Tryz.zeroValue187
  t77 := Tryz.underlying83
  a77 := Tryz.isAgg83
  z77 := Tryz.sizeOf83
  v77 := Tryz.zeroValue83 }
open Go.RowKit Go.Lib in
/-- slices.SortFunc at no element. -/
theorem Tryz.slices_SortFunc_none41 (p : Option Addr) (cap : Nat) (fv : Value) (w : World) :
    Calls Tryz.prog 41 #[.slice p 0 cap, fv] w fun e w' => e = .returned (.tuple #[]) ∧ w' = w := AnyF.slices_SortFunc_none Tryz.laysSlF06_f41 p cap fv w
end Go.Proofs

/- Chapter 42: sorting of candidates by the library's contract of slices.SortFunc. -/
namespace Go.Proofs.YtmjanmffnblcoaaGreatDoor
open Go.RowKit Go.Sort

theorem sortW_kp {α : Type} [Inhabited α] (enc : α → List Value) (k : Nat) (w : World) (blk off m : Nat) (dk : Array α) (os : Array Obj) : Kp (· = blk) w (sortWorldK enc k w blk off m dk os) := by
  refine ⟨rfl, rfl, rfl, size_sortWorldK_c enc k w blk off m dk os, fun i hi hne => ?_⟩
  show (((Sort.ahead w m).heap.modify blk _) ++ os)[i]? = _
  rw [Array.getElem?_append_left (by simpa [Sort.ahead] using hi), Array.getElem?_modify, if_neg (fun e => hne e.symm)]
  rfl
/-- The row's block is of the same make. -/
theorem sortW_blk {α : Type} [Inhabited α] (enc : α → List Value) (k : Nat) (w : World) (blk off m : Nat) (dk : Array α) (os : Array Obj) {cur : Array Value} {t : TypeId} (h : w.heap[blk]? = some (.cells cur t (0, 0))) : ∃ cur' : Array Value, cur'.size = cur.size ∧ (sortWorldK enc k w blk off m dk os).heap[blk]? = some (.cells cur' t (0, 0)) := by
  have hlt := block_lt h
  refine ⟨putCells id off (flatK enc k dk) cur, by simp [putCells], ?_⟩
  show (((Sort.ahead w m).heap.modify blk (onCells (putCells id off (flatK enc k dk)))) ++ os)[blk]? = _
  rw [Array.getElem?_append_left (by simpa [Sort.ahead] using hlt), Array.getElem?_modify, if_pos rfl]
  have e : (Sort.ahead w m).heap[blk]? = w.heap[blk]? := rfl
  rw [e, h]
  rfl
instance : Inhabited AX := ⟨⟨fun _ => 0, 0, 0, none, 0, [], 0, 0, none, 0, [], false⟩⟩
instance : Inhabited CX := ⟨⟨default, false, false, false⟩⟩
theorem cxC_flat (l : List CX) : (l.flatMap cxC).length = l.length * 42 := len_flat cxC 42 l (fun _ _ => rfl)
set_option maxHeartbeats 1000000 in
theorem esort_any (cs : List CX) (p : Option Addr) (c : Nat) (w : World) {base : Nat} (ho : w.ownsRow base 103 42 (.slice p cs.length c) cs.length (cs.flatMap cxC)) (hl : cs.length ≤ 1000000) :
    Calls Tryz.prog 41 #[.slice p cs.length c, .func (.func 42) #[] #[]] w fun e w' => e = .returned (.tuple #[]) ∧
      ∃ cs' : List CX, cs'.Perm cs ∧ (cs'.Pairwise fun x y => ¬ cfX y x < 0) ∧
        w'.ownsRow base 103 42 (.slice p cs'.length c) cs'.length (cs'.flatMap cxC) ∧ Kp (fun i => (Value.slice p cs.length c).ownBlock = some i) w w' := by
  rcases Nat.eq_zero_or_pos cs.length with h0 | h0
  · have : cs = [] := List.eq_nil_of_length_eq_zero h0
    subst this
    exact (Tryz.slices_SortFunc_none41 p c _ w).mono fun e w' ⟨he, hw⟩ => ⟨he, [], .refl _, .nil, by rw [hw]; exact ho, by rw [hw]; exact .refl _ _⟩
  rcases ho.2 with ⟨_, hz⟩ | ⟨g, cap, cur, he, hbase, hg, hcap, hmax, hcs, _⟩
  · omega
  simp only [Value.slice.injEq, true_and] at he
  obtain ⟨rfl, rfl⟩ := he
  have hcell : ∀ k x, cs[k]? = some x → ∀ j v, (cxC x)[j]? = some v → w.cell? ⟨g, k * 42 + j, none⟩ = some v := fun k x hk j v hv => by
    have hj : j < 42 := by rw [← cxC_length x]; exact (List.getElem?_eq_some_iff.1 hv).1
    obtain ⟨g', e', hc⟩ := own_cellL ho (i := k * 42 + j) (v := v) (by rw [flat_get cxC 42 cs k x j (fun y _ => cxC_length y) hk hj]; exact hv)
    simp only [Option.some.injEq, Addr.mk.injEq, and_true] at e'
    subst e'
    exact hc
  have key : ∀ (d : Array CX) (t : Nat), t < d.size * 42 → ∃ x v, d[t / 42]? = some x ∧ (cxC x)[t % 42]? = some v ∧ (flatK cxC 42 d)[t]! = v := fun d t ht => by
    have h1 : t / 42 < d.size := by omega
    have h2 : t % 42 < (cxC d[t / 42]!).length := by rw [cxC_length]; omega
    refine ⟨d[t / 42]!, (cxC d[t / 42]!)[t % 42], ?_, List.getElem?_eq_getElem h2, ?_⟩
    · rw [Array.getElem?_eq_getElem h1, getElem!_pos d _ h1]
    · rw [get_flatK cxC 42 d t ht, getElem!_pos (cxC d[t / 42]!) (t % 42) h2]
  have hH : HoldsK cxC 42 w g 0 cs.toArray := by
    intro t ht
    rw [size_flatK] at ht
    obtain ⟨x, v, h1, h2, h3⟩ := key cs.toArray t ht
    refine ⟨?_, frozen_block hg _⟩
    rw [h3, Nat.zero_add]
    have := hcell (t / 42) x (by simpa using h1) (t % 42) v h2
    rw [show t / 42 * 42 + t % 42 = t by omega] at this
    exact this
  have eg : ∀ args w, (callFunc 42 args).run Tryz.prog w = .ok (.enter 42 args) w := enters_of Tryz.func42 (by kernel_rfl) rfl
  have hcmp : CmpLays Tryz.prog 42 #[] cxC 42 cfX g 0 cs.toArray.size w := fun m os dk _ x y => (ecmp_any x y _).mono fun e w' ⟨he, hk, hd⟩ => ⟨he, grow_of hk hd⟩
  have hS := AnyQ.slices_SortFunc (α := CX) Tryz.laysSlF06_f41 42 Tryz.isAgg103 Tryz.sizeOf103 cxC cxC_length cxC_one cfX cfX_ord.swo 42 #[] g 0 c cs.toArray w eg hcmp hH (block_lt hg) (by simp; omega)
  change Calls Tryz.prog 41 #[.slice (some ⟨g, 0, none⟩) cs.length c, .func (.func 42) #[] #[]] w _ at hS
  refine hS.mono fun e w' ⟨he, d', m, os, hperm, hsort, hw⟩ => ?_
  have hs1 : d'.size = cs.length := by simpa using hperm.1
  have hp : d'.toList.Perm cs := by
    have h1 := hperm.1
    have h2 := hperm.2.2
    rw [show d'.extract 0 cs.toArray.size = d' from by rw [← h1]; exact Array.extract_size] at h2
    rw [show cs.toArray.extract 0 cs.toArray.size = cs.toArray from Array.extract_size] at h2
    exact h2
  have hlen : d'.toList.length = cs.length := hp.length_eq
  refine ⟨he, d'.toList, hp, ?_, ?_, ?_⟩
  · rw [List.pairwise_iff_getElem]
    intro i j hi hj hij
    have := hsort i j (Nat.zero_le _) hij (by simp only [List.size_toArray]; omega)
    have e1 : d'[i]! = d'.toList[i] := by
      rw [getElem!_pos d' i (by simpa using hi)]
      simp
    have e2 : d'[j]! = d'.toList[j] := by
      rw [getElem!_pos d' j (by simpa using hj)]
      simp
    rw [e1, e2] at this
    intro hc
    have h3 : decide (cfX d'.toList[j] d'.toList[i] < 0) = true := decide_eq_true hc
    rw [show ltOf cfX d'.toList[j] d'.toList[i] = decide (cfX d'.toList[j] d'.toList[i] < 0) from rfl, h3] at this
    cases this
  · obtain ⟨cur', hc1, hc2⟩ := sortW_blk cxC 42 w g 0 m d' os hg
    refine ⟨cxC_flat _, .inr ⟨g, c, cur', by rw [hlen], hbase, by rw [hw]; exact hc2, by omega, hmax, by rw [hc1, hcs], ?_⟩⟩
    have hHo := holdsK_sortWorldK_c cxC 42 w g 0 cs.toArray d' m os hH (block_lt hg) hperm.1
    apply List.ext_getElem?
    intro t
    rw [List.getElem?_take]
    rcases Nat.lt_or_ge t (d'.toList.length * 42) with ht | ht
    · rw [if_pos ht]
      have ht' : t < d'.size * 42 := by simpa using ht
      have h1 := (hHo t (by rw [size_flatK]; exact ht')).1
      obtain ⟨x', v', h3, h4, h5⟩ := key d' t ht'
      rw [h5, Nat.zero_add, cell_block hc2] at h1
      rw [Array.getElem?_toList, h1]
      have := flat_get cxC 42 d'.toList (t / 42) x' (t % 42) (fun y _ => cxC_length y) (by simpa using h3) (by omega)
      rw [show t / 42 * 42 + t % 42 = t by omega] at this
      rw [this, h4]
      rfl
    · rw [if_neg (by omega), List.getElem?_eq_none (by rw [cxC_flat]; exact ht)]
  · rw [hw]
    exact (sortW_kp cxC 42 w g 0 m d' os).mono fun i _ e => by rw [e]; rfl

end Go.Proofs.YtmjanmffnblcoaaGreatDoor
