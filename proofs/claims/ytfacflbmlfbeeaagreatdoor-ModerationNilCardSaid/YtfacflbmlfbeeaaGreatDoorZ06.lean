/- delete of a map's entry, clear of a row's end, slices that are shorter. Generic: no program, no condition. -/
import Derived.Test.YtfacflbmlfbeeaaGreatDoorZ04
import Derived.Test.YtfacflbmlfbeeaaGreatDoorZ05
import Derived.Maps.RangeRun
import Derived.Test.YtfacflbmlfbeeaaGreatDoorZ03
import Derived.Shelf.SlGeneric
import Derived.Shelf.SlSortCmp.NoneTotal
import Derived.Ground.SlsfProg
import Derived.Test.YtfacflbmlfbeeaaGreatDoorProg
import Derived.Test.YtfacflbmlfbeeaaGreatDoorZ02
import Derived.KernelRfl
import Derived.Lib.BytesEntry
import Derived.Sort.Grow
import Derived.RangeFuncNested
import Derived.RangeFuncBound
import Derived.RangeFuncCalls
import Derived.RangeFuncLeaves
import Derived.RangeFuncBox
import Derived.Shelf.Abstract
import Derived.Shelf.RegionOpen
import Derived.WalkKit
import Derived.OwnWalkIn
import Derived.TacticsInMore
import Derived.LoopNIn
import Derived.LoopIn
namespace Go.Proofs.YtfacflbmlfbeeaaGreatDoor
open Go.RowKit Go.Maps

theorem map_erase {α β : Type} (f : α → β) : ∀ (l : List α) (i : Nat), (l.eraseIdx i).map f = (l.map f).eraseIdx i
  | [], _ => rfl
  | _ :: _, 0 => rfl
  | x :: l, i + 1 => by simp [map_erase f l i]
section
variable {α : Type} {P : Program} {k t e : TypeId} {enc : α → Value} {w w1 : World} {b : Nat} {l : List (α × Value)}
variable [DecidableEq α]
theorem adel_none {β : Type} {l : List (α × β)} {a : α} (h : ∀ p ∈ l, p.1 ≠ a) : adel l a = l := List.filter_eq_self.2 fun p hp => by simp [h p hp]
theorem adel_at {β : Type} : ∀ {l : List (α × β)} {a : α} {v : β} {j : Nat}, (l.Pairwise fun p q => p.1 ≠ q.1) → l[j]? = some (a, v) → adel l a = l.eraseIdx j
  | [], a, v, j, _, h => by simp at h
  | (x, u) :: l, a, v, 0, hd, h => by
    simp at h
    obtain ⟨rfl, rfl⟩ := h
    have := adel_none (fun p hp => fun e => (List.pairwise_cons.1 hd).1 p hp e.symm)
    unfold adel at this ⊢
    rw [List.filter_cons, if_neg (by simp), this]; rfl
  | (x, u) :: l, a, v, j + 1, hd, h => by
    have h' : l[j]? = some (a, v) := by simpa using h
    have hne : x ≠ a := (List.pairwise_cons.1 hd).1 (a, v) (List.mem_of_getElem? h')
    have ih := adel_at (List.pairwise_cons.1 hd).2 h'
    unfold adel at ih ⊢
    rw [List.filter_cons, if_pos (by simp [hne]), ih]; rfl
theorem aget_adel {β : Type} (l : List (α × β)) (a c : α) : aget (adel l a) c = if a = c then none else aget l c := by
  induction l with
  | nil => simp [adel, aget]
  | cons p r ih =>
    obtain ⟨x, u⟩ := p
    unfold adel at ih ⊢
    rw [List.filter_cons]
    by_cases h : x = a
    · subst h
      rw [if_neg (by simp), ih]
      by_cases h2 : x = c
      · rw [if_pos h2, if_pos h2]
      · rw [if_neg h2, if_neg h2]; simp [aget, h2]
    · rw [if_pos (by simp [h])]
      unfold aget
      by_cases h2 : x = c
      · subst h2; simp [Ne.symm h]
      · simp only [h2, if_false]; exact ih
variable (hinj : ∀ x y, enc x = enc y → x = y)
include hinj
/-- An entry of a map is struck. -/
theorem MapB.del (h : MapB P k enc w b l) (K : Keyed P k) (ht : P.underlying t = some (.map k e)) {a : α} {kl : Lit} (ha : keyOf P k (enc a) = some kl) :
    ∃ w1, BltP P .delete [t, k] [.map (some b), enc a] w w1 ∧ MapB P k enc w1 b (adel l a) ∧ Kp (· = b) w w1 := by
  obtain ⟨es, c, hb, he⟩ := h.blk
  have hkp : ∀ o, Kp (· = b) w (ChangeMaps.setBlock w b o) := fun o => ⟨rfl, rfl, rfl, by simp [ChangeMaps.setBlock], fun i _ hi => ChangeMaps.heap_setBlock_other hb _ (fun e => hi (by rw [e]))⟩
  have hkeys : ∀ p ∈ adel l a, ∃ kl, keyOf P k (enc p.1) = some kl := fun p hp => h.key p (List.mem_filter.1 hp).1
  have hdis : (adel l a).Pairwise fun p q => p.1 ≠ q.1 := List.Pairwise.sublist List.filter_sublist h.dis
  rcases map_find hinj K he h.key h.dis ha (w := w) with ⟨h1, h2⟩ | ⟨j, x, u, h1, h2, h3, h4, h5⟩
  · refine ⟨ChangeMaps.setBlock w b (.map es c), ⟨fun ty cs => ?_⟩, ⟨⟨_, _, ChangeMaps.heap_setBlock_same hb _, ?_⟩, hkeys, hdis, fun es' c' h' => by rw [ChangeMaps.heap_setBlock_same hb] at h'; cases h'; exact h.brn es c hb⟩, hkp _⟩
    · simp [builtin, Builtin.delete_, run_underlying ht, MapKept.run_getObj_map hb, K.check w _ ha, h2, MapKept.run_setObj_map _ hb, Result.andThen, ChangeMaps.setBlock]
    · rw [adel_none (aget_none.1 h1), he]
  · refine ⟨ChangeMaps.setBlock w b (.map (es.eraseIdxIfInBounds j) c), ⟨fun ty cs => ?_⟩, ⟨⟨_, _, ChangeMaps.heap_setBlock_same hb _, ?_⟩, hkeys, hdis, fun es' c' h' => by
      rw [ChangeMaps.heap_setBlock_same hb] at h'
      cases h'
      have h6 := h.brn es c hb
      have hs : List.Sublist (es.eraseIdxIfInBounds j).toList es.toList := by rw [Array.toList_eraseIdxIfInBounds]; exact List.eraseIdx_sublist _ _
      exact ⟨h6.1.sublist (hs.map _), fun x hx => h6.2 x (hs.subset hx)⟩⟩, hkp _⟩
    · simp [builtin, Builtin.delete_, run_underlying ht, MapKept.run_getObj_map hb, K.check w _ ha, h2, MapKept.run_setObj_map _ hb, Result.andThen, ChangeMaps.setBlock]
    · rw [adel_at h.dis h3]
      rw [map_erase, ← he, ← map_erase]
      simp
end

/-! ### The end of a row is cleared -/
theorem putL_len : ∀ (vs c : List Value) (o : Nat), (putL c o vs).length = c.length
  | [], c, o => rfl
  | v :: r, c, o => by simp only [putL]; rw [putL_len r]; simp
theorem oneB_all : ∀ l : List Value, (∀ v ∈ l, v.oneCell' = true) → oneB l = true
  | [], _ => rfl
  | v :: r, h => by
    have h1 := h v (by simp)
    have h2 := oneB_all r (fun u hu => h u (by simp [hu]))
    cases v <;> first | exact h2 | (simp [Value.oneCell'] at h1)
theorem zeroCells_mem {z : Array Value} {n : Nat} {v : Value} (h : v ∈ (Builtin.zeroCells z n).toList) : v ∈ z.toList := by
  unfold Builtin.zeroCells at h
  rw [Array.toList_map, List.mem_map] at h
  obtain ⟨i, hi, rfl⟩ := h
  have hi : i < n * z.size := by simpa using hi
  have hz : 0 < z.size := by
    rcases Nat.eq_zero_or_pos z.size with h0 | h0
    · rw [h0] at hi; omega
    · exact h0
  have : i % z.size < z.size := Nat.mod_lt _ hz
  rw [getElem!_pos z _ this]
  simp
theorem zeroCells_len {z : Array Value} {n : Nat} : (Builtin.zeroCells z n).toList.length = n * z.size := by simp [Builtin.zeroCells]
theorem clear_row {P : Program} {w : World} {t e T : TypeId} (ht : P.underlying t = some (.slice e)) {z : Value} (hz : ∀ w, (zeroValue e).run P w = .ok z w) {b o m c : Nat} {cells : Array Value} (hb : w.heap[b]? = some (.cells cells T (0, 0)))
    (hm : 0 < m) (hl : o + m * z.cells.size ≤ cells.size) (h1 : ∀ v ∈ z.cells.toList, v.oneCell' = true) :
    ∃ w1, BltP P .clear [t] [.slice (some ⟨b, o, none⟩) m c] w w1 ∧ Kp (· = b) w w1 ∧ w1.heap[b]? = some (.cells (putL cells.toList o (Builtin.zeroCells z.cells m).toList).toArray T (0, 0)) := by
  have hst := run_storeCells_w (P := P) (b := b) (o := o) (Builtin.zeroCells z.cells m).toList 0 w (oneB_all _ fun v hv => h1 v (zeroCells_mem hv)) (fun j hj => by
    rw [zeroCells_len] at hj
    exact cell_wr hb (by omega))
  refine ⟨wset w b o (Builtin.zeroCells z.cells m).toList, ⟨fun ty cs => ?_⟩, wset_kp _ _ _, wset_block _ _ _ _ hb⟩
  obtain ⟨m, rfl⟩ : ∃ k, m = k + 1 := ⟨m - 1, by omega⟩
  rw [Nat.add_zero] at hst
  simp [builtin, Builtin.clear_, run_underlying ht, hz, hst, Result.andThen]
end Go.Proofs.YtfacflbmlfbeeaaGreatDoor

/- Ranges over maps: an iterator's block, what is left, a step. Generic: no program, no condition. -/
namespace Go.Proofs.YtfacflbmlfbeeaaGreatDoor
open Go.RowKit Go.Maps

/-- How many entries are left. -/
def leftN (w : World) (r b : Nat) : Nat := match w.heap[r]?, w.heap[b]? with
  | some (.mapIter _ _ seen _), some (.map es _) => (leftOf es seen).size
  | _, _ => 0
/-- Block r holds an iterator over the map in block b; todo is left. -/
structure RngB {α : Type} (enc : α → Value) (w : World) (r b : Nat) (todo : List (α × Value)) : Prop where
  h : ∃ es clock since c0 seen, w.heap[b]? = some (.map es clock) ∧ w.heap[r]? = some (.mapIter (some b) since seen c0) ∧ (∀ x ∈ es.toList, x.born < since) ∧ since ≤ c0 ∧ since ≤ clock ∧ (es.toList.map (·.born)).Nodup ∧
    (leftOf es seen).toList.map (fun e => (e.key, e.val)) = todo.map (fun p => (enc p.1, p.2))
section
variable {α : Type} {P : Program} {k t e : TypeId} {enc : α → Value} {w w1 : World} {r b : Nat} {l todo : List (α × Value)}
theorem RngB.kp {M : Nat → Prop} {w' : World} (h : RngB enc w r b todo) (hk : Kp M w w') (hr : ¬ M r) (hb : ¬ M b) : RngB enc w' r b todo := by
  obtain ⟨es, cl, si, c0, se, h1, h2, h3⟩ := h.h
  exact ⟨es, cl, si, c0, se, hk.blk h1 hb, hk.blk h2 hr, h3⟩
theorem RngB.left (h : RngB enc w r b todo) : leftN w r b = todo.length := by
  obtain ⟨es, cl, si, c0, se, h1, h2, h3, h4, h5, h6, h7⟩ := h.h
  unfold leftN
  rw [h1, h2]
  have := congrArg List.length h7
  simpa using this
theorem MapB.range (h : MapB P k enc w b l) (ht : P.underlying t = some (.map k e)) : ∃ n w1, RngP P t (.map (some b)) n w w1 ∧ RngB enc w1 n b l ∧ K0 w w1 ∧ w.heap.size ≤ n ∧ n < w1.heap.size := by
  obtain ⟨es, c, hb, he⟩ := h.blk
  obtain ⟨h1, h2⟩ := h.brn es c hb
  have hk : K0 w (w.alloc (.mapIter (some b) c #[] c)) := ⟨rfl, rfl, rfl, by simp, fun i hi _ => Below.heap_alloc _ _ _ hi⟩
  refine ⟨w.heap.size, w.alloc (.mapIter (some b) c #[] c), ⟨run_range_map w t k e b es c ht hb⟩, ⟨es, c, c, c, #[], hk.blk hb (fun h => h), heap_alloc_new _ _, h2, Nat.le_refl _, Nat.le_refl _, h1, ?_⟩, hk, Nat.le_refl _, by simp⟩
  rw [← he]
  unfold leftOf
  rw [Array.filter_eq_self.2 (fun x _ => by simp)]
theorem left_erase {L : List MapEntry} (hn : (L.map (·.born)).Nodup) {j : Nat} {x : MapEntry} (hj : L[j]? = some x) : L.filter (fun y => !(y.born == x.born)) = L.eraseIdx j := by
  induction L generalizing j with
  | nil => simp at hj
  | cons y r ih =>
    have hn' : y.born ∉ r.map (·.born) ∧ (r.map (·.born)).Nodup := List.nodup_cons.1 hn
    cases j with
    | zero =>
      have e : y = x := by simpa using hj
      subst e
      rw [List.filter_cons, if_neg (by simp), List.eraseIdx_cons_zero]
      refine List.filter_eq_self.2 fun z hz => ?_
      have : z.born ≠ y.born := fun e => hn'.1 (by rw [← e]; exact List.mem_map.2 ⟨z, hz, rfl⟩)
      simpa using this
    | succ j =>
      have hj' : r[j]? = some x := by simpa using hj
      have : y.born ≠ x.born := fun e => hn'.1 (by rw [e]; exact List.mem_map.2 ⟨x, List.mem_of_getElem? hj', rfl⟩)
      rw [List.filter_cons, if_pos (by simpa using this), List.eraseIdx_cons_succ, ih hn'.2 hj']
theorem map_erase' {β γ : Type} (f : β → γ) : ∀ (L : List β) (j : Nat), (L.eraseIdx j).map f = (L.map f).eraseIdx j
  | [], _ => by simp
  | _ :: _, 0 => rfl
  | x :: L, j + 1 => by simp [List.eraseIdx_cons_succ, map_erase' f L j]
theorem sb_same {w : World} {r : Nat} {x : Obj} (h : w.heap[r]? = some x) (o : Obj) : (ChangeMaps.setBlock w r o).heap[r]? = some o := by
  have hlt : r < w.heap.size := by
    rcases Nat.lt_or_ge r w.heap.size with h' | h'
    · exact h'
    · rw [Array.getElem?_eq_none h'] at h; cases h
  simp [ChangeMaps.setBlock, hlt]
theorem sb_other (w : World) (r : Nat) (o : Obj) {i : Nat} (h : i ≠ r) : (ChangeMaps.setBlock w r o).heap[i]? = w.heap[i]? := by
  simp [ChangeMaps.setBlock, Ne.symm h]
/-- A step. -/
theorem RngB.next (h : RngB enc w r b todo) :
    (todo = [] ∧ NxtP P (.pointer (some ⟨r, 0, none⟩)) false [] w w) ∨
    ∃ (j : Nat) (p : α × Value) (w1 : World), todo[j]? = some p ∧ NxtP P (.pointer (some ⟨r, 0, none⟩)) true [enc p.1, p.2] w w1 ∧ EntP P (.pointer (some ⟨r, 0, none⟩)) (.tuple #[enc p.1, p.2]) w1 ∧ RngB enc w1 r b (todo.eraseIdx j) ∧ Kp (· = r) w w1 := by
  obtain ⟨es, cl, si, c0, se, h1, h2, h3, h4, h5, h6, h7⟩ := h.h
  have hlen := congrArg List.length h7
  simp only [List.length_map] at hlen
  rcases run_next_at (P := P) w 0 r b si c0 se es cl h2 h1 h3 h4 with ⟨h8, _⟩ | ⟨x, hx, w1, hw1, hrun⟩
  · refine .inl ⟨List.eq_nil_of_length_eq_zero (by rw [← hlen]; simpa using h8), ⟨fun ty => ?_⟩⟩
    rcases run_next_at (P := P) w ty r b si c0 se es cl h2 h1 h3 h4 with ⟨_, h9⟩ | ⟨x, hx, _⟩
    · exact h9
    · have : leftOf es se = #[] := Array.eq_empty_of_size_eq_zero h8
      rw [this] at hx; simp at hx
  · obtain ⟨j, hj, hjx⟩ := List.getElem_of_mem hx
    have hjx' : (leftOf es se).toList[j]? = some x := by rw [List.getElem?_eq_getElem hj, hjx]
    have hp : (todo.map (fun p => (enc p.1, p.2)))[j]? = some (x.key, x.val) := by rw [← h7, List.getElem?_map, hjx']; rfl
    rw [List.getElem?_map, Option.map_eq_some_iff] at hp
    obtain ⟨p, hp, hpe⟩ := hp
    simp only [Prod.mk.injEq] at hpe
    have hkw : Kp (· = r) w (ChangeMaps.setBlock w1 r (.mapIter (some b) si (se.push x.born) cl)) := by
      have hw : Kp (· = r) w w1 := by
        rcases hw1 with rfl | rfl
        · exact .refl _ _
        · exact ⟨rfl, rfl, rfl, Nat.le_refl _, fun _ _ _ => rfl⟩
      have hr1 : w1.heap[r]? = some (.mapIter (some b) si se c0) := by rcases hw1 with rfl | rfl <;> exact h2
      exact hw.trans ⟨rfl, rfl, rfl, by simp [ChangeMaps.setBlock], fun i _ hi => sb_other _ _ _ hi⟩
    have hrb : b ≠ r := fun e => by rw [e, h2] at h1; cases h1
    have hr1 : w1.heap[r]? = some (.mapIter (some b) si se c0) := by rcases hw1 with rfl | rfl <;> exact h2
    have hb1 := hkw.blk h1 hrb
    have hr2 : (ChangeMaps.setBlock w1 r (.mapIter (some b) si (se.push x.born) cl)).heap[r]? = some (.mapIter (some b) si (se.push x.born) cl) := sb_same hr1 _
    refine .inr ⟨j, p, _, hp, ⟨fun ty => ?_⟩, ⟨?_⟩, ⟨es, cl, si, cl, se.push x.born, hb1, hr2, h3, h5, h5, h6, ?_⟩, hkw⟩
    · rw [hpe.1, hpe.2]; exact hrun
    · rw [hpe.1, hpe.2]; exact run_entry_at _ r b si se es cl x hr2 hb1 (mem_left hx).1 h6
    · rw [map_erase', ← h7, ← map_erase']
      congr 1
      have hL : ((leftOf es se).toList.map (·.born)).Nodup := by
        unfold leftOf
        rw [Array.toList_filter]
        exact h6.sublist (List.filter_sublist.map _)
      rw [← left_erase hL hjx']
      unfold leftOf
      rw [Array.toList_filter, Array.toList_filter, List.filter_filter]
      refine List.filter_congr fun y _ => ?_
      rw [contains_push]
      cases se.contains y.born <;> simp
end

end Go.Proofs.YtfacflbmlfbeeaaGreatDoor

/- Chapter 39: keys of maps, submissions compared by ==, a queue in the memory. Numbers and texts that are not too long. -/
namespace Go.Proofs.YtfacflbmlfbeeaaGreatDoor
open Go.RowKit Go.Maps

/-- Beyond its n bytes a function is zero. -/
def NZ (n : Nat) (f : Nat → Int) : Prop := ∀ j, n ≤ j → f j = 0
/-- Numbers that can be written. -/
def I64 (x : Int) : Prop := -9223372036854775808 ≤ x ∧ x ≤ 9223372036854775807
structure Sb.OK (x : Sb) : Prop where
  id : BY x.id
  idz : NZ 32 x.id
  mo : BY x.mo
  moz : NZ 16 x.mo
  g : x.g.size ≤ 1073741824
  tx : x.tx.size ≤ 1073741824
  rs : x.rs.size ≤ 1073741824
  r : I64 x.r
  st : I64 x.st
  de : I64 x.de
structure En.OK (x : En) : Prop where
  s : x.s.OK
  ho : BY x.ho
  hoz : NZ 16 x.ho
  si : 0 ≤ x.si ∧ x.si ≤ 105190559
/-! ### Keys -/
theorem stInj (x y : ByteArray) (h : Value.string x = Value.string y) : x = y := by cases h; rfl
theorem stKeyed : Keyed Tryz.prog 9 := string_keyed Tryz.underlying9
theorem stKey {s : ByteArray} (h : s.size ≤ 1073741824) : ∃ kl, keyOf Tryz.prog 9 (.string s) = some kl := ⟨_, WideMaps.keyOf_string_mk Tryz.underlying9 (by unfold maxLen; omega)⟩
theorem kyKeyed : Keyed Tryz.prog 103 := Keyed.of_law (deep_law (m := 3) (by omega) (by kernel_rfl) (by kernel_rfl) (by kernel_rfl))
theorem lits_str {s : ByteArray} (hs : s.size ≤ 1073741824) (D : Nat) : Tryz.prog.keyLits (D + 1) 9 [.string s] = some [.string s.data.toList] := by
  unfold Program.keyLits
  rw [Tryz.underlying9]
  simp only
  rw [if_pos (by unfold maxLen; omega)]
theorem lits_id {l : List Int} (hl : l.length = 32) (hb : ∀ x ∈ l, 0 ≤ x ∧ x ≤ 255) (D : Nat) : Tryz.prog.keyLits (D + 2) 32 (l.map (Value.int .u8)) = some (l.map (Lit.int .u8)) :=
  keyLits_bytes (P := Tryz.prog) (t := 32) (e := 5) (n := 32) Tryz.underlying32 Tryz.underlying5 (by kernel_rfl) (by kernel_rfl) hl hb D
theorem kyLits {k : Ky} (hl : k.1.length = 32) (hb : ∀ x ∈ k.1, 0 ≤ x ∧ x ≤ 255) (hs : k.2.size ≤ 1073741824) (D : Nat) : Tryz.prog.keyLits (D + 3) 103 (k.1.map (Value.int .u8) ++ [.string k.2]) = some (k.1.map (Lit.int .u8) ++ [.string k.2.data.toList]) := by
  unfold Program.keyLits
  rw [Tryz.underlying103]
  simp only
  have c0 : Tryz.prog.cellsOf 103 = 33 := by kernel_rfl
  rw [if_pos ⟨by rw [c0]; simp [hl], by decide +kernel⟩]
  have c1 : Tryz.prog.cellsOf 32 = 32 := by kernel_rfl
  have c2 : Tryz.prog.cellsOf 9 = 1 := by kernel_rfl
  simp only [List.mapM_cons, List.mapM_nil, c1, c2]
  have e1 : ((k.1.map (Value.int .u8) ++ ([.string k.2] : List Value)).drop 0).take 32 = k.1.map (Value.int .u8) := by rw [List.drop_zero, List.take_left' (by simp [hl])]
  have e2 : ((k.1.map (Value.int .u8) ++ ([.string k.2] : List Value)).drop 32).take 1 = [.string k.2] := by rw [List.drop_left' (by simp [hl])]; rfl
  rw [e1, e2, lits_id hl hb, lits_str hs]
  simp
theorem kyKey {k : Ky} (hl : k.1.length = 32) (hb : ∀ x ∈ k.1, 0 ≤ x ∧ x ≤ 255) (hs : k.2.size ≤ 1073741824) : ∃ kl, keyOf Tryz.prog 103 (kyV k) = some kl := by
  refine ⟨.string (keyBytes (k.1.map (Lit.int .u8) ++ [.string k.2.data.toList])), ?_⟩
  unfold keyOf
  rw [Tryz.underlying103]
  simp only
  have h1 : Tryz.prog.keyType 103 = true := by kernel_rfl
  have hf' : (kyV k).formed Tryz.prog 103 = true := by
    unfold Value.formed kyV
    rw [Tryz.underlying103]
    have c0 : Tryz.prog.cellsOf 103 = 33 := by kernel_rfl
    simp [c0, hl]
  rw [h1, hf']
  have h2 := kyLits hl hb hs (Tryz.prog.types.size - 2)
  have hsz : 2 ≤ Tryz.prog.types.size := by decide +kernel
  rw [show Tryz.prog.types.size - 2 + 3 = Tryz.prog.types.size + 1 by omega] at h2
  have : (kyV k).cells.toList = k.1.map (Value.int .u8) ++ [.string k.2] := by simp [kyV, Value.cells]
  rw [this, h2]
  rfl
/-! ### Submissions compared by == -/
noncomputable instance (x y : Sb) : Decidable (x.pl = y.pl) := Classical.propDecidable _
/-! ### A queue in the memory -/
/-- Moderators of a group, with their place. -/
structure MX where
  l : List (Nat → Int)
  p : Option Addr
  c : Nat
abbrev mxV (x : MX) : Value := .slice x.p x.l.length x.c
def mxz : MX := ⟨[], none, 0⟩
structure MX.OK (x : MX) : Prop where
  by_ : ∀ m ∈ x.l, BY m ∧ NZ 16 m
  len : x.l.length ≤ 8
  cap : x.l.length ≤ x.c
/-- What a queue holds. -/
structure Qu where
  room : Int
  days : Int
  wt : Int
  ms : List (ByteArray × MX)
  es : List (Ky × En)
structure Qu.OK (q : Qu) : Prop where
  room : 1 ≤ q.room ∧ q.room ≤ 10000
  days : 1 ≤ q.days ∧ q.days ≤ 365
  wt : q.wt = ((q.es.filter fun p => p.2.s.st == 0).length : Nat)
  ms : ∀ g x, aget q.ms g = some x → gnE g = 0 ∧ x.OK ∧ x.l ≠ []
  es : ∀ k x, aget q.es k = some x → x.OK ∧ k = x.s.ky ∧ gnE x.s.g = 0 ∧ x.s.tx.size ≤ 65536 ∧ x.s.rs.size ≤ 200 ∧ (0 ≤ x.s.r ∧ x.s.r ≤ 105190559) ∧ (0 ≤ x.s.de ∧ x.s.de ≤ 105190559) ∧ (0 ≤ x.s.st ∧ x.s.st ≤ 3)
/-- A queue in block b, its maps in blocks mb and eb. -/
structure Mq (w : World) (b mb eb : Nat) (q : Qu) : Prop where
  st : w.heap[b]? = some (.cells #[.int .i64 q.room, .int .i64 q.days, .int .i64 q.wt, .map (some mb), .map (some eb)] 98 (0, 0))
  mm : MapB Tryz.prog 9 Value.string w mb (amap mxV q.ms)
  me : MapB Tryz.prog 103 kyV w eb (amap enV q.es)
  row : ∀ g x, aget q.ms g = some x → RowA auC 16 w x.p x.l
  ne : mb ≠ eb
  nz : b ≠ 0

end Go.Proofs.YtfacflbmlfbeeaaGreatDoor

/- Chapter 39: numbers and texts as arguments, with their sizes. No condition. -/
namespace Go.Proofs.YtfacflbmlfbeeaaGreatDoor
open Go.ChangeShapes Go.WideShapes Go.ChangeAt Go.RowKit Go.Deep

theorem gw_of {w : World} (h : w.ShapedOpen Tryz.prog) : GW w := cell_of_shapedOpen_int (zero := #[.int .i64 0]) (t := 3) h (of_decide_eq_true (by kernel_rfl)) (by kernel_rfl) rfl (by kernel_rfl) (by kernel_rfl) Tryz.underlying3
section
variable {H : Type} {enc : TypeId × Value → H} {W : World} {base : Nat} {v : Value}
end

end Go.Proofs.YtfacflbmlfbeeaaGreatDoor

/- Chapter 39: operations on a queue as arguments, with their sizes. No condition. -/
namespace Go.Proofs.YtfacflbmlfbeeaaGreatDoor
open Go.ChangeShapes Go.WideShapes Go.ChangeAt Go.RowKit Go.Deep

/-- An operation on a queue. -/
structure OpZ where
  k : Int
  i : Int
  g : Int
  a : Int
  now : Int
  t : ByteArray
def opC39 (x : OpZ) : List Value := [.int .u8 x.k, .int .u8 x.i, .int .u8 x.g, .int .u8 x.a, .int .i64 x.now, .string x.t]
instance : Inhabited OpZ := ⟨⟨0, 0, 0, 0, 0, ⟨#[]⟩⟩⟩
/-- What a reading of an operation gives. -/
structure OpZ.R (x : OpZ) : Prop where
  k : 0 ≤ x.k ∧ x.k ≤ 255
  i : 0 ≤ x.i ∧ x.i ≤ 255
  g : 0 ≤ x.g ∧ x.g ≤ 255
  a : 0 ≤ x.a ∧ x.a ≤ 255
  now : I64 x.now
section
variable {H : Type} {enc : TypeId × Value → H} {W : World} {base : Nat} {v : Value}
theorem cellsOp39 : Tryz.prog.cellsOf 66 = 6 := by kernel_rfl
set_option maxRecDepth 100000 in
theorem rw_Op {l : List Value} (hl : l.length = 6) (hr : Rw enc Tryz.prog W 66 l) : ∃ x : OpZ, l = opC39 x ∧ x.R := by
  match l, hl with
  | [c0, c1, c2, c3, c4, c5], _ =>
    have hr : Rw enc Tryz.prog W 66 [c0, c1, c2, c3, c4, c5] := hr
    obtain ⟨k, e0, z0⟩ := Rw.int8 (cs := [c0]) (hr.field Tryz.underlying66 (i := 0) rfl) Tryz.underlying5
    obtain ⟨i, e1, z1⟩ := Rw.int8 (cs := [c1]) (hr.field Tryz.underlying66 (i := 1) rfl) Tryz.underlying5
    obtain ⟨g, e2, z2⟩ := Rw.int8 (cs := [c2]) (hr.field Tryz.underlying66 (i := 2) rfl) Tryz.underlying5
    obtain ⟨a, e3, z3⟩ := Rw.int8 (cs := [c3]) (hr.field Tryz.underlying66 (i := 3) rfl) Tryz.underlying5
    obtain ⟨n, e4, z4⟩ := Rw.int64 (cs := [c4]) (hr.field Tryz.underlying66 (i := 4) rfl) Tryz.underlying3
    obtain ⟨t, e5, z5⟩ := Rw.str (cs := [c5]) (hr.field Tryz.underlying66 (i := 5) rfl) Tryz.underlying9
    simp only [List.cons.injEq, and_true] at e0 e1 e2 e3 e4 e5
    subst e0 e1 e2 e3 e4 e5
    exact ⟨⟨k, i, g, a, n, t⟩, rfl, z0, z1, z2, z3, z4⟩
set_option maxRecDepth 100000 in
theorem openw_Op (hv : Value.okWide Tryz.prog W .any base 66 v) (hr : Rw enc Tryz.prog W 66 v.cells.toList) : ∃ x : OpZ, v = .agg (opC39 x).toArray ∧ x.R := by
  obtain ⟨cs, rfl, hsz⟩ := okWide_struct Tryz.underlying66 hv
  rw [cellsOp39] at hsz
  obtain ⟨l⟩ := cs
  obtain ⟨x, h1, h2⟩ := rw_Op (l := l) hsz hr
  exact ⟨x, congrArg (fun l : List Value => Value.agg l.toArray) h1, h2⟩
end

end Go.Proofs.YtfacflbmlfbeeaaGreatDoor

/-
  DERIVED: THE SHELF's CONTRACTS AT THIS DUMP, IN PLAIN WORDS (tools/lay-plain.mjs out of 'TryzShelf.lean', which tools/lay-shelf.mjs wrote): THE SAME DECLARATIONS UNDER THE SAME NAMES: 'import', 'namespace', 'open', 'def', 'theorem' AND NOTHING ELSE: no command of the shelf's: FOR A HAND-IN. Each laying: the table of numbers ('.._ren') and one theorem, a field a fact of the dump's own or the kernel's comparison; each contract: ONE APPLICATION.
-/
namespace Go.Proofs
open Go.Shelf
def Tryz.laysSlF06_f104_ren : Go.Shelf.Ren := ⟨fun | 6 => 104 | 15 => 98 | 14 => 130 | 28 => 125 | 29 => 126 | 20 => 146 | 21 => 147 | 22 => 148 | 23 => 149 | 24 => 150 | 25 => 151 | 26 => 152 | 27 => 153 | 46 => 161 | 47 => 141 | 48 => 142 | 49 => 162 | 50 => 163 | 57 => 168 | n => n, fun | 22 => 28 | 24 => 45 | 25 => 113 | 3 => 3 | 39 => 148 | 0 => 0 | 53 => 179 | 55 => 181 | 4 => 4 | 46 => 172 | 45 => 171 | 50 => 176 | 5 => 5 | 9 => 9 | 66 => 192 | 70 => 196 | 76 => 206 | 77 => 190 | n => n, fun | n => n⟩
theorem Tryz.laysSlF06_f104 : Go.Proofs.SlLaysF0.n6 Tryz.prog Tryz.laysSlF06_f104_ren := {
  mixed := by kernel_rfl
  f6 := ⟨Tryz.f104.name, by decide, Tryz.func104.trans (congrArg some (by kernel_rfl))⟩
  f14 := ⟨Tryz.f130.name, by decide, Tryz.func130.trans (congrArg some (by kernel_rfl))⟩
  f15 := Tryz.func98.trans (congrArg some (by kernel_rfl))
  f20 := ⟨Tryz.f146.name, by decide, Tryz.func146.trans (congrArg some (by kernel_rfl))⟩
  f21 := ⟨Tryz.f147.name, by decide, Tryz.func147.trans (congrArg some (by kernel_rfl))⟩
  f22 := ⟨Tryz.f148.name, by decide, Tryz.func148.trans (congrArg some (by kernel_rfl))⟩
  f23 := ⟨Tryz.f149.name, by decide, Tryz.func149.trans (congrArg some (by kernel_rfl))⟩
  f24 := ⟨Tryz.f150.name, by decide, Tryz.func150.trans (congrArg some (by kernel_rfl))⟩
  f25 := ⟨Tryz.f151.name, by decide, Tryz.func151.trans (congrArg some (by kernel_rfl))⟩
  f26 := ⟨Tryz.f152.name, by decide, Tryz.func152.trans (congrArg some (by kernel_rfl))⟩
  f27 := ⟨Tryz.f153.name, by decide, Tryz.func153.trans (congrArg some (by kernel_rfl))⟩
  f28 := Tryz.func125.trans (congrArg some (by kernel_rfl))
  f29 := Tryz.func126.trans (congrArg some (by kernel_rfl))
  f46 := ⟨Tryz.f161.name, by decide, Tryz.func161.trans (congrArg some (by kernel_rfl))⟩
  f47 := Tryz.func141.trans (congrArg some (by kernel_rfl))
  f48 := Tryz.func142.trans (congrArg some (by kernel_rfl))
  f49 := ⟨Tryz.f162.name, by decide, Tryz.func162.trans (congrArg some (by kernel_rfl))⟩
  f50 := ⟨Tryz.f163.name, by decide, Tryz.func163.trans (congrArg some (by kernel_rfl))⟩
  f57 := ⟨Tryz.f168.name, by decide, Tryz.func168.trans (congrArg some (by kernel_rfl))⟩
  t0 := Tryz.underlying0
  a0 := Tryz.isAgg0
  z0 := Tryz.sizeOf0
  v0 := Tryz.zeroValue0
  t3 := Tryz.underlying3
  a3 := Tryz.isAgg3
  z3 := Tryz.sizeOf3
  v3 := Tryz.zeroValue3
  t4 := Tryz.underlying4
  a4 := Tryz.isAgg4
  z4 := Tryz.sizeOf4
  v4 := Tryz.zeroValue4
  t5 := Tryz.underlying5
  a5 := Tryz.isAgg5
  z5 := Tryz.sizeOf5
  v5 := Tryz.zeroValue5
  t9 := Tryz.underlying9
  a9 := Tryz.isAgg9
  z9 := Tryz.sizeOf9
  v9 := Tryz.zeroValue9
  t22 := Tryz.underlying28
  a22 := Tryz.isAgg28
  z22 := Tryz.sizeOf28
  v22 := Tryz.zeroValue28
  t25 := Tryz.underlying113
  a25 := Tryz.isAgg113
  z25 := Tryz.sizeOf113
  v25 := Tryz.zeroValue113
  t39 := Tryz.underlying148
  a39 := Tryz.isAgg148
  z39 := Tryz.sizeOf148
  v39 := Tryz.zeroValue148
  t45 := Tryz.underlying171
  a45 := Tryz.isAgg171
  z45 := Tryz.sizeOf171
  v45 := Tryz.zeroValue171
  t46 := Tryz.underlying172
  a46 := Tryz.isAgg172
  z46 := Tryz.sizeOf172
  v46 := Tryz.zeroValue172
  t50 := Tryz.underlying176
  a50 := Tryz.isAgg176
  z50 := Tryz.sizeOf176
  v50 := Tryz.zeroValue176
  t53 := Tryz.underlying179
  a53 := Tryz.isAgg179
  z53 := Tryz.sizeOf179
  v53 := Tryz.zeroValue179
  t55 := Tryz.underlying181
  a55 := Tryz.isAgg181
  z55 := Tryz.sizeOf181
  v55 := Tryz.zeroValue181
  t66 := Tryz.underlying192
  a66 := Tryz.isAgg192
  z66 := Tryz.sizeOf192
  v66 := Tryz.zeroValue192
  t70 := Tryz.underlying196
  a70 := Tryz.isAgg196
  z70 := Tryz.sizeOf196
  v70 := Tryz.zeroValue196
  t76 := Tryz.underlying206
  a76 := Tryz.isAgg206
  z76 := Tryz.sizeOf206
  v76 := Tryz.zeroValue206
  t77 := Tryz.underlying190
  a77 := Tryz.isAgg190
  z77 := Tryz.sizeOf190
  v77 := Tryz.zeroValue190 }
open Go.RowKit Go.Lib in
/-- slices.SortFunc at no element. -/
theorem Tryz.slices_SortFunc_none104 (p : Option Addr) (cap : Nat) (fv : Value) (w : World) :
    Calls Tryz.prog 104 #[.slice p 0 cap, fv] w fun e w' => e = .returned (.tuple #[]) ∧ w' = w := AnyF.slices_SortFunc_none Tryz.laysSlF06_f104 p cap fv w
def Tryz.laysSlF06_f67_ren : Go.Shelf.Ren := ⟨fun | 6 => 67 | 15 => 98 | 14 => 97 | 28 => 125 | 29 => 126 | 20 => 117 | 21 => 118 | 22 => 119 | 23 => 120 | 24 => 121 | 25 => 122 | 26 => 123 | 27 => 124 | 46 => 140 | 47 => 141 | 48 => 142 | 49 => 143 | 50 => 144 | 57 => 159 | n => n, fun | 22 => 71 | 24 => 48 | 25 => 124 | 3 => 3 | 39 => 148 | 0 => 0 | 53 => 179 | 55 => 181 | 4 => 4 | 46 => 172 | 45 => 171 | 50 => 176 | 5 => 5 | 9 => 9 | 66 => 192 | 70 => 196 | 76 => 206 | 77 => 190 | n => n, fun | n => n⟩
theorem Tryz.laysSlF06_f67 : Go.Proofs.SlLaysF0.n6 Tryz.prog Tryz.laysSlF06_f67_ren := {
  mixed := by kernel_rfl
  f6 := ⟨Tryz.f67.name, by decide, Tryz.func67.trans (congrArg some (by kernel_rfl))⟩
  f14 := ⟨Tryz.f97.name, by decide, Tryz.func97.trans (congrArg some (by kernel_rfl))⟩
  f15 := Tryz.func98.trans (congrArg some (by kernel_rfl))
  f20 := ⟨Tryz.f117.name, by decide, Tryz.func117.trans (congrArg some (by kernel_rfl))⟩
  f21 := ⟨Tryz.f118.name, by decide, Tryz.func118.trans (congrArg some (by kernel_rfl))⟩
  f22 := ⟨Tryz.f119.name, by decide, Tryz.func119.trans (congrArg some (by kernel_rfl))⟩
  f23 := ⟨Tryz.f120.name, by decide, Tryz.func120.trans (congrArg some (by kernel_rfl))⟩
  f24 := ⟨Tryz.f121.name, by decide, Tryz.func121.trans (congrArg some (by kernel_rfl))⟩
  f25 := ⟨Tryz.f122.name, by decide, Tryz.func122.trans (congrArg some (by kernel_rfl))⟩
  f26 := ⟨Tryz.f123.name, by decide, Tryz.func123.trans (congrArg some (by kernel_rfl))⟩
  f27 := ⟨Tryz.f124.name, by decide, Tryz.func124.trans (congrArg some (by kernel_rfl))⟩
  f28 := Tryz.func125.trans (congrArg some (by kernel_rfl))
  f29 := Tryz.func126.trans (congrArg some (by kernel_rfl))
  f46 := ⟨Tryz.f140.name, by decide, Tryz.func140.trans (congrArg some (by kernel_rfl))⟩
  f47 := Tryz.func141.trans (congrArg some (by kernel_rfl))
  f48 := Tryz.func142.trans (congrArg some (by kernel_rfl))
  f49 := ⟨Tryz.f143.name, by decide, Tryz.func143.trans (congrArg some (by kernel_rfl))⟩
  f50 := ⟨Tryz.f144.name, by decide, Tryz.func144.trans (congrArg some (by kernel_rfl))⟩
  f57 := ⟨Tryz.f159.name, by decide, Tryz.func159.trans (congrArg some (by kernel_rfl))⟩
  t0 := Tryz.underlying0
  a0 := Tryz.isAgg0
  z0 := Tryz.sizeOf0
  v0 := Tryz.zeroValue0
  t3 := Tryz.underlying3
  a3 := Tryz.isAgg3
  z3 := Tryz.sizeOf3
  v3 := Tryz.zeroValue3
  t4 := Tryz.underlying4
  a4 := Tryz.isAgg4
  z4 := Tryz.sizeOf4
  v4 := Tryz.zeroValue4
  t5 := Tryz.underlying5
  a5 := Tryz.isAgg5
  z5 := Tryz.sizeOf5
  v5 := Tryz.zeroValue5
  t9 := Tryz.underlying9
  a9 := Tryz.isAgg9
  z9 := Tryz.sizeOf9
  v9 := Tryz.zeroValue9
  t22 := Tryz.underlying71
  a22 := Tryz.isAgg71
  z22 := Tryz.sizeOf71
  v22 := Tryz.zeroValue71
  t25 := Tryz.underlying124
  a25 := Tryz.isAgg124
  z25 := Tryz.sizeOf124
  v25 := Tryz.zeroValue124
  t39 := Tryz.underlying148
  a39 := Tryz.isAgg148
  z39 := Tryz.sizeOf148
  v39 := Tryz.zeroValue148
  t45 := Tryz.underlying171
  a45 := Tryz.isAgg171
  z45 := Tryz.sizeOf171
  v45 := Tryz.zeroValue171
  t46 := Tryz.underlying172
  a46 := Tryz.isAgg172
  z46 := Tryz.sizeOf172
  v46 := Tryz.zeroValue172
  t50 := Tryz.underlying176
  a50 := Tryz.isAgg176
  z50 := Tryz.sizeOf176
  v50 := Tryz.zeroValue176
  t53 := Tryz.underlying179
  a53 := Tryz.isAgg179
  z53 := Tryz.sizeOf179
  v53 := Tryz.zeroValue179
  t55 := Tryz.underlying181
  a55 := Tryz.isAgg181
  z55 := Tryz.sizeOf181
  v55 := Tryz.zeroValue181
  t66 := Tryz.underlying192
  a66 := Tryz.isAgg192
  z66 := Tryz.sizeOf192
  v66 := Tryz.zeroValue192
  t70 := Tryz.underlying196
  a70 := Tryz.isAgg196
  z70 := Tryz.sizeOf196
  v70 := Tryz.zeroValue196
  t76 := Tryz.underlying206
  a76 := Tryz.isAgg206
  z76 := Tryz.sizeOf206
  v76 := Tryz.zeroValue206
  t77 := Tryz.underlying190
  a77 := Tryz.isAgg190
  z77 := Tryz.sizeOf190
  v77 := Tryz.zeroValue190 }
open Go.RowKit Go.Lib in
/-- slices.SortFunc at no element. -/
theorem Tryz.slices_SortFunc_none67 (p : Option Addr) (cap : Nat) (fv : Value) (w : World) :
    Calls Tryz.prog 67 #[.slice p 0 cap, fv] w fun e w' => e = .returned (.tuple #[]) ∧ w' = w := AnyF.slices_SortFunc_none Tryz.laysSlF06_f67 p cap fv w
end Go.Proofs

/- The formulas of functions by the symbolic evaluator, and that each gives the call's contract. Written by a program (gen.py). No condition. -/
namespace Go.Proofs.YtfacflbmlfbeeaaGreatDoor
set_option maxRecDepth 100000
set_option linter.unusedVariables false

def VC_mcompare (a : Array Value) (b : Array Value) (w : World) (R : Ending → World → Prop) : Prop :=
 ∀ (n : Nat) (w1 : World),
 NewB w (Obj.cells a 32) n w1 →
 ∀ (n_1 : Nat) (w1_1 : World),
 NewB w1 (Obj.cells b 32) n_1 w1_1 →
 CallsS Tryz.prog 106 #[Value.slice (some (Addr.mk n 0 none)) 32 32, Value.slice (some (Addr.mk n_1 0 none)) 32 32]
 w1_1.drew fun (e : Ending) (w' : World) =>
 ∃ (x : Int), e = Ending.returned (Value.int IntKind.i64 x) ∧ R (Ending.returned (Value.int IntKind.i64 x)) w'
theorem vc_mcompare (a : Array Value) (b : Array Value) (w : World) (R : Ending → World → Prop) (h : VC_mcompare a b w R) : Calls Tryz.prog 101 ([Value.agg
    a,
  Value.agg b] : List Value).toArray w R := by
  have e : execR { P := Tryz.prog, loops := [], pur := pur1, tails := [(1, 2)], joins := [], boxes := [] } Tryz.f101.results.toList R (Tryz.f101.body.getD .skip) (initF [Value.agg
    a,
  Value.agg
    b] (Tryz.f101.ntmps - ([Value.agg a, Value.agg b] : List Value).length)) w = VC_mcompare a b w R := by kernel_rfl
  have hb : Tryz.f101.body = some (Tryz.f101.body.getD .skip) := by kernel_rfl
  exact calls_of_exec' (P := Tryz.prog) (fn := Tryz.f101) (c := Tryz.f101.body.getD .skip) (args := [Value.agg a,
  Value.agg b]) (w := w) (R := R) pur1_ok Tryz.func101 hb e h

def VC_cmpOr (p : Option Addr) (n : Nat) (c : Nat) (w : World) (R : Ending → World → Prop) : Prop :=
 ∃ (I : List Value → World → Prop),
 ∃ (m : List Value → World → Nat),
 I [Value.int IntKind.i64 0] w ∧
 ∀ (x : Int) (w' : World),
 I [Value.int IntKind.i64 x] w' →
 bsp (decide (x < (↑n : Int)))
 (nn true p fun (b o : Nat) =>
 (0 ≤ x ∧ x < (↑n : Int)) ∧
 ∃ (x_1 : Int),
 w'.cell? (Addr.mk b (o + x.toNat) none) = some (Value.int IntKind.i64 x_1) ∧
 bsp (x_1 != 0) (R (Ending.returned (Value.int IntKind.i64 x_1)) w')
 (I [Value.int IntKind.i64 (IntKind.i64.wrap (x + 1))] w' ∧
 m [Value.int IntKind.i64 (IntKind.i64.wrap (x + 1))] w' < m [Value.int IntKind.i64 x] w'))
 (R (Ending.returned (Value.int IntKind.i64 0)) w')
theorem vc_cmpOr (p : Option Addr) (n : Nat) (c : Nat) (w : World) (R : Ending → World → Prop) (h : VC_cmpOr p n c w R) : Calls Tryz.prog 99 ([Value.slice
    p n c] : List Value).toArray w R := by
  have e : execR { P := Tryz.prog, loops := [(3, [(8, Ck.int IntKind.i64)])], pur := pur1, tails := [], joins := [], boxes := [] } Tryz.f99.results.toList R (Tryz.f99.body.getD .skip) (initF [Value.slice
    p n c] (Tryz.f99.ntmps - ([Value.slice p n c] : List Value).length)) w = VC_cmpOr p n c w R := by kernel_rfl
  have hb : Tryz.f99.body = some (Tryz.f99.body.getD .skip) := by kernel_rfl
  exact calls_of_exec' (P := Tryz.prog) (fn := Tryz.f99) (c := Tryz.f99.body.getD .skip) (args := [Value.slice p n
    c]) (w := w) (R := R) pur1_ok Tryz.func99 hb e h

end Go.Proofs.YtfacflbmlfbeeaaGreatDoor

/- The formulas of functions by the symbolic evaluator, and that each gives the call's contract. Written by a program (gen.py). No condition. -/
namespace Go.Proofs.YtfacflbmlfbeeaaGreatDoor
set_option maxRecDepth 100000
set_option linter.unusedVariables false

def VC_nanS (a : ByteArray) (w : World) (R : Ending → World → Prop) : Prop :=
 R (Ending.returned (Value.bool !a.toList == a.toList)) w
theorem vc_nanS (a : ByteArray) (w : World) (R : Ending → World → Prop) (h : VC_nanS a w R) : Calls Tryz.prog 160 ([Value.string
    a] : List Value).toArray w R := by
  have e : execR { P := Tryz.prog, loops := [], pur := pur1, tails := [], joins := [], boxes := [] } Tryz.f160.results.toList R (Tryz.f160.body.getD .skip) (initF [Value.string
    a] (Tryz.f160.ntmps - ([Value.string a] : List Value).length)) w = VC_nanS a w R := by kernel_rfl
  have hb : Tryz.f160.body = some (Tryz.f160.body.getD .skip) := by kernel_rfl
  exact calls_of_exec' (P := Tryz.prog) (fn := Tryz.f160) (c := Tryz.f160.body.getD .skip) (args := [Value.string
    a]) (w := w) (R := R) pur1_ok Tryz.func160 hb e h

def VC_cmpS (a : ByteArray) (b : ByteArray) (w : World) (R : Ending → World → Prop) : Prop :=
 CallsS Tryz.prog 160 #[Value.string a] w fun (e : Ending) (w' : World) =>
 ∃ (x : Bool),
 e = Ending.returned (Value.bool x) ∧
 CallsS Tryz.prog 160 #[Value.string b] w' fun (e : Ending) (w' : World) =>
 ∃ (x_1 : Bool),
 e = Ending.returned (Value.bool x_1) ∧
 bsp x
 (bsp x_1 (R (Ending.returned (Value.int IntKind.i64 0)) w')
 (R (Ending.returned (Value.int IntKind.i64 (-1))) w'))
 (bsp x_1 (R (Ending.returned (Value.int IntKind.i64 1)) w')
 (bsp (Op.bytesLess a.toList b.toList) (R (Ending.returned (Value.int IntKind.i64 (-1))) w')
 (bsp (!(Op.bytesLess a.toList b.toList || a.toList == b.toList))
 (R (Ending.returned (Value.int IntKind.i64 1)) w') (R (Ending.returned (Value.int IntKind.i64 0)) w'))))
theorem vc_cmpS (a : ByteArray) (b : ByteArray) (w : World) (R : Ending → World → Prop) (h : VC_cmpS a b w R) : Calls Tryz.prog 145 ([Value.string
    a,
  Value.string b] : List Value).toArray w R := by
  have e : execR { P := Tryz.prog, loops := [], pur := pur1, tails := [], joins := [], boxes := [] } Tryz.f145.results.toList R (Tryz.f145.body.getD .skip) (initF [Value.string
    a,
  Value.string
    b] (Tryz.f145.ntmps - ([Value.string a, Value.string b] : List Value).length)) w = VC_cmpS a b w R := by kernel_rfl
  have hb : Tryz.f145.body = some (Tryz.f145.body.getD .skip) := by kernel_rfl
  exact calls_of_exec' (P := Tryz.prog) (fn := Tryz.f145) (c := Tryz.f145.body.getD .skip) (args := [Value.string a,
  Value.string b]) (w := w) (R := R) pur1_ok Tryz.func145 hb e h

end Go.Proofs.YtfacflbmlfbeeaaGreatDoor

/- Chapter 21: definitions compared and sorted. -/
namespace Go.Proofs.YtfacflbmlfbeeaaGreatDoor
open Go.RowKit Go.Sort

theorem bytesOf_idB (f : Nat → Int) : Lib.bytesOf (idI f) = idB f := rfl
set_option maxRecDepth 100000 in
theorem bcompare_run {w : World} {b b' o o' : Nat} {f g : Nat → Int} (h : ∀ j, j < 32 → w.cell? ⟨b, o + j, none⟩ = some (.int .u8 (f j))) (h' : ∀ j, j < 32 → w.cell? ⟨b', o' + j, none⟩ = some (.int .u8 (g j))) (c c' : Nat) :
    (Extern.BytealgCompare.compare #[.slice (some ⟨b, o, none⟩) 32 c, .slice (some ⟨b', o', none⟩) 32 c']).run Tryz.prog w = .ok (.int .i64 (Lib.compareBytes (idB f) (idB g))) w := by
  have key : ∀ (b o : Nat) (f : Nat → Int), (∀ j, j < 32 → w.cell? ⟨b, o + j, none⟩ = some (.int .u8 (f j))) → (Extern.Bytes.loadBytes ⟨b, o, none⟩ 32 .empty).run Tryz.prog w = .ok ⟨(idB f).toArray⟩ w := fun b o f h => by
    have := Lib.run_loadBytesX (P := Tryz.prog) w (idI f) ⟨b, o, none⟩ .empty (fun j x hj => by
      have hlt : j < 32 := by have := (List.getElem?_eq_some_iff.1 hj).1; simpa [idI] using this
      rw [idI_get f hlt] at hj
      simp at hj
      subst hj
      have e : (⟨b, o, none⟩ : Addr).add j = ⟨b, o + j, none⟩ := by
        unfold Addr.add
        simp
      rw [e]
      exact h j hlt)
    have hl : (idI f).length = 32 := by simp [idI]
    rw [hl, bytesOf_idB] at this
    rw [this]
    generalize idB f = l
    have e : ByteArray.empty.data ++ l.toArray = l.toArray := by
      show (#[] : Array UInt8) ++ l.toArray = l.toArray
      simp
    rw [e]
  change Sem.run Tryz.prog (do pure (goInt (Extern.BytealgCompare.cmp (← Extern.Bytes.bytesOf (.slice (some ⟨b, o, none⟩) 32 c)) (← Extern.Bytes.bytesOf (.slice (some ⟨b', o', none⟩) 32 c'))))) w = _
  simp only [Extern.Bytes.bytesOf, Sem.run_bind, key b o f h, key b' o' g h', Sem.run_pure, Result.andThen]
  rw [Lib.cmp_eq]
  rfl
set_option maxHeartbeats 1000000 in
set_option maxRecDepth 100000 in
theorem bcompare_any {w : World} {b b' o o' : Nat} {f g : Nat → Int} (h : ∀ j, j < 32 → w.cell? ⟨b, o + j, none⟩ = some (.int .u8 (f j))) (h' : ∀ j, j < 32 → w.cell? ⟨b', o' + j, none⟩ = some (.int .u8 (g j))) (c c' : Nat) :
    Calls Tryz.prog 106 #[.slice (some ⟨b, o, none⟩) 32 c, .slice (some ⟨b', o', none⟩) 32 c'] w fun e w' => e = .returned (.int .i64 (Lib.compareBytes (idB f) (idB g))) ∧ w' = w := by
  have hr := bcompare_run h h' c c'
  generalize Lib.compareBytes (idB f) (idB g) = r at hr ⊢
  clear h h'
  go_enter Tryz.func106, Tryz.ntmps106
  go_wp2
  rw [run_callFunc_extern Tryz.func131 (by kernel_rfl) (by kernel_rfl) (by kernel_rfl) (e := Extern.BytealgCompare.compare) (by kernel_rfl), hr]
  simp only [Result.andThen]
  rw [Oper.upon_value]
  go_wp2
  go_ret
  exact ⟨rfl, rfl⟩

theorem mcompare_any (f g : Nat → Int) (w : World) : Calls Tryz.prog 101 #[.agg (arrI .u8 f 32 0).toArray, .agg (arrI .u8 g 32 0).toArray] w fun e w' => e = .returned (.int .i64 (Lib.compareBytes (idB f) (idB g))) ∧ K0 w w' ∧ w.drawn ≤ w'.drawn := by
  refine vc_mcompare _ _ w _ ?_
  intro n w1 hn n1 w2 hn1
  have b1 := (hn1.kp (fun _ => False)).blk hn.block (fun h => h)
  have b2 := hn1.block
  have hd : w2.drawn = w.drawn := by rw [hn1.hw, hn.hw]; rfl
  refine ⟨(bcompare_any (w := w2.drew) (f := f) (g := g) (fun j hj => cell_at (blk_drew b1) ?_) (fun j hj => cell_at (blk_drew b2) ?_) 32 32).mono fun e w' ⟨he, hw⟩ => ⟨_, he, rfl, ?_, ?_⟩⟩
  · rw [Nat.zero_add]; simpa using arrI_get .u8 f 32 0 j hj
  · rw [Nat.zero_add]; simpa using arrI_get .u8 g 32 0 j hj
  · rw [hw]; exact ((hn.kp _).trans (hn1.kp _)).drew
  · rw [hw]; show w.drawn ≤ w2.drawn + 1; omega
/-! ### Texts compared -/
theorem bl_cb : ∀ a b : List UInt8, Op.bytesLess a b = decide (Lib.compareBytes a b < 0)
  | [], [] => rfl
  | [], _ :: _ => rfl
  | _ :: _, [] => rfl
  | a :: l, b :: m => by
    unfold Op.bytesLess Lib.compareBytes
    by_cases h1 : a < b
    · simp [h1]
    · by_cases h2 : b < a
      · have h3 : a ≠ b := fun e => by subst e; exact h1 h2
        simp [h1, h2, h3]
      · have h3 : a = b := UInt8.le_antisymm (UInt8.not_lt.1 h2) (UInt8.not_lt.1 h1)
        subst h3
        simp [bl_cb l m]
theorem nanS_any (a : ByteArray) (w : World) : Calls Tryz.prog 160 #[.string a] w fun e w' => e = .returned (.bool false) ∧ w' = w := vc_nanS a w _ ⟨by simp, rfl⟩
theorem cmpS_any (a b : ByteArray) (w : World) : Calls Tryz.prog 145 #[.string a, .string b] w fun e w' => e = .returned (.int .i64 (Lib.compareBytes a.data.toList b.data.toList)) ∧ w' = w := by
  refine vc_cmpS a b w _ ⟨(nanS_any a w).mono fun e w1 ⟨he, hw⟩ => ⟨_, he, ?_⟩⟩
  subst hw
  refine ⟨(nanS_any b w1).mono fun e w2 ⟨he, hw⟩ => ⟨_, he, ?_⟩⟩
  subst hw
  have e1 : a.toList = a.data.toList := ByteArray.toList_eq a
  have e2 : b.toList = b.data.toList := ByteArray.toList_eq b
  rw [e1, e2, bl_cb]
  have ha := cb_anti a.data.toList b.data.toList
  have hcases : Lib.compareBytes a.data.toList b.data.toList = -1 ∨ Lib.compareBytes a.data.toList b.data.toList = 0 ∨ Lib.compareBytes a.data.toList b.data.toList = 1 := by
    have key : ∀ l m : List UInt8, Lib.compareBytes l m = -1 ∨ Lib.compareBytes l m = 0 ∨ Lib.compareBytes l m = 1 := by
      intro l
      induction l with
      | nil => intro m; cases m <;> simp [Lib.compareBytes]
      | cons x l ih =>
        intro m
        cases m with
        | nil => simp [Lib.compareBytes]
        | cons y m =>
          unfold Lib.compareBytes
          split
          · exact .inl rfl
          split
          · exact .inr (.inr rfl)
          · exact ih m
    exact key _ _
  refine bsp_intro (fun h => by cases h) (fun _ => bsp_intro (fun h => by cases h) (fun _ => bsp_intro (fun h => ?_) (fun h => bsp_intro (fun h2 => ?_) (fun h2 => ?_))))
  · have h := of_decide_eq_true h
    exact ⟨by congr 2; omega, rfl⟩
  · have h := of_decide_eq_false h
    simp only [Bool.not_eq_true', Bool.or_eq_false_iff, beq_eq_false_iff_ne] at h2
    have : Lib.compareBytes a.data.toList b.data.toList ≠ 0 := fun e => h2.2 (cb_zero _ _ e)
    exact ⟨by congr 2; omega, rfl⟩
  · have h := of_decide_eq_false h
    rw [decide_eq_false h] at h2
    have h3 : a.data.toList = b.data.toList := by simpa using h2
    exact ⟨by congr 2; rw [h3, cb_self], rfl⟩


/-! ### Sorted -/
theorem sortW_kp {α : Type} [Inhabited α] (enc : α → List Value) (k : Nat) (w : World) (blk off m : Nat) (dk : Array α) (os : Array Obj) : Kp (· = blk) w (sortWorldK enc k w blk off m dk os) := by
  refine ⟨rfl, rfl, rfl, size_sortWorldK_c enc k w blk off m dk os, fun i hi hne => ?_⟩
  show (((Sort.ahead w m).heap.modify blk _) ++ os)[i]? = _
  rw [Array.getElem?_append_left (by simpa [Sort.ahead] using hi), Array.getElem?_modify, if_neg (fun e => hne e.symm)]
  rfl
/-- The row's block is of the same make. -/
theorem sortW_blk {α : Type} [Inhabited α] (enc : α → List Value) (k : Nat) (w : World) (blk off m : Nat) (dk : Array α) (os : Array Obj) {cur : Array Value} {t : TypeId} (h : w.heap[blk]? = some (.cells cur t (0, 0))) : ∃ cur' : Array Value, cur'.size = cur.size ∧ (sortWorldK enc k w blk off m dk os).heap[blk]? = some (.cells cur' t (0, 0)) := by
  have hlt := block_lt h
  refine ⟨putCells id off (flatK enc k dk) cur, by simp [putCells], ?_⟩
  show (((Sort.ahead w m).heap.modify blk (onCells (putCells id off (flatK enc k dk)))) ++ os)[blk]? = _
  rw [Array.getElem?_append_left (by simpa [Sort.ahead] using hlt), Array.getElem?_modify, if_pos rfl]
  have e : (Sort.ahead w m).heap[blk]? = w.heap[blk]? := rfl
  rw [e, h]
  rfl

end Go.Proofs.YtfacflbmlfbeeaaGreatDoor

/- Words of a walk under a fence: arrays and structs are loaded, made, stored. Generic: no program, no condition. -/
namespace Go.Proofs.YtfacflbmlfbeeaaGreatDoor
open Go.RowKit Go.Shelf

section
variable {F : Fence} {n : Nat} {P : Program} {ops : Array Oper} {rest : List Oper} {o : Oper} {a : Act} {w : World} {Q : Exit → Act → World → Prop}
theorem wi_val {v : Value} {w' : World} (hg : o.guard = none) (hd : ∀ c, o.op ≠ .defer c) (ha : o.about P w a.eval = none) (hr : (execOp a.eval o).run P w = .ok (.value v) w') (h : wpListIn F n P ops Q rest (a.put o.dst v) w') : wpListIn F n P ops Q (o :: rest) a w := by
  refine wpListIn_plain hg fun K hK => ?_
  unfold Oper.wpIn
  refine ⟨fun f hf => (by rw [ha] at hf; cases hf), ?_⟩
  rw [Oper.semAt_plain F _ _ hd, hr]
  exact hK _ _ h
theorem wi_skip {w' : World} (hg : o.guard = none) (hd : ∀ c, o.op ≠ .defer c) (ha : o.about P w a.eval = none) (hr : (execOp a.eval o).run P w = .ok .skip w') (h : wpListIn F n P ops Q rest (a.put o.dst undef) w') : wpListIn F n P ops Q (o :: rest) a w := by
  refine wpListIn_plain hg fun K hK => ?_
  unfold Oper.wpIn
  refine ⟨fun f hf => (by rw [ha] at hf; cases hf), ?_⟩
  rw [Oper.semAt_plain F _ _ hd, hr]
  exact hK _ _ h
theorem wi_load {t : TypeId} {p : Operand} {b ofs k : Nat} {cs : List Value} {agg : Bool} (hg : o.guard = none) (hop : o.op = .load t p) (he : a.eval p = .pointer (some ⟨b, ofs, none⟩)) (hk : ldK P t = some (agg, k)) (hn : (cs.length == k) = true) (hA : AtL w b ofs cs) {v : Value} (hv : toV agg cs = v)
    (h : wpListIn F n P ops Q rest (a.put o.dst v) w) : wpListIn F n P ops Q (o :: rest) a w := by
  refine wi_val hg (fun c e => by rw [hop] at e; cases e) (by simp [Oper.about, hop]) ?_ h
  subst hv
  have := run_loadAt (P := P) hk hn hA.h
  simp [execOp, hop, he, this]
theorem wi_alloc {t : TypeId} {z : Value} (hg : o.guard = none) (hop : o.op = .alloc t) (hz : Sem.ev P (zeroValue t) = some z) (h : wpListIn F n P ops Q rest (a.put o.dst (.pointer (some ⟨w.heap.size, 0, none⟩))) (w.alloc (.cells z.cells t))) : wpListIn F n P ops Q (o :: rest) a w := by
  refine wi_val hg (fun c e => by rw [hop] at e; cases e) (by simp [Oper.about, hop]) ?_ h
  have := run_alloc2 (P := P) (w := w) hz
  simp [execOp, hop, this]
theorem wi_store {t : TypeId} {p x : Operand} {b ofs k : Nat} {v : Value} (hg : o.guard = none) (hop : o.op = .store t p x) (hp : a.eval p = .pointer (some ⟨b, ofs, none⟩)) (hx : a.eval x = v) (hs : szOf P t = some k) (hl : (v.cells.size == k) = true) (h1 : oneB v.cells.toList = true) (hw : WrF w b ofs k)
    (h : ∀ w', PutB w b ofs v.cells.toList w' → wpListIn F n P ops Q rest (a.put o.dst undef) w') : wpListIn F n P ops Q (o :: rest) a w := by
  obtain ⟨w', hr, hk⟩ := storeF_ok (E := ⟨P, [], fun _ _ => none, [], [], [], []⟩) (t := t) (x := .pointer (some ⟨b, ofs, none⟩)) (v := v) (w := w) (K := fun w' => PutB w b ofs v.cells.toList w') (by
    unfold storeF
    simp only [hs, h1, hl]
    exact ⟨hw, fun _ h => h⟩)
  refine wi_skip hg (fun c e => by rw [hop] at e; cases e) (by simp [Oper.about, hop]) ?_ (h w' hk)
  simp [execOp, hop, hp, hx, hr]
theorem wi_slice {t : TypeId} {len : Nat} {parts : Array (Nat × Operand)} {e : TypeId} {cells : Array Value} (hg : o.guard = none) (hop : o.op = .buildSlice t len parts) (hr : Sem.ev P (rowS2 t len (parts.map fun x => (x.1, a.eval x.2))) = some (e, cells))
    (h : wpListIn F n P ops Q rest (a.put o.dst (.slice (some ⟨w.heap.size, 0, none⟩) len len)) (w.alloc (.cells cells e))) : wpListIn F n P ops Q (o :: rest) a w := by
  refine wi_val hg (fun c e => by rw [hop] at e; cases e) (by simp [Oper.about, hop]) ?_ h
  have := run_slice2 (P := P) (w := w) hr
  simp [execOp, hop, this]
end

end Go.Proofs.YtfacflbmlfbeeaaGreatDoor
