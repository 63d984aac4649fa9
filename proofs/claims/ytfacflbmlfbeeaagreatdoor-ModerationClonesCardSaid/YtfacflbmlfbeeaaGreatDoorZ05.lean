/- delete of a map's entry, clear of a row's end, slices that are shorter. Generic: no program, no condition. -/
import Derived.Test.YtfacflbmlfbeeaaGreatDoorZ04
import Derived.Maps.RangeRun
import Derived.Test.YtfacflbmlfbeeaaGreatDoorZ03
import Derived.Shelf.SlGeneric
import Derived.Shelf.SlSortCmp.NoneTotal
import Derived.Ground.SlsfProg
import Derived.Test.YtfacflbmlfbeeaaGreatDoorProg
import Derived.Test.YtfacflbmlfbeeaaGreatDoorZ02
import Derived.KernelRfl
import Derived.Lib.BytesEntry
import Derived.Sort.Grow
import Derived.RangeFuncNested
import Derived.RangeFuncBound
import Derived.RangeFuncCalls
import Derived.RangeFuncLeaves
import Derived.RangeFuncBox
import Derived.Shelf.Abstract
import Derived.Shelf.RegionOpen
import Derived.WalkKit
import Derived.OwnWalkIn
import Derived.TacticsInMore
import Derived.LoopNIn
import Derived.LoopIn
namespace Go.Proofs.YtfacflbmlfbeeaaGreatDoor
open Go.RowKit Go.Maps
theorem map_erase {α β : Type} (f : α -> β) : ∀ (l : List α) (i : Nat), (l.eraseIdx i).map f = (l.map f).eraseIdx i
 | [], _ => rfl
 | _ :: _, 0 => rfl
 | x :: l, i + 1 => by simp [map_erase f l i]
section
variable {α : Type} {P : Program} {k t e : TypeId} {enc : α -> Value} {w w1 : World} {b : Nat} {l : List (α × Value)}
variable [DecidableEq α]
theorem adel_none {β : Type} {l : List (α × β)} {a : α} (h : ∀ p ∈ l, p.1 ≠ a) : adel l a = l := List.filter_eq_self.2 fun p hp => by simp [h p hp]
theorem adel_at {β : Type} : ∀ {l : List (α × β)} {a : α} {v : β} {j : Nat}, (l.Pairwise fun p q => p.1 ≠ q.1) -> l[j]? = some (a, v) -> adel l a = l.eraseIdx j
 | [], a, v, j, _, h => by simp at h
 | (x, u) :: l, a, v, 0, hd, h => by
  simp at h
  obtain ⟨rfl, rfl⟩ := h
  have := adel_none (fun p hp => fun e => (List.pairwise_cons.1 hd).1 p hp e.symm)
  unfold adel at this ⊢
  rw [List.filter_cons, if_neg (by simp), this]; rfl
 | (x, u) :: l, a, v, j + 1, hd, h => by
  have h' : l[j]? = some (a, v) := by simpa using h
  have hne : x ≠ a := (List.pairwise_cons.1 hd).1 (a, v) (List.mem_of_getElem? h')
  have ih := adel_at (List.pairwise_cons.1 hd).2 h'
  unfold adel at ih ⊢
  rw [List.filter_cons, if_pos (by simp [hne]), ih]; rfl
theorem aget_adel {β : Type} (l : List (α × β)) (a c : α) : aget (adel l a) c = if a = c then none else aget l c := by
 induction l with
 | nil => simp [adel, aget]
 | cons p r ih =>
  obtain ⟨x, u⟩ := p
  unfold adel at ih ⊢
  rw [List.filter_cons]
  by_cases h : x = a
  ·subst h
   rw [if_neg (by simp), ih]
   by_cases h2 : x = c
   ·rw [if_pos h2, if_pos h2]
   ·rw [if_neg h2, if_neg h2]; simp [aget, h2]
  ·rw [if_pos (by simp [h])]
   unfold aget
   by_cases h2 : x = c
   ·subst h2; simp [Ne.symm h]
   ·simp only [h2, if_false]; exact ih
variable (hinj : ∀ x y, enc x = enc y -> x = y)
include hinj
theorem MapB.del (h : MapB P k enc w b l) (K : Keyed P k) (ht : P.underlying t = some (.map k e)) {a : α} {kl : Lit} (ha : keyOf P k (enc a) = some kl) :
  ∃ w1, BltP P .delete [t, k] [.map (some b), enc a] w w1 /\ MapB P k enc w1 b (adel l a) /\ Kp (· = b) w w1 := by
 obtain ⟨es, c, hb, he⟩ := h.blk
 have hkp : ∀ o, Kp (· = b) w (ChangeMaps.setBlock w b o) := fun o => ⟨rfl, rfl, rfl, by simp [ChangeMaps.setBlock], fun i _ hi => ChangeMaps.heap_setBlock_other hb _ (fun e => hi (by rw [e]))⟩
 have hkeys : ∀ p ∈ adel l a, ∃ kl, keyOf P k (enc p.1) = some kl := fun p hp => h.key p (List.mem_filter.1 hp).1
 have hdis : (adel l a).Pairwise fun p q => p.1 ≠ q.1 := List.Pairwise.sublist List.filter_sublist h.dis
 rcases map_find hinj K he h.key h.dis ha (w := w) with ⟨h1, h2⟩ | ⟨j, x, u, h1, h2, h3, h4, h5⟩
 ·refine ⟨ChangeMaps.setBlock w b (.map es c), ⟨fun ty cs => ?_⟩, ⟨⟨_, _, ChangeMaps.heap_setBlock_same hb _, ?_⟩, hkeys, hdis, fun es' c' h' => by rw [ChangeMaps.heap_setBlock_same hb] at h'; cases h'; exact h.brn es c hb⟩, hkp _⟩
  ·simp [builtin, Builtin.delete_, run_underlying ht, MapKept.run_getObj_map hb, K.check w _ ha, h2, MapKept.run_setObj_map _ hb, Result.andThen, ChangeMaps.setBlock]
  ·rw [adel_none (aget_none.1 h1), he]
 ·refine ⟨ChangeMaps.setBlock w b (.map (es.eraseIdxIfInBounds j) c), ⟨fun ty cs => ?_⟩, ⟨⟨_, _, ChangeMaps.heap_setBlock_same hb _, ?_⟩, hkeys, hdis, fun es' c' h' => by
   rw [ChangeMaps.heap_setBlock_same hb] at h'
   cases h'
   have h6 := h.brn es c hb
   have hs : List.Sublist (es.eraseIdxIfInBounds j).toList es.toList := by rw [Array.toList_eraseIdxIfInBounds]; exact List.eraseIdx_sublist _ _
   exact ⟨h6.1.sublist (hs.map _), fun x hx => h6.2 x (hs.subset hx)⟩⟩, hkp _⟩
  ·simp [builtin, Builtin.delete_, run_underlying ht, MapKept.run_getObj_map hb, K.check w _ ha, h2, MapKept.run_setObj_map _ hb, Result.andThen, ChangeMaps.setBlock]
  ·rw [adel_at h.dis h3]
   rw [map_erase, <- he, <- map_erase]
   simp
end
theorem putL_len : ∀ (vs c : List Value) (o : Nat), (putL c o vs).length = c.length
 | [], c, o => rfl
 | v :: r, c, o => by simp only [putL]; rw [putL_len r]; simp
theorem oneB_all : ∀ l : List Value, (∀ v ∈ l, v.oneCell' = true) -> oneB l = true
 | [], _ => rfl
 | v :: r, h => by
  have h1 := h v (by simp)
  have h2 := oneB_all r (fun u hu => h u (by simp [hu]))
  cases v <;> first | exact h2 | (simp [Value.oneCell'] at h1)
theorem zeroCells_mem {z : Array Value} {n : Nat} {v : Value} (h : v ∈ (Builtin.zeroCells z n).toList) : v ∈ z.toList := by
 unfold Builtin.zeroCells at h
 rw [Array.toList_map, List.mem_map] at h
 obtain ⟨i, hi, rfl⟩ := h
 have hi : i < n * z.size := by simpa using hi
 have hz : 0 < z.size := by
  rcases Nat.eq_zero_or_pos z.size with h0 | h0
  ·rw [h0] at hi; omega
  ·exact h0
 have : i % z.size < z.size := Nat.mod_lt _ hz
 rw [getElem!_pos z _ this]
 simp
theorem zeroCells_len {z : Array Value} {n : Nat} : (Builtin.zeroCells z n).toList.length = n * z.size := by simp [Builtin.zeroCells]
theorem clear_row {P : Program} {w : World} {t e T : TypeId} (ht : P.underlying t = some (.slice e)) {z : Value} (hz : ∀ w, (zeroValue e).run P w = .ok z w) {b o m c : Nat} {cells : Array Value} (hb : w.heap[b]? = some (.cells cells T (0, 0)))
  (hm : 0 < m) (hl : o + m * z.cells.size <= cells.size) (h1 : ∀ v ∈ z.cells.toList, v.oneCell' = true) :
  ∃ w1, BltP P .clear [t] [.slice (some ⟨b, o, none⟩) m c] w w1 /\ Kp (· = b) w w1 /\ w1.heap[b]? = some (.cells (putL cells.toList o (Builtin.zeroCells z.cells m).toList).toArray T (0, 0)) := by
 have hst := run_storeCells_w (P := P) (b := b) (o := o) (Builtin.zeroCells z.cells m).toList 0 w (oneB_all _ fun v hv => h1 v (zeroCells_mem hv)) (fun j hj => by
  rw [zeroCells_len] at hj
  exact cell_wr hb (by omega))
 refine ⟨wset w b o (Builtin.zeroCells z.cells m).toList, ⟨fun ty cs => ?_⟩, wset_kp _ _ _, wset_block _ _ _ _ hb⟩
 obtain ⟨m, rfl⟩ : ∃ k, m = k + 1 := ⟨m - 1, by omega⟩
 rw [Nat.add_zero] at hst
 simp [builtin, Builtin.clear_, run_underlying ht, hz, hst, Result.andThen]
end Go.Proofs.YtfacflbmlfbeeaaGreatDoor
namespace Go.Proofs.YtfacflbmlfbeeaaGreatDoor
open Go.RowKit Go.Maps
def leftN (w : World) (r b : Nat) : Nat := match w.heap[r]?, w.heap[b]? with
 | some (.mapIter _ _ seen _), some (.map es _) => (leftOf es seen).size
 | _, _ => 0
structure RngB {α : Type} (enc : α -> Value) (w : World) (r b : Nat) (todo : List (α × Value)) : Prop where
 h : ∃ es clock since c0 seen, w.heap[b]? = some (.map es clock) /\ w.heap[r]? = some (.mapIter (some b) since seen c0) /\ (∀ x ∈ es.toList, x.born < since) /\ since <= c0 /\ since <= clock /\ (es.toList.map (·.born)).Nodup /\
  (leftOf es seen).toList.map (fun e => (e.key, e.val)) = todo.map (fun p => (enc p.1, p.2))
section
variable {α : Type} {P : Program} {k t e : TypeId} {enc : α -> Value} {w w1 : World} {r b : Nat} {l todo : List (α × Value)}
theorem RngB.kp {M : Nat -> Prop} {w' : World} (h : RngB enc w r b todo) (hk : Kp M w w') (hr : ¬ M r) (hb : ¬ M b) : RngB enc w' r b todo := by
 obtain ⟨es, cl, si, c0, se, h1, h2, h3⟩ := h.h
 exact ⟨es, cl, si, c0, se, hk.blk h1 hb, hk.blk h2 hr, h3⟩
theorem RngB.left (h : RngB enc w r b todo) : leftN w r b = todo.length := by
 obtain ⟨es, cl, si, c0, se, h1, h2, h3, h4, h5, h6, h7⟩ := h.h
 unfold leftN
 rw [h1, h2]
 have := congrArg List.length h7
 simpa using this
theorem MapB.range (h : MapB P k enc w b l) (ht : P.underlying t = some (.map k e)) : ∃ n w1, RngP P t (.map (some b)) n w w1 /\ RngB enc w1 n b l /\ K0 w w1 /\ w.heap.size <= n /\ n < w1.heap.size := by
 obtain ⟨es, c, hb, he⟩ := h.blk
 obtain ⟨h1, h2⟩ := h.brn es c hb
 have hk : K0 w (w.alloc (.mapIter (some b) c #[] c)) := ⟨rfl, rfl, rfl, by simp, fun i hi _ => Below.heap_alloc _ _ _ hi⟩
 refine ⟨w.heap.size, w.alloc (.mapIter (some b) c #[] c), ⟨run_range_map w t k e b es c ht hb⟩, ⟨es, c, c, c, #[], hk.blk hb (fun h => h), heap_alloc_new _ _, h2, Nat.le_refl _, Nat.le_refl _, h1, ?_⟩, hk, Nat.le_refl _, by simp⟩
 rw [<- he]
 unfold leftOf
 rw [Array.filter_eq_self.2 (fun x _ => by simp)]
theorem left_erase {L : List MapEntry} (hn : (L.map (·.born)).Nodup) {j : Nat} {x : MapEntry} (hj : L[j]? = some x) : L.filter (fun y => !(y.born == x.born)) = L.eraseIdx j := by
 induction L generalizing j with
 | nil => simp at hj
 | cons y r ih =>
  have hn' : y.born ∉ r.map (·.born) /\ (r.map (·.born)).Nodup := List.nodup_cons.1 hn
  cases j with
  | zero =>
   have e : y = x := by simpa using hj
   subst e
   rw [List.filter_cons, if_neg (by simp), List.eraseIdx_cons_zero]
   refine List.filter_eq_self.2 fun z hz => ?_
   have : z.born ≠ y.born := fun e => hn'.1 (by rw [<- e]; exact List.mem_map.2 ⟨z, hz, rfl⟩)
   simpa using this
  | succ j =>
   have hj' : r[j]? = some x := by simpa using hj
   have : y.born ≠ x.born := fun e => hn'.1 (by rw [e]; exact List.mem_map.2 ⟨x, List.mem_of_getElem? hj', rfl⟩)
   rw [List.filter_cons, if_pos (by simpa using this), List.eraseIdx_cons_succ, ih hn'.2 hj']
theorem map_erase' {β γ : Type} (f : β -> γ) : ∀ (L : List β) (j : Nat), (L.eraseIdx j).map f = (L.map f).eraseIdx j
 | [], _ => by simp
 | _ :: _, 0 => rfl
 | x :: L, j + 1 => by simp [List.eraseIdx_cons_succ, map_erase' f L j]
theorem sb_same {w : World} {r : Nat} {x : Obj} (h : w.heap[r]? = some x) (o : Obj) : (ChangeMaps.setBlock w r o).heap[r]? = some o := by
 have hlt : r < w.heap.size := by
  rcases Nat.lt_or_ge r w.heap.size with h' | h'
  ·exact h'
  ·rw [Array.getElem?_eq_none h'] at h; cases h
 simp [ChangeMaps.setBlock, hlt]
theorem sb_other (w : World) (r : Nat) (o : Obj) {i : Nat} (h : i ≠ r) : (ChangeMaps.setBlock w r o).heap[i]? = w.heap[i]? := by
 simp [ChangeMaps.setBlock, Ne.symm h]
theorem RngB.next (h : RngB enc w r b todo) :
  (todo = [] /\ NxtP P (.pointer (some ⟨r, 0, none⟩)) false [] w w) \/
  ∃ (j : Nat) (p : α × Value) (w1 : World), todo[j]? = some p /\ NxtP P (.pointer (some ⟨r, 0, none⟩)) true [enc p.1, p.2] w w1 /\ EntP P (.pointer (some ⟨r, 0, none⟩)) (.tuple #[enc p.1, p.2]) w1 /\ RngB enc w1 r b (todo.eraseIdx j) /\ Kp (· = r) w w1 := by
 obtain ⟨es, cl, si, c0, se, h1, h2, h3, h4, h5, h6, h7⟩ := h.h
 have hlen := congrArg List.length h7
 simp only [List.length_map] at hlen
 rcases run_next_at (P := P) w 0 r b si c0 se es cl h2 h1 h3 h4 with ⟨h8, _⟩ | ⟨x, hx, w1, hw1, hrun⟩
 ·refine .inl ⟨List.eq_nil_of_length_eq_zero (by rw [<- hlen]; simpa using h8), ⟨fun ty => ?_⟩⟩
  rcases run_next_at (P := P) w ty r b si c0 se es cl h2 h1 h3 h4 with ⟨_, h9⟩ | ⟨x, hx, _⟩
  ·exact h9
  ·have : leftOf es se = #[] := Array.eq_empty_of_size_eq_zero h8
   rw [this] at hx; simp at hx
 ·obtain ⟨j, hj, hjx⟩ := List.getElem_of_mem hx
  have hjx' : (leftOf es se).toList[j]? = some x := by rw [List.getElem?_eq_getElem hj, hjx]
  have hp : (todo.map (fun p => (enc p.1, p.2)))[j]? = some (x.key, x.val) := by rw [<- h7, List.getElem?_map, hjx']; rfl
  rw [List.getElem?_map, Option.map_eq_some_iff] at hp
  obtain ⟨p, hp, hpe⟩ := hp
  simp only [Prod.mk.injEq] at hpe
  have hkw : Kp (· = r) w (ChangeMaps.setBlock w1 r (.mapIter (some b) si (se.push x.born) cl)) := by
   have hw : Kp (· = r) w w1 := by
    rcases hw1 with rfl | rfl
    ·exact .refl _ _
    ·exact ⟨rfl, rfl, rfl, Nat.le_refl _, fun _ _ _ => rfl⟩
   have hr1 : w1.heap[r]? = some (.mapIter (some b) si se c0) := by rcases hw1 with rfl | rfl <;> exact h2
   exact hw.trans ⟨rfl, rfl, rfl, by simp [ChangeMaps.setBlock], fun i _ hi => sb_other _ _ _ hi⟩
  have hrb : b ≠ r := fun e => by rw [e, h2] at h1; cases h1
  have hr1 : w1.heap[r]? = some (.mapIter (some b) si se c0) := by rcases hw1 with rfl | rfl <;> exact h2
  have hb1 := hkw.blk h1 hrb
  have hr2 : (ChangeMaps.setBlock w1 r (.mapIter (some b) si (se.push x.born) cl)).heap[r]? = some (.mapIter (some b) si (se.push x.born) cl) := sb_same hr1 _
  refine .inr ⟨j, p, _, hp, ⟨fun ty => ?_⟩, ⟨?_⟩, ⟨es, cl, si, cl, se.push x.born, hb1, hr2, h3, h5, h5, h6, ?_⟩, hkw⟩
  ·rw [hpe.1, hpe.2]; exact hrun
  ·rw [hpe.1, hpe.2]; exact run_entry_at _ r b si se es cl x hr2 hb1 (mem_left hx).1 h6
  ·rw [map_erase', <- h7, <- map_erase']
   congr 1
   have hL : ((leftOf es se).toList.map (·.born)).Nodup := by
    unfold leftOf
    rw [Array.toList_filter]
    exact h6.sublist (List.filter_sublist.map _)
   rw [<- left_erase hL hjx']
   unfold leftOf
   rw [Array.toList_filter, Array.toList_filter, List.filter_filter]
   refine List.filter_congr fun y _ => ?_
   rw [contains_push]
   cases se.contains y.born <;> simp
end
end Go.Proofs.YtfacflbmlfbeeaaGreatDoor
namespace Go.Proofs.YtfacflbmlfbeeaaGreatDoor
open Go.RowKit Go.Maps
def NZ (n : Nat) (f : Nat -> Int) : Prop := ∀ j, n <= j -> f j = 0
theorem nz_eq {n : Nat} {f g : Nat -> Int} (hf : NZ n f) (hg : NZ n g) (h : (List.range n).map f = (List.range n).map g) : f = g := by
 funext j
 rcases Nat.lt_or_ge j n with hj | hj
 ·have := congrArg (fun z => z[j]?) h
  simpa [hj] using this
 ·rw [hf j hj, hg j hj]
def I64 (x : Int) : Prop := -9223372036854775808 <= x /\ x <= 9223372036854775807
structure Sb.OK (x : Sb) : Prop where
 id : BY x.id
 idz : NZ 32 x.id
 mo : BY x.mo
 moz : NZ 16 x.mo
 g : x.g.size <= 1073741824
 tx : x.tx.size <= 1073741824
 rs : x.rs.size <= 1073741824
 r : I64 x.r
 st : I64 x.st
 de : I64 x.de
theorem Sb.pl_eq {x y : Sb} (hx : x.OK) (hy : y.OK) (h : x.pl = y.pl) : x = y := by
 unfold Sb.pl at h
 simp only [Prod.mk.injEq] at h
 obtain ⟨h1, h2, h3, h4, h5, h6, h7, h8⟩ := h
 obtain ⟨id, g, tx, r, st, mo, de, rs⟩ := x
 obtain ⟨id', g', tx', r', st', mo', de', rs'⟩ := y
 simp only at h1 h2 h3 h4 h5 h6 h7 h8
 have e1 : id = id' := nz_eq hx.idz hy.idz h1
 have e2 : mo = mo' := nz_eq hx.moz hy.moz h6
 subst e1 e2 h2 h3 h4 h5 h7 h8
 rfl
structure En.OK (x : En) : Prop where
 s : x.s.OK
 ho : BY x.ho
 hoz : NZ 16 x.ho
 si : 0 <= x.si /\ x.si <= 105190559
theorem En.pl_eq {x y : En} (hx : x.OK) (hy : y.OK) (h : x.pl = y.pl) : x = y := by
 unfold En.pl at h
 simp only [Prod.mk.injEq] at h
 obtain ⟨h1, h2, h3, h4⟩ := h
 obtain ⟨s, le, ho, si⟩ := x
 obtain ⟨s', le', ho', si'⟩ := y
 simp only at h1 h2 h3 h4
 have e1 : s = s' := Sb.pl_eq hx.s hy.s h1
 have e2 : ho = ho' := nz_eq hx.hoz hy.hoz h3
 subst e1 e2 h2 h4
 rfl
theorem stInj (x y : ByteArray) (h : Value.string x = Value.string y) : x = y := by cases h; rfl
theorem stKeyed : Keyed Tryz.prog 9 := string_keyed Tryz.underlying9
theorem stKey {s : ByteArray} (h : s.size <= 1073741824) : ∃ kl, keyOf Tryz.prog 9 (.string s) = some kl := ⟨_, WideMaps.keyOf_string_mk Tryz.underlying9 (by unfold maxLen; omega)⟩
theorem kyKeyed : Keyed Tryz.prog 103 := Keyed.of_law (deep_law (m := 3) (by omega) (by kernel_rfl) (by kernel_rfl) (by kernel_rfl))
theorem lits_str {s : ByteArray} (hs : s.size <= 1073741824) (D : Nat) : Tryz.prog.keyLits (D + 1) 9 [.string s] = some [.string s.data.toList] := by
 unfold Program.keyLits
 rw [Tryz.underlying9]
 simp only
 rw [if_pos (by unfold maxLen; omega)]
theorem lits_int {x : Int} (hx : I64 x) (D : Nat) : Tryz.prog.keyLits (D + 1) 3 [.int .i64 x] = some [.int .i64 x] := by
 unfold Program.keyLits
 rw [Tryz.underlying3]
 simp only
 have hw : (Lit.int .i64 x).wf = true := by
  obtain ⟨h1, h2⟩ := hx
  simp [Lit.wf, IntKind.min, IntKind.max, IntKind.bits, IntKind.signed]; omega
 simp [hw]
theorem lits_id {l : List Int} (hl : l.length = 32) (hb : ∀ x ∈ l, 0 <= x /\ x <= 255) (D : Nat) : Tryz.prog.keyLits (D + 2) 32 (l.map (Value.int .u8)) = some (l.map (Lit.int .u8)) :=
 keyLits_bytes (P := Tryz.prog) (t := 32) (e := 5) (n := 32) Tryz.underlying32 Tryz.underlying5 (by kernel_rfl) (by kernel_rfl) hl hb D
theorem lits_au {l : List Int} (hl : l.length = 16) (hb : ∀ x ∈ l, 0 <= x /\ x <= 255) (D : Nat) : Tryz.prog.keyLits (D + 2) 45 (l.map (Value.int .u8)) = some (l.map (Lit.int .u8)) :=
 keyLits_bytes (P := Tryz.prog) (t := 45) (e := 5) (n := 16) Tryz.underlying45 Tryz.underlying5 (by kernel_rfl) (by kernel_rfl) hl hb D
theorem kyLits {k : Ky} (hl : k.1.length = 32) (hb : ∀ x ∈ k.1, 0 <= x /\ x <= 255) (hs : k.2.size <= 1073741824) (D : Nat) : Tryz.prog.keyLits (D + 3) 103 (k.1.map (Value.int .u8) ++ [.string k.2]) = some (k.1.map (Lit.int .u8) ++ [.string k.2.data.toList]) := by
 unfold Program.keyLits
 rw [Tryz.underlying103]
 simp only
 have c0 : Tryz.prog.cellsOf 103 = 33 := by kernel_rfl
 rw [if_pos ⟨by rw [c0]; simp [hl], by decide +kernel⟩]
 have c1 : Tryz.prog.cellsOf 32 = 32 := by kernel_rfl
 have c2 : Tryz.prog.cellsOf 9 = 1 := by kernel_rfl
 simp only [List.mapM_cons, List.mapM_nil, c1, c2]
 have e1 : ((k.1.map (Value.int .u8) ++ ([.string k.2] : List Value)).drop 0).take 32 = k.1.map (Value.int .u8) := by rw [List.drop_zero, List.take_left' (by simp [hl])]
 have e2 : ((k.1.map (Value.int .u8) ++ ([.string k.2] : List Value)).drop 32).take 1 = [.string k.2] := by rw [List.drop_left' (by simp [hl])]; rfl
 rw [e1, e2, lits_id hl hb, lits_str hs]
 simp
theorem kyKey {k : Ky} (hl : k.1.length = 32) (hb : ∀ x ∈ k.1, 0 <= x /\ x <= 255) (hs : k.2.size <= 1073741824) : ∃ kl, keyOf Tryz.prog 103 (kyV k) = some kl := by
 refine ⟨.string (keyBytes (k.1.map (Lit.int .u8) ++ [.string k.2.data.toList])), ?_⟩
 unfold keyOf
 rw [Tryz.underlying103]
 simp only
 have h1 : Tryz.prog.keyType 103 = true := by kernel_rfl
 have hf' : (kyV k).formed Tryz.prog 103 = true := by
  unfold Value.formed kyV
  rw [Tryz.underlying103]
  have c0 : Tryz.prog.cellsOf 103 = 33 := by kernel_rfl
  simp [c0, hl]
 rw [h1, hf']
 have h2 := kyLits hl hb hs (Tryz.prog.types.size - 2)
 have hsz : 2 <= Tryz.prog.types.size := by decide +kernel
 rw [show Tryz.prog.types.size - 2 + 3 = Tryz.prog.types.size + 1 by omega] at h2
 have : (kyV k).cells.toList = k.1.map (Value.int .u8) ++ [.string k.2] := by simp [kyV, Value.cells]
 rw [this, h2]
 rfl
def sbL (x : Sb) : List Lit := (idI x.id).map (Lit.int .u8) ++ ([.string x.g.data.toList, .string x.tx.data.toList, .int .i64 x.r, .int .i64 x.st] ++ ((auI x.mo).map (Lit.int .u8) ++ [.int .i64 x.de, .string x.rs.data.toList]))
theorem sbLits {x : Sb} (h : x.OK) (D : Nat) : Tryz.prog.keyLits (D + 3) 48 (sbC x) = some (sbL x) := by
 unfold Program.keyLits
 rw [Tryz.underlying48]
 simp only
 have c0 : Tryz.prog.cellsOf 48 = 54 := by kernel_rfl
 rw [if_pos ⟨by rw [c0]; rfl, by decide +kernel⟩]
 have c1 : Tryz.prog.cellsOf 32 = 32 := by kernel_rfl
 have c2 : Tryz.prog.cellsOf 9 = 1 := by kernel_rfl
 have c3 : Tryz.prog.cellsOf 3 = 1 := by kernel_rfl
 have c4 : Tryz.prog.cellsOf 45 = 16 := by kernel_rfl
 simp only [List.mapM_cons, List.mapM_nil, c1, c2, c3, c4]
 have e1 : ((sbC x).drop 0).take 32 = (idI x.id).map (Value.int .u8) := rfl
 have e2 : ((sbC x).drop 32).take 1 = [.string x.g] := rfl
 have e3 : ((sbC x).drop 33).take 1 = [.string x.tx] := rfl
 have e4 : ((sbC x).drop 34).take 1 = [.int .i64 x.r] := rfl
 have e5 : ((sbC x).drop 35).take 1 = [.int .i64 x.st] := rfl
 have e6 : ((sbC x).drop 36).take 16 = (auI x.mo).map (Value.int .u8) := rfl
 have e7 : ((sbC x).drop 52).take 1 = [.int .i64 x.de] := rfl
 have e8 : ((sbC x).drop 53).take 1 = [.string x.rs] := rfl
 rw [e1, e2, e3, e4, e5, e6, e7, e8, lits_id (idI_len x.id) (idI_bd h.id), lits_str h.g, lits_str h.tx, lits_int h.r, lits_int h.st, lits_au (auI_len x.mo) (auI_bd h.mo), lits_int h.de, lits_str h.rs]
 simp [sbL]
theorem sbKey {x : Sb} (h : x.OK) : keyOf Tryz.prog 48 (sbV x) = some (.string (keyBytes (sbL x))) := by
 unfold keyOf
 rw [Tryz.underlying48]
 simp only
 have h1 : Tryz.prog.keyType 48 = true := by kernel_rfl
 have hf' : (sbV x).formed Tryz.prog 48 = true := by
  unfold Value.formed
  rw [Tryz.underlying48]
  have c0 : Tryz.prog.cellsOf 48 = 54 := by kernel_rfl
  simp only
  rw [c0]; rfl
 rw [h1, hf']
 have h2 := sbLits h (Tryz.prog.types.size - 2)
 have hsz : 2 <= Tryz.prog.types.size := by decide +kernel
 rw [show Tryz.prog.types.size - 2 + 3 = Tryz.prog.types.size + 1 by omega] at h2
 have : (sbV x).cells.toList = sbC x := by simp [Value.cells]
 rw [this, h2]
 rfl
theorem sbL_inj {x y : Sb} (h : sbL x = sbL y) : x.pl = y.pl := by
 unfold sbL at h
 obtain ⟨h1, h2⟩ := List.append_inj h (by simp [idI])
 obtain ⟨h3, h4⟩ := List.append_inj h2 rfl
 obtain ⟨h5, h6⟩ := List.append_inj h4 (by simp [auI])
 have k1 : idI x.id = idI y.id := (List.map_inj_right (fun a b h => by cases h; rfl)).1 h1
 have k2 : auI x.mo = auI y.mo := (List.map_inj_right (fun a b h => by cases h; rfl)).1 h5
 simp only [List.cons.injEq, Lit.string.injEq, Lit.int.injEq, true_and, and_true] at h3 h6
 unfold Sb.pl
 rw [k1, k2, ba_eq h3.1, ba_eq h3.2.1, h3.2.2.1, h3.2.2.2, h6.1, ba_eq h6.2]
theorem sbL_pl {x y : Sb} (h : x.pl = y.pl) : sbL x = sbL y := by
 unfold Sb.pl at h
 simp only [Prod.mk.injEq] at h
 obtain ⟨h1, h2, h3, h4, h5, h6, h7, h8⟩ := h
 unfold sbL
 rw [h1, h2, h3, h4, h5, h6, h7, h8]
noncomputable instance (x y : Sb) : Decidable (x.pl = y.pl) := Classical.propDecidable _
set_option maxRecDepth 100000 in
theorem sbEq {x y : Sb} (hx : x.OK) (hy : y.OK) : EqP Tryz.prog 48 (sbV x) (sbV y) (decide (x.pl = y.pl)) := by
 refine ⟨fun w => ?_, by kernel_rfl, _, _, rfl, rfl⟩
 have kx := sbKey hx
 have ky := sbKey hy
 generalize hX : sbV x = X at kx ⊢
 generalize hY : sbV y = Y at ky ⊢
 obtain ⟨r, hr, hi⟩ := run_equal_deep w (m := 3) (by omega) (by kernel_rfl) (by rw [Tryz.underlying48]) kx ky
 rw [hr]
 congr 1
 rw [Bool.eq_iff_iff, hi, decide_eq_true_eq]
 constructor
 ·intro h
  have h : keyBytes (sbL x) = keyBytes (sbL y) := by simpa using h
  exact sbL_inj (keyLits_inj (sbLits hx 0) (sbLits hy 0) h)
 ·intro h
  rw [sbL_pl h]
structure MX where
 l : List (Nat -> Int)
 p : Option Addr
 c : Nat
abbrev mxV (x : MX) : Value := .slice x.p x.l.length x.c
def mxz : MX := ⟨[], none, 0⟩
structure MX.OK (x : MX) : Prop where
 by_ : ∀ m ∈ x.l, BY m /\ NZ 16 m
 len : x.l.length <= 8
 cap : x.l.length <= x.c
structure Qu where
 room : Int
 days : Int
 wt : Int
 ms : List (ByteArray × MX)
 es : List (Ky × En)
structure Qu.OK (q : Qu) : Prop where
 room : 1 <= q.room /\ q.room <= 10000
 days : 1 <= q.days /\ q.days <= 365
 wt : q.wt = ((q.es.filter fun p => p.2.s.st == 0).length : Nat)
 ms : ∀ g x, aget q.ms g = some x -> gnE g = 0 /\ x.OK /\ x.l ≠ []
 es : ∀ k x, aget q.es k = some x -> x.OK /\ k = x.s.ky /\ gnE x.s.g = 0 /\ x.s.tx.size <= 65536 /\ x.s.rs.size <= 200 /\ (0 <= x.s.r /\ x.s.r <= 105190559) /\ (0 <= x.s.de /\ x.s.de <= 105190559) /\ (0 <= x.s.st /\ x.s.st <= 3)
structure Mq (w : World) (b mb eb : Nat) (q : Qu) : Prop where
 st : w.heap[b]? = some (.cells #[.int .i64 q.room, .int .i64 q.days, .int .i64 q.wt, .map (some mb), .map (some eb)] 98 (0, 0))
 mm : MapB Tryz.prog 9 Value.string w mb (amap mxV q.ms)
 me : MapB Tryz.prog 103 kyV w eb (amap enV q.es)
 row : ∀ g x, aget q.ms g = some x -> RowA auC 16 w x.p x.l
 ne : mb ≠ eb
 nz : b ≠ 0
end Go.Proofs.YtfacflbmlfbeeaaGreatDoor
namespace Go.Proofs.YtfacflbmlfbeeaaGreatDoor
open Go.ChangeShapes Go.WideShapes Go.ChangeAt Go.RowKit Go.Deep
theorem gw_of {w : World} (h : w.ShapedOpen Tryz.prog) : GW w := cell_of_shapedOpen_int (zero := #[.int .i64 0]) (t := 3) h (of_decide_eq_true (by kernel_rfl)) (by kernel_rfl) rfl (by kernel_rfl) (by kernel_rfl) Tryz.underlying3
section
variable {H : Type} {enc : TypeId × Value -> H} {W : World} {base : Nat} {v : Value}
end
end Go.Proofs.YtfacflbmlfbeeaaGreatDoor
namespace Go.Proofs.YtfacflbmlfbeeaaGreatDoor
open Go.ChangeShapes Go.WideShapes Go.ChangeAt Go.RowKit Go.Deep
structure OpZ where
 k : Int
 i : Int
 g : Int
 a : Int
 now : Int
 t : ByteArray
def opC39 (x : OpZ) : List Value := [.int .u8 x.k, .int .u8 x.i, .int .u8 x.g, .int .u8 x.a, .int .i64 x.now, .string x.t]
instance : Inhabited OpZ := ⟨⟨0, 0, 0, 0, 0, ⟨#[]⟩⟩⟩
structure OpZ.R (x : OpZ) : Prop where
 k : 0 <= x.k /\ x.k <= 255
 i : 0 <= x.i /\ x.i <= 255
 g : 0 <= x.g /\ x.g <= 255
 a : 0 <= x.a /\ x.a <= 255
 now : I64 x.now
theorem list_ofO {α : Type} [Inhabited α] {n : Nat} {Q : Nat -> α -> Prop} (h : ∀ i, i < n -> ∃ y, Q i y) : ∃ l : List α, l.length = n /\ ∀ i y, l[i]? = some y -> Q i y := by
 have hex : ∃ g : Nat -> α, ∀ i, i < n -> Q i (g i) := by
  refine ⟨fun i => if h' : i < n then Classical.choose (h i h') else default, fun i hi => ?_⟩
  simp only [hi, dif_pos]
  exact Classical.choose_spec (h i hi)
 obtain ⟨g, hg⟩ := hex
 refine ⟨(List.range n).map g, by simp, fun i y hy => ?_⟩
 rw [List.getElem?_map] at hy
 rcases Nat.lt_or_ge i n with h' | h'
 ·simp [h'] at hy
  subst hy
  exact hg i h'
 ·simp [h'] at hy
section
variable {H : Type} {enc : TypeId × Value -> H} {W : World} {base : Nat} {v : Value}
theorem cellsOp39 : Tryz.prog.cellsOf 66 = 6 := by kernel_rfl
set_option maxRecDepth 100000 in
theorem rw_Op {l : List Value} (hl : l.length = 6) (hr : Rw enc Tryz.prog W 66 l) : ∃ x : OpZ, l = opC39 x /\ x.R := by
 match l, hl with
 | [c0, c1, c2, c3, c4, c5], _ =>
  have hr : Rw enc Tryz.prog W 66 [c0, c1, c2, c3, c4, c5] := hr
  obtain ⟨k, e0, z0⟩ := Rw.int8 (cs := [c0]) (hr.field Tryz.underlying66 (i := 0) rfl) Tryz.underlying5
  obtain ⟨i, e1, z1⟩ := Rw.int8 (cs := [c1]) (hr.field Tryz.underlying66 (i := 1) rfl) Tryz.underlying5
  obtain ⟨g, e2, z2⟩ := Rw.int8 (cs := [c2]) (hr.field Tryz.underlying66 (i := 2) rfl) Tryz.underlying5
  obtain ⟨a, e3, z3⟩ := Rw.int8 (cs := [c3]) (hr.field Tryz.underlying66 (i := 3) rfl) Tryz.underlying5
  obtain ⟨n, e4, z4⟩ := Rw.int64 (cs := [c4]) (hr.field Tryz.underlying66 (i := 4) rfl) Tryz.underlying3
  obtain ⟨t, e5, z5⟩ := Rw.str (cs := [c5]) (hr.field Tryz.underlying66 (i := 5) rfl) Tryz.underlying9
  simp only [List.cons.injEq, and_true] at e0 e1 e2 e3 e4 e5
  subst e0 e1 e2 e3 e4 e5
  exact ⟨⟨k, i, g, a, n, t⟩, rfl, z0, z1, z2, z3, z4⟩
set_option maxRecDepth 100000 in
theorem openw_Op (hv : Value.okWide Tryz.prog W .any base 66 v) (hr : Rw enc Tryz.prog W 66 v.cells.toList) : ∃ x : OpZ, v = .agg (opC39 x).toArray /\ x.R := by
 obtain ⟨cs, rfl, hsz⟩ := okWide_struct Tryz.underlying66 hv
 rw [cellsOp39] at hsz
 obtain ⟨l⟩ := cs
 obtain ⟨x, h1, h2⟩ := rw_Op (l := l) hsz hr
 exact ⟨x, congrArg (fun l : List Value => Value.agg l.toArray) h1, h2⟩
set_option maxRecDepth 100000 in
theorem openw_Ops (hv : Value.okWide Tryz.prog W .any base 61 v) (hr : Rw enc Tryz.prog W 61 v.cells.toList) : ∃ (p : Option Addr) (L : List OpZ) (c : Nat), v = .slice p L.length c /\ RowA opC39 6 W p L /\ (∀ x ∈ L, x.R) /\ L.length <= 4611686018427387904 := by
 obtain ⟨p0, n0, c0, rfl⟩ := okWide_slice Tryz.underlying61 hv
 obtain ⟨p, n, c, hcs, hnc, hby, _, hel⟩ := hr.slice Tryz.underlying61 (by rw [cellsOp39]; decide)
 rw [cellsOp39] at hel
 rw [show Tryz.prog.bytesOf 66 = 32 by kernel_rfl] at hby
 have key : ∀ i, i < n -> ∃ y : OpZ, (∃ b o, p = some ⟨b, o, none⟩ /\ AtL W b (o + i * 6) (opC39 y)) /\ y.R := fun i hi => by
  obtain ⟨b, o, cs', hp, hl, hc, hrw⟩ := hel i hi
  obtain ⟨x, rfl, h1⟩ := rw_Op hl hrw
  exact ⟨x, ⟨b, o, hp, ⟨At_of _ _ fun j v hv => hc j v hv⟩⟩, h1⟩
 obtain ⟨L, hlen, hL⟩ := list_ofO key
 have hcs : [Value.slice p0 n0 c0] = [.slice p n c] := hcs
 simp only [List.cons.injEq, and_true] at hcs
 exact ⟨p, L, c, by rw [hlen]; exact hcs, fun k y hy => (hL k y hy).1, fun x hx => by
  obtain ⟨j, hj, e⟩ := List.getElem_of_mem hx
  exact (hL j x (by rw [List.getElem?_eq_getElem hj, e])).2, by omega⟩
end
end Go.Proofs.YtfacflbmlfbeeaaGreatDoor
namespace Go.Proofs
open Go.Shelf
def Tryz.laysSlF06_f104_ren : Go.Shelf.Ren := ⟨fun | 6 => 104 | 15 => 98 | 14 => 130 | 28 => 125 | 29 => 126 | 20 => 146 | 21 => 147 | 22 => 148 | 23 => 149 | 24 => 150 | 25 => 151 | 26 => 152 | 27 => 153 | 46 => 161 | 47 => 141 | 48 => 142 | 49 => 162 | 50 => 163 | 57 => 168 | n => n, fun | 22 => 28 | 24 => 45 | 25 => 113 | 3 => 3 | 39 => 148 | 0 => 0 | 53 => 179 | 55 => 181 | 4 => 4 | 46 => 172 | 45 => 171 | 50 => 176 | 5 => 5 | 9 => 9 | 66 => 192 | 70 => 196 | 76 => 206 | 77 => 190 | n => n, fun | n => n⟩
theorem Tryz.laysSlF06_f104 : Go.Proofs.SlLaysF0.n6 Tryz.prog Tryz.laysSlF06_f104_ren := {
 mixed := by kernel_rfl
 f6 := ⟨Tryz.f104.name, by decide, Tryz.func104.trans (congrArg some (by kernel_rfl))⟩
 f14 := ⟨Tryz.f130.name, by decide, Tryz.func130.trans (congrArg some (by kernel_rfl))⟩
 f15 := Tryz.func98.trans (congrArg some (by kernel_rfl))
 f20 := ⟨Tryz.f146.name, by decide, Tryz.func146.trans (congrArg some (by kernel_rfl))⟩
 f21 := ⟨Tryz.f147.name, by decide, Tryz.func147.trans (congrArg some (by kernel_rfl))⟩
 f22 := ⟨Tryz.f148.name, by decide, Tryz.func148.trans (congrArg some (by kernel_rfl))⟩
 f23 := ⟨Tryz.f149.name, by decide, Tryz.func149.trans (congrArg some (by kernel_rfl))⟩
 f24 := ⟨Tryz.f150.name, by decide, Tryz.func150.trans (congrArg some (by kernel_rfl))⟩
 f25 := ⟨Tryz.f151.name, by decide, Tryz.func151.trans (congrArg some (by kernel_rfl))⟩
 f26 := ⟨Tryz.f152.name, by decide, Tryz.func152.trans (congrArg some (by kernel_rfl))⟩
 f27 := ⟨Tryz.f153.name, by decide, Tryz.func153.trans (congrArg some (by kernel_rfl))⟩
 f28 := Tryz.func125.trans (congrArg some (by kernel_rfl))
 f29 := Tryz.func126.trans (congrArg some (by kernel_rfl))
 f46 := ⟨Tryz.f161.name, by decide, Tryz.func161.trans (congrArg some (by kernel_rfl))⟩
 f47 := Tryz.func141.trans (congrArg some (by kernel_rfl))
 f48 := Tryz.func142.trans (congrArg some (by kernel_rfl))
 f49 := ⟨Tryz.f162.name, by decide, Tryz.func162.trans (congrArg some (by kernel_rfl))⟩
 f50 := ⟨Tryz.f163.name, by decide, Tryz.func163.trans (congrArg some (by kernel_rfl))⟩
 f57 := ⟨Tryz.f168.name, by decide, Tryz.func168.trans (congrArg some (by kernel_rfl))⟩
 t0 := Tryz.underlying0
 a0 := Tryz.isAgg0
 z0 := Tryz.sizeOf0
 v0 := Tryz.zeroValue0
 t3 := Tryz.underlying3
 a3 := Tryz.isAgg3
 z3 := Tryz.sizeOf3
 v3 := Tryz.zeroValue3
 t4 := Tryz.underlying4
 a4 := Tryz.isAgg4
 z4 := Tryz.sizeOf4
 v4 := Tryz.zeroValue4
 t5 := Tryz.underlying5
 a5 := Tryz.isAgg5
 z5 := Tryz.sizeOf5
 v5 := Tryz.zeroValue5
 t9 := Tryz.underlying9
 a9 := Tryz.isAgg9
 z9 := Tryz.sizeOf9
 v9 := Tryz.zeroValue9
 t22 := Tryz.underlying28
 a22 := Tryz.isAgg28
 z22 := Tryz.sizeOf28
 v22 := Tryz.zeroValue28
 t25 := Tryz.underlying113
 a25 := Tryz.isAgg113
 z25 := Tryz.sizeOf113
 v25 := Tryz.zeroValue113
 t39 := Tryz.underlying148
 a39 := Tryz.isAgg148
 z39 := Tryz.sizeOf148
 v39 := Tryz.zeroValue148
 t45 := Tryz.underlying171
 a45 := Tryz.isAgg171
 z45 := Tryz.sizeOf171
 v45 := Tryz.zeroValue171
 t46 := Tryz.underlying172
 a46 := Tryz.isAgg172
 z46 := Tryz.sizeOf172
 v46 := Tryz.zeroValue172
 t50 := Tryz.underlying176
 a50 := Tryz.isAgg176
 z50 := Tryz.sizeOf176
 v50 := Tryz.zeroValue176
 t53 := Tryz.underlying179
 a53 := Tryz.isAgg179
 z53 := Tryz.sizeOf179
 v53 := Tryz.zeroValue179
 t55 := Tryz.underlying181
 a55 := Tryz.isAgg181
 z55 := Tryz.sizeOf181
 v55 := Tryz.zeroValue181
 t66 := Tryz.underlying192
 a66 := Tryz.isAgg192
 z66 := Tryz.sizeOf192
 v66 := Tryz.zeroValue192
 t70 := Tryz.underlying196
 a70 := Tryz.isAgg196
 z70 := Tryz.sizeOf196
 v70 := Tryz.zeroValue196
 t76 := Tryz.underlying206
 a76 := Tryz.isAgg206
 z76 := Tryz.sizeOf206
 v76 := Tryz.zeroValue206
 t77 := Tryz.underlying190
 a77 := Tryz.isAgg190
 z77 := Tryz.sizeOf190
 v77 := Tryz.zeroValue190 }
open Go.RowKit Go.Lib in
theorem Tryz.slices_SortFunc_none104 (p : Option Addr) (cap : Nat) (fv : Value) (w : World) :
  Calls Tryz.prog 104 #[.slice p 0 cap, fv] w fun e w' => e = .returned (.tuple #[]) /\ w' = w := AnyF.slices_SortFunc_none Tryz.laysSlF06_f104 p cap fv w
def Tryz.laysSlF06_f67_ren : Go.Shelf.Ren := ⟨fun | 6 => 67 | 15 => 98 | 14 => 97 | 28 => 125 | 29 => 126 | 20 => 117 | 21 => 118 | 22 => 119 | 23 => 120 | 24 => 121 | 25 => 122 | 26 => 123 | 27 => 124 | 46 => 140 | 47 => 141 | 48 => 142 | 49 => 143 | 50 => 144 | 57 => 159 | n => n, fun | 22 => 71 | 24 => 48 | 25 => 124 | 3 => 3 | 39 => 148 | 0 => 0 | 53 => 179 | 55 => 181 | 4 => 4 | 46 => 172 | 45 => 171 | 50 => 176 | 5 => 5 | 9 => 9 | 66 => 192 | 70 => 196 | 76 => 206 | 77 => 190 | n => n, fun | n => n⟩
theorem Tryz.laysSlF06_f67 : Go.Proofs.SlLaysF0.n6 Tryz.prog Tryz.laysSlF06_f67_ren := {
 mixed := by kernel_rfl
 f6 := ⟨Tryz.f67.name, by decide, Tryz.func67.trans (congrArg some (by kernel_rfl))⟩
 f14 := ⟨Tryz.f97.name, by decide, Tryz.func97.trans (congrArg some (by kernel_rfl))⟩
 f15 := Tryz.func98.trans (congrArg some (by kernel_rfl))
 f20 := ⟨Tryz.f117.name, by decide, Tryz.func117.trans (congrArg some (by kernel_rfl))⟩
 f21 := ⟨Tryz.f118.name, by decide, Tryz.func118.trans (congrArg some (by kernel_rfl))⟩
 f22 := ⟨Tryz.f119.name, by decide, Tryz.func119.trans (congrArg some (by kernel_rfl))⟩
 f23 := ⟨Tryz.f120.name, by decide, Tryz.func120.trans (congrArg some (by kernel_rfl))⟩
 f24 := ⟨Tryz.f121.name, by decide, Tryz.func121.trans (congrArg some (by kernel_rfl))⟩
 f25 := ⟨Tryz.f122.name, by decide, Tryz.func122.trans (congrArg some (by kernel_rfl))⟩
 f26 := ⟨Tryz.f123.name, by decide, Tryz.func123.trans (congrArg some (by kernel_rfl))⟩
 f27 := ⟨Tryz.f124.name, by decide, Tryz.func124.trans (congrArg some (by kernel_rfl))⟩
 f28 := Tryz.func125.trans (congrArg some (by kernel_rfl))
 f29 := Tryz.func126.trans (congrArg some (by kernel_rfl))
 f46 := ⟨Tryz.f140.name, by decide, Tryz.func140.trans (congrArg some (by kernel_rfl))⟩
 f47 := Tryz.func141.trans (congrArg some (by kernel_rfl))
 f48 := Tryz.func142.trans (congrArg some (by kernel_rfl))
 f49 := ⟨Tryz.f143.name, by decide, Tryz.func143.trans (congrArg some (by kernel_rfl))⟩
 f50 := ⟨Tryz.f144.name, by decide, Tryz.func144.trans (congrArg some (by kernel_rfl))⟩
 f57 := ⟨Tryz.f159.name, by decide, Tryz.func159.trans (congrArg some (by kernel_rfl))⟩
 t0 := Tryz.underlying0
 a0 := Tryz.isAgg0
 z0 := Tryz.sizeOf0
 v0 := Tryz.zeroValue0
 t3 := Tryz.underlying3
 a3 := Tryz.isAgg3
 z3 := Tryz.sizeOf3
 v3 := Tryz.zeroValue3
 t4 := Tryz.underlying4
 a4 := Tryz.isAgg4
 z4 := Tryz.sizeOf4
 v4 := Tryz.zeroValue4
 t5 := Tryz.underlying5
 a5 := Tryz.isAgg5
 z5 := Tryz.sizeOf5
 v5 := Tryz.zeroValue5
 t9 := Tryz.underlying9
 a9 := Tryz.isAgg9
 z9 := Tryz.sizeOf9
 v9 := Tryz.zeroValue9
 t22 := Tryz.underlying71
 a22 := Tryz.isAgg71
 z22 := Tryz.sizeOf71
 v22 := Tryz.zeroValue71
 t25 := Tryz.underlying124
 a25 := Tryz.isAgg124
 z25 := Tryz.sizeOf124
 v25 := Tryz.zeroValue124
 t39 := Tryz.underlying148
 a39 := Tryz.isAgg148
 z39 := Tryz.sizeOf148
 v39 := Tryz.zeroValue148
 t45 := Tryz.underlying171
 a45 := Tryz.isAgg171
 z45 := Tryz.sizeOf171
 v45 := Tryz.zeroValue171
 t46 := Tryz.underlying172
 a46 := Tryz.isAgg172
 z46 := Tryz.sizeOf172
 v46 := Tryz.zeroValue172
 t50 := Tryz.underlying176
 a50 := Tryz.isAgg176
 z50 := Tryz.sizeOf176
 v50 := Tryz.zeroValue176
 t53 := Tryz.underlying179
 a53 := Tryz.isAgg179
 z53 := Tryz.sizeOf179
 v53 := Tryz.zeroValue179
 t55 := Tryz.underlying181
 a55 := Tryz.isAgg181
 z55 := Tryz.sizeOf181
 v55 := Tryz.zeroValue181
 t66 := Tryz.underlying192
 a66 := Tryz.isAgg192
 z66 := Tryz.sizeOf192
 v66 := Tryz.zeroValue192
 t70 := Tryz.underlying196
 a70 := Tryz.isAgg196
 z70 := Tryz.sizeOf196
 v70 := Tryz.zeroValue196
 t76 := Tryz.underlying206
 a76 := Tryz.isAgg206
 z76 := Tryz.sizeOf206
 v76 := Tryz.zeroValue206
 t77 := Tryz.underlying190
 a77 := Tryz.isAgg190
 z77 := Tryz.sizeOf190
 v77 := Tryz.zeroValue190 }
open Go.RowKit Go.Lib in
theorem Tryz.slices_SortFunc_none67 (p : Option Addr) (cap : Nat) (fv : Value) (w : World) :
  Calls Tryz.prog 67 #[.slice p 0 cap, fv] w fun e w' => e = .returned (.tuple #[]) /\ w' = w := AnyF.slices_SortFunc_none Tryz.laysSlF06_f67 p cap fv w
end Go.Proofs
namespace Go.Proofs.YtfacflbmlfbeeaaGreatDoor
set_option maxRecDepth 100000
set_option linter.unusedVariables false
def VC_mcompare (a : Array Value) (b : Array Value) (w : World) (R : Ending -> World -> Prop) : Prop := ∀ (n : Nat) (w1 : World), NewB w (Obj.cells a 32) n w1 -> ∀ (n_1 : Nat) (w1_1 : World), NewB w1 (Obj.cells b 32) n_1 w1_1 -> CallsS Tryz.prog 106 #[.slice (some (Addr.mk n 0 none)) 32 32, .slice (some (Addr.mk n_1 0 none)) 32 32] w1_1.drew fun (e : Ending) (w' : World) => ∃ (x : Int), e = .returned (.int .i64 x) /\ R (.returned (.int .i64 x)) w'
theorem vc_mcompare (a : Array Value) (b : Array Value) (w : World) (R : Ending -> World -> Prop) (h : VC_mcompare a b w R) : Calls Tryz.prog 101 ([Value.agg a, .agg b] : List Value).toArray w R :=
 calls_of_exec' (loops := []) (tails := [(1, 2)]) (joins := []) (boxes := []) (rngs := []) (c := Tryz.f101.body.getD .skip) pur1_ok Tryz.func101 (by kernel_rfl) (by kernel_rfl) h
def VC_cmpOr (p : Option Addr) (n : Nat) (c : Nat) (w : World) (R : Ending -> World -> Prop) : Prop := ∃ (I : List Value -> World -> Prop) (m : List Value -> World -> Nat), I [Value.int .i64 0] w /\ ∀ (x : Int) (w' : World), I [Value.int .i64 x] w' -> bsp (decide (x < (↑n : Int))) (nn true p fun (b o : Nat) => (0 <= x /\ x < (↑n : Int)) /\ ∃ (x_1 : Int), w'.cell? (Addr.mk b (o + x.toNat) none) = some (.int .i64 x_1) /\ bsp (x_1 != 0) (R (.returned (.int .i64 x_1)) w') (I [Value.int .i64 (IntKind.i64.wrap (x + 1))] w' /\ m [Value.int .i64 (IntKind.i64.wrap (x + 1))] w' < m [Value.int .i64 x] w')) (R (.returned (.int .i64 0)) w')
theorem vc_cmpOr (p : Option Addr) (n : Nat) (c : Nat) (w : World) (R : Ending -> World -> Prop) (h : VC_cmpOr p n c w R) : Calls Tryz.prog 99 ([Value.slice p n c] : List Value).toArray w R :=
 calls_of_exec' (loops := [(3, [(8, Ck.int .i64)])]) (tails := []) (joins := []) (boxes := []) (rngs := []) (c := Tryz.f99.body.getD .skip) pur1_ok Tryz.func99 (by kernel_rfl) (by kernel_rfl) h
end Go.Proofs.YtfacflbmlfbeeaaGreatDoor
namespace Go.Proofs.YtfacflbmlfbeeaaGreatDoor
set_option maxRecDepth 100000
set_option linter.unusedVariables false
def VC_nanS (a : ByteArray) (w : World) (R : Ending -> World -> Prop) : Prop := R (.returned (.bool !a.toList == a.toList)) w
theorem vc_nanS (a : ByteArray) (w : World) (R : Ending -> World -> Prop) (h : VC_nanS a w R) : Calls Tryz.prog 160 ([Value.string a] : List Value).toArray w R :=
 calls_of_exec' (loops := []) (tails := []) (joins := []) (boxes := []) (rngs := []) (c := Tryz.f160.body.getD .skip) pur1_ok Tryz.func160 (by kernel_rfl) (by kernel_rfl) h
def VC_cmpS (a : ByteArray) (b : ByteArray) (w : World) (R : Ending -> World -> Prop) : Prop := CallsS Tryz.prog 160 #[.string a] w fun (e : Ending) (w' : World) => ∃ (x : Bool), e = .returned (.bool x) /\ CallsS Tryz.prog 160 #[.string b] w' fun (e : Ending) (w' : World) => ∃ (x_1 : Bool), e = .returned (.bool x_1) /\ bsp x (bsp x_1 (R (.returned (.int .i64 0)) w') (R (.returned (.int .i64 (-1))) w')) (bsp x_1 (R (.returned (.int .i64 1)) w') (bsp (Op.bytesLess a.toList b.toList) (R (.returned (.int .i64 (-1))) w') (bsp (!(Op.bytesLess a.toList b.toList || a.toList == b.toList)) (R (.returned (.int .i64 1)) w') (R (.returned (.int .i64 0)) w'))))
theorem vc_cmpS (a : ByteArray) (b : ByteArray) (w : World) (R : Ending -> World -> Prop) (h : VC_cmpS a b w R) : Calls Tryz.prog 145 ([Value.string a, .string b] : List Value).toArray w R :=
 calls_of_exec' (loops := []) (tails := []) (joins := []) (boxes := []) (rngs := []) (c := Tryz.f145.body.getD .skip) pur1_ok Tryz.func145 (by kernel_rfl) (by kernel_rfl) h
end Go.Proofs.YtfacflbmlfbeeaaGreatDoor
namespace Go.Proofs.YtfacflbmlfbeeaaGreatDoor
open Go.RowKit Go.Sort
theorem bytesOf_idB (f : Nat -> Int) : Lib.bytesOf (idI f) = idB f := rfl
set_option maxRecDepth 100000 in
theorem bcompare_run {w : World} {b b' o o' : Nat} {f g : Nat -> Int} (h : ∀ j, j < 32 -> w.cell? ⟨b, o + j, none⟩ = some (.int .u8 (f j))) (h' : ∀ j, j < 32 -> w.cell? ⟨b', o' + j, none⟩ = some (.int .u8 (g j))) (c c' : Nat) :
  (Extern.BytealgCompare.compare #[.slice (some ⟨b, o, none⟩) 32 c, .slice (some ⟨b', o', none⟩) 32 c']).run Tryz.prog w = .ok (.int .i64 (Lib.compareBytes (idB f) (idB g))) w := by
 have key : ∀ (b o : Nat) (f : Nat -> Int), (∀ j, j < 32 -> w.cell? ⟨b, o + j, none⟩ = some (.int .u8 (f j))) -> (Extern.Bytes.loadBytes ⟨b, o, none⟩ 32 .empty).run Tryz.prog w = .ok ⟨(idB f).toArray⟩ w := fun b o f h => by
  have := Lib.run_loadBytesX (P := Tryz.prog) w (idI f) ⟨b, o, none⟩ .empty (fun j x hj => by
   have hlt : j < 32 := by have := (List.getElem?_eq_some_iff.1 hj).1; simpa [idI] using this
   rw [idI_get f hlt] at hj
   simp at hj
   subst hj
   have e : (⟨b, o, none⟩ : Addr).add j = ⟨b, o + j, none⟩ := by
    unfold Addr.add
    simp
   rw [e]
   exact h j hlt)
  have hl : (idI f).length = 32 := by simp [idI]
  rw [hl, bytesOf_idB] at this
  rw [this]
  generalize idB f = l
  have e : ByteArray.empty.data ++ l.toArray = l.toArray := by
   show (#[] : Array UInt8) ++ l.toArray = l.toArray
   simp
  rw [e]
 change Sem.run Tryz.prog (do pure (goInt (Extern.BytealgCompare.cmp (<- Extern.Bytes.bytesOf (.slice (some ⟨b, o, none⟩) 32 c)) (<- Extern.Bytes.bytesOf (.slice (some ⟨b', o', none⟩) 32 c'))))) w = _
 simp only [Extern.Bytes.bytesOf, Sem.run_bind, key b o f h, key b' o' g h', Sem.run_pure, Result.andThen]
 rw [Lib.cmp_eq]
 rfl
set_option maxHeartbeats 1000000 in
set_option maxRecDepth 100000 in
theorem bcompare_any {w : World} {b b' o o' : Nat} {f g : Nat -> Int} (h : ∀ j, j < 32 -> w.cell? ⟨b, o + j, none⟩ = some (.int .u8 (f j))) (h' : ∀ j, j < 32 -> w.cell? ⟨b', o' + j, none⟩ = some (.int .u8 (g j))) (c c' : Nat) :
  Calls Tryz.prog 106 #[.slice (some ⟨b, o, none⟩) 32 c, .slice (some ⟨b', o', none⟩) 32 c'] w fun e w' => e = .returned (.int .i64 (Lib.compareBytes (idB f) (idB g))) /\ w' = w := by
 have hr := bcompare_run h h' c c'
 generalize Lib.compareBytes (idB f) (idB g) = r at hr ⊢
 clear h h'
 go_enter Tryz.func106, Tryz.ntmps106
 go_wp2
 rw [run_callFunc_extern Tryz.func131 (by kernel_rfl) (by kernel_rfl) (by kernel_rfl) (e := Extern.BytealgCompare.compare) (by kernel_rfl), hr]
 simp only [Result.andThen]
 rw [Oper.upon_value]
 go_wp2
 go_ret
 exact ⟨rfl, rfl⟩
theorem mcompare_any (f g : Nat -> Int) (w : World) : Calls Tryz.prog 101 #[.agg (arrI .u8 f 32 0).toArray, .agg (arrI .u8 g 32 0).toArray] w fun e w' => e = .returned (.int .i64 (Lib.compareBytes (idB f) (idB g))) /\ K0 w w' /\ w.drawn <= w'.drawn := by
 refine vc_mcompare _ _ w _ ?_
 intro n w1 hn n1 w2 hn1
 have b1 := (hn1.kp (fun _ => False)).blk hn.block (fun h => h)
 have b2 := hn1.block
 have hd : w2.drawn = w.drawn := by rw [hn1.hw, hn.hw]; rfl
 refine ⟨(bcompare_any (w := w2.drew) (f := f) (g := g) (fun j hj => cell_at (blk_drew b1) ?_) (fun j hj => cell_at (blk_drew b2) ?_) 32 32).mono fun e w' ⟨he, hw⟩ => ⟨_, he, rfl, ?_, ?_⟩⟩
 ·rw [Nat.zero_add]; simpa using arrI_get .u8 f 32 0 j hj
 ·rw [Nat.zero_add]; simpa using arrI_get .u8 g 32 0 j hj
 ·rw [hw]; exact ((hn.kp _).trans (hn1.kp _)).drew
 ·rw [hw]; show w.drawn <= w2.drawn + 1; omega
theorem bl_cb : ∀ a b : List UInt8, Op.bytesLess a b = decide (Lib.compareBytes a b < 0)
 | [], [] => rfl
 | [], _ :: _ => rfl
 | _ :: _, [] => rfl
 | a :: l, b :: m => by
  unfold Op.bytesLess Lib.compareBytes
  by_cases h1 : a < b
  ·simp [h1]
  ·by_cases h2 : b < a
   ·have h3 : a ≠ b := fun e => by subst e; exact h1 h2
    simp [h1, h2, h3]
   ·have h3 : a = b := UInt8.le_antisymm (UInt8.not_lt.1 h2) (UInt8.not_lt.1 h1)
    subst h3
    simp [bl_cb l m]
theorem nanS_any (a : ByteArray) (w : World) : Calls Tryz.prog 160 #[.string a] w fun e w' => e = .returned (.bool false) /\ w' = w := vc_nanS a w _ ⟨by simp, rfl⟩
theorem cmpS_any (a b : ByteArray) (w : World) : Calls Tryz.prog 145 #[.string a, .string b] w fun e w' => e = .returned (.int .i64 (Lib.compareBytes a.data.toList b.data.toList)) /\ w' = w := by
 refine vc_cmpS a b w _ ⟨(nanS_any a w).mono fun e w1 ⟨he, hw⟩ => ⟨_, he, ?_⟩⟩
 subst hw
 refine ⟨(nanS_any b w1).mono fun e w2 ⟨he, hw⟩ => ⟨_, he, ?_⟩⟩
 subst hw
 have e1 : a.toList = a.data.toList := ByteArray.toList_eq a
 have e2 : b.toList = b.data.toList := ByteArray.toList_eq b
 rw [e1, e2, bl_cb]
 have ha := cb_anti a.data.toList b.data.toList
 have hcases : Lib.compareBytes a.data.toList b.data.toList = -1 \/ Lib.compareBytes a.data.toList b.data.toList = 0 \/ Lib.compareBytes a.data.toList b.data.toList = 1 := by
  have key : ∀ l m : List UInt8, Lib.compareBytes l m = -1 \/ Lib.compareBytes l m = 0 \/ Lib.compareBytes l m = 1 := by
   intro l
   induction l with
   | nil => intro m; cases m <;> simp [Lib.compareBytes]
   | cons x l ih =>
    intro m
    cases m with
    | nil => simp [Lib.compareBytes]
    | cons y m =>
     unfold Lib.compareBytes
     split
     ·exact .inl rfl
     split
     ·exact .inr (.inr rfl)
     ·exact ih m
  exact key _ _
 refine bsp_intro (fun h => by cases h) (fun _ => bsp_intro (fun h => by cases h) (fun _ => bsp_intro (fun h => ?_) (fun h => bsp_intro (fun h2 => ?_) (fun h2 => ?_))))
 ·have h := of_decide_eq_true h
  exact ⟨by congr 2; omega, rfl⟩
 ·have h := of_decide_eq_false h
  simp only [Bool.not_eq_true', Bool.or_eq_false_iff, beq_eq_false_iff_ne] at h2
  have : Lib.compareBytes a.data.toList b.data.toList ≠ 0 := fun e => h2.2 (cb_zero _ _ e)
  exact ⟨by congr 2; omega, rfl⟩
 ·have h := of_decide_eq_false h
  rw [decide_eq_false h] at h2
  have h3 : a.data.toList = b.data.toList := by simpa using h2
  exact ⟨by congr 2; rw [h3, cb_self], rfl⟩
theorem sortW_kp {α : Type} [Inhabited α] (enc : α -> List Value) (k : Nat) (w : World) (blk off m : Nat) (dk : Array α) (os : Array Obj) : Kp (· = blk) w (sortWorldK enc k w blk off m dk os) := by
 refine ⟨rfl, rfl, rfl, size_sortWorldK_c enc k w blk off m dk os, fun i hi hne => ?_⟩
 show (((Sort.ahead w m).heap.modify blk _) ++ os)[i]? = _
 rw [Array.getElem?_append_left (by simpa [Sort.ahead] using hi), Array.getElem?_modify, if_neg (fun e => hne e.symm)]
 rfl
theorem sortW_blk {α : Type} [Inhabited α] (enc : α -> List Value) (k : Nat) (w : World) (blk off m : Nat) (dk : Array α) (os : Array Obj) {cur : Array Value} {t : TypeId} (h : w.heap[blk]? = some (.cells cur t (0, 0))) : ∃ cur' : Array Value, cur'.size = cur.size /\ (sortWorldK enc k w blk off m dk os).heap[blk]? = some (.cells cur' t (0, 0)) := by
 have hlt := block_lt h
 refine ⟨putCells id off (flatK enc k dk) cur, by simp [putCells], ?_⟩
 show (((Sort.ahead w m).heap.modify blk (onCells (putCells id off (flatK enc k dk)))) ++ os)[blk]? = _
 rw [Array.getElem?_append_left (by simpa [Sort.ahead] using hlt), Array.getElem?_modify, if_pos rfl]
 have e : (Sort.ahead w m).heap[blk]? = w.heap[blk]? := rfl
 rw [e, h]
 rfl
end Go.Proofs.YtfacflbmlfbeeaaGreatDoor
namespace Go.Proofs.YtfacflbmlfbeeaaGreatDoor
open Go.RowKit Go.Shelf
section
variable {F : Fence} {n : Nat} {P : Program} {ops : Array Oper} {rest : List Oper} {o : Oper} {a : Act} {w : World} {Q : Exit -> Act -> World -> Prop}
theorem wi_val {v : Value} {w' : World} (hg : o.guard = none) (hd : ∀ c, o.op ≠ .defer c) (ha : o.about P w a.eval = none) (hr : (execOp a.eval o).run P w = .ok (.value v) w') (h : wpListIn F n P ops Q rest (a.put o.dst v) w') : wpListIn F n P ops Q (o :: rest) a w := by
 refine wpListIn_plain hg fun K hK => ?_
 unfold Oper.wpIn
 refine ⟨fun f hf => (by rw [ha] at hf; cases hf), ?_⟩
 rw [Oper.semAt_plain F _ _ hd, hr]
 exact hK _ _ h
theorem wi_skip {w' : World} (hg : o.guard = none) (hd : ∀ c, o.op ≠ .defer c) (ha : o.about P w a.eval = none) (hr : (execOp a.eval o).run P w = .ok .skip w') (h : wpListIn F n P ops Q rest (a.put o.dst undef) w') : wpListIn F n P ops Q (o :: rest) a w := by
 refine wpListIn_plain hg fun K hK => ?_
 unfold Oper.wpIn
 refine ⟨fun f hf => (by rw [ha] at hf; cases hf), ?_⟩
 rw [Oper.semAt_plain F _ _ hd, hr]
 exact hK _ _ h
theorem wi_load {t : TypeId} {p : Operand} {b ofs k : Nat} {cs : List Value} {agg : Bool} (hg : o.guard = none) (hop : o.op = .load t p) (he : a.eval p = .pointer (some ⟨b, ofs, none⟩)) (hk : ldK P t = some (agg, k)) (hn : (cs.length == k) = true) (hA : AtL w b ofs cs) {v : Value} (hv : toV agg cs = v)
  (h : wpListIn F n P ops Q rest (a.put o.dst v) w) : wpListIn F n P ops Q (o :: rest) a w := by
 refine wi_val hg (fun c e => by rw [hop] at e; cases e) (by simp [Oper.about, hop]) ?_ h
 subst hv
 have := run_loadAt (P := P) hk hn hA.h
 simp [execOp, hop, he, this]
theorem wi_alloc {t : TypeId} {z : Value} (hg : o.guard = none) (hop : o.op = .alloc t) (hz : Sem.ev P (zeroValue t) = some z) (h : wpListIn F n P ops Q rest (a.put o.dst (.pointer (some ⟨w.heap.size, 0, none⟩))) (w.alloc (.cells z.cells t))) : wpListIn F n P ops Q (o :: rest) a w := by
 refine wi_val hg (fun c e => by rw [hop] at e; cases e) (by simp [Oper.about, hop]) ?_ h
 have := run_alloc2 (P := P) (w := w) hz
 simp [execOp, hop, this]
theorem wi_store {t : TypeId} {p x : Operand} {b ofs k : Nat} {v : Value} (hg : o.guard = none) (hop : o.op = .store t p x) (hp : a.eval p = .pointer (some ⟨b, ofs, none⟩)) (hx : a.eval x = v) (hs : szOf P t = some k) (hl : (v.cells.size == k) = true) (h1 : oneB v.cells.toList = true) (hw : WrF w b ofs k)
  (h : ∀ w', PutB w b ofs v.cells.toList w' -> wpListIn F n P ops Q rest (a.put o.dst undef) w') : wpListIn F n P ops Q (o :: rest) a w := by
 obtain ⟨w', hr, hk⟩ := storeF_ok (E := ⟨P, [], fun _ _ => none, [], [], [], []⟩) (t := t) (x := .pointer (some ⟨b, ofs, none⟩)) (v := v) (w := w) (K := fun w' => PutB w b ofs v.cells.toList w') (by
  unfold storeF
  simp only [hs, h1, hl]
  exact ⟨hw, fun _ h => h⟩)
 refine wi_skip hg (fun c e => by rw [hop] at e; cases e) (by simp [Oper.about, hop]) ?_ (h w' hk)
 simp [execOp, hop, hp, hx, hr]
theorem wi_slice {t : TypeId} {len : Nat} {parts : Array (Nat × Operand)} {e : TypeId} {cells : Array Value} (hg : o.guard = none) (hop : o.op = .buildSlice t len parts) (hr : Sem.ev P (rowS2 t len (parts.map fun x => (x.1, a.eval x.2))) = some (e, cells))
  (h : wpListIn F n P ops Q rest (a.put o.dst (.slice (some ⟨w.heap.size, 0, none⟩) len len)) (w.alloc (.cells cells e))) : wpListIn F n P ops Q (o :: rest) a w := by
 refine wi_val hg (fun c e => by rw [hop] at e; cases e) (by simp [Oper.about, hop]) ?_ h
 have := run_slice2 (P := P) (w := w) hr
 simp [execOp, hop, this]
end
end Go.Proofs.YtfacflbmlfbeeaaGreatDoor
namespace Go.Proofs.YtfacflbmlfbeeaaGreatDoor
open Go.RowKit Go.Shelf
attribute [local go_sem] Oper.semAt_some
abbrev auV (x : Nat -> Int) : Value := .agg (auC x).toArray
set_option maxRecDepth 100000 in
set_option maxHeartbeats 2000000 in
theorem avals1_in (n : Nat) (hn : 1 <= n) (l Bs n₀ : Nat) (p : Option Addr) (c : Nat) (zs : List (Nat -> Int)) (hz : zs.length <= 1000000) (J Jx : List (Nat -> Int) -> World -> Prop)
  (hY : ∀ pre x W, J pre W -> pre.length < zs.length -> YieldAt Fence.wide (n - 1) Tryz.prog l #[auV x] W fun e W' =>
   (e = .returned (.bool true) /\ J (pre ++ [x]) W' /\ Below n₀ W W') \/ (e = .returned (.bool false) /\ Jx (pre ++ [x]) W'))
  (W : World) (hJ : AbidesFrom W.heap.size J) (hBs : W.cell? ⟨Bs, 0, none⟩ = some (.slice p zs.length c)) (hR : RowA auC 16 W p zs) (hn₀ : n₀ <= W.heap.size) (hp : ∀ g o, p = some ⟨g, o, none⟩ -> g < n₀) (h0 : J [] W) :
  CallsIn Fence.wide n Tryz.prog 105 #[.func (.yield l) #[] #[], .pointer (some ⟨Bs, 0, none⟩)] W fun e W' => (∃ v, e = .returned v) /\
   ((∃ ys, ys = zs /\ J ys W') \/ (∃ pre, pre <+: zs /\ Jx pre W')) := by
 refine callsIn_of_wp Tryz.func105 rfl trivial ?_ rfl
 simp only [Tryz.ntmps105, List.size_toArray, List.length_cons, List.length_nil, Nat.reduceAdd, Nat.reduceSub, Array.replicate_succ, Array.replicate_zero, List.push_toArray, List.append_toArray, List.nil_append, List.cons_append]
 gi_wp2
 gi_loopw [7] (fun i wr => ∃ k : Nat, k <= zs.length /\ i = .int .i64 k /\ J (zs.take k) wr /\ Below n₀ W wr /\ W.heap.size <= wr.heap.size)
  (fun i _ => zs.length - (intOf i).toNat)
 case atStart => exact ⟨0, Nat.zero_le _, rfl, h0, Below.refl _ _, Nat.le_refl _⟩
 case round =>
  obtain ⟨k, hk, rfl, hJs, hnx, hsz⟩ := hrel
  by_cases hlt : k < zs.length
  ·obtain ⟨x, gb, go, hx, hpp, hat⟩ := hR.get hlt
   subst hpp
   have hgb : gb < n₀ := hp gb go rfl
   have hat' : AtL wr gb (go + k * 16) (auC x) := ⟨At_of _ _ fun j v hv => (hnx.cell (p := ⟨gb, _, none⟩) hgb).trans (hat.cell hv)⟩
   gi_wp2_with (first
    | (refine wi_load (t := 45) (k := 16) (agg := true) (cs := auC x) rfl rfl rfl (by kernel_rfl) rfl (by first | exact hat' | exact hatB) (v := auV x) rfl ?_)
    | (refine wi_alloc (t := 45) (z := auV fun _ => 0) rfl rfl (by kernel_rfl) ?_)
    | (refine wi_store (t := 45) (k := 16) (v := auV x) rfl rfl rfl rfl (by kernel_rfl) rfl rfl (WrF_block (block_alloc wr _) rfl) ?_; intro w2 hp2; have hb2 := hp2.full (block_alloc wr _) rfl; have hatB : AtL w2 wr.heap.size 0 (auC x) := AtL_block hb2 rfl; have hk2 : K0 wr w2 := put_k0 ((Kp.refl _ _).alloc _) hp2 (Nat.le_refl _); have hJ2 : J (zs.take k) w2 := hJ _ _ _ none hJs ⟨hk2.os, hk2.tape, hk2.output, hk2.size, fun i hi _ => hk2.block i hi (fun h => h)⟩ (fun r e => by cases e); obtain ⟨fn, tmps, assign, body, hy, hRo⟩ := hY _ x w2 hJ2 (by rw [List.length_take]; omega))
    | gi_in)
   refine hRo.mono ?_
   have hs : zs.take k ++ [x] = zs.take (k + 1) := (take_snoc hx).symm
   have hz2 := hk2.size
   rintro e W3 (⟨rfl, hJ3, hk3⟩ | ⟨rfl, hJx3⟩)
   ·gi_wp2
    go_roundw
    case rel => exact ⟨k + 1, by omega, by simp, by rw [<- hs]; exact hJ3, (hnx.trans ⟨hk2.os, hk2.tape, hk2.output, hk2.size, fun i hi => hk2.block i (by omega) (fun h => h)⟩).trans hk3, by have := hk3.size; omega⟩
    case measure => simp [intOf]; omega
   ·gi_wp2
    refine bodyPost_ret (results_none rfl _ _ _) rfl ?_
    exact ⟨⟨_, rfl⟩, .inr ⟨_, by rw [hs]; exact List.take_prefix _ _, hJx3⟩⟩
  ·obtain rfl : k = zs.length := by omega
   rw [List.take_length] at hJs
   gi_wp2
   go_end0
   exact ⟨⟨_, rfl⟩, .inl ⟨_, rfl, hJs⟩⟩
theorem RowA.below {α : Type} {f : α -> List Value} {L : Nat} {w w' : World} {p : Option Addr} {l : List α} {n₀ : Nat} (h : RowA f L w p l) (hb : Below n₀ w w') (hp : ∀ g o, p = some ⟨g, o, none⟩ -> g < n₀) : RowA f L w' p l := fun k y hy => by
 obtain ⟨b, o, h1, h2⟩ := h k y hy
 exact ⟨b, o, h1, ⟨At_of _ _ fun j v hv => (hb.cell (p := ⟨b, _, none⟩) (hp b o h1)).trans (h2.cell hv)⟩⟩
theorem avals_stops (n : Nat) (hn : 1 <= n) (Bs n₀ : Nat) (p : Option Addr) (c : Nat) (zs : List (Nat -> Int)) (hz : zs.length <= 1000000) (w : World) (hBs : Bs < w.heap.size) (hn₀ : n₀ <= w.heap.size)
  (hc : w.cell? ⟨Bs, 0, none⟩ = some (.slice p zs.length c)) (hR : RowA auC 16 w p zs) (hp : ∀ g o, p = some ⟨g, o, none⟩ -> g < n₀) :
  SeqStopsK Fence.wide n Tryz.prog 105 #[.pointer (some ⟨Bs, 0, none⟩)] (fun x : Nat -> Int => #[auV x]) (Below n₀) (fun ys => ys = zs) (fun pre => pre <+: zs) zs.length w := fun l J Jx W hW hJ _ hY h0 =>
 avals1_in n hn l Bs n₀ p c zs hz J Jx hY W hJ ((hW.cell (p := ⟨Bs, 0, none⟩) hBs).trans hc) (hR.below (hW.mono hn₀) hp) (Nat.le_trans hn₀ hW.size) hp h0
theorem infoAu : (Tryz.prog.info? 45).map (fun i => (i.zero, i.size, i.bytes)) = some (some (auV fun _ => 0), 16, 16) := by kernel_rfl
theorem auC_at {w : World} {b : Nat} {x : Nat -> Int} {t : TypeId} (h : w.heap[b]? = some (.cells (auC x).toArray t (0, 0))) : ∀ j u, (auC x)[j]? = some u -> w.cell? ((⟨b, 0, none⟩ : Addr).add j) = some u := fun j u hj => by
 have h2 : AtL w b 0 (auC x) := AtL_block h rfl
 have := h2.cell hj
 have e : (⟨b, 0, none⟩ : Addr).add j = ⟨b, 0 + j, none⟩ := by unfold Addr.add; simp; omega
 rw [e]; exact this
set_option maxRecDepth 100000 in
set_option maxHeartbeats 4000000 in
theorem aapp_in (n : Nat) (hn : 4 <= n) (Bs : Nat) (p : Option Addr) (c : Nat) (zs : List (Nat -> Int)) (hz : zs.length <= 1000000) (w : World) (hBs : Bs < w.heap.size)
  (hc : w.cell? ⟨Bs, 0, none⟩ = some (.slice p zs.length c)) (hR : RowA auC 16 w p zs) (hp : ∀ g o, p = some ⟨g, o, none⟩ -> g < w.heap.size) :
  CallsIn Fence.wide n Tryz.prog 129 #[.slice none 0 0, .func (.func 105) #[] #[.pointer (some ⟨Bs, 0, none⟩)]] w fun e W' =>
   ∃ v, e = .returned v /\ W'.ownsRow w.heap.size 45 16 v zs.length (zs.flatMap auC) /\ Below w.heap.size w W' := by
 have h1 : 1 <= n := by omega
 obtain ⟨i0, hi, hz0, hz1, hz2⟩ := info_parts infoAu
 refine callsIn_of_wp_marks Tryz.func129 rfl trivial ?_ rfl
 simp only [Tryz.ntmps129, List.size_toArray, List.length_cons, List.length_nil, Nat.reduceAdd, Nat.reduceSub, Array.replicate_succ, Array.replicate_zero, List.push_toArray, List.append_toArray, List.nil_append, List.cons_append]
 gi_wp2
 have bO := Boxed.new w 28 (.slice none 0 0)
 have hB0 : Below w.heap.size w (w.alloc (.cells #[.slice none 0 0] 28)) := (Below.refl _ w).alloc (Nat.le_refl _) _
 refine wpIn_rangeFunc_ownH rfl h1 (gf := 105) (lb := #[.pointer (some ⟨Bs, 0, none⟩)]) rfl trivial (enters_of Tryz.func105 (by kernel_rfl) rfl)
  (avals_stops (n - 1) (by omega) Bs w.heap.size p c zs hz (w.alloc (.cells #[.slice none 0 0] 28)) (by simp; omega) (by simp) ((hB0.cell (p := ⟨Bs, 0, none⟩) hBs).trans hc) (hR.below hB0 hp) hp) belowK_t (belowK_b (by simp)) (Below.refl _ _) (fun _ => rfl)
  (fun pre W => (∃ v, Boxed W w.heap.size 28 v /\ W.ownsRow w.heap.size 45 16 v pre.length (pre.flatMap auC) /\ True) /\ Below w.heap.size w W)
  (fun _ _ _ => False)
  (OwnFrom.and (Own.from (holdsRow_own w.heap.size w.heap.size 28 45 16 (fun pre : List (Nat -> Int) => pre.length) (fun pre => pre.flatMap auC) (fun _ _ => True)) _) (ownFrom_below (Nat.le_refl _) (by simp)))
  (fun _ _ _ _ _ hs _ _ => hs)
  ⟨⟨_, bO, World.ownsRow_nil _ _ _ _, trivial⟩, hB0⟩
  (fun x a' W => ∃ Bx, w.heap.size < Bx /\ W.heap[Bx]? = some (.cells (auC x).toArray 45 (0, 0)) /\ a' = { tmps := #[.slice none 0 0, .func (.func 105) #[] #[.pointer (some ⟨Bs, 0, none⟩)], .pointer (some ⟨w.heap.size, 0, none⟩), undef, .slice none 0 0, .pointer (some ⟨Bx, 0, none⟩), .func (.func 105) #[] #[.pointer (some ⟨Bs, 0, none⟩)], auV x, undef, undef, undef, undef, undef], defers := [] })
  (fun x a' s A B row hs hg hr => by
   obtain ⟨Bx, h1, h2, h3⟩ := hs
   refine ⟨Bx, h1, (hg.block Bx (block_lt h2) (fun e => ?_)).trans h2, h3⟩
   obtain ⟨_, o, ho, hc⟩ := hr Bx e.symm
   rw [h2] at ho; cases ho; cases hc) ?assign ?body ?done ?stop
 case assign =>
  rintro l pre x W K ⟨⟨v, hv, hrow, _⟩, hB⟩ hK
  generalize hT : Array.foldl _ _ _ = T
  have hT2 : T = #[.slice none 0 0, .func (.func 105) #[] #[.pointer (some ⟨Bs, 0, none⟩)], .pointer (some ⟨w.heap.size, 0, none⟩), undef, .slice none 0 0, undef, .func (.func 105) #[] #[.pointer (some ⟨Bs, 0, none⟩)], auV x, undef, undef, undef, undef, undef] := by rw [<- hT]; simp
  subst hT2
  clear hT
  refine wpIn_region_list (wi_alloc (t := 45) (z := auV fun _ => 0) rfl rfl (by kernel_rfl) (wi_store (t := 45) (k := 16) (v := auV x) rfl rfl rfl rfl (by kernel_rfl) rfl rfl (WrF_block (block_alloc W _) rfl) fun w2 hp2 => ?_))
  have hb2 := hp2.full (block_alloc W _) rfl
  have hk2 : K0 W w2 := put_k0 ((Kp.refl _ _).alloc _) hp2 (Nat.le_refl _)
  have hg2 : W.grownBy w2 none := ⟨hk2.os, hk2.tape, hk2.output, hk2.size, fun i hi _ => hk2.block i hi (fun h => h)⟩
  exact hK _ _ (KeepsFrom.of_grownBy hg2 (fun j e => by cases e)) ⟨hk2.os, hk2.tape, hk2.output, hk2.size, fun i hi => hk2.block i (Nat.lt_of_lt_of_le hi hB.size) (fun h => h)⟩ ⟨⟨v, hv.kept hg2 (by simp), hrow.kept hg2 (Classical.em _), trivial⟩, hB.grown hg2 hB.size (fun k e => by cases e)⟩ ⟨W.heap.size, hv.lt, hb2, rfl⟩
 case body =>
  rintro l pre x a' W hl hr ⟨⟨v, hv, hrow, _⟩, hB⟩ ⟨Bx, hBx, hbx, rfl⟩ hlt
  have hcv := hv.cell
  gi_wp2_with (first
   | (refine wi_load (t := 45) (k := 16) (agg := true) (cs := auC x) rfl rfl rfl (by kernel_rfl) rfl (AtL_block hbx rfl) (v := auV x) rfl ?_)
   | (refine wi_slice (t := 28) (len := 1) (e := 45) (cells := (auC x).toArray) rfl rfl (by kernel_rfl) ?_)
   | (gi_at_builtin; refine wpListIn_append_own _ rfl _ _ 28 rfl w.heap.size 45 i0 (auV fun _ => 0) 16 16 Tryz.underlying28 hi hz0 hz1 hz2 rfl (by decide) _ _ _ rfl (hrow.alloc _) ⟨W.heap.size, 0, none⟩ 1 1 (auC x) rfl rfl (auC_at (block_alloc W _)) (arr_one x 16) (by unfold maxLen; omega) (by omega) (by have := hB.size; simp; omega) ?_; intro v' w1 hown' hgrow _; obtain ⟨g', cap', rfl⟩ := ownsRow_succ hown'; obtain ⟨hv1, hv2, hr2, hk2, hb2⟩ := hv.appended (by decide) hrow hB.size (Nat.le_refl _) hown' hgrow; have hc1 := hv1.cell; have hf1 := hv1.frozen)
   | gi_in)
  have e1 : (pre ++ [x]).flatMap auC = pre.flatMap auC ++ auC x := by rw [List.flatMap_append]; simp [List.flatMap_cons]
  have e2 : (pre ++ [x]).length = pre.length + 1 := by simp
  exact ⟨hk2.from _, hb2, ⟨_, hv2, by rw [e1, e2]; exact hr2⟩, hB.trans hb2⟩
 case done =>
  rintro D ys W hD rfl ⟨⟨v, hv, hrow, _⟩, hB⟩ hK
  have hc := hv.cell
  gi_wp2
  refine ⟨by simp, .inl ⟨_, _, rfl, run_takeDeferred hK, ?_⟩⟩
  exact ⟨_, results_tmp rfl _ _ _, v, rfl, ownsRow_putObj hrow _ hK rfl, hB.trans (belowK_b (w := w) (Nat.le_refl _) W D _ _ (by simp at hD; omega) hK rfl rfl)⟩
 case stop =>
  rintro D c pre W _ _ h _
  exact h.elim
end Go.Proofs.YtfacflbmlfbeeaaGreatDoor
namespace Go.Proofs.YtfacflbmlfbeeaaGreatDoor
open Go.RowKit
theorem own_not {w : World} {base : Nat} {e t : TypeId} {size : Nat} {v : Value} {n : Nat} {xs : List Value} (h : w.ownsRow base e size v n xs) {k : Nat} {c : Array Value} {f : Nat × Nat} (hk : w.heap[k]? = some (.cells c t f)) (hne : (t == e) = false) : ¬ v.ownBlock = some k := fun he => by
 obtain ⟨c', h1⟩ := own_type h he
 rw [hk] at h1
 simp at h1
 rw [h1.2.1] at hne
 simp at hne
theorem blk_ne {w : World} {a b : Nat} {c c' : Array Value} {t t' : TypeId} {f f' : Nat × Nat} (h : w.heap[a]? = some (.cells c t f)) (h' : w.heap[b]? = some (.cells c' t' f')) (hne : (t == t') = false) : a ≠ b := fun e => by
 subst e
 rw [h] at h'
 simp at h'
 rw [h'.2.1] at hne
 simp at hne
end Go.Proofs.YtfacflbmlfbeeaaGreatDoor
namespace Go.Proofs.YtfacflbmlfbeeaaGreatDoor
open Go.RowKit Go.Maps
theorem putL_get : ∀ (vs c : List Value) (o j : Nat), o + vs.length <= c.length -> (putL c o vs)[j]? = if o <= j /\ j < o + vs.length then vs[j - o]? else c[j]?
 | [], c, o, j, _ => by
  rw [if_neg (by simp only [List.length_nil]; omega)]; rfl
 | v :: r, c, o, j, h => by
  simp only [putL]
  rw [putL_get r (c.set o v) (o + 1) j (by simp at h ⊢; omega)]
  by_cases h1 : o + 1 <= j /\ j < o + 1 + r.length
  ·rw [if_pos h1, if_pos (by simp; omega), show j - o = (j - (o + 1)) + 1 by omega]; rfl
  ·rw [if_neg h1, List.getElem?_set]
   by_cases h2 : o = j
   ·subst h2
    have h3 : o < c.length := by rw [List.length_cons] at h; omega
    rw [if_pos rfl, if_pos h3, if_pos (by rw [List.length_cons]; omega), Nat.sub_self]
    rfl
   ·rw [if_neg h2, if_neg (by rw [List.length_cons]; omega)]
theorem own_set {α : Type} {f : α -> List Value} {L : Nat} {w w1 : World} {base n c g k : Nat} {e : TypeId} {l : List α} {y : α} (h : w.ownsRow base e L (.slice (some ⟨g, 0, none⟩) n c) n (l.flatMap f)) (hn : n = l.length) (hl : ∀ y, (f y).length = L) (h0 : 0 < L) (hk : k < l.length) (hp : PutB w g (0 + k * L) (f y) w1) :
  w1.ownsRow base e L (.slice (some ⟨g, 0, none⟩) n c) n ((l.set k y).flatMap f) := by
 subst hn
 have hlen := h.1
 rcases h.2 with ⟨hv, _⟩ | ⟨g', cap, cur, hv, hb, hg, h4, h5, h6, h7⟩
 ·simp at hv
 simp only [Value.slice.injEq, true_and, Option.some.injEq, Addr.mk.injEq, and_true] at hv
 obtain ⟨rfl, rfl⟩ := hv
 have hm : (k + 1) * L <= l.length * L := Nat.mul_le_mul_right _ hk
 have hm2 : l.length * L <= c * L := Nat.mul_le_mul_right _ h4
 rw [Nat.succ_mul] at hm
 have hfl : ((l.set k y).flatMap f).length = l.length * L := by rw [len_flat f L _ (fun z _ => hl z), List.length_set]
 refine ⟨hfl, .inr ⟨g, c, _, rfl, hb, hp.block hg, h4, h5, by simp [putL_len, h6], ?_⟩⟩
 show (putL cur.toList (0 + k * L) (f y)).take (l.length * L) = _
 apply List.ext_getElem?
 intro j
 rw [List.getElem?_take]
 rcases Nat.lt_or_ge j (l.length * L) with hj | hj
 ·rw [if_pos hj, putL_get _ _ _ _ (by rw [hl y]; simp [h6]; omega), hl y]
  have hdiv : j / L < l.length := Nat.div_lt_of_lt_mul (by rw [Nat.mul_comm]; exact hj)
  have hmod : j % L < L := Nat.mod_lt _ h0
  have hj2 : j / L * L + j % L = j := by rw [Nat.mul_comm]; exact Nat.div_add_mod j L
  by_cases hin : 0 + k * L <= j /\ j < 0 + k * L + L
  ·have hk1 : j / L = k := by
    have h1 : k <= j / L := (Nat.le_div_iff_mul_le h0).2 (by omega)
    have h2 : j / L < k + 1 := (Nat.div_lt_iff_lt_mul h0).2 (by rw [Nat.succ_mul]; omega)
    omega
   rw [if_pos hin]
   have := flat_get f L (l.set k y) k y (j % L) (fun z _ => hl z) (by rw [List.getElem?_set]; simp [hk]) hmod
   rw [show k * L + j % L = j by rw [<- hk1]; exact hj2] at this
   rw [this]
   congr 1
   rw [hk1] at hj2
   omega
  ·rw [if_neg hin]
   have hne : ¬ k = j / L := fun e => hin (by rw [e]; omega)
   obtain ⟨z, hz⟩ : ∃ z, l[j / L]? = some z := ⟨_, List.getElem?_eq_getElem hdiv⟩
   have h1 := flat_get f L (l.set k y) (j / L) z (j % L) (fun z _ => hl z) (by rw [List.getElem?_set, if_neg hne]; exact hz) hmod
   have h2 := flat_get f L l (j / L) z (j % L) (fun z _ => hl z) hz hmod
   rw [hj2] at h1 h2
   rw [h1, <- h2, <- h7, List.getElem?_take, if_pos hj]
 ·rw [if_neg (by omega), List.getElem?_eq_none (by omega)]
theorem own_wr {w : World} {base n c L k : Nat} {p : Option Addr} {e : TypeId} {xs : List Value} (h : w.ownsRow base e L (.slice p n c) n xs) (hk : k < n) : ∃ g, p = some ⟨g, 0, none⟩ /\ WrL w g (0 + k * L) L := by
 rcases h.2 with ⟨_, h0⟩ | ⟨g, cap, cur, hv, hb, hg, h4, h5, h6, h7⟩
 ·omega
 simp only [Value.slice.injEq, true_and] at hv
 obtain ⟨rfl, rfl⟩ := hv
 have hm : (k + 1) * L <= n * L := Nat.mul_le_mul_right _ hk
 have hm2 : n * L <= c * L := Nat.mul_le_mul_right _ h4
 rw [Nat.succ_mul] at hm
 exact ⟨g, rfl, WrL_block hg (by omega)⟩
end Go.Proofs.YtfacflbmlfbeeaaGreatDoor
namespace Go.Proofs.YtfacflbmlfbeeaaGreatDoor
set_option maxRecDepth 100000
set_option linter.unusedVariables false
def VC_isMin (now : Int) (w : World) (R : Ending -> World -> Prop) : Prop := R (.returned (.bool (decide (now ≥ 0) && decide (now <= 105190559)))) w
theorem vc_isMin (now : Int) (w : World) (R : Ending -> World -> Prop) (h : VC_isMin now w R) : Calls Tryz.prog 86 ([Value.int .i64 now] : List Value).toArray w R :=
 calls_of_exec2' (loops := []) (tails := []) (joins := []) (boxes := []) (rngs := []) (c := Tryz.f86.body.getD .skip) pur1_ok Tryz.func86 (by kernel_rfl) (by kernel_rfl) h
def VC_begin_ (x : Option Addr) (now : Int) (w : World) (R : Ending -> World -> Prop) : Prop := bsp x.isNone (R (.returned (.int .i64 1)) w) (CallsS Tryz.prog 86 #[.int .i64 now] w fun (e : Ending) (w' : World) => ∃ (x : Bool), e = .returned (.bool x) /\ KeptL [] w w' /\ bsp (!x) (R (.returned (.int .i64 2)) w') (R (.returned (.int .i64 0)) w'))
theorem vc_begin_ (x : Option Addr) (now : Int) (w : World) (R : Ending -> World -> Prop) (h : VC_begin_ x now w R) : Calls Tryz.prog 48 ([Value.pointer x, .int .i64 now] : List Value).toArray w R :=
 calls_of_exec2' (loops := []) (tails := []) (joins := []) (boxes := []) (rngs := []) (c := Tryz.f48.body.getD .skip) pur1_ok Tryz.func48 (by kernel_rfl) (by kernel_rfl) h
def VC_inEff (le : Bool) (ho : Nat -> Int) (si : Int) (now : Int) (w : World) (R : Ending -> World -> Prop) : Prop := ∀ (n : Nat), ∃ (x : Int), gimp le (∀ (W : World), Loc w.heap.size [Blk.mk n 105 ([Value.bool le] ++ arrI .u8 ho 16 0 ++ [Value.int .i64 si]) 2] w W -> W.cell? (Addr.mk n (0 + 17) none) = some (.int .i64 x)) /\ ∃ (x_1 : Int), gimp (le && decide (x <= now)) (∀ (W : World), Loc w.heap.size [Blk.mk n 105 ([Value.bool le] ++ arrI .u8 ho 16 0 ++ [Value.int .i64 si]) 2] w W -> W.cell? (Addr.mk n (0 + 17) none) = some (.int .i64 x_1)) /\ ∀ (W : World), Loc w.heap.size [Blk.mk n 105 ([Value.bool le] ++ arrI .u8 ho 16 0 ++ [Value.int .i64 si]) 2] w W -> R (.returned (.bool (le && decide (x <= now) && decide (IntKind.i64.wrap (now - x_1) < 60)))) W
theorem vc_inEff (le : Bool) (ho : Nat -> Int) (si : Int) (now : Int) (w : World) (R : Ending -> World -> Prop) (h : VC_inEff le ho si now w R) : Calls Tryz.prog 81 ([Value.agg ([Value.bool le] ++ (arrI .u8 ho 16 0 ++ [Value.int .i64 si])).toArray, .int .i64 now] : List Value).toArray w R :=
 calls_of_exec2' (loops := []) (tails := []) (joins := []) (boxes := []) (rngs := []) (c := Tryz.f81.body.getD .skip) pur1_ok Tryz.func81 (by kernel_rfl) (by kernel_rfl) h
def VC_blocked (id : Nat -> Int) (mo : Nat -> Int) (g : ByteArray) (t : ByteArray) (r : Int) (st : Int) (de : Int) (rs : ByteArray) (le : Bool) (ho : Nat -> Int) (si : Int) (a : Nat -> Int) (now : Int) (w : World) (R : Ending -> World -> Prop) : Prop := ∀ (n n_1 : Nat) (W : World), Loc w.heap.size [Blk.mk n_1 45 (arrI .u8 a 16 0) 2, Blk.mk n 107 (arrI .u8 id 32 0 ++ ([Value.string g, .string t, .int .i64 r, .int .i64 st] ++ arrI .u8 mo 16 0 ++ ([Value.int .i64 de, .string rs, .bool le] ++ arrI .u8 ho 16 0 ++ [Value.int .i64 si]))) 2] w W -> CallsS Tryz.prog 81 #[.agg ([Value.bool le] ++ arrI .u8 ho 16 0 ++ [Value.int .i64 si]).toArray, .int .i64 now] W fun (e : Ending) (w' : World) => ∃ (x : Bool), e = .returned (.bool x) /\ KeptL [n_1, n] W w' /\ ∃ (f : Nat -> Int), gimp x (AtL w' n (0 + 55) (arrI .u8 f 16 0)) /\ ∃ (r : Bool), gimp x (EqP Tryz.prog 45 (.agg (arrI .u8 f 16 0).toArray)
 (.agg (arrI .u8 a 16 0).toArray) r) /\ R (.returned (.bool (x && !r))) w'
theorem vc_blocked (id : Nat -> Int) (mo : Nat -> Int) (g : ByteArray) (t : ByteArray) (r : Int) (st : Int) (de : Int) (rs : ByteArray) (le : Bool) (ho : Nat -> Int) (si : Int) (a : Nat -> Int) (now : Int) (w : World) (R : Ending -> World -> Prop) (h : VC_blocked id mo g t r st de rs le ho si a now w R) : Calls Tryz.prog 77 ([Value.agg (arrI .u8 id 32 0 ++ ([Value.string g, .string t, .int .i64 r, .int .i64 st] ++ (arrI .u8 mo 16 0 ++ ([Value.int .i64 de, .string rs, .bool le] ++ (arrI .u8 ho 16 0 ++ [Value.int .i64 si]))))).toArray, .agg (arrI .u8 a 16 0).toArray, .int .i64 now] : List Value).toArray w R :=
 calls_of_exec2' (loops := []) (tails := []) (joins := []) (boxes := []) (rngs := []) (c := Tryz.f77.body.getD .skip) pur1_ok Tryz.func77 (by kernel_rfl) (by kernel_rfl) h
def VC_acmp (a : Array Value) (b : Array Value) (w : World) (R : Ending -> World -> Prop) : Prop := ∀ (n : Nat) (w1 : World), NewB w (Obj.cells a 45) n w1 -> ∀ (n_1 : Nat) (w1_1 : World), NewB w1 (Obj.cells b 45) n_1 w1_1 -> CallsS Tryz.prog 106 #[.slice (some (Addr.mk n 0 none)) 16 16, .slice (some (Addr.mk n_1 0 none)) 16 16] w1_1.drew fun (e : Ending) (w' : World) => ∃ (x : Int), e = .returned (.int .i64 x) /\ R (.returned (.int .i64 x)) w'
theorem vc_acmp (a : Array Value) (b : Array Value) (w : World) (R : Ending -> World -> Prop) (h : VC_acmp a b w R) : Calls Tryz.prog 73 ([Value.agg a, .agg b] : List Value).toArray w R :=
 calls_of_exec' (loops := []) (tails := [(1, 2)]) (joins := []) (boxes := []) (rngs := []) (c := Tryz.f73.body.getD .skip) pur1_ok Tryz.func73 (by kernel_rfl) (by kernel_rfl) h
def VC_mdcmp (a : Array Value) (b : Array Value) (w : World) (R : Ending -> World -> Prop) : Prop := ∀ (n : Nat) (w1 : World), NewB w (Obj.cells a 48) n w1 -> ∀ (n_1 : Nat) (w1_1 : World), NewB w1 (Obj.cells b 48) n_1 w1_1 -> ∃ (S : World -> Prop), S w1_1.drew /\ ∃ (x : Int), (∀ (w' : World), S w' -> w'.cell? (Addr.mk n (0 + 34) none) = some (.int .i64 x)) /\ ∃ (x_1 : Int), (∀ (w' : World), S w' -> w'.cell? (Addr.mk n_1 (0 + 34) none) = some (.int .i64 x_1)) /\ ∃ (f : Nat -> Int), (∀ (w' : World), S w' -> AtL w' n 0 (arrI .u8 f 32 0)) /\ ∃ (f_1 : Nat -> Int), (∀ (w' : World), S w' -> AtL w' n_1 0 (arrI .u8 f_1 32 0)) /\ ∃ (x_2 : ByteArray), (∀ (w' : World), S w' -> w'.cell? (Addr.mk n (0 + 32) none) = some (.string x_2)) /\ ∃ (x_3 : ByteArray), (∀ (w' : World), S w' -> w'.cell? (Addr.mk n_1 (0 + 32) none) = some (.string x_3)) /\
 CallsS Tryz.prog 100 #[.int .i64 x, .int .i64 x_1] w1_1.drew fun (e : Ending) (w' : World) => ∃ (x : Int), e = .returned (.int .i64 x) /\ S w' /\ CallsS Tryz.prog 101 #[.agg (arrI .u8 f 32 0).toArray, .agg (arrI .u8 f_1 32 0).toArray] w' fun (e : Ending) (w' : World) => ∃ (x_4 : Int), e = .returned (.int .i64 x_4) /\ S w' /\ CallsS Tryz.prog 102 #[.string x_2, .string x_3] w' fun (e : Ending) (w' : World) => ∃ (x_5 : Int), e = .returned (.int .i64 x_5) /\ ∀ (n : Nat) (w1 : World), NewB w' (Obj.cells #[.int .i64 x, .int .i64 x_4, .int .i64 x_5] 3) n w1 -> CallsS Tryz.prog 99 #[.slice (some (Addr.mk n 0 none)) 3 3] w1 fun (e : Ending) (w' : World) => ∃ (x : Int), e = .returned (.int .i64 x) /\ R (.returned (.int .i64 x)) w'
theorem vc_mdcmp (a : Array Value) (b : Array Value) (w : World) (R : Ending -> World -> Prop) (h : VC_mdcmp a b w R) : Calls Tryz.prog 68 ([Value.agg a, .agg b] : List Value).toArray w R :=
 calls_of_exec' (loops := []) (tails := [(1, 4)]) (joins := []) (boxes := []) (rngs := []) (c := Tryz.f68.body.getD .skip) pur1_ok Tryz.func68 (by kernel_rfl) (by kernel_rfl) h
end Go.Proofs.YtfacflbmlfbeeaaGreatDoor
namespace Go.Proofs.YtfacflbmlfbeeaaGreatDoor
set_option maxRecDepth 100000
set_option linter.unusedVariables false
def VC_minf (p : Option Addr) (n : Nat) (c : Nat) (f : FuncId) (fa : Array Value) (fb : Array Value) (w : World) (R : Ending -> World -> Prop) : Prop := ∀ (n_1 : Nat), bsp (decide ((↑n : Int) < 1)) False (nn true p fun (b o : Nat) => ((0 : Int) <= 0 /\ 0 < (↑n : Int)) /\ ∃ (f_1 : Nat -> Int) (x : ByteArray), ∃ (x_1 : ByteArray) (x_2 : Int), ∃ (x_3 : Int) (f_2 : Nat -> Int), ∃ (x_4 : Int) (x_5 : ByteArray), (∀ (W : World), Loc w.heap.size [Blk.mk n_1 48 [Value.int .u8 0, .int .u8 0, .int .u8 0, .int .u8 0, .int .u8 0, .int .u8 0, .int .u8 0, .int .u8 0, .int .u8 0, .int .u8 0, .int .u8 0, .int .u8 0, .int .u8 0, .int .u8 0, .int .u8 0, .int .u8 0, .int .u8 0, .int .u8 0, .int .u8 0, .int .u8 0, .int .u8 0, .int .u8 0, .int .u8 0, .int .u8 0, .int .u8 0, .int .u8 0, .int .u8 0, .int .u8 0, .int .u8 0, .int .u8 0, .int .u8 0, .int .u8 0,
 .string (ByteArray.mk #[]), .string (ByteArray.mk #[]), .int .i64 0, .int .i64 0, .int .u8 0, .int .u8 0, .int .u8 0, .int .u8 0, .int .u8 0, .int .u8 0, .int .u8 0, .int .u8 0, .int .u8 0, .int .u8 0, .int .u8 0, .int .u8 0, .int .u8 0, .int .u8 0, .int .u8 0, .int .u8 0, .int .i64 0, .string (ByteArray.mk #[])] 2] w W -> AtL W b o (arrI .u8 f_1 32 0 ++ ([Value.string x, .string x_1, .int .i64 x_2, .int .i64 x_3] ++ arrI .u8 f_2 16 0 ++ [Value.int .i64 x_4, .string x_5]))) /\ ∀ (n_2 : Nat) (W : World), Loc w.heap.size [Blk.mk n_2 48 (arrI .u8 f_1 32 0 ++ ([Value.string x, .string x_1, .int .i64 x_2, .int .i64 x_3] ++ arrI .u8 f_2 16 0 ++ [Value.int .i64 x_4, .string x_5])) (wrM 2), Blk.mk n_1 48 [Value.int .u8 0, .int .u8 0, .int .u8 0, .int .u8 0, .int .u8 0, .int .u8 0, .int .u8 0, .int .u8 0, .int .u8 0, .int .u8 0, .int .u8 0, .int .u8 0,
 .int .u8 0, .int .u8 0, .int .u8 0, .int .u8 0, .int .u8 0, .int .u8 0, .int .u8 0, .int .u8 0, .int .u8 0, .int .u8 0, .int .u8 0, .int .u8 0, .int .u8 0, .int .u8 0, .int .u8 0, .int .u8 0, .int .u8 0, .int .u8 0, .int .u8 0, .int .u8 0, .string (ByteArray.mk #[]), .string (ByteArray.mk #[]), .int .i64 0, .int .i64 0, .int .u8 0, .int .u8 0, .int .u8 0, .int .u8 0, .int .u8 0, .int .u8 0, .int .u8 0, .int .u8 0, .int .u8 0, .int .u8 0, .int .u8 0, .int .u8 0, .int .u8 0, .int .u8 0, .int .u8 0, .int .u8 0, .int .i64 0, .string (ByteArray.mk #[])] 2] w W -> ∃ (I : List Value -> World -> Prop) (m : List Value -> World -> Nat), I [Value.int .i64 1] W /\ ∀ (x : Int) (w' : World), I [Value.int .i64 x] w' -> Loc w.heap.size [Blk.mk n_1 48 [Value.int .u8 0, .int .u8 0, .int .u8 0, .int .u8 0, .int .u8 0, .int .u8 0, .int .u8 0, .int .u8 0, .int .u8 0, .int .u8 0, .int .u8 0, .int .u8 0,
 .int .u8 0, .int .u8 0, .int .u8 0, .int .u8 0, .int .u8 0, .int .u8 0, .int .u8 0, .int .u8 0, .int .u8 0, .int .u8 0, .int .u8 0, .int .u8 0, .int .u8 0, .int .u8 0, .int .u8 0, .int .u8 0, .int .u8 0, .int .u8 0, .int .u8 0, .int .u8 0, .string (ByteArray.mk #[]), .string (ByteArray.mk #[]), .int .i64 0, .int .i64 0, .int .u8 0, .int .u8 0, .int .u8 0, .int .u8 0, .int .u8 0, .int .u8 0, .int .u8 0, .int .u8 0, .int .u8 0, .int .u8 0, .int .u8 0, .int .u8 0, .int .u8 0, .int .u8 0, .int .u8 0, .int .u8 0, .int .i64 0, .string (ByteArray.mk #[])] 0] w' w' -> bsp (decide (x < (↑n : Int))) (nn true p fun (b o : Nat) => (0 <= x /\ x < (↑n : Int)) /\ ∃ (f_3 : Nat -> Int) (x_6 : ByteArray), ∃ (x_7 : ByteArray) (x_8 : Int), ∃ (x_9 : Int) (f_4 : Nat -> Int), ∃ (x_10 : Int) (x_11 : ByteArray), (∀ (W : World), Loc w.heap.size [Blk.mk n_1 48
 [Value.int .u8 0, .int .u8 0, .int .u8 0, .int .u8 0, .int .u8 0, .int .u8 0, .int .u8 0, .int .u8 0, .int .u8 0, .int .u8 0, .int .u8 0, .int .u8 0, .int .u8 0, .int .u8 0, .int .u8 0, .int .u8 0, .int .u8 0, .int .u8 0, .int .u8 0, .int .u8 0, .int .u8 0, .int .u8 0, .int .u8 0, .int .u8 0, .int .u8 0, .int .u8 0, .int .u8 0, .int .u8 0, .int .u8 0, .int .u8 0, .int .u8 0, .int .u8 0, .string (ByteArray.mk #[]), .string (ByteArray.mk #[]), .int .i64 0, .int .i64 0, .int .u8 0, .int .u8 0, .int .u8 0, .int .u8 0, .int .u8 0, .int .u8 0, .int .u8 0, .int .u8 0, .int .u8 0, .int .u8 0, .int .u8 0, .int .u8 0, .int .u8 0, .int .u8 0, .int .u8 0, .int .u8 0, .int .i64 0, .string (ByteArray.mk #[])] 0] w' W -> AtL W b (o + x.toNat * 54) (arrI .u8 f_3 32 0 ++ ([Value.string x_6, .string x_7, .int .i64 x_8, .int .i64 x_9] ++ arrI .u8 f_4 16 0 ++ [Value.int .i64 x_10, .string x_11]))) /\
 ∃ (f_5 : Nat -> Int) (x_12 : ByteArray), ∃ (x_13 : ByteArray) (x_14 : Int), ∃ (x_15 : Int) (f_6 : Nat -> Int), ∃ (x_16 : Int) (x_17 : ByteArray), (∀ (W : World), Loc w.heap.size [Blk.mk n_1 48 [Value.int .u8 0, .int .u8 0, .int .u8 0, .int .u8 0, .int .u8 0, .int .u8 0, .int .u8 0, .int .u8 0, .int .u8 0, .int .u8 0, .int .u8 0, .int .u8 0, .int .u8 0, .int .u8 0, .int .u8 0, .int .u8 0, .int .u8 0, .int .u8 0, .int .u8 0, .int .u8 0, .int .u8 0, .int .u8 0, .int .u8 0, .int .u8 0, .int .u8 0, .int .u8 0, .int .u8 0, .int .u8 0, .int .u8 0, .int .u8 0, .int .u8 0, .int .u8 0, .string (ByteArray.mk #[]), .string (ByteArray.mk #[]), .int .i64 0, .int .i64 0, .int .u8 0, .int .u8 0, .int .u8 0, .int .u8 0, .int .u8 0, .int .u8 0, .int .u8 0, .int .u8 0, .int .u8 0, .int .u8 0, .int .u8 0, .int .u8 0, .int .u8 0, .int .u8 0, .int .u8 0, .int .u8 0, .int .i64 0,
 .string (ByteArray.mk #[])] 0] w' W -> AtL W n_2 0 (arrI .u8 f_5 32 0 ++ ([Value.string x_12, .string x_13, .int .i64 x_14, .int .i64 x_15] ++ arrI .u8 f_6 16 0 ++ [Value.int .i64 x_16, .string x_17]))) /\ ∀ (W : World), Loc w.heap.size [Blk.mk n_1 48 [Value.int .u8 0, .int .u8 0, .int .u8 0, .int .u8 0, .int .u8 0, .int .u8 0, .int .u8 0, .int .u8 0, .int .u8 0, .int .u8 0, .int .u8 0, .int .u8 0, .int .u8 0, .int .u8 0, .int .u8 0, .int .u8 0, .int .u8 0, .int .u8 0, .int .u8 0, .int .u8 0, .int .u8 0, .int .u8 0, .int .u8 0, .int .u8 0, .int .u8 0, .int .u8 0, .int .u8 0, .int .u8 0, .int .u8 0, .int .u8 0, .int .u8 0, .int .u8 0, .string (ByteArray.mk #[]), .string (ByteArray.mk #[]), .int .i64 0, .int .i64 0, .int .u8 0, .int .u8 0, .int .u8 0, .int .u8 0, .int .u8 0, .int .u8 0, .int .u8 0, .int .u8 0, .int .u8 0, .int .u8 0, .int .u8 0, .int .u8 0,
 .int .u8 0, .int .u8 0, .int .u8 0, .int .u8 0, .int .i64 0, .string (ByteArray.mk #[])] 0] w' W -> ∃ (f_7 : Nat) (a : Array Value) (b : Array Value), Value.func (Fn.func f) fa fb = Value.func (Fn.func f_7) a b /\ okFn Tryz.prog f_7 = true /\ CallsS Tryz.prog f_7 (appA a [Value.agg (arrI .u8 f_3 32 0 ++ ([Value.string x_6, .string x_7, .int .i64 x_8, .int .i64 x_9] ++ arrI .u8 f_4 16 0 ++ [Value.int .i64 x_10, .string x_11])).toArray, .agg (arrI .u8 f_5 32 0 ++ ([Value.string x_12, .string x_13, .int .i64 x_14, .int .i64 x_15] ++ arrI .u8 f_6 16 0 ++ [Value.int .i64 x_16, .string x_17])).toArray] b) W fun (e : Ending) (w'_1 : World) => ∃ (x_18 : Int), e = .returned (.int .i64 x_18) /\ KeptL [n_1] W w'_1 /\ bsp (decide (x_18 < 0)) (nn true p fun (b o : Nat) => (0 <= x /\ x < (↑n : Int)) /\ ∃ (f : Nat -> Int) (x_19 : ByteArray), ∃ (x_20 : ByteArray) (x_21 : Int),
 ∃ (x_22 : Int) (f_8 : Nat -> Int), ∃ (x_23 : Int) (x_24 : ByteArray), AtL w'_1 b (o + x.toNat * 54) (arrI .u8 f 32 0 ++ ([Value.string x_19, .string x_20, .int .i64 x_21, .int .i64 x_22] ++ arrI .u8 f_8 16 0 ++ [Value.int .i64 x_23, .string x_24])) /\ WrL w'_1 n_2 0 54 /\ ∀ (w1 : World), PutB w'_1 n_2 0 (arrI .u8 f 32 0 ++ ([Value.string x_19, .string x_20, .int .i64 x_21, .int .i64 x_22] ++ arrI .u8 f_8 16 0 ++ [Value.int .i64 x_23, .string x_24])) w1 -> KeptL [n_1] w'_1 w1 /\ I [Value.int .i64 (IntKind.i64.wrap (x + 1))] w1 /\ m [Value.int .i64 (IntKind.i64.wrap (x + 1))] w1 < m [Value.int .i64 x] w') (I [Value.int .i64 (IntKind.i64.wrap (x + 1))] w'_1 /\ m [Value.int .i64 (IntKind.i64.wrap (x + 1))] w'_1 < m [Value.int .i64 x] w')) (∃ (f : Nat -> Int) (x : ByteArray), ∃ (x_6 : ByteArray) (x_7 : Int), ∃ (x_8 : Int) (f_3 : Nat -> Int) (x_9 : Int),
 ∃ (x_10 : ByteArray), AtL w' n_2 0 (arrI .u8 f 32 0 ++ ([Value.string x, .string x_6, .int .i64 x_7, .int .i64 x_8] ++ arrI .u8 f_3 16 0 ++ [Value.int .i64 x_9, .string x_10])) /\ ∀ (W : World), Loc w.heap.size [Blk.mk n_1 48 (arrI .u8 f 32 0 ++ ([Value.string x, .string x_6, .int .i64 x_7, .int .i64 x_8] ++ arrI .u8 f_3 16 0 ++ [Value.int .i64 x_9, .string x_10])) (wrM 0)] w' W -> R (.returned (.agg (arrI .u8 f 32 0 ++ ([Value.string x, .string x_6, .int .i64 x_7, .int .i64 x_8] ++ arrI .u8 f_3 16 0 ++ [Value.int .i64 x_9, .string x_10])).toArray)) W))
theorem vc_minf (p : Option Addr) (n : Nat) (c : Nat) (f : FuncId) (fa : Array Value) (fb : Array Value) (w : World) (R : Ending -> World -> Prop) (h : VC_minf p n c f fa fb w R) : Calls Tryz.prog 78 ([Value.slice p n c, Value.func (Fn.func f) fa fb] : List Value).toArray w R :=
 calls_of_exec2' (loops := [(5, [(6, Ck.int .i64)])]) (tails := [(7, 6)]) (joins := []) (boxes := []) (rngs := []) (c := Tryz.f78.body.getD .skip) pur1_ok Tryz.func78 (by kernel_rfl) (by kernel_rfl) h
def VC_acompact (p : Option Addr) (n : Nat) (c : Nat) (w : World) (R : Ending -> World -> Prop) : Prop := bsp (decide ((↑n : Int) < 2)) (R (.returned (.slice p n c)) w) (∃ (I : List Value -> World -> Prop) (m : List Value -> World -> Nat), I [Value.int .i64 1] w /\ ∀ (x : Int) (w' : World), I [Value.int .i64 x] w' -> bsp (decide (x < (↑n : Int))) (nn true p fun (b o : Nat) => (0 <= x /\ x < (↑n : Int)) /\ ∃ (f : Nat -> Int), (∀ (W : World), Loc w.heap.size [] w' W -> AtL W b (o + x.toNat * 16) (arrI .u8 f 16 0)) /\ nn true p fun (b o : Nat) => (0 <= IntKind.i64.wrap (x - 1) /\ IntKind.i64.wrap (x - 1) < (↑n : Int)) /\ ∃ (f_1 : Nat -> Int), (∀ (W : World), Loc w.heap.size [] w' W -> AtL W b (o + (IntKind.i64.wrap (x - 1)).toNat * 16) (arrI .u8 f_1 16 0)) /\ ∃ (r : Bool), EqP Tryz.prog 45 (.agg (arrI .u8 f 16 0).toArray) (.agg (arrI .u8 f_1 16 0).toArray) r /\ bsp r
 ((0 <= x /\ x <= (↑n : Int)) /\ ∀ (W : World), Loc w.heap.size [] w' W -> ∃ (I : List Value -> World -> Prop) (m : List Value -> World -> Nat), I [Value.int .i64 1, .int .i64 x] W /\ ∀ (x_1 x_2 : Int) (w' : World), I [Value.int .i64 x_1, .int .i64 x_2] w' -> bsp (decide (x_1 < (↑(n - x.toNat) : Int))) (nn true (slA p c x.toNat 16) fun (b o : Nat) => (0 <= x_1 /\ x_1 < (↑(n - x.toNat) : Int)) /\ ∃ (f : Nat -> Int), (∀ (W : World), Loc w.heap.size [] w' W -> AtL W b (o + x_1.toNat * 16) (arrI .u8 f 16 0)) /\ nn true (slA p c x.toNat 16) fun (b o : Nat) => (0 <= IntKind.i64.wrap (x_1 - 1) /\ IntKind.i64.wrap (x_1 - 1) < (↑(n - x.toNat) : Int)) /\ ∃ (f_2 : Nat -> Int), (∀ (W : World), Loc w.heap.size [] w' W -> AtL W b (o + (IntKind.i64.wrap (x_1 - 1)).toNat * 16) (arrI .u8 f_2 16 0)) /\ ∃ (r : Bool), EqP Tryz.prog 45 (.agg (arrI .u8 f 16 0).toArray) (.agg (arrI .u8 f_2 16 0).toArray)
 r /\ bsp (!r) (nn true (slA p c x.toNat 16) fun (b o : Nat) => (0 <= x_1 /\ x_1 < (↑(n - x.toNat) : Int)) /\ ∃ (f : Nat -> Int), (∀ (W : World), Loc w.heap.size [] w' W -> AtL W b (o + x_1.toNat * 16) (arrI .u8 f 16 0)) /\ nn true p fun (b o : Nat) => (0 <= x_2 /\ x_2 < (↑n : Int)) /\ ∀ (W : World), Loc w.heap.size [] w' W -> WrL W b (o + x_2.toNat * 16) 16 /\ ∀ (w1 : World), PutB W b (o + x_2.toNat * 16) (arrI .u8 f 16 0) w1 -> KeptL [] W w1 /\ I [Value.int .i64 (IntKind.i64.wrap (x_1 + 1)), .int .i64 (IntKind.i64.wrap (x_2 + 1))] w1 /\ m [Value.int .i64 (IntKind.i64.wrap (x_1 + 1)), .int .i64 (IntKind.i64.wrap (x_2 + 1))] w1 < m [Value.int .i64 x_1, .int .i64 x_2] w') (∀ (W : World), Loc w.heap.size [] w' W -> I [Value.int .i64 (IntKind.i64.wrap (x_1 + 1)), .int .i64 x_2] W /\ m [Value.int .i64 (IntKind.i64.wrap (x_1 + 1)), .int .i64 x_2] W <
 m [Value.int .i64 x_1, .int .i64 x_2] w')) ((0 <= x_2 /\ x_2 <= (↑n : Int)) /\ ∃ (w1 : World), BltP Tryz.prog Builtin.clear [28] [Value.slice (slA p c x_2.toNat 16) (n - x_2.toNat) (c - x_2.toNat)] w' w1 /\ KeptL [] w' w1 /\ (0 <= x_2 /\ x_2 <= (↑c : Int)) /\ R (.returned (.slice p x_2.toNat c)) w1)) (∀ (W : World), Loc w.heap.size [] w' W -> I [Value.int .i64 (IntKind.i64.wrap (x + 1))] W /\ m [Value.int .i64 (IntKind.i64.wrap (x + 1))] W < m [Value.int .i64 x] w')) (R (.returned (.slice p n c)) w'))
theorem vc_acompact (p : Option Addr) (n : Nat) (c : Nat) (w : World) (R : Ending -> World -> Prop) (h : VC_acompact p n c w R) : Calls Tryz.prog 74 ([Value.slice p n c] : List Value).toArray w R :=
 calls_of_exec2' (loops := [(4, [(3, Ck.int .i64)]), (9, [(5, Ck.int .i64), (3, Ck.int .i64)])]) (tails := []) (joins := []) (boxes := []) (rngs := []) (c := Tryz.f74.body.getD .skip) pur1_ok Tryz.func74 (by kernel_rfl) (by kernel_rfl) h
def VC_avalues (p : Option Addr) (n : Nat) (c : Nat) (w : World) (R : Ending -> World -> Prop) : Prop := ∀ (n_1 : Nat) (W : World), Loc w.heap.size [Blk.mk n_1 28 [Value.slice p n c] 2] w W -> R (.returned (Value.func (Fn.func 105) #[] #[.pointer (some (Addr.mk n_1 0 none))])) W
theorem vc_avalues (p : Option Addr) (n : Nat) (c : Nat) (w : World) (R : Ending -> World -> Prop) (h : VC_avalues p n c w R) : Calls Tryz.prog 72 ([Value.slice p n c] : List Value).toArray w R :=
 calls_of_exec2' (loops := []) (tails := []) (joins := []) (boxes := []) (rngs := []) (c := Tryz.f72.body.getD .skip) pur1_ok Tryz.func72 (by kernel_rfl) (by kernel_rfl) h
end Go.Proofs.YtfacflbmlfbeeaaGreatDoor
namespace Go.Proofs.YtfacflbmlfbeeaaGreatDoor
set_option maxRecDepth 100000
set_option linter.unusedVariables false
def VC_acollect (f : FuncId) (fa : Array Value) (fb : Array Value) (w : World) (R : Ending -> World -> Prop) : Prop := CallsS Tryz.prog 129 #[.slice none 0 0, Value.func (Fn.func f) fa fb] w fun (e : Ending) (w' : World) => ∃ (p : Option Addr) (n : Nat) (c : Nat), e = .returned (.slice p n c) /\ KeptL [] w w' /\ R (.returned (.slice p n c)) w'
theorem vc_acollect (f : FuncId) (fa : Array Value) (fb : Array Value) (w : World) (R : Ending -> World -> Prop) (h : VC_acollect f fa fb w R) : Calls Tryz.prog 103 ([Value.func (Fn.func f) fa fb] : List Value).toArray w R :=
 calls_of_exec2' (loops := []) (tails := []) (joins := []) (boxes := []) (rngs := []) (c := Tryz.f103.body.getD .skip) pur1_ok Tryz.func103 (by kernel_rfl) (by kernel_rfl) h
def VC_asorted (f : FuncId) (g : FuncId) (fa : Array Value) (fb : Array Value) (ga : Array Value) (gb : Array Value) (w : World) (R : Ending -> World -> Prop) : Prop := CallsS Tryz.prog 103 #[Value.func (Fn.func f) fa fb] w fun (e : Ending) (w' : World) => ∃ (p : Option Addr) (n : Nat) (c : Nat), e = .returned (.slice p n c) /\ KeptL [] w w' /\ CallsS Tryz.prog 104 #[.slice p n c, Value.func (Fn.func g) ga gb] w' fun (e : Ending) (w'_1 : World) => e = .returned (.tuple #[]) /\ KeptL [] w' w'_1 /\ R (.returned (.slice p n c)) w'_1
theorem vc_asorted (f : FuncId) (g : FuncId) (fa : Array Value) (fb : Array Value) (ga : Array Value) (gb : Array Value) (w : World) (R : Ending -> World -> Prop) (h : VC_asorted f g fa fb ga gb w R) : Calls Tryz.prog 71 ([Value.func (Fn.func f) fa fb, Value.func (Fn.func g) ga gb] : List Value).toArray w R :=
 calls_of_exec2' (loops := []) (tails := []) (joins := []) (boxes := []) (rngs := []) (c := Tryz.f71.body.getD .skip) pur1_ok Tryz.func71 (by kernel_rfl) (by kernel_rfl) h
end Go.Proofs.YtfacflbmlfbeeaaGreatDoor
namespace Go.Proofs.YtfacflbmlfbeeaaGreatDoor
set_option maxRecDepth 100000
set_option linter.unusedVariables false
def VC_gncmp1 (s : ByteArray) (t : ByteArray) (w : World) (R : Ending -> World -> Prop) : Prop := CallsS Tryz.prog 87 #[.string s] w fun (e : Ending) (w' : World) => ∃ (p : Option Addr) (n : Nat) (c : Nat), e = .returned (.slice p n c) /\ CallsS Tryz.prog 87 #[.string t] w' fun (e : Ending) (w' : World) => ∃ (p_1 : Option Addr) (n_1 : Nat) (c_1 : Nat), e = .returned (.slice p_1 n_1 c_1) /\ CallsS Tryz.prog 128 #[.slice p n c, .slice p_1 n_1 c_1] w' fun (e : Ending) (w' : World) => ∃ (x : Int), e = .returned (.int .i64 x) /\ R (.returned (.int .i64 x)) w'
theorem vc_gncmp1 (s : ByteArray) (t : ByteArray) (w : World) (R : Ending -> World -> Prop) (h : VC_gncmp1 s t w R) : Calls Tryz.prog 102 ([Value.string s, .string t] : List Value).toArray w R :=
 calls_of_exec' (loops := []) (tails := []) (joins := []) (boxes := []) (rngs := []) (c := Tryz.f102.body.getD .skip) pur1_ok Tryz.func102 (by kernel_rfl) (by kernel_rfl) h
def VC_slcmp1 (p : Option Addr) (n : Nat) (c : Nat) (q : Option Addr) (k : Nat) (d : Nat) (w : World) (R : Ending -> World -> Prop) : Prop := ∃ (I : List Value -> World -> Prop) (m : List Value -> World -> Nat), I [Value.int .i64 0] w /\ ∀ (x : Int) (w' : World), I [Value.int .i64 x] w' -> bsp (decide (x < (↑n : Int))) (nn true p fun (b o : Nat) => (0 <= x /\ x < (↑n : Int)) /\ ∃ (x_1 : ByteArray), w'.cell? (Addr.mk b (o + x.toNat) none) = some (.string x_1) /\ bsp (decide (x ≥ (↑k : Int))) (R (.returned (.int .i64 1)) w') (nn true q fun (b o : Nat) => (0 <= x /\ x < (↑k : Int)) /\ ∃ (x_2 : ByteArray), w'.cell? (Addr.mk b (o + x.toNat) none) = some (.string x_2) /\ CallsS Tryz.prog 145 #[.string x_1, .string x_2] w' fun (e : Ending) (w'_1 : World) => ∃ (x_3 : Int), e = .returned (.int .i64 x_3) /\ bsp (x_3 != 0) (R (.returned (.int .i64 x_3)) w'_1)
 (I [Value.int .i64 (IntKind.i64.wrap (x + 1))] w'_1 /\ m [Value.int .i64 (IntKind.i64.wrap (x + 1))] w'_1 < m [Value.int .i64 x] w'))) (bsp (decide ((↑n : Int) < (↑k : Int))) (R (.returned (.int .i64 (-1))) w') (R (.returned (.int .i64 0)) w'))
theorem vc_slcmp1 (p : Option Addr) (n : Nat) (c : Nat) (q : Option Addr) (k : Nat) (d : Nat) (w : World) (R : Ending -> World -> Prop) (h : VC_slcmp1 p n c q k d w R) : Calls Tryz.prog 128 ([Value.slice p n c, .slice q k d] : List Value).toArray w R :=
 calls_of_exec' (loops := [(2, [(11, Ck.int .i64)])]) (tails := []) (joins := []) (boxes := []) (rngs := []) (c := Tryz.f128.body.getD .skip) pur1_ok Tryz.func128 (by kernel_rfl) (by kernel_rfl) h
def VC_gparts1 (s : ByteArray) (w : World) (R : Ending -> World -> Prop) : Prop := CallsS Tryz.prog 108 #[.string s, .string (ByteArray.mk #[46])] w fun (e : Ending) (w' : World) => ∃ (p : Option Addr) (n : Nat) (c : Nat), e = .returned (.slice p n c) /\ R (.returned (.slice p n c)) w'
theorem vc_gparts1 (s : ByteArray) (w : World) (R : Ending -> World -> Prop) (h : VC_gparts1 s w R) : Calls Tryz.prog 87 ([Value.string s] : List Value).toArray w R :=
 calls_of_exec' (loops := []) (tails := []) (joins := []) (boxes := []) (rngs := []) (c := Tryz.f87.body.getD .skip) pur1_ok Tryz.func87 (by kernel_rfl) (by kernel_rfl) h
end Go.Proofs.YtfacflbmlfbeeaaGreatDoor
namespace Go.Proofs.YtfacflbmlfbeeaaGreatDoor
open Go.RowKit Go.Sort
def auB (f : Nat -> Int) : List UInt8 := (auI f).map fun x => x.toNat.toUInt8
theorem bytesOf_auB (f : Nat -> Int) : Lib.bytesOf (auI f) = auB f := rfl
set_option maxRecDepth 100000 in
theorem bcompare16_run {w : World} {b b' o o' : Nat} {f g : Nat -> Int} (h : ∀ j, j < 16 -> w.cell? ⟨b, o + j, none⟩ = some (.int .u8 (f j))) (h' : ∀ j, j < 16 -> w.cell? ⟨b', o' + j, none⟩ = some (.int .u8 (g j))) (c c' : Nat) :
  (Extern.BytealgCompare.compare #[.slice (some ⟨b, o, none⟩) 16 c, .slice (some ⟨b', o', none⟩) 16 c']).run Tryz.prog w = .ok (.int .i64 (Lib.compareBytes (auB f) (auB g))) w := by
 have key : ∀ (b o : Nat) (f : Nat -> Int), (∀ j, j < 16 -> w.cell? ⟨b, o + j, none⟩ = some (.int .u8 (f j))) -> (Extern.Bytes.loadBytes ⟨b, o, none⟩ 16 .empty).run Tryz.prog w = .ok ⟨(auB f).toArray⟩ w := fun b o f h => by
  have := Lib.run_loadBytesX (P := Tryz.prog) w (auI f) ⟨b, o, none⟩ .empty (fun j x hj => by
   have hlt : j < 16 := by have := (List.getElem?_eq_some_iff.1 hj).1; simpa [auI] using this
   rw [auI_get f hlt] at hj
   simp at hj
   subst hj
   have e : (⟨b, o, none⟩ : Addr).add j = ⟨b, o + j, none⟩ := by
    unfold Addr.add
    simp
   rw [e]
   exact h j hlt)
  have hl : (auI f).length = 16 := by simp [auI]
  rw [hl, bytesOf_auB] at this
  rw [this]
  generalize auB f = l
  have e : ByteArray.empty.data ++ l.toArray = l.toArray := by
   show (#[] : Array UInt8) ++ l.toArray = l.toArray
   simp
  rw [e]
 change Sem.run Tryz.prog (do pure (goInt (Extern.BytealgCompare.cmp (<- Extern.Bytes.bytesOf (.slice (some ⟨b, o, none⟩) 16 c)) (<- Extern.Bytes.bytesOf (.slice (some ⟨b', o', none⟩) 16 c'))))) w = _
 simp only [Extern.Bytes.bytesOf, Sem.run_bind, key b o f h, key b' o' g h', Sem.run_pure, Result.andThen]
 rw [Lib.cmp_eq]
 rfl
set_option maxHeartbeats 1000000 in
set_option maxRecDepth 100000 in
theorem bcompare16_any {w : World} {b b' o o' : Nat} {f g : Nat -> Int} (h : ∀ j, j < 16 -> w.cell? ⟨b, o + j, none⟩ = some (.int .u8 (f j))) (h' : ∀ j, j < 16 -> w.cell? ⟨b', o' + j, none⟩ = some (.int .u8 (g j))) (c c' : Nat) :
  Calls Tryz.prog 106 #[.slice (some ⟨b, o, none⟩) 16 c, .slice (some ⟨b', o', none⟩) 16 c'] w fun e w' => e = .returned (.int .i64 (Lib.compareBytes (auB f) (auB g))) /\ w' = w := by
 have hr := bcompare16_run h h' c c'
 generalize Lib.compareBytes (auB f) (auB g) = r at hr ⊢
 clear h h'
 go_enter Tryz.func106, Tryz.ntmps106
 go_wp2
 rw [run_callFunc_extern Tryz.func131 (by kernel_rfl) (by kernel_rfl) (by kernel_rfl) (e := Extern.BytealgCompare.compare) (by kernel_rfl), hr]
 simp only [Result.andThen]
 rw [Oper.upon_value]
 go_wp2
 go_ret
 exact ⟨rfl, rfl⟩
def cfA (x y : Nat -> Int) : Int := Lib.compareBytes (auB x) (auB y)
theorem cfA_ord : Ord3 cfA := cb_ord auB
theorem acmp_any (f g : Nat -> Int) (w : World) : Calls Tryz.prog 73 #[.agg (auC f).toArray, .agg (auC g).toArray] w fun e w' => e = .returned (.int .i64 (cfA f g)) /\ K0 w w' /\ w.drawn <= w'.drawn := by
 refine vc_acmp _ _ w _ ?_
 intro n w1 hn n1 w2 hn1
 have b1 := (hn1.kp (fun _ => False)).blk hn.block (fun h => h)
 have b2 := hn1.block
 have hd : w2.drawn = w.drawn := by rw [hn1.hw, hn.hw]; rfl
 refine ⟨(bcompare16_any (w := w2.drew) (f := f) (g := g) (fun j hj => cell_at (blk_drew b1) ?_) (fun j hj => cell_at (blk_drew b2) ?_) 16 16).mono fun e w' ⟨he, hw⟩ => ⟨_, he, rfl, ?_, ?_⟩⟩
 ·rw [Nat.zero_add]; simpa [auC] using arrI_get .u8 f 16 0 j hj
 ·rw [Nat.zero_add]; simpa [auC] using arrI_get .u8 g 16 0 j hj
 ·rw [hw]; exact ((hn.kp _).trans (hn1.kp _)).drew
 ·rw [hw]; show w.drawn <= w2.drawn + 1; omega
theorem auC_one (x : Nat -> Int) : ∀ v ∈ auC x, v.oneCell' = true := arr_one x 16
theorem auC_flat (l : List (Nat -> Int)) : (l.flatMap auC).length = l.length * 16 := len_flat auC 16 l (fun _ _ => rfl)
set_option maxHeartbeats 1000000 in
theorem asort_any (cs : List (Nat -> Int)) (p : Option Addr) (c : Nat) (w : World) {base : Nat} (ho : w.ownsRow base 45 16 (.slice p cs.length c) cs.length (cs.flatMap auC)) (hl : cs.length <= 1000000) :
  Calls Tryz.prog 104 #[.slice p cs.length c, .func (.func 73) #[] #[]] w fun e w' => e = .returned (.tuple #[]) /\
   ∃ cs' : List (Nat -> Int), cs'.Perm cs /\ (cs'.Pairwise fun x y => ¬ cfA y x < 0) /\
    w'.ownsRow base 45 16 (.slice p cs'.length c) cs'.length (cs'.flatMap auC) /\ Kp (fun i => (Value.slice p cs.length c).ownBlock = some i) w w' := by
 rcases Nat.eq_zero_or_pos cs.length with h0 | h0
 ·have : cs = [] := List.eq_nil_of_length_eq_zero h0
  subst this
  exact (Tryz.slices_SortFunc_none104 p c _ w).mono fun e w' ⟨he, hw⟩ => ⟨he, [], .refl _, .nil, by rw [hw]; exact ho, by rw [hw]; exact .refl _ _⟩
 rcases ho.2 with ⟨_, hz⟩ | ⟨g, cap, cur, he, hbase, hg, hcap, hmax, hcs, _⟩
 ·omega
 simp only [Value.slice.injEq, true_and] at he
 obtain ⟨rfl, rfl⟩ := he
 have hcell : ∀ k x, cs[k]? = some x -> ∀ j v, (auC x)[j]? = some v -> w.cell? ⟨g, k * 16 + j, none⟩ = some v := fun k x hk j v hv => by
  have hj : j < 16 := by rw [<- auC_length x]; exact (List.getElem?_eq_some_iff.1 hv).1
  obtain ⟨g', e', hc⟩ := own_cellL ho (i := k * 16 + j) (v := v) (by rw [flat_get auC 16 cs k x j (fun y _ => auC_length y) hk hj]; exact hv)
  simp only [Option.some.injEq, Addr.mk.injEq, and_true] at e'
  subst e'
  exact hc
 have key : ∀ (d : Array (Nat -> Int)) (t : Nat), t < d.size * 16 -> ∃ x v, d[t / 16]? = some x /\ (auC x)[t % 16]? = some v /\ (flatK auC 16 d)[t]! = v := fun d t ht => by
  have h1 : t / 16 < d.size := by omega
  have h2 : t % 16 < (auC d[t / 16]!).length := by rw [auC_length]; omega
  refine ⟨d[t / 16]!, (auC d[t / 16]!)[t % 16], ?_, List.getElem?_eq_getElem h2, ?_⟩
  ·rw [Array.getElem?_eq_getElem h1, getElem!_pos d _ h1]
  ·rw [get_flatK auC 16 d t ht, getElem!_pos (auC d[t / 16]!) (t % 16) h2]
 have hH : HoldsK auC 16 w g 0 cs.toArray := by
  intro t ht
  rw [size_flatK] at ht
  obtain ⟨x, v, h1, h2, h3⟩ := key cs.toArray t ht
  refine ⟨?_, frozen_block hg _⟩
  rw [h3, Nat.zero_add]
  have := hcell (t / 16) x (by simpa using h1) (t % 16) v h2
  rw [show t / 16 * 16 + t % 16 = t by omega] at this
  exact this
 have eg : ∀ args w, (callFunc 73 args).run Tryz.prog w = .ok (.enter 73 args) w := enters_of Tryz.func73 (by kernel_rfl) rfl
 have hcmp : CmpLays Tryz.prog 73 #[] auC 16 cfA g 0 cs.toArray.size w := fun m os dk _ x y => (acmp_any x y _).mono fun e w' ⟨he, hk, hd⟩ => ⟨he, grow_of hk hd⟩
 have hS := AnyQ.slices_SortFunc (α := (Nat -> Int)) Tryz.laysSlF06_f104 16 Tryz.isAgg45 Tryz.sizeOf45 auC auC_length auC_one cfA cfA_ord.swo 73 #[] g 0 c cs.toArray w eg hcmp hH (block_lt hg) (by simp; omega)
 change Calls Tryz.prog 104 #[.slice (some ⟨g, 0, none⟩) cs.length c, .func (.func 73) #[] #[]] w _ at hS
 refine hS.mono fun e w' ⟨he, d', m, os, hperm, hsort, hw⟩ => ?_
 have hs1 : d'.size = cs.length := by simpa using hperm.1
 have hp : d'.toList.Perm cs := by
  have h1 := hperm.1
  have h2 := hperm.2.2
  rw [show d'.extract 0 cs.toArray.size = d' from by rw [<- h1]; exact Array.extract_size] at h2
  rw [show cs.toArray.extract 0 cs.toArray.size = cs.toArray from Array.extract_size] at h2
  exact h2
 have hlen : d'.toList.length = cs.length := hp.length_eq
 refine ⟨he, d'.toList, hp, ?_, ?_, ?_⟩
 ·rw [List.pairwise_iff_getElem]
  intro i j hi hj hij
  have := hsort i j (Nat.zero_le _) hij (by simp only [List.size_toArray]; omega)
  have e1 : d'[i]! = d'.toList[i] := by
   rw [getElem!_pos d' i (by simpa using hi)]
   simp
  have e2 : d'[j]! = d'.toList[j] := by
   rw [getElem!_pos d' j (by simpa using hj)]
   simp
  rw [e1, e2] at this
  intro hc
  have h3 : decide (cfA d'.toList[j] d'.toList[i] < 0) = true := decide_eq_true hc
  rw [show ltOf cfA d'.toList[j] d'.toList[i] = decide (cfA d'.toList[j] d'.toList[i] < 0) from rfl, h3] at this
  cases this
 ·obtain ⟨cur', hc1, hc2⟩ := sortW_blk auC 16 w g 0 m d' os hg
  refine ⟨auC_flat _, .inr ⟨g, c, cur', by rw [hlen], hbase, by rw [hw]; exact hc2, by omega, hmax, by rw [hc1, hcs], ?_⟩⟩
  have hHo := holdsK_sortWorldK_c auC 16 w g 0 cs.toArray d' m os hH (block_lt hg) hperm.1
  apply List.ext_getElem?
  intro t
  rw [List.getElem?_take]
  rcases Nat.lt_or_ge t (d'.toList.length * 16) with ht | ht
  ·rw [if_pos ht]
   have ht' : t < d'.size * 16 := by simpa using ht
   have h1 := (hHo t (by rw [size_flatK]; exact ht')).1
   obtain ⟨x', v', h3, h4, h5⟩ := key d' t ht'
   rw [h5, Nat.zero_add, cell_block hc2] at h1
   rw [Array.getElem?_toList, h1]
   have := flat_get auC 16 d'.toList (t / 16) x' (t % 16) (fun y _ => auC_length y) (by simpa using h3) (by omega)
   rw [show t / 16 * 16 + t % 16 = t by omega] at this
   rw [this, h4]
   rfl
  ·rw [if_neg (by omega), List.getElem?_eq_none (by rw [auC_flat]; exact ht)]
 ·rw [hw]
  exact (sortW_kp auC 16 w g 0 m d' os).mono fun i _ e => by rw [e]; rfl
theorem cmpOr3_any (a b d : Int) (n c : Nat) (t : TypeId) (w : World) (hb : w.heap[n]? = some (.cells #[.int .i64 a, .int .i64 b, .int .i64 d] t (0, 0))) : Calls Tryz.prog 99 #[.slice (some ⟨n, 0, none⟩) 3 c] w fun e w' => e = .returned (.int .i64 (if a ≠ 0 then a else if b ≠ 0 then b else d)) /\ w' = w := by
 refine vc_cmpOr (some ⟨n, 0, none⟩) 3 c w _ ?_
 refine count1 3 (by decide) (fun k w' => (0 < k -> a = 0) /\ (1 < k -> b = 0) /\ (2 < k -> d = 0) /\ w' = w) ⟨fun h => by omega, fun h => by omega, fun h => by omega, rfl⟩ ?_
 rintro I m k w' hk ⟨h0, h1, h2, rfl⟩ next
 refine bsp_intro (fun hlt => ?_) (fun hge => ?_)
 ·have hlt : k < 3 := by simp at hlt; omega
  show (0 <= (k : Int) /\ (k : Int) < ((3 : Nat) : Int)) /\ _
  rw [Int.toNat_natCast]
  obtain rfl | rfl | rfl : k = 0 \/ k = 1 \/ k = 2 := by omega
  ·refine ⟨by omega, a, cell_at hb rfl, bsp_intro (fun h => ⟨?_, rfl⟩) (fun h => next hlt _ ⟨fun _ => ?_, fun h => by omega, fun h => by omega, rfl⟩)⟩
   ·have h : a ≠ 0 := by simpa using h
    rw [if_pos h]
   ·simpa using h
  ·have ha := h0 (by omega)
   refine ⟨by omega, b, cell_at hb rfl, bsp_intro (fun h => ⟨?_, rfl⟩) (fun h => next hlt _ ⟨fun _ => ha, fun _ => by simpa using h, fun h => by omega, rfl⟩)⟩
   rw [if_neg (by omega), if_pos (by simpa using h)]
  ·have ha := h0 (by omega)
   have hb' := h1 (by omega)
   refine ⟨by omega, d, cell_at hb rfl, bsp_intro (fun h => ⟨?_, rfl⟩) (fun h => next hlt _ ⟨fun _ => ha, fun _ => hb', fun _ => by simpa using h, rfl⟩)⟩
   rw [if_neg (by omega), if_neg (by omega)]
 ·have : k = 3 := by simp at hge; omega
  subst this
  rw [if_neg (by have := h0 (by omega); omega), if_neg (by have := h1 (by omega); omega), h2 (by omega)]
  exact ⟨rfl, rfl⟩
theorem cfT_eq (x y : Sb) : cfT x y = Lib.compareInt x.r y.r := by unfold cfT Lib.compareInt; rfl
theorem gparts1_any (s : ByteArray) (w : World) (hs : s.size <= 1073741824) (hG : GW w) : Calls Tryz.prog 87 #[.string s] w fun e w' => (∃ (p : Option Addr) (c : Nat), e = .returned (.slice p (partsD s).length c) /\ StrP w' p (partsD s)) /\ K0 w w' /\ w.drawn <= w'.drawn := by
 refine vc_gparts1 s w _ ?_
 obtain ⟨mm, hG1⟩ := hG
 refine ⟨(Tryz.strings_Split s ⟨#[46]⟩ mm w (by omega) hG1 (by decide)).mono fun e w2 ⟨he, hw2⟩ => ?_⟩
 have hlen : (partsD s).length = Lib.countB s ⟨#[46]⟩ + 1 := Lib.splitB_all ⟨#[46]⟩ (by decide) 0 _ s rfl
 have hn2 : NewB w (.cells ((partsD s).map .string).toArray 9) w.heap.size w2 := ⟨rfl, hw2⟩
 rw [<- hlen] at he
 have k2 : K0 w w2 := hn2.kp _
 refine ⟨_, _, _, he, ⟨_, _, rfl, fun k z hk => ⟨_, 0, rfl, ?_⟩⟩, k2, by rw [hw2]; exact Nat.le_refl _⟩
 rw [Nat.zero_add]
 exact cell_at hn2.block (by simp [hk])
theorem lsC_step {a b : List ByteArray} {k : Nat} {x y : ByteArray} (hx : a[k]? = some x) (hy : b[k]? = some y) : lsC (a.drop k) (b.drop k) = if Lib.compareBytes x.data.toList y.data.toList ≠ 0 then Lib.compareBytes x.data.toList y.data.toList else lsC (a.drop (k + 1)) (b.drop (k + 1)) := by
 have h1 := (List.getElem?_eq_some_iff.1 hx).1
 have h2 := (List.getElem?_eq_some_iff.1 hy).1
 have e1 : a.drop k = x :: a.drop (k + 1) := by
  rw [List.drop_eq_getElem_cons h1]
  rw [List.getElem?_eq_getElem h1] at hx
  cases hx; rfl
 have e2 : b.drop k = y :: b.drop (k + 1) := by
  rw [List.drop_eq_getElem_cons h2]
  rw [List.getElem?_eq_getElem h2] at hy
  cases hy; rfl
 rw [e1, e2]; rfl
theorem slcmp1_any (a b : List ByteArray) (p q : Option Addr) (c d : Nat) (w : World) (ha : StrP w p a) (hb : StrP w q b) (hla : a.length <= 4611686018427387904) (hlb : b.length <= 4611686018427387904) :
  Calls Tryz.prog 128 #[.slice p a.length c, .slice q b.length d] w fun e w' => e = .returned (.int .i64 (lsC a b)) /\ w' = w := by
 refine vc_slcmp1 p a.length c q b.length d w _ ?_
 refine count1 a.length (by omega) (fun k w' => w' = w /\ k <= b.length /\ lsC a b = lsC (a.drop k) (b.drop k)) ⟨rfl, by omega, rfl⟩ ?_
 rintro I m k w' hk ⟨rfl, hkb, hI⟩ next
 refine bsp_intro (fun hlt => ?_) (fun hge => ?_)
 ·have hlt : k < a.length := by simp at hlt; omega
  obtain ⟨x, b1, o1, hx, hp, hc1⟩ := ha.get hlt
  rw [Int.toNat_natCast]
  refine nn_is hp ⟨⟨by omega, by omega⟩, x, hc1, bsp_intro (fun h => ?_) (fun h => ?_)⟩
  ·have h : b.length <= k := by simp at h; omega
   have e1 : b.drop k = [] := List.drop_eq_nil_of_le h
   have e2 : a.drop k = x :: a.drop (k + 1) := by
    rw [List.drop_eq_getElem_cons hlt]
    rw [List.getElem?_eq_getElem hlt] at hx
    cases hx; rfl
   rw [hI, e1, e2]
   exact ⟨rfl, rfl⟩
  ·have h : k < b.length := by simp at h; omega
   obtain ⟨y, b2, o2, hy, hq, hc2⟩ := hb.get h
   refine nn_is hq ⟨⟨by omega, by omega⟩, y, hc2, ⟨(cmpS_any x y w').mono fun e w2 ⟨he, hw⟩ => ⟨_, he, ?_⟩⟩⟩
   subst hw
   rw [lsC_step hx hy] at hI
   refine bsp_intro (fun h3 => ?_) (fun h3 => ?_)
   ·have h3 : Lib.compareBytes x.data.toList y.data.toList ≠ 0 := by simpa using h3
    rw [if_pos h3] at hI
    rw [hI]
    exact ⟨rfl, rfl⟩
   ·have h3 : Lib.compareBytes x.data.toList y.data.toList = 0 := by simpa using h3
    rw [if_neg (by omega)] at hI
    exact next hlt _ ⟨rfl, h, hI⟩
 ·have : k = a.length := by simp at hge; omega
  subst this
  rw [List.drop_length] at hI
  refine bsp_intro (fun h => ?_) (fun h => ?_)
  ·have h : a.length < b.length := by simpa using h
   rw [List.drop_eq_getElem_cons h] at hI
   rw [hI]
   exact ⟨rfl, rfl⟩
  ·have h : a.length = b.length := by simp at h; omega
   rw [h, List.drop_length] at hI
   rw [hI]
   exact ⟨rfl, rfl⟩
theorem gncmp1_any (s t : ByteArray) (w : World) (hs : s.size <= 1073741824) (ht : t.size <= 1073741824) (hG : GW w) : Calls Tryz.prog 102 #[.string s, .string t] w fun e w' => e = .returned (.int .i64 (gnC s t)) /\ K0 w w' /\ w.drawn <= w'.drawn := by
 refine vc_gncmp1 s t w _ ⟨(gparts1_any s w hs hG).mono fun e w1 ⟨⟨p, c, he, hP⟩, k1, d1⟩ => ⟨_, _, _, he, ⟨(gparts1_any t w1 ht (hG.kp k1 (fun h => h))).mono fun e w2 ⟨⟨q, d, he, hQ⟩, k2, d2⟩ => ⟨_, _, _, he, ?_⟩⟩⟩⟩
 have l1 := partsD_le s.size s (Nat.le_refl _)
 have l2 := partsD_le t.size t (Nat.le_refl _)
 exact ⟨(slcmp1_any (partsD s) (partsD t) p q c d w2 (hP.k0 k2) hQ (by omega) (by omega)).mono fun e w3 ⟨he, hw⟩ => ⟨_, he, rfl, by rw [hw]; exact k1.trans k2, by rw [hw]; omega⟩⟩
theorem mdcmp_any (x y : Sb) (w : World) (hx : x.g.size <= 1073741824) (hy : y.g.size <= 1073741824) (hG : GW w) : Calls Tryz.prog 68 #[.agg (sbC x).toArray, .agg (sbC y).toArray] w fun e w' => e = .returned (.int .i64 (cfM x y)) /\ K0 w w' /\ w.drawn <= w'.drawn := by
 refine vc_mdcmp _ _ w _ ?_
 intro n w1 hn n1 w2 hn1
 have b1 := (hn1.kp (fun _ => False)).blk hn.block (fun h => h)
 have b2 := hn1.block
 have hd : w2.drawn = w.drawn := by rw [hn1.hw, hn.hw]; rfl
 have k2 : K0 w w2 := (hn.kp _).trans (hn1.kp _)
 refine ⟨fun wx => K0 w2 wx, (Kp.refl _ _).drew, x.r, fun wx h => cell_at (h.blk b1 (fun h => h)) rfl, y.r, fun wx h => cell_at (h.blk b2 (fun h => h)) rfl, x.id, fun wx h => AtL_block (h.blk b1 (fun h => h)) rfl, y.id, fun wx h => AtL_block (h.blk b2 (fun h => h)) rfl, x.g, fun wx h => cell_at (h.blk b1 (fun h => h)) rfl, y.g, fun wx h => cell_at (h.blk b2 (fun h => h)) rfl, ?_⟩
 refine ⟨(Tryz.cmp_Compare_int x.r y.r w2.drew).mono fun e w3 ⟨he, hw⟩ => ⟨_, he, by rw [hw]; exact (Kp.refl _ _).drew, ?_⟩⟩
 subst hw
 refine ⟨(mcompare_any x.id y.id w2.drew).mono fun e w4 ⟨he, hk4, hd4⟩ => ⟨_, he, (Kp.refl _ _).drew.trans hk4, ?_⟩⟩
 refine ⟨(gncmp1_any x.g y.g w4 hx hy (hG.kp (k2.drew.trans hk4) (fun h => h))).mono fun e w5 ⟨he, hk5, hd5⟩ => ⟨_, he, fun n3 w6 hn6 => ?_⟩⟩
 refine ⟨(cmpOr3_any _ _ _ n3 3 _ w6 hn6.block).mono fun e w7 ⟨he, hw⟩ => ⟨_, he, ?_, ?_, ?_⟩⟩
 ·unfold cfM cfI; rw [cfT_eq]
 ·rw [hw]; exact ((k2.drew.trans hk4).trans hk5).trans (hn6.kp _)
 ·rw [hw, hn6.hw]
  show w.drawn <= w5.drawn
  have : w2.drew.drawn = w2.drawn + 1 := rfl
  omega
abbrev SbX := {x : Sb // x.g.size <= 1073741824}
instance : Inhabited SbX := ⟨⟨sbz, by decide⟩⟩
def sbXC (x : SbX) : List Value := sbC x.1
theorem sbXC_length (x : SbX) : (sbXC x).length = 54 := rfl
def cfX (x y : SbX) : Int := cfM x.1 y.1
theorem cfX_ord : Ord3 cfX := ⟨fun x y => cfM_ord.anti x.1 y.1, fun x y z => cfM_ord.tlt x.1 y.1 z.1, fun x y z => cfM_ord.el x.1 y.1 z.1, fun x y z => cfM_ord.le x.1 y.1 z.1⟩
theorem sbC_one (x : Sb) : ∀ v ∈ sbC x, v.oneCell' = true := fun v hv => by
 unfold sbC at hv
 rcases List.mem_append.1 hv with h | h
 ·exact arr_one x.id 32 v h
 rcases List.mem_append.1 h with h | h
 ·simp only [List.mem_cons, List.not_mem_nil, or_false] at h
  rcases h with h | h | h | h <;> (subst h; rfl)
 rcases List.mem_append.1 h with h | h
 ·exact arr_one x.mo 16 v h
 ·simp only [List.mem_cons, List.not_mem_nil, or_false] at h
  rcases h with h | h <;> (subst h; rfl)
theorem sbXC_one (x : SbX) : ∀ v ∈ sbXC x, v.oneCell' = true := sbC_one x.1
theorem mdcmpX_any (x y : SbX) (w : World) (hG : GW w) : Calls Tryz.prog 68 #[.agg (sbXC x).toArray, .agg (sbXC y).toArray] w fun e w' => e = .returned (.int .i64 (cfX x y)) /\ K0 w w' /\ w.drawn <= w'.drawn := mdcmp_any x.1 y.1 w x.2 y.2 hG
theorem sbXC_flat (l : List SbX) : (l.flatMap sbXC).length = l.length * 54 := len_flat sbXC 54 l (fun _ _ => rfl)
set_option maxHeartbeats 1000000 in
theorem msortX_any (cs : List SbX) (p : Option Addr) (c : Nat) (w : World) {base : Nat} (ho : w.ownsRow base 48 54 (.slice p cs.length c) cs.length (cs.flatMap sbXC)) (hl : cs.length <= 1000000) (hG : GW w) :
  Calls Tryz.prog 67 #[.slice p cs.length c, .func (.func 68) #[] #[]] w fun e w' => e = .returned (.tuple #[]) /\
   ∃ cs' : List SbX, cs'.Perm cs /\ (cs'.Pairwise fun x y => ¬ cfX y x < 0) /\
    w'.ownsRow base 48 54 (.slice p cs'.length c) cs'.length (cs'.flatMap sbXC) /\ Kp (fun i => (Value.slice p cs.length c).ownBlock = some i) w w' := by
 rcases Nat.eq_zero_or_pos cs.length with h0 | h0
 ·have : cs = [] := List.eq_nil_of_length_eq_zero h0
  subst this
  exact (Tryz.slices_SortFunc_none67 p c _ w).mono fun e w' ⟨he, hw⟩ => ⟨he, [], .refl _, .nil, by rw [hw]; exact ho, by rw [hw]; exact .refl _ _⟩
 rcases ho.2 with ⟨_, hz⟩ | ⟨g, cap, cur, he, hbase, hg, hcap, hmax, hcs, _⟩
 ·omega
 simp only [Value.slice.injEq, true_and] at he
 obtain ⟨rfl, rfl⟩ := he
 have hcell : ∀ k x, cs[k]? = some x -> ∀ j v, (sbXC x)[j]? = some v -> w.cell? ⟨g, k * 54 + j, none⟩ = some v := fun k x hk j v hv => by
  have hj : j < 54 := by rw [<- sbXC_length x]; exact (List.getElem?_eq_some_iff.1 hv).1
  obtain ⟨g', e', hc⟩ := own_cellL ho (i := k * 54 + j) (v := v) (by rw [flat_get sbXC 54 cs k x j (fun y _ => sbXC_length y) hk hj]; exact hv)
  simp only [Option.some.injEq, Addr.mk.injEq, and_true] at e'
  subst e'
  exact hc
 have key : ∀ (d : Array SbX) (t : Nat), t < d.size * 54 -> ∃ x v, d[t / 54]? = some x /\ (sbXC x)[t % 54]? = some v /\ (flatK sbXC 54 d)[t]! = v := fun d t ht => by
  have h1 : t / 54 < d.size := by omega
  have h2 : t % 54 < (sbXC d[t / 54]!).length := by rw [sbXC_length]; omega
  refine ⟨d[t / 54]!, (sbXC d[t / 54]!)[t % 54], ?_, List.getElem?_eq_getElem h2, ?_⟩
  ·rw [Array.getElem?_eq_getElem h1, getElem!_pos d _ h1]
  ·rw [get_flatK sbXC 54 d t ht, getElem!_pos (sbXC d[t / 54]!) (t % 54) h2]
 have hH : HoldsK sbXC 54 w g 0 cs.toArray := by
  intro t ht
  rw [size_flatK] at ht
  obtain ⟨x, v, h1, h2, h3⟩ := key cs.toArray t ht
  refine ⟨?_, frozen_block hg _⟩
  rw [h3, Nat.zero_add]
  have := hcell (t / 54) x (by simpa using h1) (t % 54) v h2
  rw [show t / 54 * 54 + t % 54 = t by omega] at this
  exact this
 have eg : ∀ args w, (callFunc 68 args).run Tryz.prog w = .ok (.enter 68 args) w := enters_of Tryz.func68 (by kernel_rfl) rfl
 have hGW : ∀ m os dk, GW (sortWorldK sbXC 54 w g 0 m dk os) := fun m os dk => hG.kp (sortW_kp sbXC 54 w g 0 m dk os) (fun e => by
  obtain ⟨x0, hx0⟩ : ∃ x, cs[0]? = some x := ⟨_, List.getElem?_eq_getElem h0⟩
  have h1 := hcell 0 x0 hx0 0 (.int .u8 (x0.1.id 0)) rfl
  obtain ⟨mm, hm⟩ := hG
  have e : 0 = g := e
  subst e
  rw [show 0 * 54 + 0 = 0 from rfl, hm] at h1
  cases h1)
 have hcmp : CmpLays Tryz.prog 68 #[] sbXC 54 cfX g 0 cs.toArray.size w := fun m os dk _ x y => (mdcmpX_any x y _ (hGW m os dk)).mono fun e w' ⟨he, hk, hd⟩ => ⟨he, grow_of hk hd⟩
 have hS := AnyQ.slices_SortFunc (α := SbX) Tryz.laysSlF06_f67 54 Tryz.isAgg48 Tryz.sizeOf48 sbXC sbXC_length sbXC_one cfX cfX_ord.swo 68 #[] g 0 c cs.toArray w eg hcmp hH (block_lt hg) (by simp; omega)
 change Calls Tryz.prog 67 #[.slice (some ⟨g, 0, none⟩) cs.length c, .func (.func 68) #[] #[]] w _ at hS
 refine hS.mono fun e w' ⟨he, d', m, os, hperm, hsort, hw⟩ => ?_
 have hs1 : d'.size = cs.length := by simpa using hperm.1
 have hp : d'.toList.Perm cs := by
  have h1 := hperm.1
  have h2 := hperm.2.2
  rw [show d'.extract 0 cs.toArray.size = d' from by rw [<- h1]; exact Array.extract_size] at h2
  rw [show cs.toArray.extract 0 cs.toArray.size = cs.toArray from Array.extract_size] at h2
  exact h2
 have hlen : d'.toList.length = cs.length := hp.length_eq
 refine ⟨he, d'.toList, hp, ?_, ?_, ?_⟩
 ·rw [List.pairwise_iff_getElem]
  intro i j hi hj hij
  have := hsort i j (Nat.zero_le _) hij (by simp only [List.size_toArray]; omega)
  have e1 : d'[i]! = d'.toList[i] := by
   rw [getElem!_pos d' i (by simpa using hi)]
   simp
  have e2 : d'[j]! = d'.toList[j] := by
   rw [getElem!_pos d' j (by simpa using hj)]
   simp
  rw [e1, e2] at this
  intro hc
  have h3 : decide (cfX d'.toList[j] d'.toList[i] < 0) = true := decide_eq_true hc
  rw [show ltOf cfX d'.toList[j] d'.toList[i] = decide (cfX d'.toList[j] d'.toList[i] < 0) from rfl, h3] at this
  cases this
 ·obtain ⟨cur', hc1, hc2⟩ := sortW_blk sbXC 54 w g 0 m d' os hg
  refine ⟨sbXC_flat _, .inr ⟨g, c, cur', by rw [hlen], hbase, by rw [hw]; exact hc2, by omega, hmax, by rw [hc1, hcs], ?_⟩⟩
  have hHo := holdsK_sortWorldK_c sbXC 54 w g 0 cs.toArray d' m os hH (block_lt hg) hperm.1
  apply List.ext_getElem?
  intro t
  rw [List.getElem?_take]
  rcases Nat.lt_or_ge t (d'.toList.length * 54) with ht | ht
  ·rw [if_pos ht]
   have ht' : t < d'.size * 54 := by simpa using ht
   have h1 := (hHo t (by rw [size_flatK]; exact ht')).1
   obtain ⟨x', v', h3, h4, h5⟩ := key d' t ht'
   rw [h5, Nat.zero_add, cell_block hc2] at h1
   rw [Array.getElem?_toList, h1]
   have := flat_get sbXC 54 d'.toList (t / 54) x' (t % 54) (fun y _ => sbXC_length y) (by simpa using h3) (by omega)
   rw [show t / 54 * 54 + t % 54 = t by omega] at this
   rw [this, h4]
   rfl
  ·rw [if_neg (by omega), List.getElem?_eq_none (by rw [sbXC_flat]; exact ht)]
 ·rw [hw]
  exact (sortW_kp sbXC 54 w g 0 m d' os).mono fun i _ e => by rw [e]; rfl
end Go.Proofs.YtfacflbmlfbeeaaGreatDoor
