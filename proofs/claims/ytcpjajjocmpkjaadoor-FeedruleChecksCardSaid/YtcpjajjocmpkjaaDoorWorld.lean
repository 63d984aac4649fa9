/- Lemmas on worlds for the proofs of formulas: new blocks, written cells, what is kept. Generic: no program, no condition. -/
import Derived.Test.YtcpjajjocmpkjaaDoorSound
namespace Go.Proofs.YtcpjajjocmpkjaaDoor
open Go.RowKit

theorem bsp_intro {b : Bool} {X Y : Prop} (h1 : b = true → X) (h2 : b = false → Y) : bsp b X Y := by cases b <;> simp_all [bsp]
theorem gimp_intro {b : Bool} {X : Prop} (h : b = true → X) : gimp b X := by cases b <;> simp_all [gimp]
theorem wr64 {x : Int} (h1 : -9223372036854775808 ≤ x) (h2 : x ≤ 9223372036854775807) : IntKind.i64.wrap x = x := IntWalk.i64_in x ⟨h1, h2⟩

theorem Kp.mono {M M' : Nat → Prop} {a b : World} (h : Kp M a b) (hm : ∀ i, i < a.heap.size → M i → M' i) : Kp M' a b :=
  ⟨h.os, h.tape, h.output, h.size, fun i hi hn => h.block i hi (fun hM => hn (hm i hi hM))⟩
theorem Kp.drew {M : Nat → Prop} {a b : World} (h : Kp M a b) : Kp M a b.drew := ⟨h.os, h.tape, h.output, h.size, h.block⟩
theorem Kp.of_drew {M : Nat → Prop} {a b : World} (h : Kp M a.drew b) : Kp M a b := ⟨h.os, h.tape, h.output, h.size, h.block⟩
theorem K0.below {w w' : World} (h : K0 w w') : Below w.heap.size w w' := ⟨h.os, h.tape, h.output, h.size, fun k hk => h.block k hk (fun h => h)⟩
theorem K0.of_below {w w' : World} (h : Below w.heap.size w w') : K0 w w' := ⟨h.os, h.tape, h.output, h.size, fun k hk _ => h.block k hk⟩
theorem Kp.cell {M : Nat → Prop} {w w' : World} (h : Kp M w w') {b o : Nat} (hb : b < w.heap.size) (hm : ¬ M b) : w'.cell? ⟨b, o, none⟩ = w.cell? ⟨b, o, none⟩ := by
  simp only [World.cell?, h.block b hb hm]
theorem cell_lt {w : World} {b o : Nat} {v : Value} (h : w.cell? ⟨b, o, none⟩ = some v) : b < w.heap.size := World.block_lt_of_cell? w ⟨b, o, none⟩ h
theorem Kp.cell' {M : Nat → Prop} {w w' : World} (h : Kp M w w') {b o : Nat} {v : Value} (hc : w.cell? ⟨b, o, none⟩ = some v) (hm : ¬ M b) : w'.cell? ⟨b, o, none⟩ = some v := by
  rw [h.cell (cell_lt hc) hm]; exact hc
theorem Kp.frozen {M : Nat → Prop} {w w' : World} (h : Kp M w w') {b o : Nat} (hb : b < w.heap.size) (hm : ¬ M b) : w'.frozen? ⟨b, o, none⟩ = w.frozen? ⟨b, o, none⟩ := by
  simp only [World.frozen?, h.block b hb hm]

theorem block_lt {w : World} {b : Nat} {o : Obj} (h : w.heap[b]? = some o) : b < w.heap.size := by
  rcases Nat.lt_or_ge b w.heap.size with h' | h'
  · exact h'
  · simp [Array.getElem?_eq_none h'] at h
theorem Kp.blk {M : Nat → Prop} {w w' : World} (h : Kp M w w') {b : Nat} {o : Obj} (hb : w.heap[b]? = some o) (hm : ¬ M b) : w'.heap[b]? = some o := by
  rw [h.block b (block_lt hb) hm]; exact hb
theorem blk_drew {w : World} {b : Nat} {o : Obj} (hb : w.heap[b]? = some o) : w.drew.heap[b]? = some o := hb

section
variable {w w1 : World} {obj : Obj} {n : Nat}
theorem NewB.block (h : NewB w obj n w1) : w1.heap[n]? = some obj := by
  obtain ⟨rfl, rfl⟩ := h
  show (w.heap.push obj)[w.heap.size]? = some obj
  simp
theorem NewB.kp (h : NewB w obj n w1) (M : Nat → Prop) : Kp M w w1 := by
  obtain ⟨rfl, rfl⟩ := h
  exact ⟨rfl, rfl, rfl, by simp, fun k hk _ => Below.heap_alloc _ _ _ hk⟩
theorem NewB.size (h : NewB w obj n w1) : w1.heap.size = n + 1 := by
  obtain ⟨rfl, rfl⟩ := h; simp
theorem NewB.ge (h : NewB w obj n w1) : w.heap.size ≤ n := by
  obtain ⟨rfl, rfl⟩ := h; exact Nat.le_refl _
end

theorem cell_block {w : World} {b : Nat} {c : Array Value} {t : TypeId} {f : Nat × Nat} (h : w.heap[b]? = some (.cells c t f)) (i : Nat) : w.cell? ⟨b, i, none⟩ = c[i]? := by
  simp [World.cell?, h]
theorem frozen_block {w : World} {b : Nat} {c : Array Value} {t : TypeId} (h : w.heap[b]? = some (.cells c t (0, 0))) (i : Nat) : w.frozen? ⟨b, i, none⟩ = false := by
  simp [World.frozen?, h]
theorem At_of {w : World} {b : Nat} : ∀ (cs : List Value) (o : Nat), (∀ j v, cs[j]? = some v → w.cell? ⟨b, o + j, none⟩ = some v) → At w b o cs
  | [], _, _ => trivial
  | [v], o, h => by have := h 0 v rfl; exact (by simpa using this : w.cell? ⟨b, o, none⟩ = some v)
  | v :: x :: r, o, h => ⟨by have := h 0 v rfl; simpa using this, At_of (x :: r) (o + 1) fun j u hj => by
      have := h (j + 1) u (by simpa using hj)
      rw [show o + 1 + j = o + (j + 1) by omega]; exact this⟩
/-- The cells of a block, from an offset on. -/
theorem AtL_block {w : World} {b o : Nat} {c : Array Value} {t : TypeId} {f : Nat × Nat} {cs : List Value} (h : w.heap[b]? = some (.cells c t f)) (hc : (c.toList.drop o).take cs.length = cs) : AtL w b o cs := by
  refine ⟨At_of cs o fun j v hj => ?_⟩
  rw [cell_block h]
  have hlt : j < cs.length := by
    rcases Nat.lt_or_ge j cs.length with h' | h'
    · exact h'
    · simp [List.getElem?_eq_none h'] at hj
  rw [← hc] at hj
  rw [List.getElem?_take, if_pos (by simpa using hlt), List.getElem?_drop] at hj
  simpa using hj
theorem WrL_block {w : World} {b o n : Nat} {c : Array Value} {t : TypeId} (h : w.heap[b]? = some (.cells c t (0, 0))) (hn : o + n ≤ c.size) : WrL w b o n := by
  refine ⟨Wr_of n o fun i hi => ⟨?_, frozen_block h _⟩⟩
  rw [cell_block h]
  exact ⟨c[o + i], by simp⟩
def putL (c : List Value) : Nat → List Value → List Value
  | _, [] => c
  | o, v :: r => putL (c.set o v) (o + 1) r
theorem block_setCell {w : World} {b o : Nat} {c : Array Value} {t : TypeId} {f : Nat × Nat} {v : Value} (h : w.heap[b]? = some (.cells c t f)) : (w.setCell ⟨b, o, none⟩ v).heap[b]? = some (.cells (c.setIfInBounds o v) t f) := by
  simp [World.setCell, Array.getElem?_modify, h]
theorem wset_block {b : Nat} {t : TypeId} {f : Nat × Nat} : ∀ (cs : List Value) (w : World) (o : Nat) (c : Array Value), w.heap[b]? = some (.cells c t f) → (wset w b o cs).heap[b]? = some (.cells (putL c.toList o cs).toArray t f)
  | [], w, o, c, h => by simpa [wset, putL] using h
  | v :: r, w, o, c, h => by
    have := wset_block (b := b) (t := t) (f := f) r (w.setCell ⟨b, o, none⟩ v) (o + 1) _ (block_setCell h)
    simp only [wset, putL]
    rw [this]
    simp
theorem wset_kp {b : Nat} : ∀ (cs : List Value) (w : World) (o : Nat), Kp (· = b) w (wset w b o cs)
  | [], w, _ => .refl _ _
  | v :: r, w, o => by
    have h1 : Kp (· = b) w (w.setCell ⟨b, o, none⟩ v) := ⟨rfl, rfl, rfl, by simp, fun k _ hk => Below.heap_setCell _ _ _ _ hk⟩
    exact h1.trans (wset_kp r _ _)
theorem wset_size {b : Nat} : ∀ (cs : List Value) (w : World) (o : Nat), (wset w b o cs).heap.size = w.heap.size
  | [], w, _ => rfl
  | v :: r, w, o => by simp only [wset]; rw [wset_size r]; simp
section
variable {w w1 : World} {b o : Nat} {cs : List Value}
theorem PutB.block (h : PutB w b o cs w1) {c : Array Value} {t : TypeId} {f : Nat × Nat} (hb : w.heap[b]? = some (.cells c t f)) : w1.heap[b]? = some (.cells (putL c.toList o cs).toArray t f) := by
  rw [h.hw]; exact wset_block cs w o c hb
theorem PutB.kp (h : PutB w b o cs w1) : Kp (· = b) w w1 := by rw [h.hw]; exact wset_kp cs w o
theorem PutB.size (h : PutB w b o cs w1) : w1.heap.size = w.heap.size := by rw [h.hw]; exact wset_size cs w o
end

theorem MarkB.kp {w w1 : World} {b : Nat} (h : MarkB w b w1) : Kp (· = b) w w1 := by
  rw [h.hw]
  unfold markW
  split
  · unfold World.freeze
    rw [if_neg (by decide)]
    refine ⟨rfl, rfl, rfl, by simp, fun k _ hk => ?_⟩
    show (w.heap.modify b _)[k]? = _
    rw [Array.getElem?_modify, if_neg (fun e => hk e.symm)]
  · exact .refl _ _
theorem MarkB.block {w w1 : World} {b : Nat} (h : MarkB w b w1) {c : Array Value} {t : TypeId} (hb : w.heap[b]? = some (.cells c t (0, 0))) : w1.heap[b]? = some (.cells c t (c.size, c.size + 1)) := by
  rw [h.hw]
  unfold markW World.shape?
  rw [hb]
  simp only [World.freeze]
  rw [if_neg (by decide)]
  show (w.heap.modify b _)[b]? = _
  rw [Array.getElem?_modify, if_pos rfl, hb]
  rfl
theorem MarkB.size {w w1 : World} {b : Nat} (h : MarkB w b w1) : w1.heap.size = w.heap.size := by
  rw [h.hw]
  unfold markW
  split
  · unfold World.freeze
    rw [if_neg (by decide)]
    simp
  · rfl

/-! ### Rows that are the program's own -/
theorem Kp.grown {M : Nat → Prop} {w0 w w' : World} {row : Option Nat} (h : Kp M w0 w) (hg : w.grownBy w' row) (hrow : ∀ k, row = some k → w0.heap.size ≤ k ∨ M k) : Kp M w0 w' :=
  ⟨hg.os.trans h.os, hg.tape.trans h.tape, hg.output.trans h.output, Nat.le_trans h.size hg.size, fun i hi hm => (hg.block i (Nat.lt_of_lt_of_le hi h.size) (fun e => by
    rcases hrow i e.symm with h1 | h1
    · omega
    · exact hm h1)).trans (h.block i hi hm)⟩
theorem owns_kp {M : Nat → Prop} {w w' : World} {base : Nat} {e : TypeId} {size : Nat} {v : Value} {n : Nat} {xs : List Value} (h : w.ownsRow base e size v n xs) (hk : Kp M w w') (hm : ∀ k, v.ownBlock = some k → ¬ M k) : w'.ownsRow base e size v n xs := by
  refine ⟨h.1, ?_⟩
  rcases h.2 with hn | ⟨g, cap, cur, rfl, hb, hgg, rest⟩
  · exact .inl hn
  · exact .inr ⟨g, cap, cur, rfl, hb, hk.blk hgg (hm g rfl), rest⟩
/-- The cells of a new block are appended. -/
theorem src_block {w : World} {b : Nat} {c : Array Value} {t : TypeId} {f : Nat × Nat} (h : w.heap[b]? = some (.cells c t f)) (h1 : ∀ u ∈ c.toList, u.oneCell' = true) : SrcP w (some (Addr.mk b 0 none)) c.toList :=
  ⟨fun j u hj => ⟨b, 0, rfl, by rw [Nat.zero_add, cell_block h]; simpa using hj⟩, h1⟩
theorem Kp.fresh {M M' : Nat → Prop} {w w1 w2 : World} (h : Kp M w w1) (k : Kp M' w1 w2) (hm : ∀ i, i < w.heap.size → M' i → M i) : Kp M w w2 :=
  ⟨k.os.trans h.os, k.tape.trans h.tape, k.output.trans h.output, Nat.le_trans h.size k.size, fun i hi hn => (k.block i (Nat.lt_of_lt_of_le hi h.size) (fun e => hn (hm i hi e))).trans (h.block i hi hn)⟩
theorem bsp_mono {b : Bool} {X Y X' Y' : Prop} (h : bsp b X Y) (h1 : X → X') (h2 : Y → Y') : bsp b X' Y' := by cases b; exact h2 h; exact h1 h

end Go.Proofs.YtcpjajjocmpkjaaDoor
