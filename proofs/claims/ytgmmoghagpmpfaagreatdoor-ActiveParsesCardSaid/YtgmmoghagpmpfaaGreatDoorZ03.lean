/- Lemmas on worlds for the proofs of formulas: new blocks, written cells, what is kept. Generic: no program, no condition. -/
import Derived.Test.YtgmmoghagpmpfaaGreatDoorZ02
import Derived.Below
import Derived.ChangeSame
import Derived.DataReads
import Derived.Test.YtgmmoghagpmpfaaGreatDoorRows
import Derived.Test.YtgmmoghagpmpfaaGreatDoorCards
import Derived.Test.YtgmmoghagpmpfaaGreatDoorTie
import Derived.WalkKit
import Derived.ProofKit
import Derived.OpenShut
import Derived.Shelf.Vars
import Derived.Deep.Slices
import Derived.Deep.DeepHandedRow
import Derived.Lib.LaidTab
namespace Go.Proofs.YtgmmoghagpmpfaaGreatDoor
open Go.RowKit

theorem bsp_intro {b : Bool} {X Y : Prop} (h1 : b = true → X) (h2 : b = false → Y) : bsp b X Y := by cases b <;> simp_all [bsp]
theorem gimp_intro {b : Bool} {X : Prop} (h : b = true → X) : gimp b X := by cases b <;> simp_all [gimp]
theorem wr64 {x : Int} (h1 : -9223372036854775808 ≤ x) (h2 : x ≤ 9223372036854775807) : IntKind.i64.wrap x = x := IntWalk.i64_in x ⟨h1, h2⟩

theorem Kp.mono {M M' : Nat → Prop} {a b : World} (h : Kp M a b) (hm : ∀ i, i < a.heap.size → M i → M' i) : Kp M' a b :=
  ⟨h.os, h.tape, h.output, h.size, fun i hi hn => h.block i hi (fun hM => hn (hm i hi hM))⟩
theorem Kp.drew {M : Nat → Prop} {a b : World} (h : Kp M a b) : Kp M a b.drew := ⟨h.os, h.tape, h.output, h.size, h.block⟩
theorem Kp.of_drew {M : Nat → Prop} {a b : World} (h : Kp M a.drew b) : Kp M a b := ⟨h.os, h.tape, h.output, h.size, h.block⟩
theorem K0.below {w w' : World} (h : K0 w w') : Below w.heap.size w w' := ⟨h.os, h.tape, h.output, h.size, fun k hk => h.block k hk (fun h => h)⟩
theorem Kp.cell {M : Nat → Prop} {w w' : World} (h : Kp M w w') {b o : Nat} (hb : b < w.heap.size) (hm : ¬ M b) : w'.cell? ⟨b, o, none⟩ = w.cell? ⟨b, o, none⟩ := by
  simp only [World.cell?, h.block b hb hm]
theorem cell_lt {w : World} {b o : Nat} {v : Value} (h : w.cell? ⟨b, o, none⟩ = some v) : b < w.heap.size := World.block_lt_of_cell? w ⟨b, o, none⟩ h
theorem Kp.cell' {M : Nat → Prop} {w w' : World} (h : Kp M w w') {b o : Nat} {v : Value} (hc : w.cell? ⟨b, o, none⟩ = some v) (hm : ¬ M b) : w'.cell? ⟨b, o, none⟩ = some v := by
  rw [h.cell (cell_lt hc) hm]; exact hc
theorem Kp.frozen {M : Nat → Prop} {w w' : World} (h : Kp M w w') {b o : Nat} (hb : b < w.heap.size) (hm : ¬ M b) : w'.frozen? ⟨b, o, none⟩ = w.frozen? ⟨b, o, none⟩ := by
  simp only [World.frozen?, h.block b hb hm]

theorem block_lt {w : World} {b : Nat} {o : Obj} (h : w.heap[b]? = some o) : b < w.heap.size := by
  rcases Nat.lt_or_ge b w.heap.size with h' | h'
  · exact h'
  · simp [Array.getElem?_eq_none h'] at h
theorem Kp.blk {M : Nat → Prop} {w w' : World} (h : Kp M w w') {b : Nat} {o : Obj} (hb : w.heap[b]? = some o) (hm : ¬ M b) : w'.heap[b]? = some o := by
  rw [h.block b (block_lt hb) hm]; exact hb
section
variable {w w1 : World} {obj : Obj} {n : Nat}
theorem NewB.block (h : NewB w obj n w1) : w1.heap[n]? = some obj := by
  obtain ⟨rfl, rfl⟩ := h
  show (w.heap.push obj)[w.heap.size]? = some obj
  simp
theorem NewB.kp (h : NewB w obj n w1) (M : Nat → Prop) : Kp M w w1 := by
  obtain ⟨rfl, rfl⟩ := h
  exact ⟨rfl, rfl, rfl, by simp, fun k hk _ => Below.heap_alloc _ _ _ hk⟩
theorem NewB.size (h : NewB w obj n w1) : w1.heap.size = n + 1 := by
  obtain ⟨rfl, rfl⟩ := h; simp
theorem NewB.ge (h : NewB w obj n w1) : w.heap.size ≤ n := by
  obtain ⟨rfl, rfl⟩ := h; exact Nat.le_refl _
end

theorem cell_block {w : World} {b : Nat} {c : Array Value} {t : TypeId} {f : Nat × Nat} (h : w.heap[b]? = some (.cells c t f)) (i : Nat) : w.cell? ⟨b, i, none⟩ = c[i]? := by
  simp [World.cell?, h]
theorem frozen_block {w : World} {b : Nat} {c : Array Value} {t : TypeId} (h : w.heap[b]? = some (.cells c t (0, 0))) (i : Nat) : w.frozen? ⟨b, i, none⟩ = false := by
  simp [World.frozen?, h]
theorem At_of {w : World} {b : Nat} : ∀ (cs : List Value) (o : Nat), (∀ j v, cs[j]? = some v → w.cell? ⟨b, o + j, none⟩ = some v) → At w b o cs
  | [], _, _ => trivial
  | [v], o, h => by have := h 0 v rfl; exact (by simpa using this : w.cell? ⟨b, o, none⟩ = some v)
  | v :: x :: r, o, h => ⟨by have := h 0 v rfl; simpa using this, At_of (x :: r) (o + 1) fun j u hj => by
      have := h (j + 1) u (by simpa using hj)
      rw [show o + 1 + j = o + (j + 1) by omega]; exact this⟩
/-- The cells of a block, from an offset on. -/
theorem AtL_block {w : World} {b o : Nat} {c : Array Value} {t : TypeId} {f : Nat × Nat} {cs : List Value} (h : w.heap[b]? = some (.cells c t f)) (hc : (c.toList.drop o).take cs.length = cs) : AtL w b o cs := by
  refine ⟨At_of cs o fun j v hj => ?_⟩
  rw [cell_block h]
  have hlt : j < cs.length := by
    rcases Nat.lt_or_ge j cs.length with h' | h'
    · exact h'
    · simp [List.getElem?_eq_none h'] at hj
  rw [← hc] at hj
  rw [List.getElem?_take, if_pos (by simpa using hlt), List.getElem?_drop] at hj
  simpa using hj
theorem WrL_block {w : World} {b o n : Nat} {c : Array Value} {t : TypeId} (h : w.heap[b]? = some (.cells c t (0, 0))) (hn : o + n ≤ c.size) : WrL w b o n := by
  refine ⟨Wr_of n o fun i hi => ⟨?_, frozen_block h _⟩⟩
  rw [cell_block h]
  exact ⟨c[o + i], by simp⟩
def putL (c : List Value) : Nat → List Value → List Value
  | _, [] => c
  | o, v :: r => putL (c.set o v) (o + 1) r
theorem block_setCell {w : World} {b o : Nat} {c : Array Value} {t : TypeId} {f : Nat × Nat} {v : Value} (h : w.heap[b]? = some (.cells c t f)) : (w.setCell ⟨b, o, none⟩ v).heap[b]? = some (.cells (c.setIfInBounds o v) t f) := by
  simp [World.setCell, Array.getElem?_modify, h]
theorem wset_block {b : Nat} {t : TypeId} {f : Nat × Nat} : ∀ (cs : List Value) (w : World) (o : Nat) (c : Array Value), w.heap[b]? = some (.cells c t f) → (wset w b o cs).heap[b]? = some (.cells (putL c.toList o cs).toArray t f)
  | [], w, o, c, h => by simpa [wset, putL] using h
  | v :: r, w, o, c, h => by
    have := wset_block (b := b) (t := t) (f := f) r (w.setCell ⟨b, o, none⟩ v) (o + 1) _ (block_setCell h)
    simp only [wset, putL]
    rw [this]
    simp
theorem wset_kp {b : Nat} : ∀ (cs : List Value) (w : World) (o : Nat), Kp (· = b) w (wset w b o cs)
  | [], w, _ => .refl _ _
  | v :: r, w, o => by
    have h1 : Kp (· = b) w (w.setCell ⟨b, o, none⟩ v) := ⟨rfl, rfl, rfl, by simp, fun k _ hk => Below.heap_setCell _ _ _ _ hk⟩
    exact h1.trans (wset_kp r _ _)
theorem wset_size {b : Nat} : ∀ (cs : List Value) (w : World) (o : Nat), (wset w b o cs).heap.size = w.heap.size
  | [], w, _ => rfl
  | v :: r, w, o => by simp only [wset]; rw [wset_size r]; simp
section
variable {w w1 : World} {b o : Nat} {cs : List Value}
theorem PutB.block (h : PutB w b o cs w1) {c : Array Value} {t : TypeId} {f : Nat × Nat} (hb : w.heap[b]? = some (.cells c t f)) : w1.heap[b]? = some (.cells (putL c.toList o cs).toArray t f) := by
  rw [h.hw]; exact wset_block cs w o c hb
theorem PutB.kp (h : PutB w b o cs w1) : Kp (· = b) w w1 := by rw [h.hw]; exact wset_kp cs w o
theorem PutB.size (h : PutB w b o cs w1) : w1.heap.size = w.heap.size := by rw [h.hw]; exact wset_size cs w o
end

theorem MarkB.kp {w w1 : World} {b : Nat} (h : MarkB w b w1) : Kp (· = b) w w1 := by
  rw [h.hw]
  unfold markW
  split
  · unfold World.freeze
    rw [if_neg (by decide)]
    refine ⟨rfl, rfl, rfl, by simp, fun k _ hk => ?_⟩
    show (w.heap.modify b _)[k]? = _
    rw [Array.getElem?_modify, if_neg (fun e => hk e.symm)]
  · exact .refl _ _
theorem MarkB.block {w w1 : World} {b : Nat} (h : MarkB w b w1) {c : Array Value} {t : TypeId} (hb : w.heap[b]? = some (.cells c t (0, 0))) : w1.heap[b]? = some (.cells c t (c.size, c.size + 1)) := by
  rw [h.hw]
  unfold markW World.shape?
  rw [hb]
  simp only [World.freeze]
  rw [if_neg (by decide)]
  show (w.heap.modify b _)[b]? = _
  rw [Array.getElem?_modify, if_pos rfl, hb]
  rfl
theorem MarkB.size {w w1 : World} {b : Nat} (h : MarkB w b w1) : w1.heap.size = w.heap.size := by
  rw [h.hw]
  unfold markW
  split
  · unfold World.freeze
    rw [if_neg (by decide)]
    simp
  · rfl

/-! ### Rows that are the program's own -/
theorem Kp.grown {M : Nat → Prop} {w0 w w' : World} {row : Option Nat} (h : Kp M w0 w) (hg : w.grownBy w' row) (hrow : ∀ k, row = some k → w0.heap.size ≤ k ∨ M k) : Kp M w0 w' :=
  ⟨hg.os.trans h.os, hg.tape.trans h.tape, hg.output.trans h.output, Nat.le_trans h.size hg.size, fun i hi hm => (hg.block i (Nat.lt_of_lt_of_le hi h.size) (fun e => by
    rcases hrow i e.symm with h1 | h1
    · omega
    · exact hm h1)).trans (h.block i hi hm)⟩
theorem owns_kp {M : Nat → Prop} {w w' : World} {base : Nat} {e : TypeId} {size : Nat} {v : Value} {n : Nat} {xs : List Value} (h : w.ownsRow base e size v n xs) (hk : Kp M w w') (hm : ∀ k, v.ownBlock = some k → ¬ M k) : w'.ownsRow base e size v n xs := by
  refine ⟨h.1, ?_⟩
  rcases h.2 with hn | ⟨g, cap, cur, rfl, hb, hgg, rest⟩
  · exact .inl hn
  · exact .inr ⟨g, cap, cur, rfl, hb, hk.blk hgg (hm g rfl), rest⟩
/-- The cells of a new block are appended. -/
theorem src_block {w : World} {b : Nat} {c : Array Value} {t : TypeId} {f : Nat × Nat} (h : w.heap[b]? = some (.cells c t f)) (h1 : ∀ u ∈ c.toList, u.oneCell' = true) : SrcP w (some (Addr.mk b 0 none)) c.toList :=
  ⟨fun j u hj => ⟨b, 0, rfl, by rw [Nat.zero_add, cell_block h]; simpa using hj⟩, h1⟩
theorem Kp.fresh {M M' : Nat → Prop} {w w1 w2 : World} (h : Kp M w w1) (k : Kp M' w1 w2) (hm : ∀ i, i < w.heap.size → M' i → M i) : Kp M w w2 :=
  ⟨k.os.trans h.os, k.tape.trans h.tape, k.output.trans h.output, Nat.le_trans h.size k.size, fun i hi hn => (k.block i (Nat.lt_of_lt_of_le hi h.size) (fun e => hn (hm i hi e))).trans (h.block i hi hn)⟩
end Go.Proofs.YtgmmoghagpmpfaaGreatDoor

/- What was read before a call reads behind it as it did, where the blocks that were there are as they were; the last step of a law. Generic: no program, no condition. -/
namespace Go.Proofs.YtgmmoghagpmpfaaGreatDoor
open Go.RowKit Go.WideShapes Go.ChangeShapes

theorem mapM_to {α β : Type} {f g : α → Option β} : ∀ (l : List α) (ys : List β), l.mapM f = some ys → (∀ x ∈ l, ∀ y ∈ ys, f x = some y → g x = some y) → l.mapM g = some ys
  | [], ys, h, _ => by simpa using h
  | a :: r, ys, h, hg => by
    rw [List.mapM_cons] at h ⊢
    cases hf : f a with
    | none => simp [hf] at h
    | some y =>
      cases hr : r.mapM f with
      | none => simp [hf, hr] at h
      | some zs =>
        simp [hf, hr] at h
        subst h
        have h1 := hg a (by simp) y (by simp) hf
        have h2 := mapM_to r zs hr (fun x hx z hz => hg x (by simp [hx]) z (by simp [hz]))
        simp [h1, h2]
theorem cell_kept {w w' : World} (hk : K0 w w') {a : Addr} {v : Value} (h : w.cell? a = some v) : w'.cell? a = some v := by
  have hb : a.block < w.heap.size := World.block_lt_of_cell? w a h
  have := hk.block a.block hb (fun h => h)
  rw [← h]
  unfold World.cell?
  rw [this]
theorem cells_kept {w w' : World} (hk : K0 w w') {base n : Nat} {a : Addr} {cs : List Value} (h : w.cells? base a n = some cs) : w'.cells? base a n = some cs := by
  unfold World.cells? at h ⊢
  split at h
  · rename_i hb
    rw [if_pos hb]
    exact mapM_to _ _ h (fun x _ y _ hx => cell_kept hk hx)
  · cases h
/-- A type of bounded depth in which the elements of slices have cells. -/
def posT (P : Program) : Nat → TypeId → Bool
  | 0, t => (match P.underlying t with
    | some (.pointer _) => false
    | some (.slice _) => false
    | some (.struct _) => false
    | some (.array _ _) => false
    | some (.map _ _) => false
    | _ => true)
  | d + 1, t => (match P.underlying t with
    | some (.pointer e) => posT P d e
    | some (.slice e) => Nat.blt 0 (P.cellsOf e) && posT P d e
    | some (.struct fs) => fs.toList.all fun f => posT P d f.type
    | some (.array _ e) => posT P d e
    | some (.map _ e) => posT P d e
    | _ => true)
theorem posT_pointer {P : Program} {d : Nat} {t e : TypeId} (h : posT P d t = true) (hu : P.underlying t = some (.pointer e)) : ∃ d', posT P d' e = true := by
  cases d with
  | zero => simp [posT, hu] at h
  | succ d => simp only [posT, hu] at h; exact ⟨d, h⟩
theorem posT_slice {P : Program} {d : Nat} {t e : TypeId} (h : posT P d t = true) (hu : P.underlying t = some (.slice e)) : 0 < P.cellsOf e ∧ ∃ d', posT P d' e = true := by
  cases d with
  | zero => simp [posT, hu] at h
  | succ d => simp only [posT, hu, Bool.and_eq_true] at h; exact ⟨by simpa using h.1, d, h.2⟩
theorem posT_struct {P : Program} {d : Nat} {t : TypeId} {fs : Array Field} (h : posT P d t = true) (hu : P.underlying t = some (.struct fs)) : ∃ d', ∀ f ∈ fs.toList, posT P d' f.type = true := by
  cases d with
  | zero => simp [posT, hu] at h
  | succ d => simp only [posT, hu] at h; exact ⟨d, fun f hf => List.all_eq_true.1 h f hf⟩
theorem posT_array {P : Program} {d n : Nat} {t e : TypeId} (h : posT P d t = true) (hu : P.underlying t = some (.array n e)) : ∃ d', posT P d' e = true := by
  cases d with
  | zero => simp [posT, hu] at h
  | succ d => simp only [posT, hu] at h; exact ⟨d, h⟩
theorem posT_map {P : Program} {d : Nat} {t k e : TypeId} (h : posT P d t = true) (hu : P.underlying t = some (.map k e)) : ∃ d', posT P d' e = true := by
  cases d with
  | zero => simp [posT, hu] at h
  | succ d => simp only [posT, hu] at h; exact ⟨d, h⟩
theorem trod_kept {H : Type} {enc : TypeId × Value → H} {P : Program} {w w' : World} (hk : K0 w w') {base : Nat} {sp : Nat → Bool} : ∀ (fuel : Nat) (t : TypeId) (d : Nat) (cs : List Value) (x : DataW H × List MemPlace), posT P d t = true →
    DataW.trod enc P w base (fun _ => true) true fuel t cs = some x → (∀ p ∈ x.2, sp p.block = true) → DataW.trod enc P w' base sp true fuel t cs = some x
  | 0, t, d, cs, x, _, h, _ => by simp [DataW.trod] at h
  | fuel + 1, t, d, cs, x, hd, h, hsp => by
    have ih := trod_kept (enc := enc) (P := P) hk (base := base) (sp := sp) fuel
    unfold DataW.trod at h ⊢
    split at h
    case h_6 e a hu =>
      cases hc : w.cells? base a (P.cellsOf e) with
      | none => rw [hc] at h; simp at h
      | some cs' =>
        rw [hc] at h
        simp only [Option.bind_some, Option.map_eq_some_iff] at h
        obtain ⟨y, hy, rfl⟩ := h
        rw [cells_kept hk hc]
        simp only [Option.bind_some]
        obtain ⟨d', hd'⟩ := posT_pointer hd hu
        rw [ih e d' cs' y hd' hy (fun p hp => hsp p (by simp [hp]))]
        rfl
    case h_8 e a len cap hu =>
      obtain ⟨hpos, d', hd'⟩ := posT_slice hd hu
      dsimp only at h ⊢
      split at h
      · rename_i hcond
        rw [if_pos hcond]
        cases he : (List.range len).mapM (fun i => (w.cells? base (a.add (i * P.cellsOf e)) (P.cellsOf e)).bind (DataW.trod enc P w base (fun _ => true) true fuel e)) with
        | none => rw [he] at h; simp at h
        | some elems =>
          rw [he] at h
          simp only [Option.bind_some, if_true, Option.map_eq_some_iff] at h
          obtain ⟨rest, hr, rfl⟩ := h
          have el : ∀ i y, y ∈ elems ++ rest → (w.cells? base (a.add (i * P.cellsOf e)) (P.cellsOf e)).bind (DataW.trod enc P w base (fun _ => true) true fuel e) = some y → (w'.cells? base (a.add (i * P.cellsOf e)) (P.cellsOf e)).bind (DataW.trod enc P w' base sp true fuel e) = some y := fun i y hy h => by
            cases hc : w.cells? base (a.add (i * P.cellsOf e)) (P.cellsOf e) with
            | none => rw [hc] at h; simp at h
            | some cs' =>
              rw [hc] at h
              simp only [Option.bind_some] at h
              rw [cells_kept hk hc]
              simp only [Option.bind_some]
              refine ih e d' cs' y hd' h (fun p hp => hsp p ?_)
              simp only [List.mem_append]
              right
              exact List.mem_flatMap.2 ⟨y, hy, hp⟩
          have hel := mapM_to (g := fun i => (w'.cells? base (a.add (i * P.cellsOf e)) (P.cellsOf e)).bind (DataW.trod enc P w' base sp true fuel e)) _ _ he (fun i _ y hy h => el i y (by simp [hy]) h)
          rw [hel]
          simp only [Option.bind_some, Option.map_eq_some_iff]
          have hlr : rest.length = cap - len := by simpa using mapM_some_length hr
          refine ⟨rest, ?_, rfl⟩
          split
          · exact mapM_to _ _ hr (fun j _ y hy h => el (len + j) y (by simp [hy]) h)
          · rename_i hns
            have : cap - len = 0 := by
              rcases Nat.eq_zero_or_pos (cap - len) with h0 | h0
              · exact h0
              · exfalso
                apply hns
                have hp := hpos
                refine hsp (.cell a.block (a.off + 0)) ?_
                simp only [List.mem_append]
                left
                unfold MemPlace.row
                refine List.mem_map.2 ⟨0, List.mem_range.2 ?_, rfl⟩
                rw [hlr]
                exact Nat.mul_pos (by omega) hp
            have : rest = [] := List.eq_nil_of_length_eq_zero (by omega)
            rw [this]
      · cases h
    case h_9 =>
      obtain ⟨d', hd'⟩ := posT_struct hd (by assumption)
      split at h
      · rename_i hl
        rw [if_pos hl]
        simp only [Option.map_eq_some_iff] at h ⊢
        obtain ⟨xs, hxs, rfl⟩ := h
        exact ⟨xs, mapM_to _ _ hxs (fun f hfm y hy hf => ih _ d' _ y (hd' f hfm) hf (fun p hp => hsp p (List.mem_flatMap.2 ⟨y, hy, hp⟩))), rfl⟩
      · cases h
    case h_10 =>
      obtain ⟨d', hd'⟩ := posT_array hd (by assumption)
      split at h
      · rename_i hl
        rw [if_pos hl]
        simp only [Option.map_eq_some_iff] at h ⊢
        obtain ⟨xs, hxs, rfl⟩ := h
        exact ⟨xs, mapM_to _ _ hxs (fun f _ y hy hf => ih _ d' _ y hd' hf (fun p hp => hsp p (List.mem_flatMap.2 ⟨y, hy, hp⟩))), rfl⟩
      · cases h
    case h_12 => exact h
    case h_14 =>
      rename_i k e b hu
      obtain ⟨d', hd'⟩ := posT_map hd hu
      split at h
      · rename_i es clock hes
        rw [hk.blk hes (fun h => h)]
        dsimp only
        split at h
        · rename_i hcond
          rw [if_pos hcond]
          cases hm : es.toList.mapM (fun x => (keyOf P k x.key).bind fun key => if x.val.formed P e then (DataW.trod enc P w base (fun _ => true) true fuel e x.val.cells.toList).map fun y => ((key, y.1), y.2) else none) with
          | none => rw [hm] at h; simp at h
          | some entries =>
            rw [hm] at h
            simp only [Option.bind_some] at h
            split at h
            · rename_i hrs
              simp only [Option.some.injEq] at h
              subst h
              have := mapM_to (g := fun x => (keyOf P k x.key).bind fun key => if x.val.formed P e then (DataW.trod enc P w' base sp true fuel e x.val.cells.toList).map fun y => ((key, y.1), y.2) else none) _ _ hm (fun z _ y hy hf => by
                cases hkz : keyOf P k z.key with
                | none => rw [hkz] at hf; simp at hf
                | some key =>
                  rw [hkz] at hf
                  simp only [Option.bind_some] at hf ⊢
                  split at hf
                  · rename_i hfm
                    rw [if_pos hfm]
                    simp only [Option.map_eq_some_iff] at hf ⊢
                    obtain ⟨y', hy', rfl⟩ := hf
                    exact ⟨y', ih _ d' _ y' hd' hy' (fun p hp => hsp p (List.mem_cons_of_mem _ (List.mem_flatMap.2 ⟨_, hy, hp⟩))), rfl⟩
                  · cases hf)
              rw [this]
              simp only [Option.bind_some]
              rw [if_pos hrs]
            · cases h
        · cases h
      · cases h
    all_goals exact h

theorem addr_add2 (b o i j : Nat) : ((⟨b, o, none⟩ : Addr).add i).add j = ⟨b, o + i + j, none⟩ := by
  unfold Addr.add
  by_cases hi : i = 0 <;> by_cases hj : j = 0 <;> simp [hi, hj]

end Go.Proofs.YtgmmoghagpmpfaaGreatDoor

/- From contracts on worlds to the given statements: the last step of a law, the listed variables' world. No condition. -/
namespace Go.Proofs.YtgmmoghagpmpfaaGreatDoor
open Go.ChangeShapes Go.WideShapes Go.ChangeAt Go.RowKit Go.Deep

theorem own : ownKnob Tryz.prog.godebug = none := by kernel_rfl
/-- The library's variable holds a number. -/
theorem trodAll_kept {H : Type} {enc : TypeId × Value → H} {P : Program} {w w' : World} (hk : K0 w w') {base : Nat} {sp : Nat → Bool} : ∀ (ts : List TypeId) (vs : List Value) (ds : List (DataW H)) (ps : List MemPlace),
    (∀ t ∈ ts, posT P 12 t = true) → DataW.TrodAll enc P w base (fun _ => true) true ts vs ds ps → (∀ p ∈ ps, sp p.block = true) → DataW.TrodAll enc P w' base sp true ts vs ds ps
  | [], [], [], ps, _, h, _ => h
  | t :: ts, v :: vs, d :: ds, ps, ht, ⟨p, q, ⟨fuel, h1⟩, h2, h3⟩, hsp => by
    subst h3
    exact ⟨p, q, ⟨fuel, trod_kept hk fuel t 12 _ _ (ht t (by simp)) h1 (fun x hx => hsp x (by simp [hx]))⟩, trodAll_kept hk ts vs ds q (fun u hu => ht u (by simp [hu])) h2 (fun x hx => hsp x (by simp [hx])), rfl⟩
  | [], [], _ :: _, _, _, h, _ => h.elim
  | [], _ :: _, _, _, _, h, _ => h.elim
  | _ :: _, [], _, _, _, h, _ => h.elim
  | _ :: _, _ :: _, [], _, _, h, _ => h.elim
section
variable {H : Type} {enc : TypeId × Value → H} {P : Program}
theorem post_of_k0 {f : Func} {s : ChangeSpec} {apart fresh handsOn again : Bool} {W W' : World} {args : Array Value} {ds gs : List (DataW H)} {before : List MemPlace} (hpos : f.params.toList.all (posT P 12) = true) {tb : TypeId} (htb : P.underlying tb = some .bool) (hrt : f.resultTypes = #[tb])
    (hW : DataW.Whole enc P f.params.toList s.vars apart W args.toList ds gs before) (hvars : s.vars = [])
    (hfn : (s.fn H (ds ++ gs)).results = [.lit (.bool true)] ∧ (s.fn H (ds ++ gs)).args = ds ∧ (s.fn H (ds ++ gs)).vars = []) (hk : K0 W W') :
    s.post enc P f apart fresh handsOn again W args (.bool true) W' := by
  have hb : Below W.heap.size W W' := hk.below
  have hW0 := hW
  obtain ⟨p, q, hA, hV, hps, hz, hn⟩ := hW
  rw [hvars] at hV
  have hq : gs = [] ∧ q = [] := by
    cases gs with
    | nil => exact ⟨rfl, hV⟩
    | cons g r => exact hV.elim
  obtain ⟨rfl, rfl⟩ := hq
  rw [List.append_nil] at hps
  subst hps
  have hlt : ∀ x ∈ before, x.block < W.heap.size := fun x hx => hW0.lt x hx
  have hold : ∀ x ∈ before, (fun b => decide (b < W.heap.size)) x.block = true := fun x hx => by simpa using hlt x hx
  have hargs : ∀ sp : Nat → Bool, (∀ x ∈ before, sp x.block = true) → DataW.TrodAll enc P W' 0 sp true f.params.toList args.toList (s.fn H (ds ++ [])).args before := fun sp hsp => by
    rw [hfn.2.1]; exact trodAll_kept hk _ _ _ _ (fun t ht => List.all_eq_true.1 hpos t ht) hA hsp
  have hvs : ∀ sp : Nat → Bool, DataW.TrodVars enc P W' sp s.vars (s.fn H (ds ++ [])).vars [] := fun sp => by rw [hvars, hfn.2.2]; exact rfl
  have hres : ∀ (b : Nat) (sp : Nat → Bool) (hd : Bool), DataW.TrodAll enc P W' b sp hd f.resultTypes.toList ((Value.bool true).resultList f.resultTypes.size) (s.fn H (ds ++ [])).results [] := fun b sp hd => by
    rw [hfn.1, hrt]; exact trodAll_cons_mk (shut_bool htb _) trodAll_mk0
  refine ⟨ds, [], before, [], before, [], hW0, hres _ _ _, hargs _ hold, hvs _, World.keptBut_mono (fun x hx => ⟨hx, Or.inr (by simpa using hx)⟩) (hb.frame (· ∈ before)), fun _ => ?_⟩
  refine ⟨?_, _, _, ([] ++ before) ++ [], ⟨[] ++ before, [], trodAll_append (hargs _ (fun _ _ => rfl)) (hres _ _ _), hvs _, rfl, ?_, ?_⟩, ?_⟩
  · intro j t r hj hr
    rw [hrt] at hj hr
    have : j = 0 := by
      rcases Nat.eq_zero_or_pos j with h | h
      · exact h
      · simp [Array.getElem?_eq_none (xs := #[tb]) (i := j) (by simp; omega)] at hj
    subst this
    simp at hj
    subst hj
    have : r = .bool true := by simpa [Value.resultList] using hr.symm
    subst this
    exact okWide_bool_mk htb _
  · intro b off hp
    have hin : MemPlace.cell b off ∈ before := by simpa using hp
    rw [hb.frozen (hlt _ hin)]
    exact hz b off hin
  · intro ha
    have := hn ha
    simpa using this
  · intro x hx _
    simpa using hx
end

/-! ### A world that holds the listed tables -/
def flatD {H : Type} : Nat → DataW H → List Value
  | 0, _ => []
  | _ + 1, .lit (.int k n) => [.int k n]
  | n + 1, .agg l => l.flatMap (flatD n)
  | _ + 1, _ => []
def setRow (cs : List Value) : Obj → Obj
  | .cells _ t frozen => .cells cs.toArray t frozen
  | o => o
noncomputable def laidWorld (os : Os) : World :=
  { World.holding Tryz.prog os ⟨#[], #[], []⟩ with heap := ((World.holding Tryz.prog os ⟨#[], #[], []⟩).heap.modify 2 (setRow (flatD 3 Rows.laid_unicode_utf8_first))).modify 3 (setRow (flatD 3 (Rows.laid_unicode_utf8_acceptRanges (H := Unit)))) }
/-- .. and the tables of the library's numerals. -/
noncomputable def laidWorld2 (os : Os) : World :=
  { laidWorld os with heap := (((laidWorld os).heap.modify 1 (setRow (flatD 3 (Rows.laid_internal_strconv_uint64pow10 (H := Unit))))).modify 4 (setRow (flatD 3 (Rows.laid_math_bits_deBruijn32tab (H := Unit))))).modify 5 (setRow (flatD 3 (Rows.laid_math_bits_deBruijn64tab (H := Unit)))) }

end Go.Proofs.YtgmmoghagpmpfaaGreatDoor

/- Rows that grow by one element, cells of own blocks: lemmas for the proofs of formulas. Generic: no program, no condition. -/
namespace Go.Proofs.YtgmmoghagpmpfaaGreatDoor
open Go.RowKit

/-- The block of a row is not before its base. -/
theorem own_ge {w : World} {base : Nat} {e : TypeId} {size : Nat} {v : Value} {n : Nat} {xs : List Value} (h : w.ownsRow base e size v n xs) {k : Nat} (hk : v.ownBlock = some k) : base ≤ k := (h.lt k hk).1
theorem own_lt {w : World} {base : Nat} {e : TypeId} {size : Nat} {v : Value} {n : Nat} {xs : List Value} (h : w.ownsRow base e size v n xs) {k : Nat} (hk : v.ownBlock = some k) : k < w.heap.size := (h.lt k hk).2
theorem cell_at {w : World} {b o : Nat} {c : Array Value} {t : TypeId} {f : Nat × Nat} {v : Value} (h : w.heap[b]? = some (.cells c t f)) (hv : c[o]? = some v) : w.cell? ⟨b, o, none⟩ = some v := by rw [cell_block h]; exact hv
/-- A block that can be written: a cell of it. -/
theorem cell_wr {w : World} {b o : Nat} {c : Array Value} {t : TypeId} (h : w.heap[b]? = some (.cells c t (0, 0))) (ho : o < c.size) : (∃ u, w.cell? ⟨b, o, none⟩ = some u) ∧ w.frozen? ⟨b, o, none⟩ = false :=
  ⟨⟨c[o], by rw [cell_block h]; simp [ho]⟩, frozen_block h _⟩
/-- An element of a row, read. -/
theorem own_cell {w : World} {base : Nat} {e : TypeId} {n c : Nat} {p : Option Addr} {xs : List Value} (h : w.ownsRow base e 1 (.slice p n c) n xs) {k : Nat} (hk : k < n) : ∃ g v, p = some ⟨g, 0, none⟩ ∧ xs[k]? = some v ∧ w.cell? ⟨g, 0 + k, none⟩ = some v := by
  have hl := h.1
  rcases h.2 with ⟨_, hn⟩ | ⟨g, cap, cur, hv, _, hg, _, _, _, ht⟩
  · omega
  · simp only [Value.slice.injEq] at hv
    obtain ⟨v, hx⟩ : ∃ v, xs[k]? = some v := ⟨_, List.getElem?_eq_getElem (by omega)⟩
    refine ⟨g, v, hv.1, hx, ?_⟩
    rw [cell_block hg, Nat.zero_add]
    rw [← ht, List.getElem?_take] at hx
    simp only [Nat.mul_one, hk, if_true] at hx
    rw [Array.getElem?_toList] at hx
    rw [hx]
/-- What lies in the block of a row. -/
theorem own_type {w : World} {base : Nat} {e : TypeId} {size : Nat} {v : Value} {n : Nat} {xs : List Value} (h : w.ownsRow base e size v n xs) {k : Nat} (hk : v.ownBlock = some k) : ∃ c, w.heap[k]? = some (.cells c e (0, 0)) := by
  rcases h.2 with ⟨rfl, _⟩ | ⟨g, cap, cur, rfl, _, hg, _⟩
  · simp [Value.ownBlock] at hk
  · simp only [Value.ownBlock, Option.some.injEq] at hk
    subst hk
    exact ⟨cur, hg⟩
theorem putL_all : ∀ (vs pre c : List Value), c.length = vs.length → putL (pre ++ c) pre.length vs = pre ++ vs
  | [], pre, [], _ => by simp [putL]
  | [], pre, _ :: _, h => by simp at h
  | v :: r, pre, [], h => by simp at h
  | v :: r, pre, x :: c, h => by
    have := putL_all r (pre ++ [v]) c (by simpa using h)
    simp only [putL]
    simpa using this
/-- All cells of a block are written. -/
theorem PutB.full {w w1 : World} {b : Nat} {cs : List Value} (h : PutB w b 0 cs w1) {c : Array Value} {t : TypeId} {f : Nat × Nat} (hb : w.heap[b]? = some (.cells c t f)) (hl : c.size = cs.length) : w1.heap[b]? = some (.cells cs.toArray t f) := by
  have := putL_all cs [] c.toList (by simpa using hl)
  simp at this
  rw [h.block hb, this]

end Go.Proofs.YtgmmoghagpmpfaaGreatDoor

/- The symbolic evaluator, sixth part: blocks of the function's own are kept in mind, so that a formula does not speak of them. Generic: no program, no condition. -/
namespace Go.Proofs.YtgmmoghagpmpfaaGreatDoor
open Go.RowKit

/-- A block of the function's own: its number, its type, its cells; since the world that is spoken of: 0 as it was, 1 written, 2 new. -/
structure Blk where
  n : Nat
  t : TypeId
  cs : List Value
  m : Nat
abbrev Bs := List (Nat × Blk)
/-- Blocks that are kept in mind; slots that point into them (block, offset); slots that hold a slice of a whole one; the next number; whether the world is another one by now. -/
structure Trk where
  bs : Bs
  tg : List (Nat × Nat × Nat)
  sg : List (Nat × Nat)
  nx : Nat
  d : Bool
/-- The world W is w, but for the blocks that are kept in mind. -/
structure Loc (z : Nat) (T : List Blk) (w W : World) : Prop where
  kp : Kp (fun k => ∃ x ∈ T, x.m = 1 ∧ x.n = k) w W
  blk : ∀ x ∈ T, W.heap[x.n]? = some (.cells x.cs.toArray x.t (0, 0))
  ge : ∀ x ∈ T, z ≤ x.n
  ne : (T.map (·.n)).Nodup
  nw : ∀ x ∈ T, x.m = 2 → w.heap.size ≤ x.n
  hz : z ≤ w.heap.size
/-- Blocks that are as they were. -/
structure KeptL (T : List Nat) (W w' : World) : Prop where
  size : W.heap.size ≤ w'.heap.size
  h : ∀ n ∈ T, n < W.heap.size → w'.heap[n]? = W.heap[n]?
def blksOf : Bs → List Blk
  | [] => []
  | x :: r => x.2 :: blksOf r
def allB (B : Bs) (T : Trk) : List Blk := blksOf (B ++ T.bs)
def numsOf : Bs → List Nat
  | [] => []
  | x :: r => x.2.n :: numsOf r
def keptF (l : List Nat) (W w' : World) (X : Prop) : Prop := KeptL l W w' ∧ X
def delN {α : Type} (d : Nat) : List (Nat × α) → List (Nat × α)
  | [] => []
  | x :: r => match x.1 == d with | true => delN d r | false => x :: delN d r
def memN (d : Nat) : List Nat → Bool
  | [] => false
  | x :: r => match x == d with | true => true | false => memN d r
def delAll {α : Type} (ds : List Nat) : List (Nat × α) → List (Nat × α)
  | [] => []
  | x :: r => match memN x.1 ds with | true => delAll ds r | false => x :: delAll ds r
def keepAll {α : Type} (ds : List Nat) : List (Nat × α) → List (Nat × α)
  | [] => []
  | x :: r => match memN x.1 ds with | true => x :: keepAll ds r | false => keepAll ds r
/-- The world that is spoken of is the world. -/
def calm : Bs → Bs
  | [] => []
  | x :: r => (x.1, ⟨x.2.n, x.2.t, x.2.cs, 0⟩) :: calm r
def Trk.untag (T : Trk) (dst : Option Nat) : Trk := match dst with
  | none => T
  | some d => ⟨T.bs, delN d T.tg, delN d T.sg, T.nx, T.d⟩
def Trk.untags (T : Trk) (ds : List Nat) : Trk := ⟨T.bs, delAll ds T.tg, delAll ds T.sg, T.nx, T.d⟩
/-- Some are let go; the world is the one that is spoken of. -/
def Trk.drop (T : Trk) (ids : List Nat) : Trk := ⟨calm (delAll ids T.bs), T.tg, T.sg, T.nx, false⟩
def Trk.soil (T : Trk) : Trk := ⟨T.bs, T.tg, T.sg, T.nx, true⟩
def wrM (m : Nat) : Nat := match m == 2 with | true => 2 | false => 1
def setB (id : Nat) (cs : List Value) : Bs → Bs
  | [] => []
  | x :: r => match x.1 == id with | true => (x.1, ⟨x.2.n, x.2.t, cs, wrM x.2.m⟩) :: r | false => x :: setB id cs r
def lookB (B : Bs) (T : Trk) (id : Nat) : Option Blk := match findN id T.bs with
  | some b => some b
  | none => findN id B
/-- The operands that are slots: what they point into. -/
def idsOf (T : Trk) : List Operand → List Nat
  | [] => []
  | .tmp s :: r => (match findN s T.tg, findN s T.sg with
    | some (id, _), _ => id :: idsOf T r
    | none, some id => id :: idsOf T r
    | none, none => idsOf T r)
  | _ :: r => idsOf T r
/-- What an operation lets out. -/
def escO (T : Trk) (o : Oper) : List Nat := match o.op with
  | .load _ _ => []
  | .move _ => []
  | .assign _ => []
  | .nilCheck _ => []
  | .fieldAddr _ _ _ => []
  | .indexAddr _ _ (.const _) => []
  | .slice _ _ none none none => []
  | .binOp _ _ _ _ _ => []
  | .store _ _ v => idsOf T [v]
  | op => idsOf T op.operands.toList
/-- The world as it is now. -/
def syncF (z : Nat) (B : Bs) (T : Trk) (w : World) (K : World → Prop) : Prop := match T.d with
  | false => K w
  | true => ∀ W, Loc z (allB B T) w W → K W
def dropF (z : Nat) (B : Bs) (T : Trk) (ids : List Nat) (w : World) (K : Trk → World → Prop) : Prop := match ids with
  | [] => K T w
  | i :: r => syncF z B T w fun W => K (T.drop (i :: r)) W
def repl (cs : List Value) (o n : Nat) (new : List Value) : List Value := cs.take o ++ (new ++ cs.drop (o + n))
/-- What lies in a block of the function's own. -/
def trkLoad (E : Env) (B : Bs) (T : Trk) (s : Nat) (t : TypeId) : Option (Option Value) := match findN s T.tg with
  | none => none
  | some (id, off) => match lookB B T id with
    | none => none
    | some b => match ldK E.P t with
      | some (agg, n) => (match ((b.cs.drop off).take n).length == n with
        | true => some (some (toV agg ((b.cs.drop off).take n)))
        | false => some none)
      | none => some none
def fieldOff (P : Program) (s : TypeId) (f : Nat) : Option Nat := match P.underlying s with
  | some (.struct fs) => (match fs[f]? with
    | some fd => (match szOf P fd.type with
      | some 0 => none
      | some (_ + 1) => some fd.offset
      | none => none)
    | none => none)
  | _ => none
def isNone' {α : Type} : Option α → Bool
  | none => true
  | some _ => false
/-- Addresses inside the blocks: the block's number in mind, the address. -/
def trkAddr (E : Env) (B : Bs) (T : Trk) (o : Oper) : Option (Nat × Nat × Nat) := match isNone' o.guard with
  | false => none
  | true => match o.op with
    | .fieldAddr st (.tmp s) f => (match findN s T.tg with
      | some (id, off) => (match lookB B T id, fieldOff E.P st f with
        | some b, some k => some (id, b.n, off + k)
        | _, _ => none)
      | none => none)
    | .indexAddr t (.tmp s) (.const (.int _ i)) => (match findN s T.tg with
      | some (id, off) => (match lookB B T id, E.P.underlying t with
        | some b, some (.array n e) => (match szOf E.P e, decide (0 ≤ i) && decide (i < (n : Int)) with
          | some sz, true => some (id, b.n, idx off i sz)
          | _, _ => none)
        | _, _ => none)
      | none => none)
    | .move (.tmp s) => (match findN s T.tg with | some (id, off) => (match lookB B T id with | some b => some (id, b.n, off) | none => none) | none => none)
    | .assign (.tmp s) => (match findN s T.tg with | some (id, off) => (match lookB B T id with | some b => some (id, b.n, off) | none => none) | none => none)
    | .nilCheck (.tmp s) => (match findN s T.tg with | some (id, off) => (match lookB B T id with | some b => some (id, b.n, off) | none => none) | none => none)
    | _ => none
/-- A slice of a whole block. -/
def trkSlice (E : Env) (B : Bs) (T : Trk) (o : Oper) : Option (Nat × Nat × Nat) := match isNone' o.guard with
  | false => none
  | true => match o.op with
    | .slice t (.tmp s) none none none => (match findN s T.tg with
      | some (id, 0) => (match lookB B T id, E.P.underlying t with
        | some b, some (.array n e) => (match szOf E.P e with
          | some _ => some (id, b.n, n)
          | none => none)
        | _, _ => none)
      | _ => none)
    | _ => none
def addTg (dst : Option Nat) (id off : Nat) (T : Trk) : Trk := match dst with
  | none => T
  | some d => ⟨T.bs, (d, id, off) :: delN d T.tg, delN d T.sg, T.nx, T.d⟩
def addSg (dst : Option Nat) (id : Nat) (T : Trk) : Trk := match dst with
  | none => T
  | some d => ⟨T.bs, delN d T.tg, (d, id) :: delN d T.sg, T.nx, T.d⟩
/-- A slot that is there. -/
def inB (dst : Option Nat) (l : Fr) : Bool := match dst with
  | none => true
  | some d => Nat.blt d l.length
/-- An operation that leaves the world as it is. -/
def still2 (E : Env) (z : Nat) (B : Bs) (o : Oper) (ctx : Option (Nat × Bool)) (l : Fr) (T : Trk) (w : World) (K : Fr → Trk → World → Prop) : Prop :=
  match (match o.op with | .load t (.tmp s) => trkLoad E B T s t | _ => none) with
  | some (some v) => (match deadB l 12 ctx with
    | true => K (putF l o.dst (.v undef)) (T.untag o.dst) w
    | false => (match gB l 12 ctx with
      | some _ => K (putF l o.dst (finS ctx o.dst v)) (T.untag o.dst) w
      | none => False))
  | some none => False
  | none => match trkAddr E B T o with
    | some (id, n, off) => (match inB o.dst l with
      | true => K (putF l o.dst (.v (.pointer (some ⟨n, off, none⟩)))) (addTg o.dst id off T) w
      | false => False)
    | none => match trkSlice E B T o with
      | some (id, n, m) => (match inB o.dst l with
        | true => K (putF l o.dst (.v (.slice (some ⟨n, 0, none⟩) m m))) (addSg o.dst id T) w
        | false => False)
      | none => dropF z B T (escO T o) w fun T w => stillO E o l (syncF z B T w) ctx fun l' => K l' (T.untag o.dst) w
/-- The operations of 'still2'. -/
def isStill2 (E : Env) (l : Fr) (ctx : Option (Nat × Bool)) (op : Op) : Bool := match op with
  | .store _ _ _ => false
  | .mapUpdate _ _ _ _ => false
  | .insert _ _ _ _ => false
  | .range _ _ => false
  | .next _ _ => false
  | .alloc _ => false
  | .box _ _ => false
  | .buildSlice _ _ _ => false
  | .makeMap _ _ => false
  | .makeSlice _ _ _ => false
  | .convert src dst _ => (match E.P.underlying dst, E.P.underlying src with
    | some (.slice _), some .string => false
    | some (.slice _), some (.slice _) => false
    | _, _ => true)
  | .call { callee := .builtin .append, .. } => false
  | .call { callee := .builtin .delete, .. } => false
  | .call { callee := .builtin .clear, .. } => false
  | .call { callee := .value (.func f), args, .. } => (match E.pur f (args.toList.map (rdV l (chain l 12 ctx))) with | some _ => true | none => false)
  | .call { callee := .value _, .. } => false
  | .call { callee := .invoke _ _, .. } => false
  | _ => true
def Trk.add (T : Trk) (b : Blk) (dst : Option Nat) : Trk := match dst with
  | none => ⟨(T.nx, b) :: T.bs, T.tg, T.sg, T.nx + 1, true⟩
  | some d => ⟨(T.nx, b) :: T.bs, (d, T.nx, 0) :: delN d T.tg, delN d T.sg, T.nx + 1, true⟩
def Trk.addS (T : Trk) (b : Blk) (dst : Option Nat) : Trk := match dst with
  | none => ⟨(T.nx, b) :: T.bs, T.tg, T.sg, T.nx + 1, true⟩
  | some d => ⟨(T.nx, b) :: T.bs, delN d T.tg, (d, T.nx) :: delN d T.sg, T.nx + 1, true⟩
/-- The cells of a new slice. -/
def rowS2 (t : TypeId) (len : Nat) (parts : Array (Nat × Value)) : Sem (TypeId × Array Value) := do
  let .slice elem ← underlying t | stuck "buildSlice: slice type expected"
  let size ← sizeOf elem
  if len * size > 2 ^ 24 then unsupported (.resourceLimit "buildSlice: more than 2^24 cells")
  let zero ← if len * size = 0 then pure #[] else do pure (← zeroValue elem).cells
  let some cells := Instr.fill (fun i => some (i * size, size)) ((Array.range (len * size)).map (zero[· % zero.size]!)) parts.toList
    | stuck "buildSlice: a part of the wrong size"
  pure (elem, cells)
/-- A new block. -/
def new2 (E : Env) (o : Oper) (l : Fr) (T : Trk) (w : World) (K : Fr → Trk → World → Prop) : Prop := match o.op with
  | .alloc t => (match Sem.ev E.P (zeroValue t) with
    | some v => ∀ n : Nat, K (putF l o.dst (.v (.pointer (some ⟨n, 0, none⟩)))) (T.add ⟨n, t, v.cells.toList, 2⟩ o.dst) w
    | none => False)
  | .box t x => (match rd l [] x with
    | some v => ∀ n : Nat, K (putF l o.dst (.v (.pointer (some ⟨n, 0, none⟩)))) (T.add ⟨n, t, v.cells.toList, 2⟩ o.dst) w
    | none => False)
  | .buildSlice t len parts => (match allRd l [] o.op.operands.toList, Sem.ev E.P (rowS2 t len (parts.map fun (i, x) => (i, rdV l [] x))) with
    | true, some (e, cells) => ∀ n : Nat, K (putF l o.dst (.v (.slice (some ⟨n, 0, none⟩) len len))) (T.addS ⟨n, e, cells.toList, 2⟩ o.dst) w
    | _, _ => False)
  | _ => False
def isNew2 : Op → Bool
  | .alloc _ => true
  | .box _ _ => true
  | .buildSlice _ _ _ => true
  | _ => false
/-- What an effect may let out: the blocks that its operands point into. -/
def escE (T : Trk) (o : Oper) : List Nat := idsOf T o.op.operands.toList
/-- An effect on the world. -/
def eff2 (E : Env) (z : Nat) (B : Bs) (ops : Array Oper) (o : Oper) (l : Fr) (T : Trk) (w : World) (K : Fr → Trk → World → Prop) : Prop :=
  syncF z B T w fun W => seqF E ops o l W fun l' w' => keptF (numsOf (B ++ ((T.drop (escE T o)).untag o.dst).bs)) W w' (K l' ((T.drop (escE T o)).untag o.dst) w')
/-- A store into a block of the function's own. -/
def trkStore (E : Env) (T : Trk) (l : Fr) (op : Op) : Option (Option Trk) := match op with
  | .store t (.tmp s) v => (match findN s T.tg with
    | some (id, off) => (match findN id T.bs with
      | some b => (match rd l [] v, szOf E.P t with
        | some y, some n => (match y.cells.size == n && (oneB y.cells.toList && Nat.ble (off + n) b.cs.length) with
          | true => some (some ⟨setB id (repl b.cs off n y.cells.toList) T.bs, T.tg, T.sg, T.nx, true⟩)
          | false => some none)
        | _, _ => some none)
      | none => none)
    | none => none)
  | _ => none
/-- An append of a block of the function's own. -/
def trkApp (E : Env) (B : Bs) (T : Trk) (l : Fr) (op : Op) : Option (TypeId × Operand × Option Addr × Nat × Nat × List Value × Nat × Nat) := match op with
  | .call { callee := .builtin .append, args, argTypes } => (match args.toList, argTypes.toList with
    | [x, .tmp s], [t, t'] => (match t == t', findN s T.sg with
      | true, some id => (match lookB B T id, rd l [] x, rd l [] (.tmp s), E.P.underlying t with
        | some b, some (.slice p n c), some (.slice _ m _), some (.slice e) => (match E.P.info? e with
          | some i => (match i.zero with
            | some zv => (match zv.cells.size == i.size && (Nat.blt 0 i.size && (b.cs.length == m * i.size && b.cs.all Value.oneCell')) with
              | true => some (e, x, p, n, c, b.cs, m, id)
              | false => none)
            | none => none)
          | none => none)
        | _, _, _, _ => none)
      | _, _ => none)
    | _, _ => none)
  | _ => none
def szB (P : Program) (e : TypeId) : Nat × Nat := match P.info? e with | some i => (i.size, i.bytes) | none => (0, 0)
def app2F (E : Env) (z : Nat) (B : Bs) (o : Oper) (l : Fr) (T : Trk) (w : World) (e : TypeId) (p : Option Addr) (n c : Nat) (news : List Value) (m id : Nat) (K : Fr → Trk → World → Prop) : Prop :=
  syncF z B T w fun W => ∃ (base : Nat) (xs : List Value), World.ownsRow W base e (szB E.P e).1 (.slice p n c) n xs ∧ n + m ≤ maxLen ∧ (n + m) * (szB E.P e).2 ≤ 140737488355328 ∧ base ≤ W.heap.size ∧
    ∀ (p' : Option Addr) (c' : Nat) (w' : World), World.ownsRow w' base e (szB E.P e).1 (.slice p' (n + m) c') (n + m) (xs ++ news) → World.grownBy W w' (Value.ownBlock (.slice p n c)) → AppL W p n c m p' c' →
      keptF (numsOf (B ++ ((T.drop [id]).untag o.dst).bs)) W w' (K (putF l o.dst (.v (.slice p' (n + m) c'))) ((T.drop [id]).untag o.dst) w')
/-- An operation in its place. -/
def seqF2 (E : Env) (z : Nat) (B : Bs) (ops : Array Oper) (o : Oper) (l : Fr) (T : Trk) (w : World) (K : Fr → Trk → World → Prop) : Prop :=
  match ctxOf ops o with
  | none => False
  | some ctx => match isNew2 o.op with
    | true => splitG l (chain l 12 ctx).reverse (fun l' => match inB o.dst l' with
        | true => dropF z B T (escE T o) w fun T w => new2 E o l' T w K
        | false => False) (fun l' => K (putF l' o.dst (.v undef)) (T.untag o.dst) w)
    | false => match trkStore E T l o.op with
      | some _ => splitG l (chain l 12 ctx).reverse (fun l' => match trkStore E T l' o.op with
          | some (some T') => dropF z B T' (escO T' o) w fun T w => K (putF l' o.dst (.v undef)) (T.untag o.dst) w
          | _ => False) (fun l' => K (putF l' o.dst (.v undef)) (T.untag o.dst) w)
      | none => match isNone' ctx, trkApp E B T l o.op with
        | true, some (e, _, p, n, c, news, m, id) => app2F E z B o l T w e p n c news m id K
        | _, _ => match isStill2 E l ctx o.op with
          | true => still2 E z B o ctx l T w K
          | false => eff2 E z B ops o l T w K
def seqOps2 (E : Env) (z : Nat) (B : Bs) (ops : Array Oper) (K : Fr → Trk → World → Prop) : List Oper → Fr → Trk → World → Prop
  | [], l, T, w => K l T w
  | o :: r, l, T, w => seqF2 E z B ops o l T w (seqOps2 E z B ops K r)
def stillOps2 (E : Env) (z : Nat) (B : Bs) (ops : Array Oper) (K : Fr → Trk → World → Prop) : List Oper → Fr → Trk → World → Prop
  | [], l, T, w => K l T w
  | o :: r, l, T, w => match ctxOf ops o with
    | none => False
    | some ctx => still2 E z B o ctx l T w (stillOps2 E z B ops K r)
/-! ### Which blocks a code touches (a hint only) -/
def uniN : List Nat → List Nat → List Nat
  | [], l => l
  | x :: r, l => match memN x l with | true => uniN r l | false => x :: uniN r l
def slotIds (tg : List (Nat × Nat)) : List Operand → List Nat
  | [] => []
  | .tmp s :: r => (match findN s tg with | some id => id :: slotIds tg r | none => slotIds tg r)
  | _ :: r => slotIds tg r
def addT (dst : Option Nat) (x : Operand) (tg : List (Nat × Nat)) : List (Nat × Nat) := match dst, x with
  | some d, .tmp s => (match findN s tg with | some id => (d, id) :: delN d tg | none => delN d tg)
  | some d, _ => delN d tg
  | none, _ => tg
def delT (dst : Option Nat) (tg : List (Nat × Nat)) : List (Nat × Nat) := match dst with | some d => delN d tg | none => tg
def touchO (o : Oper) (tg : List (Nat × Nat)) (acc : List Nat) : List (Nat × Nat) × List Nat := match o.op with
  | .load _ _ => (delT o.dst tg, acc)
  | .move x => (addT o.dst x tg, acc)
  | .assign x => (addT o.dst x tg, acc)
  | .nilCheck x => (addT o.dst x tg, acc)
  | .fieldAddr _ x _ => (addT o.dst x tg, acc)
  | .indexAddr _ x (.const _) => (addT o.dst x tg, acc)
  | .slice _ x none none none => (addT o.dst x tg, acc)
  | .binOp _ _ _ _ _ => (delT o.dst tg, acc)
  | op => (delT o.dst tg, uniN (slotIds tg op.operands.toList) acc)
def touchOs : List Oper → List (Nat × Nat) → List Nat → List (Nat × Nat) × List Nat
  | [], tg, acc => (tg, acc)
  | o :: r, tg, acc => match touchO o tg acc with | (tg', acc') => touchOs r tg' acc'
def touch : Code → List (Nat × Nat) → List Nat → List (Nat × Nat) × List Nat
  | .region _ ops _, tg, acc => touchOs ops.toList tg acc
  | .seq a b, tg, acc => (match touch a tg acc with | (tg', acc') => touch b tg' acc')
  | .cond _ a b, tg, acc => (match touch a tg acc with | (_, acc') => (match touch b tg acc' with | (_, acc'') => (tg, acc'')))
  | .block _ c, tg, acc => touch c tg acc
  | .scope c, tg, acc => touch c tg acc
  | .loop c, tg, acc => touch c tg acc
  | _, tg, acc => (tg, acc)
def tagIds : List (Nat × Nat × Nat) → List (Nat × Nat) → List (Nat × Nat)
  | [], l => l
  | x :: r, l => (x.1, x.2.1) :: tagIds r l
def touched (c : Code) (T : Trk) : List Nat := (touch c (tagIds T.tg T.sg) []).2
def locF (z : Nat) (L : List Blk) (w : World) (X : Prop) : Prop := match L with
  | [] => X
  | b :: r => Loc z (b :: r) w w → X
def carriedS : List (Nat × Ck) → List Nat
  | [] => []
  | x :: r => x.1 :: carriedS r
def exec2 (E : Env) (z : Nat) : Code → Bs → (Exit → Fr → Trk → World → Prop) → Fr → Trk → World → Prop
  | .skip, _, Q, l, T, w => Q .normal l T w
  | .region _ ops false, B, Q, l, T, w => seqOps2 E z B ops (Q .normal) ops.toList l T w
  | .region id ops true, B, Q, l, T, w => (match E.P.follows .mixedOrders, findN id E.tails with
    | true, none => (match Region.lexB .any ops with
      | true => stillOps2 E z B ops (Q .normal) ops.toList l T.soil w
      | false => False)
    | true, some n => (match Region.lexTailB .any ops n with
      | true => stillOps2 E z B ops (seqOps2 E z B ops (Q .normal) (ops.toList.drop n)) (ops.toList.take n) l T.soil w
      | false => (match Region.noSelect ops, findN id E.boxes with
        | true, some _ => syncF z B T.soil w fun W => boxF E ops W (fun l' w1 => keptF (numsOf (B ++ ((T.drop (touched (.region id ops true) T)).untags (dsts (.region id ops true))).bs)) W w1 (Q .normal l' ((T.drop (touched (.region id ops true) T)).untags (dsts (.region id ops true))) w1)) (boxDs E.P ops.toList) (ops.size + 1) (Array.replicate ops.size false) (forget (boxDs E.P ops.toList) l)
        | true, none => syncF z B T.soil w fun W => ∃ S : World → Prop, S W ∧ heldF E ops S (fun l' w1 => keptF (numsOf (B ++ ((T.drop (touched (.region id ops true) T)).untags (dsts (.region id ops true))).bs)) W w1 (Q .normal l' ((T.drop (touched (.region id ops true) T)).untags (dsts (.region id ops true))) w1)) ops.size true (Array.replicate ops.size false) l W
        | false, _ => False))
    | false, _ => False)
  | .seq a b, B, Q, l, T, w => (match (firstR b).bind fun i => findN i E.joins with
    | none => exec2 E z a B (fun e l' T' w' => match e with | .normal => exec2 E z b B Q l' T' w' | e => Q e l' T' w') l T w
    | some carried => syncF z B T w fun W => ∃ J : List Value → World → Prop,
      exec2 E z a (B ++ calm (delAll (touched a T) T.bs)) (fun e l' T' w' => match e with
        | .normal => syncF z (B ++ calm (delAll (touched a T) T.bs)) T' w' fun W => (match readAll l' carried with | some vs => J vs W | none => False)
        | e => Q e l' ⟨calm (delAll (touched a T) T.bs) ++ T'.bs, T'.tg, T'.sg, T'.nx, T'.d⟩ w') l ⟨calm (keepAll (touched a T) T.bs), T.tg, T.sg, T.nx, false⟩ W ∧
      allT (carried.map (·.2)) fun vs => ∀ w', J vs w' → locF z (blksOf (B ++ calm (delAll (touched a T) T.bs))) w' (exec2 E z b B Q (setAll carried vs (forget (dsts a) l)) ((⟨calm (delAll (touched a T) T.bs), T.tg, T.sg, T.nx, false⟩ : Trk).untags (dsts a ++ carriedS carried)) w'))
  | .cond c a b, B, Q, l, T, w => (match rd l [] c with
    | some (.bool t) => bsp t (exec2 E z a B Q l T w) (exec2 E z b B Q l T w)
    | _ => False)
  | .block id c, B, Q, l, T, w => exec2 E z c B (fun e l' T' w' => match e with | .exit i => (match i == id with | true => Q .normal l' T' w' | false => Q (.exit i) l' T' w') | e => Q e l' T' w') l T w
  | .loop c, B, Q, l, T, w => (match (firstR c).bind fun i => findN i E.loops with
    | none => False
    | some carried => syncF z B T w fun W => ∃ (I : List Value → World → Prop) (m : List Value → World → Nat),
      (match readAll l carried with | some vs => I vs W | none => False) ∧
      allT (carried.map (·.2)) fun vs => ∀ w', I vs w' → locF z (blksOf (B ++ calm (delAll (touched c T) T.bs))) w' (exec2 E z c (B ++ calm (delAll (touched c T) T.bs)) (fun e l' T' w'' => match e with
        | .normal => syncF z (B ++ calm (delAll (touched c T) T.bs)) T' w'' fun W' => (match readAll l' carried with | some vs' => I vs' W' ∧ m vs' W' < m vs w' | none => False)
        | e => Q e l' ⟨calm (delAll (touched c T) T.bs) ++ T'.bs, T'.tg, T'.sg, T'.nx, T'.d⟩ w'') (setAll carried vs (forget (dsts c) l)) ((⟨[], T.tg, T.sg, T.nx, false⟩ : Trk).untags (dsts c ++ carriedS carried)) w'))
  | .scope c, B, Q, l, T, w => exec2 E z c B (fun e l' T' w' => match e with | .goto _ => False | e => Q e l' T' w') l T w
  | .label _, _, Q, l, T, w => Q .normal l T w
  | .exit id, _, Q, l, T, w => Q (.exit id) l T w
  | .ret, _, Q, l, T, w => Q .ret l T w
  | _, _, _, _, _, _ => False
def resF2 (E : Env) (z : Nat) (T : Trk) (l : Fr) (w : World) : List ResultVar → (List Value → Prop) → Prop
  | [], F => F []
  | .tmp t :: r, F => (match rd l [] (.tmp t) with | some v => resF2 E z T l w r fun vs => F (v :: vs) | none => False)
  | .cell a t :: r, F => (match trkLoad E [] T a t with
    | some (some v) => resF2 E z T l w r fun vs => F (v :: vs)
    | some none => False
    | none => (match rd l [] (.tmp a) with
      | some (.pointer p) => loadF E true t p (syncF z [] T w) fun v => resF2 E z T l w r fun vs => F (v :: vs)
      | _ => False))
def retQ2 (E : Env) (z : Nat) (rs : List ResultVar) (R : Ending → World → Prop) : Exit → Fr → Trk → World → Prop
  | .normal, l, T, w => resF2 E z T l w rs fun vs => syncF z [] T w fun W => R (.returned (retV vs)) W
  | .ret, l, T, w => resF2 E z T l w rs fun vs => syncF z [] T w fun W => R (.returned (retV vs)) W
  | _, _, _, _ => False
def execR2 (E : Env) (rs : List ResultVar) (R : Ending → World → Prop) (c : Code) (l : Fr) (w : World) : Prop :=
  match findN 999999 E.joins with
  | none => exec2 E w.heap.size c [] (retQ2 E w.heap.size rs R) l ⟨[], [], [], 0, false⟩ w
  | some carried => ∃ J : List Value → World → Prop,
    exec2 E w.heap.size c [] (fun e l' T' w' => match e with
      | .normal => syncF w.heap.size [] T' w' fun W => (match readAll l' carried with | some vs => J vs W | none => False)
      | .ret => syncF w.heap.size [] T' w' fun W => (match readAll l' carried with | some vs => J vs W | none => False)
      | _ => False) l ⟨[], [], [], 0, false⟩ w ∧
    allT (carried.map (·.2)) fun vs => ∀ w', J vs w' → resF E (setAll carried vs (l.map fun _ => .u)) w' rs fun vs => R (.returned (retV vs)) w'

end Go.Proofs.YtgmmoghagpmpfaaGreatDoor

/- The symbolic evaluator, seventh part: soundness of the sixth. Generic: no program, no condition. -/
namespace Go.Proofs.YtgmmoghagpmpfaaGreatDoor
open Go.RowKit

theorem blksOf_eq : ∀ l : Bs, blksOf l = l.map (·.2)
  | [] => rfl
  | x :: r => by simp [blksOf, blksOf_eq r]
theorem numsOf_eq : ∀ l : Bs, numsOf l = l.map (·.2.n)
  | [] => rfl
  | x :: r => by simp [numsOf, numsOf_eq r]
theorem mem_blks {l : Bs} {b : Blk} : b ∈ blksOf l ↔ ∃ i, (i, b) ∈ l := by
  rw [blksOf_eq, List.mem_map]
  constructor
  · rintro ⟨x, hx, rfl⟩; exact ⟨x.1, hx⟩
  · rintro ⟨i, hi⟩; exact ⟨(i, b), hi, rfl⟩
theorem findN_mem {α : Type} {i : Nat} : ∀ {l : List (Nat × α)} {x : α}, findN i l = some x → (i, x) ∈ l
  | [], x, h => by simp [findN] at h
  | (j, y) :: r, x, h => by
    simp only [findN] at h
    cases hj : i == j with
    | true =>
      rw [hj] at h
      have : i = j := by simpa using hj
      simp at h; subst h; subst this; simp
    | false => rw [hj] at h; exact List.mem_cons_of_mem _ (findN_mem h)
theorem lookB_mem {B : Bs} {T : Trk} {id : Nat} {b : Blk} (h : lookB B T id = some b) : (id, b) ∈ B ++ T.bs := by
  unfold lookB at h
  split at h
  · rename_i x hx
    simp at h; subst h
    exact List.mem_append.2 (.inr (findN_mem hx))
  · exact List.mem_append.2 (.inl (findN_mem h))
theorem delN_mem {α : Type} {d : Nat} : ∀ {l : List (Nat × α)} {x : Nat × α}, x ∈ delN d l → x ∈ l ∧ x.1 ≠ d
  | [], x, h => by simp [delN] at h
  | y :: r, x, h => by
    simp only [delN] at h
    cases hj : y.1 == d with
    | true =>
      rw [hj] at h
      obtain ⟨h1, h2⟩ := delN_mem h
      exact ⟨List.mem_cons_of_mem _ h1, h2⟩
    | false =>
      rw [hj] at h
      rcases List.mem_cons.1 h with h | h
      · subst h; exact ⟨List.mem_cons_self, by simpa using hj⟩
      · obtain ⟨h1, h2⟩ := delN_mem h
        exact ⟨List.mem_cons_of_mem _ h1, h2⟩
theorem memN_iff {d : Nat} : ∀ {l : List Nat}, memN d l = true ↔ d ∈ l
  | [] => by simp [memN]
  | x :: r => by
    simp only [memN]
    cases hx : x == d with
    | true => have : x = d := by simpa using hx
              subst this; simp
    | false =>
      have : ¬ d = x := fun e => by subst e; simp at hx
      simp [memN_iff, this]
theorem delAll_mem {α : Type} {ds : List Nat} : ∀ {l : List (Nat × α)} {x : Nat × α}, x ∈ delAll ds l → x ∈ l ∧ x.1 ∉ ds
  | [], x, h => by simp [delAll] at h
  | y :: r, x, h => by
    simp only [delAll] at h
    cases hj : memN y.1 ds with
    | true =>
      rw [hj] at h
      obtain ⟨h1, h2⟩ := delAll_mem h
      exact ⟨List.mem_cons_of_mem _ h1, h2⟩
    | false =>
      rw [hj] at h
      rcases List.mem_cons.1 h with h | h
      · subst h; exact ⟨List.mem_cons_self, fun hm => by rw [memN_iff.2 hm] at hj; cases hj⟩
      · obtain ⟨h1, h2⟩ := delAll_mem h
        exact ⟨List.mem_cons_of_mem _ h1, h2⟩
theorem delAll_sub {α : Type} {ds : List Nat} : ∀ (l : List (Nat × α)), (delAll ds l).Sublist l
  | [] => .slnil
  | y :: r => by
    simp only [delAll]
    cases memN y.1 ds with
    | true => exact (delAll_sub r).cons _
    | false => exact (delAll_sub r).cons_cons _
theorem delKeep_perm {α : Type} {ds : List Nat} : ∀ (l : List (Nat × α)), (delAll ds l ++ keepAll ds l).Perm l
  | [] => .refl _
  | y :: r => by
    simp only [delAll, keepAll]
    cases memN y.1 ds with
    | true => exact List.perm_middle.trans (.cons _ (delKeep_perm r))
    | false => exact .cons _ (delKeep_perm r)
theorem calm_mem {l : Bs} {x : Nat × Blk} (h : x ∈ calm l) : x.2.m = 0 ∧ ∃ y ∈ l, y.1 = x.1 ∧ y.2.n = x.2.n := by
  induction l with
  | nil => cases h
  | cons a r ih =>
    rcases List.mem_cons.1 h with h | h
    · subst h; exact ⟨rfl, a, List.mem_cons_self, rfl, rfl⟩
    · obtain ⟨h1, y, hy, h2⟩ := ih h
      exact ⟨h1, y, List.mem_cons_of_mem _ hy, h2⟩
/-- What does not change when the world is spoken of anew. -/
def Blk.key (x : Blk) : Nat × TypeId × List Value := (x.n, x.t, x.cs)
theorem calm_key : ∀ l : Bs, (blksOf (calm l)).map Blk.key = (blksOf l).map Blk.key
  | [] => rfl
  | x :: r => by simp only [calm, blksOf, List.map_cons, calm_key r]; rfl
theorem drop_tg (T : Trk) (ids : List Nat) : (T.drop ids).tg = T.tg ∧ (T.drop ids).sg = T.sg ∧ (T.drop ids).nx = T.nx := ⟨rfl, rfl, rfl⟩
theorem untag_bs (T : Trk) (dst : Option Nat) : (T.untag dst).bs = T.bs := by unfold Trk.untag; split <;> rfl

/-! ### The worlds -/
theorem loc_zero {z : Nat} {L L' L'' : List Blk} {w W : World} (h : Loc z L w W) (hs : L'.Sublist L) (hk : L''.map Blk.key = L'.map Blk.key) (hm : ∀ x ∈ L'', x.m = 0) : Loc z L'' W W := by
  have old : ∀ x ∈ L'', ∃ y ∈ L, y.key = x.key := fun x hx => by
    have : x.key ∈ L'.map Blk.key := by rw [← hk]; exact List.mem_map.2 ⟨x, hx, rfl⟩
    obtain ⟨y, hy, e⟩ := List.mem_map.1 this
    exact ⟨y, hs.subset hy, e⟩
  refine ⟨.refl _ _, fun x hx => ?_, fun x hx => ?_, ?_, (fun x hx h2 => by rw [hm x hx] at h2; cases h2), Nat.le_trans h.hz h.kp.size⟩
  · obtain ⟨y, hy, e⟩ := old x hx
    have := h.blk y hy
    simp only [Blk.key, Prod.mk.injEq] at e
    rw [← e.1, ← e.2.1, ← e.2.2]; exact this
  · obtain ⟨y, hy, e⟩ := old x hx
    have := h.ge y hy
    simp only [Blk.key, Prod.mk.injEq] at e
    rw [← e.1]; exact this
  · have e : ∀ l : List Blk, l.map (·.n) = (l.map Blk.key).map (·.1) := fun l => by rw [List.map_map]; rfl
    rw [e, hk, ← e]
    exact h.ne.sublist (hs.map _)
theorem Loc.perm {z : Nat} {T T' : List Blk} {w W : World} (h : Loc z T w W) (hs : T.Perm T') : Loc z T' w W :=
  ⟨h.kp.mono fun _ _ ⟨x, hx, e⟩ => ⟨x, hs.mem_iff.1 hx, e⟩, fun x hx => h.blk x (hs.mem_iff.2 hx), fun x hx => h.ge x (hs.mem_iff.2 hx), (hs.map _).nodup_iff.1 h.ne, fun x hx => h.nw x (hs.mem_iff.2 hx), h.hz⟩
theorem Loc.drew {z : Nat} {T : List Blk} {w W : World} (h : Loc z T w W) : Loc z T w W.drew := ⟨h.kp.drew, h.blk, h.ge, h.ne, h.nw, h.hz⟩
/-- What was kept is kept. -/
theorem Loc.k0 {w0 : World} {T : List Blk} {w W : World} (h : Loc w0.heap.size T w W) (hk : K0 w0 w) : K0 w0 W :=
  hk.fresh h.kp (fun i hi ⟨x, hx, _, e⟩ => by have := h.ge x hx; omega)
/-- No old block is written. -/
theorem Loc.kk {z : Nat} {T : List Blk} {w W : World} (h : Loc z T w W) (hm : (T.all fun x => !(x.m == 1)) = true) : K0 w W := h.kp.mono fun _ _ ⟨x, hx, e, _⟩ => by
  have := List.all_eq_true.1 hm x hx
  simp [e] at this
theorem Loc.fresh {z : Nat} {T : List Blk} {w W : World} (h : Loc z T w W) (i : Nat) {b : Blk} (hb : T[i]? = some b) (hm : b.m = 2) : w.heap.size ≤ b.n := h.nw b (List.mem_of_getElem? hb) hm
theorem Loc.apart {z : Nat} {T : List Blk} {w W : World} (h : Loc z T w W) (i j : Nat) {a b : Blk} (ha : T[i]? = some a) (hb : T[j]? = some b) (hij : i ≠ j) : a.n ≠ b.n := fun e => by
  have h1 : (T.map (·.n))[i]? = some a.n := by rw [List.getElem?_map, ha]; rfl
  have h2 : (T.map (·.n))[j]? = some b.n := by rw [List.getElem?_map, hb]; rfl
  obtain ⟨hi, e1⟩ := List.getElem?_eq_some_iff.1 h1
  obtain ⟨hj, e2⟩ := List.getElem?_eq_some_iff.1 h2
  have key := List.pairwise_iff_getElem.1 h.ne
  rcases Nat.lt_or_gt_of_ne hij with hlt | hlt
  · exact key i j hi hj hlt (e1.trans (e.trans e2.symm))
  · exact key j i hj hi hlt (e2.trans (e.symm.trans e1.symm))
theorem Loc.cells {z : Nat} {T : List Blk} {w W : World} (h : Loc z T w W) (i : Nat) {b : Blk} (hb : T[i]? = some b) : W.heap[b.n]? = some (.cells b.cs.toArray b.t (0, 0)) := h.blk b (List.mem_of_getElem? hb)
theorem Loc.le {z : Nat} {T : List Blk} {w W : World} (h : Loc z T w W) (i : Nat) {b : Blk} (hb : T[i]? = some b) : z ≤ b.n := h.ge b (List.mem_of_getElem? hb)
theorem KeptL.of_kp {l : List Nat} {W w' : World} {M : Nat → Prop} (h : Kp M W w') (hl : ∀ n ∈ l, ¬ M n) : KeptL l W w' := ⟨h.size, fun n hn hlt => h.block n hlt (hl n hn)⟩
theorem KeptL.of_k0 {l : List Nat} {W w' : World} (h : K0 W w') : KeptL l W w' := .of_kp h (fun _ _ h => h)
theorem KeptL.refl (l : List Nat) (W : World) : KeptL l W W := ⟨Nat.le_refl _, fun _ _ _ => rfl⟩
theorem keptF_ok {L : Bs} {W w' : World} {X : Prop} (h : keptF (numsOf L) W w' X) : W.heap.size ≤ w'.heap.size ∧ (∀ x ∈ L, x.2.n < W.heap.size → w'.heap[x.2.n]? = W.heap[x.2.n]?) ∧ X :=
  ⟨h.1.size, fun x hx => h.1.h _ (by rw [numsOf_eq]; exact List.mem_map.2 ⟨x, hx, rfl⟩), h.2⟩
/-- The world that is spoken of, and the world. -/
structure LocD (z : Nat) (B : Bs) (T : Trk) (w W : World) : Prop where
  l : Loc z (allB B T) w W
  d : T.d = false → W = w
  b0 : ∀ x ∈ B, x.2.m = 0
theorem syncF_use {z : Nat} {B : Bs} {T : Trk} {w W : World} {K : World → Prop} (h : syncF z B T w K) (hL : LocD z B T w W) : K W := by
  unfold syncF at h
  split at h
  · rename_i hd; rw [hL.d hd]; exact h
  · exact h W hL.l
theorem blks_sub {l l' : Bs} (h : l.Sublist l') : (blksOf l).Sublist (blksOf l') := by rw [blksOf_eq, blksOf_eq]; exact h.map _
theorem blks_app (l l' : Bs) : blksOf (l ++ l') = blksOf l ++ blksOf l' := by simp [blksOf_eq]
/-- The world is spoken of anew. -/
theorem LocD.anew {z : Nat} {B : Bs} {T T' : Trk} {w W : World} (h : LocD z B T w W) {ids : List Nat} (hs : T'.bs = calm (delAll ids T.bs)) : LocD z B T' W W := by
  refine ⟨loc_zero (L' := blksOf (B ++ delAll ids T.bs)) h.l (blks_sub ((List.Sublist.refl B).append (delAll_sub _))) ?_ ?_, fun _ => rfl, h.b0⟩
  · unfold allB; rw [hs, blks_app, blks_app, List.map_append, List.map_append, calm_key]
  · intro x hx
    obtain ⟨i, hi⟩ := mem_blks.1 hx
    rcases List.mem_append.1 hi with hi | hi
    · exact h.b0 _ hi
    · rw [hs] at hi; exact (calm_mem hi).1
theorem LocD.eff {z : Nat} {B : Bs} {T T' : Trk} {w W w' : World} (h : LocD z B T w W) {ids : List Nat} (hs : T'.bs = calm (delAll ids T.bs)) (hsz : W.heap.size ≤ w'.heap.size) (hk : ∀ x ∈ B ++ T'.bs, x.2.n < W.heap.size → w'.heap[x.2.n]? = W.heap[x.2.n]?) : LocD z B T' w' w' := by
  obtain ⟨h1, _, h3⟩ := h.anew hs
  refine ⟨⟨.refl _ _, fun x hx => ?_, h1.ge, h1.ne, fun x hx h2 => ?_, Nat.le_trans h1.hz hsz⟩, fun _ => rfl, h3⟩
  · obtain ⟨i, hi⟩ := mem_blks.1 hx
    rw [hk _ hi (block_lt (h1.blk x hx))]
    exact h1.blk x hx
  · exfalso
    obtain ⟨i, hi⟩ := mem_blks.1 hx
    have : x.m = 0 := by
      rcases List.mem_append.1 hi with hi | hi
      · exact h.b0 _ hi
      · rw [hs] at hi; exact (calm_mem hi).1
    omega

/-! ### The slots that point into the blocks -/
structure TagOK (B : Bs) (T : Trk) (t : Array Value) : Prop where
  p : ∀ s id off, (s, id, off) ∈ T.tg → id < T.nx ∧ ∀ b, (id, b) ∈ B ++ T.bs → t.getD s undef = .pointer (some ⟨b.n, off, none⟩)
  s : ∀ s id, (s, id) ∈ T.sg → id < T.nx ∧ ∀ b, (id, b) ∈ B ++ T.bs → ∃ m c, t.getD s undef = .slice (some ⟨b.n, 0, none⟩) m c
  lt : ∀ x ∈ B ++ T.bs, x.1 < T.nx
theorem TagOK.of {B B' : Bs} {T T' : Trk} {t t' : Array Value} (h : TagOK B T t) (h1 : ∀ x ∈ T'.tg, x ∈ T.tg ∧ t'.getD x.1 undef = t.getD x.1 undef) (h2 : ∀ x ∈ T'.sg, x ∈ T.sg ∧ t'.getD x.1 undef = t.getD x.1 undef)
    (h3 : ∀ x ∈ B' ++ T'.bs, ∃ y ∈ B ++ T.bs, y.1 = x.1 ∧ y.2.n = x.2.n) (h4 : T.nx ≤ T'.nx) : TagOK B' T' t' := by
  refine ⟨fun s id off hx => ?_, fun s id hx => ?_, fun x hx => by obtain ⟨y, hy, e, _⟩ := h3 x hx; have := h.lt y hy; omega⟩
  · obtain ⟨a, b⟩ := h1 _ hx
    obtain ⟨c, d⟩ := h.p s id off a
    refine ⟨by omega, fun bb hb => ?_⟩
    obtain ⟨⟨i, y⟩, hy, rfl, e2⟩ := h3 _ hb
    have := d y hy
    simp only at b e2
    rw [b, this, e2]
  · obtain ⟨a, b⟩ := h2 _ hx
    obtain ⟨c, d⟩ := h.s s id a
    refine ⟨by omega, fun bb hb => ?_⟩
    obtain ⟨⟨i, y⟩, hy, rfl, e2⟩ := h3 _ hb
    obtain ⟨m, k, e⟩ := d y hy
    simp only at b e2
    exact ⟨m, k, by rw [b, e, e2]⟩
theorem TagOK.put {B : Bs} {T : Trk} {t : Array Value} (h : TagOK B T t) {dst : Option Nat} {t' : Array Value} (hs : Same dst.toList t t') : TagOK B (T.untag dst) t' := by
  cases dst with
  | none => exact h.of (fun x hx => ⟨hx, hs.at_ _ (by simp)⟩) (fun x hx => ⟨hx, hs.at_ _ (by simp)⟩) (fun x hx => ⟨x, hx, rfl, rfl⟩) (Nat.le_refl _)
  | some d =>
    refine h.of (fun x hx => ?_) (fun x hx => ?_) (fun x hx => ⟨x, hx, rfl, rfl⟩) (Nat.le_refl _)
    · obtain ⟨h1, h2⟩ := delN_mem hx; exact ⟨h1, hs.at_ _ (by simpa using h2)⟩
    · obtain ⟨h1, h2⟩ := delN_mem hx; exact ⟨h1, hs.at_ _ (by simpa using h2)⟩
theorem TagOK.drop {B : Bs} {T : Trk} {t : Array Value} (h : TagOK B T t) (ids : List Nat) : TagOK B (T.drop ids) t := by
  obtain ⟨e1, e2, e3⟩ := drop_tg T ids
  refine h.of (fun x hx => ⟨by rw [e1] at hx; exact hx, rfl⟩) (fun x hx => ⟨by rw [e2] at hx; exact hx, rfl⟩) (fun x hx => ?_) (by omega)
  rcases List.mem_append.1 hx with hx | hx
  · exact ⟨x, List.mem_append.2 (.inl hx), rfl, rfl⟩
  · obtain ⟨_, y, hy, h2⟩ := calm_mem hx
    exact ⟨y, List.mem_append.2 (.inr (delAll_mem hy).1), h2⟩
theorem dropF_ok {z : Nat} {B : Bs} {T : Trk} {ids : List Nat} {w W : World} {K : Trk → World → Prop} {t : Array Value} (hf : dropF z B T ids w K) (hT : TagOK B T t) (hL : LocD z B T w W) : ∃ T' w', K T' w' ∧ TagOK B T' t ∧ LocD z B T' w' W := by
  unfold dropF at hf
  split at hf
  · exact ⟨T, w, hf, hT, hL⟩
  · exact ⟨_, W, syncF_use hf hL, hT.drop _, hL.anew rfl⟩
theorem trkLoad_ok {E : Env} {z : Nat} {B : Bs} {T : Trk} {s : Nat} {ty : TypeId} {v : Value} {t : Array Value} {w W : World} (h : trkLoad E B T s ty = some (some v)) (hT : TagOK B T t) (hL : Loc z (allB B T) w W) :
    ∃ b off agg n cs, t.getD s undef = .pointer (some ⟨b, off, none⟩) ∧ ldK E.P ty = some (agg, n) ∧ (cs.length == n) = true ∧ At W b off cs ∧ v = toV agg cs := by
  unfold trkLoad at h
  split at h
  · cases h
  · rename_i id off hid
    split at h
    · cases h
    · rename_i b hb
      split at h
      · rename_i agg n hk
        split at h
        · rename_i hn
          simp at h; subst h
          have hm := lookB_mem hb
          refine ⟨b.n, off, agg, n, (b.cs.drop off).take n, (hT.p s id off (findN_mem hid)).2 b hm, hk, hn, ?_, rfl⟩
          have hbk := hL.blk b (mem_blks.2 ⟨id, hm⟩)
          refine (AtL_block hbk ?_).h
          have : ((b.cs.drop off).take n).length = n := by simpa using hn
          rw [this]
        · cases h
      · cases h
theorem Same.dst {t t' : Array Value} {dst : Option Nat} {v : Value} (h : t' = (({ tmps := t, defers := [] } : Act).put dst v).tmps) : Same dst.toList t t' := by rw [h]; exact .put t dst v
theorem run_fieldAt {P : Program} {st : TypeId} {f k b o : Nat} {w : World} (h : fieldOff P st f = some k) : (Instr.fieldAt st (.pointer (some ⟨b, o, none⟩)) f).run P w = .ok (.pointer (some ⟨b, o + k, none⟩)) w := by
  unfold fieldOff at h
  split at h
  · rename_i fs hu
    split at h
    · rename_i fd hfd
      split at h
      · cases h
      · rename_i m hsz
        simp at h; subst h
        have hU := run_underlying' (w := w) hu
        have hS := run_sizeOf' (w := w) hsz
        simp [Instr.fieldAt, hU, hfd, Instr.sureAddr, fieldPlace, hS, add_plain]
      · cases h
    · cases h
  · cases h
end Go.Proofs.YtgmmoghagpmpfaaGreatDoor

/- The symbolic evaluator, eighth part: soundness of the sixth, operations. Generic: no program, no condition. -/
namespace Go.Proofs.YtgmmoghagpmpfaaGreatDoor
open Go.RowKit

theorem inB_get {l : Fr} {t : Array Value} (h : Rel l t) {d : Nat} (hb : inB (some d) l = true) (v : Value) : (({ tmps := t, defers := [] } : Act).put (some d) v).tmps.getD d undef = v := by
  have hd : d < l.length := by simpa [inB] using hb
  have : d < t.size := by rw [h.size]; exact hd
  show (t.setIfInBounds d v).getD d undef = v
  exact getD_set_eq v this
theorem tag_addTg {B : Bs} {T : Trk} {t : Array Value} {l : Fr} {dst : Option Nat} {id off : Nat} {b : Blk} (hR : Rel l t) (hi : inB dst l = true) (h : TagOK B T t) {s o' : Nat} (hs : (s, id, o') ∈ T.tg) (hsame : ∀ b', (id, b') ∈ B ++ T.bs → b'.n = b.n) :
    TagOK B (addTg dst id off T) (({ tmps := t, defers := [] } : Act).put dst (.pointer (some ⟨b.n, off, none⟩))).tmps := by
  have hS := Same.put t dst (.pointer (some ⟨b.n, off, none⟩))
  cases dst with
  | none => exact h.of (fun x hx => ⟨hx, hS.at_ _ (by simp)⟩) (fun x hx => ⟨hx, hS.at_ _ (by simp)⟩) (fun x hx => ⟨x, hx, rfl, rfl⟩) (Nat.le_refl _)
  | some d =>
    have h0 := h.put hS
    refine ⟨fun s i o hx => ?_, fun s i hx => h0.s s i hx, h0.lt⟩
    rcases List.mem_cons.1 hx with hx | hx
    · cases hx
      refine ⟨(h.p _ _ _ hs).1, fun b' hb' => ?_⟩
      rw [inB_get hR hi, hsame b' hb']
    · exact h0.p s i o hx
theorem tag_addSg {B : Bs} {T : Trk} {t : Array Value} {l : Fr} {dst : Option Nat} {id m : Nat} {b : Blk} (hR : Rel l t) (hi : inB dst l = true) (h : TagOK B T t) {s o' : Nat} (hs : (s, id, o') ∈ T.tg) (hsame : ∀ b', (id, b') ∈ B ++ T.bs → b'.n = b.n) :
    TagOK B (addSg dst id T) (({ tmps := t, defers := [] } : Act).put dst (.slice (some ⟨b.n, 0, none⟩) m m)).tmps := by
  have hS := Same.put t dst (.slice (some ⟨b.n, 0, none⟩) m m)
  cases dst with
  | none => exact h.of (fun x hx => ⟨hx, hS.at_ _ (by simp)⟩) (fun x hx => ⟨hx, hS.at_ _ (by simp)⟩) (fun x hx => ⟨x, hx, rfl, rfl⟩) (Nat.le_refl _)
  | some d =>
    have h0 := h.put hS
    refine ⟨fun s i o hx => h0.p s i o hx, fun s i hx => ?_, h0.lt⟩
    rcases List.mem_cons.1 hx with hx | hx
    · cases hx
      refine ⟨(h.p _ _ _ hs).1, fun b' hb' => ⟨m, m, ?_⟩⟩
      rw [inB_get hR hi, hsame b' hb']
    · exact h0.s s i hx
/-- All blocks of one number in mind are one. -/
theorem TagOK.same {B : Bs} {T : Trk} {t : Array Value} (h : TagOK B T t) {s id off : Nat} (hs : (s, id, off) ∈ T.tg) {b : Blk} (hb : (id, b) ∈ B ++ T.bs) : ∀ b', (id, b') ∈ B ++ T.bs → b'.n = b.n := fun b' hb' => by
  have h1 := (h.p _ _ _ hs).2 b hb
  have h2 := (h.p _ _ _ hs).2 b' hb'
  rw [h1] at h2
  simp at h2
  exact h2.symm
theorem isNone_eq {α : Type} {x : Option α} (h : isNone' x = true) : x = none := by cases x with | none => rfl | some _ => cases h

section
variable {E : Env} (hp : PurOK E) {ops : Array Oper} {z : Nat} {B : Bs}
omit hp in
theorem trkAddr_ok {T : Trk} {o : Oper} {t : Array Value} {w : World} {id n off : Nat} (h : trkAddr E B T o = some (id, n, off)) (hT : TagOK B T t) :
    o.guard = none ∧ (∃ b s o', (id, b) ∈ B ++ T.bs ∧ b.n = n ∧ (s, id, o') ∈ T.tg) ∧ YieldsV E.P o { tmps := t, defers := [] } w (.pointer (some ⟨n, off, none⟩)) := by
  obtain ⟨dst, op, ty, pos, aft, gd⟩ := o
  unfold trkAddr at h
  split at h
  · cases h
  rename_i hg
  refine ⟨isNone_eq hg, ?_⟩
  simp only at h
  have cpy : ∀ {s : Nat} {id' off' : Nat} {b : Blk}, findN s T.tg = some (id', off') → lookB B T id' = some b → (∃ b' s o', (id', b') ∈ B ++ T.bs ∧ b'.n = b.n ∧ (s, id', o') ∈ T.tg) ∧ t.getD s undef = .pointer (some ⟨b.n, off', none⟩) := fun h1 h2 =>
    ⟨⟨_, _, _, lookB_mem h2, rfl, findN_mem h1⟩, (hT.p _ _ _ (findN_mem h1)).2 _ (lookB_mem h2)⟩
  split at h
  · rename_i st s f
    split at h
    · rename_i id' off' hf
      split at h
      · rename_i b k hb hk
        simp at h
        obtain ⟨rfl, rfl, rfl⟩ := h
        obtain ⟨h1, h2⟩ := cpy hf hb
        refine ⟨h1, .inl ?_⟩
        have := run_fieldAt (w := w) (b := b.n) (o := off') hk
        simp only [execOp, Act.eval, h2]
        simp [this]
      · cases h
    · cases h
  · rename_i tt s k i
    split at h
    · rename_i id' off' hf
      split at h
      · rename_i b m e hb hu
        split at h
        · rename_i sz hsz hi
          simp at h
          obtain ⟨rfl, rfl, rfl⟩ := h
          obtain ⟨h1, h2⟩ := cpy hf hb
          refine ⟨h1, .inl ?_⟩
          have hU := run_underlying' (w := w) hu
          have hS := run_sizeOf' (w := w) hsz
          simp only [Bool.and_eq_true, decide_eq_true_eq] at hi
          simp only [execOp, Act.eval, h2]
          simp [Instr.indexAt, asIntOf, hU, hi.1, hi.2, hS, add_plain, idx_eq, Instr.sureAddr]
        · cases h
      · cases h
    · cases h
  · rename_i s
    split at h
    · rename_i id' off' hf
      split at h
      · rename_i b hb
        simp at h
        obtain ⟨rfl, rfl, rfl⟩ := h
        obtain ⟨h1, h2⟩ := cpy hf hb
        refine ⟨h1, .inl ?_⟩
        simp only [execOp, Act.eval, h2]
        rfl
      · cases h
    · cases h
  · rename_i s
    split at h
    · rename_i id' off' hf
      split at h
      · rename_i b hb
        simp at h
        obtain ⟨rfl, rfl, rfl⟩ := h
        obtain ⟨h1, h2⟩ := cpy hf hb
        refine ⟨h1, .inl ?_⟩
        simp only [execOp, Act.eval, h2]
        rfl
      · cases h
    · cases h
  · rename_i s
    split at h
    · rename_i id' off' hf
      split at h
      · rename_i b hb
        simp at h
        obtain ⟨rfl, rfl, rfl⟩ := h
        obtain ⟨h1, h2⟩ := cpy hf hb
        refine ⟨h1, .inl ?_⟩
        simp only [execOp, Act.eval, h2]
        rfl
      · cases h
    · cases h
  · cases h
omit hp in
theorem trkSlice_ok {T : Trk} {o : Oper} {t : Array Value} {w : World} {id n m : Nat} (h : trkSlice E B T o = some (id, n, m)) (hT : TagOK B T t) :
    o.guard = none ∧ (∃ b s o', (id, b) ∈ B ++ T.bs ∧ b.n = n ∧ (s, id, o') ∈ T.tg) ∧ YieldsV E.P o { tmps := t, defers := [] } w (.slice (some ⟨n, 0, none⟩) m m) := by
  obtain ⟨dst, op, ty, pos, aft, gd⟩ := o
  unfold trkSlice at h
  split at h
  · cases h
  rename_i hg
  refine ⟨isNone_eq hg, ?_⟩
  simp only at h
  split at h
  · rename_i tt s
    split at h
    · rename_i id' hf
      split at h
      · rename_i b k e hb hu
        split at h
        · rename_i sz hsz
          simp at h
          obtain ⟨rfl, rfl, rfl⟩ := h
          have h2 := (hT.p _ _ _ (findN_mem hf)).2 _ (lookB_mem hb)
          refine ⟨⟨_, _, _, lookB_mem hb, rfl, findN_mem hf⟩, .inl ?_⟩
          have hU := run_underlying' (w := w) hu
          have hS := run_sizeOf' (w := w) hsz
          simp only [execOp, Act.eval, h2]
          simp [Instr.sliceAt, hU, Instr.sureAddr, Instr.sliceBounds, hS, Addr.add]
        · cases h
      · cases h
    · cases h
  · cases h
include hp
theorem still2_ok {o : Oper} {l : Fr} {T : Trk} {w W : World} {tmps : Array Value} {ctx : Option (Nat × Bool)} {K : Fr → Trk → World → Prop} (h : Rel l tmps) (hT : TagOK B T tmps) (hL : LocD z B T w W)
    (hwo : Region.wanted o (yielded ops tmps) = true ↔ Wants tmps ctx) (hg0 : o.guard = none → ctx = none) (hf : still2 E z B o ctx l T w K) :
    ∃ v l' T' w', K l' T' w' ∧ Rel l' (({ tmps, defers := [] } : Act).put o.dst v).tmps ∧ TagOK B T' (({ tmps, defers := [] } : Act).put o.dst v).tmps ∧ LocD z B T' w' W ∧
      ((Region.wanted o (yielded ops tmps) = true ∧ YieldsV E.P o { tmps, defers := [] } W v) ∨ (Region.wanted o (yielded ops tmps) = false ∧ v = undef)) := by
  have hLu : ∀ {T : Trk} {w : World}, LocD z B T w W → LocD z B (T.untag o.dst) w W := fun {T w} hL => ⟨by unfold allB; rw [untag_bs]; exact hL.l, by unfold Trk.untag; split <;> exact hL.d, hL.b0⟩
  unfold still2 at hf
  split at hf
  · rename_i v hl
    obtain ⟨tt, s, hop, hl⟩ : ∃ tt s, o.op = .load tt (.tmp s) ∧ trkLoad E B T s tt = some (some v) := by
      split at hl
      · rename_i tt s hop; exact ⟨tt, s, hop, hl⟩
      · cases hl
    split at hf
    · rename_i hd
      have hW := deadB_ok h 12 ctx hd
      refine ⟨undef, _, _, _, hf, h.fin (ctx := none) (fun _ => rfl) (fun hn => absurd trivial hn), hT.put (.put _ _ _), hLu hL, .inr ⟨?_, rfl⟩⟩
      cases hw : Region.wanted o (yielded ops tmps) with
      | true => exact absurd (hwo.1 hw) hW
      | false => rfl
    · split at hf
      · obtain ⟨b, off, agg, n, cs, h1, h2, h3, h4, rfl⟩ := trkLoad_ok hl hT hL.l
        cases hw : Region.wanted o (yielded ops tmps) with
        | true =>
          have hW := hwo.1 hw
          refine ⟨_, _, _, _, hf, h.fin (fun _ => rfl) (fun hn => absurd hW hn), hT.put (.put _ _ _), hLu hL, .inl ⟨rfl, .inl ?_⟩⟩
          obtain ⟨dst, op, ty, pos, aft, gd⟩ := o
          simp only at hop; subst hop
          have := run_loadAt h2 h3 h4
          simp only [execOp, Act.eval, h1]
          simp [this]
        | false =>
          have hW : ¬ Wants tmps ctx := fun hW => by rw [hwo.2 hW] at hw; cases hw
          exact ⟨undef, _, _, _, hf, h.fin (fun hy => absurd hy hW) (fun _ => rfl), hT.put (.put _ _ _), hLu hL, .inr ⟨rfl, rfl⟩⟩
      · exact hf.elim
  · exact hf.elim
  · split at hf
    · rename_i id n off ha
      obtain ⟨h1, ⟨b, s, o', h2, rfl, h3⟩, h4⟩ := trkAddr_ok (w := W) ha hT
      split at hf
      · rename_i hi
        have hc := hg0 h1
        subst hc
        refine ⟨_, _, _, _, hf, h.fin (ctx := none) (fun _ => rfl) (fun hn => absurd trivial hn), tag_addTg h hi hT h3 (hT.same h3 h2), ?_, .inl ⟨hwo.2 trivial, h4⟩⟩
        unfold addTg
        split
        · exact hL
        · exact ⟨hL.l, hL.d, hL.b0⟩
      · exact hf.elim
    · split at hf
      · rename_i id n m ha
        obtain ⟨h1, ⟨b, s, o', h2, rfl, h3⟩, h4⟩ := trkSlice_ok (w := W) ha hT
        split at hf
        · rename_i hi
          have hc := hg0 h1
          subst hc
          refine ⟨_, _, _, _, hf, h.fin (ctx := none) (fun _ => rfl) (fun hn => absurd trivial hn), tag_addSg h hi hT h3 (hT.same h3 h2), ?_, .inl ⟨hwo.2 trivial, h4⟩⟩
          unfold addSg
          split
          · exact hL
          · exact ⟨hL.l, hL.d, hL.b0⟩
        · exact hf.elim
      · obtain ⟨T', w', hs, hT', hL'⟩ := dropF_ok hf hT hL
        obtain ⟨v, l', h1, h2, h3⟩ := still_ok0 hp h hwo hs
        refine ⟨v, l', _, _, h1, h2, hT'.put (.put _ _ _), hLu hL', ?_⟩
        rcases h3 with ⟨hw, hy⟩ | hw
        · exact .inl ⟨hw, hy W (fun φ hφ => syncF_use hφ hL')⟩
        · exact .inr hw
omit hp in
theorem ctx_guard {o : Oper} {ctx : Option (Nat × Bool)} (hc : ctxOf ops o = some ctx) (hg : o.guard = none) : ctx = none := by
  unfold ctxOf at hc
  rw [hg] at hc
  simp at hc; exact hc.symm
theorem stillOps2_ok {W : World} {K : Fr → Trk → World → Prop} {Q : Act → Prop} : ∀ (r : List Oper) (l : Fr) (T : Trk) (w : World) (tmps : Array Value), Rel l tmps → TagOK B T tmps → LocD z B T w W → stillOps2 E z B ops K r l T w →
    (∀ l' tmps' T' w', Rel l' tmps' → Same (r.filterMap (·.dst)) tmps tmps' → TagOK B T' tmps' → LocD z B T' w' W → K l' T' w' → Q { tmps := tmps', defers := [] }) → wpStill E.P ops W Q r { tmps, defers := [] }
  | [], l, T, w, tmps, h, hT, hL, hf, hQ => hQ l tmps T w h (.refl _ _) hT hL hf
  | o :: r, l, T, w, tmps, h, hT, hL, hf, hQ => by
    simp only [stillOps2] at hf
    cases hc : ctxOf ops o with
    | none => rw [hc] at hf; exact hf.elim
    | some ctx =>
      rw [hc] at hf
      simp only at hf
      obtain ⟨v, l', T', w', h1, h2, hT', hL', h3⟩ := still2_ok hp h hT hL (wanted_ok (tmps := tmps) hc) (ctx_guard hc) hf
      have next : wpStill E.P ops W Q r (({ tmps, defers := [] } : Act).put o.dst v) := by
        rw [put_act]
        refine stillOps2_ok r l' T' w' _ h2 hT' hL' h1 (fun l'' t'' T'' w'' hr hs hT2 hL2 hk => hQ l'' t'' T'' w'' hr ?_ hT2 hL2 hk)
        have := (Same.put tmps o.dst v).trans hs
        refine this.mono fun i hi => ?_
        rcases List.mem_append.1 hi with hi | hi
        · cases hd : o.dst with
          | none => simp [hd] at hi
          | some d => simp [hd] at hi; simp [hd, hi]
        · cases hd : o.dst with
          | none => simpa [hd] using hi
          | some d => simp only [List.filterMap_cons, hd, List.mem_cons]; exact .inr hi
      unfold wpStill
      rcases h3 with ⟨hw, hy⟩ | ⟨hw, rfl⟩
      · rw [if_pos hw]
        unfold Oper.still
        rcases hy with hy | ⟨_, f, args, hy, hcall⟩
        · rw [hy]; exact ⟨rfl, next⟩
        · rw [hy]; exact ⟨rfl, v, hcall, next⟩
      · rw [if_neg (by simp [hw])]
        exact next
end

end Go.Proofs.YtgmmoghagpmpfaaGreatDoor

/- The symbolic evaluator, ninth part: soundness of the sixth, effects. Generic: no program, no condition. -/
namespace Go.Proofs.YtgmmoghagpmpfaaGreatDoor
open Go.RowKit

theorem putL_repl : ∀ (vs c : List Value) (o : Nat), o + vs.length ≤ c.length → putL c o vs = repl c o vs.length vs
  | [], c, o, _ => by simp [putL, repl]
  | v :: r, c, o, h => by
    have hl : o < c.length := by simp at h; omega
    simp only [putL]
    rw [putL_repl r (c.set o v) (o + 1) (by simp at h ⊢; omega)]
    unfold repl
    rw [List.set_eq_take_append_cons_drop, if_pos hl]
    have e1 : (c.take o).length = o := by rw [List.length_take]; omega
    rw [show c.take o ++ v :: c.drop (o + 1) = (c.take o ++ [v]) ++ c.drop (o + 1) by simp]
    rw [List.take_append_of_le_length (by simp; omega), List.take_of_length_le (by simp; omega)]
    rw [List.drop_append]
    have e2 : (c.take o ++ [v]).length = o + 1 := by simp [e1]
    rw [List.drop_eq_nil_of_le (by omega), e2, List.drop_drop]
    simp only [List.length_cons, List.append_assoc, List.cons_append, List.nil_append]
    rw [show o + 1 + (o + 1 + r.length - (o + 1)) = o + (r.length + 1) by omega]
theorem WrF_at {w : World} {b o n : Nat} {c : Array Value} {t : TypeId} (h : w.heap[b]? = some (.cells c t (0, 0))) (hn : o + n ≤ c.size) : WrF w b o n := by
  match n, hn with
  | 0, _ => trivial
  | 1, hn =>
    refine ⟨⟨c[o], ?_⟩, frozen_block h _⟩
    rw [cell_block h]
    simp
  | n + 2, hn => exact WrL_block h hn
theorem setB_mem {id : Nat} {cs : List Value} : ∀ {l : Bs} {x : Nat × Blk}, x ∈ setB id cs l → ∃ y ∈ l, y.1 = x.1 ∧ y.2.n = x.2.n
  | [], x, h => by simp [setB] at h
  | y :: r, x, h => by
    simp only [setB] at h
    cases hj : y.1 == id with
    | true =>
      rw [hj] at h
      rcases List.mem_cons.1 h with h | h
      · subst h; exact ⟨y, List.mem_cons_self, rfl, rfl⟩
      · exact ⟨x, List.mem_cons_of_mem _ h, rfl, rfl⟩
    | false =>
      rw [hj] at h
      rcases List.mem_cons.1 h with h | h
      · subst h; exact ⟨x, List.mem_cons_self, rfl, rfl⟩
      · obtain ⟨y', h1, h2⟩ := setB_mem h
        exact ⟨y', List.mem_cons_of_mem _ h1, h2⟩
/-- One block of the list is written. -/
theorem setB_split {id : Nat} {cs : List Value} : ∀ {l : Bs} {b : Blk}, findN id l = some b → ∃ l1 l2, l = l1 ++ (id, b) :: l2 ∧ setB id cs l = l1 ++ (id, ⟨b.n, b.t, cs, wrM b.m⟩) :: l2
  | [], b, h => by simp [findN] at h
  | (j, y) :: r, b, h => by
    simp only [findN] at h
    cases hj : id == j with
    | true =>
      have e : id = j := by simpa using hj
      subst e
      rw [hj] at h
      simp at h; subst h
      exact ⟨[], r, rfl, by simp [setB]⟩
    | false =>
      rw [hj] at h
      obtain ⟨l1, l2, h1, h2⟩ := setB_split (cs := cs) h
      have hj' : (j == id) = false := by
        cases hx : j == id with
        | false => rfl
        | true => have : j = id := by simpa using hx
                  subst this; simp at hj
      refine ⟨(j, y) :: l1, l2, by rw [h1]; rfl, ?_⟩
      simp only [setB, hj', h2]
      rfl
theorem loc_store {z : Nat} {T T' : List Blk} {l1 l2 : List Blk} {b : Blk} {cs : List Value} {w W w1 : World} (h : Loc z T w W) (e : T = l1 ++ b :: l2) (e' : T' = l1 ++ ⟨b.n, b.t, cs, wrM b.m⟩ :: l2) (hk : Kp (· = b.n) W w1) (hb : w1.heap[b.n]? = some (.cells cs.toArray b.t (0, 0))) : Loc z T' w w1 := by
  subst e; subst e'
  generalize hm : wrM b.m = m
  unfold wrM at hm
  have hnd := h.ne
  rw [List.map_append, List.map_cons] at hnd
  have hne : ∀ x ∈ l1 ++ l2, x.n ≠ b.n := fun x hx => by
    have hp : (l1.map (·.n) ++ b.n :: l2.map (·.n)).Perm (b.n :: (l1.map (·.n) ++ l2.map (·.n))) := List.perm_middle
    have := hp.nodup_iff.1 hnd
    intro e
    refine (List.nodup_cons.1 this).1 ?_
    rw [← List.map_append, ← e]
    exact List.mem_map.2 ⟨x, hx, rfl⟩
  have mem : ∀ {x : Blk} {y : Blk}, x ∈ l1 ++ y :: l2 → x ∈ l1 ++ l2 ∨ x = y := fun {x y} hx => by
    rcases List.mem_append.1 hx with h1 | h1
    · exact .inl (List.mem_append.2 (.inl h1))
    · rcases List.mem_cons.1 h1 with h1 | h1
      · exact .inr h1
      · exact .inl (List.mem_append.2 (.inr h1))
  have mem' : ∀ {x y : Blk}, x ∈ l1 ++ l2 → x ∈ l1 ++ y :: l2 := fun {x y} hx => by
    rcases List.mem_append.1 hx with h1 | h1
    · exact List.mem_append.2 (.inl h1)
    · exact List.mem_append.2 (.inr (List.mem_cons_of_mem _ h1))
  have self : ∀ {y : Blk}, y ∈ l1 ++ y :: l2 := List.mem_append.2 (.inr List.mem_cons_self)
  refine ⟨⟨hk.os.trans h.kp.os, hk.tape.trans h.kp.tape, hk.output.trans h.kp.output, Nat.le_trans h.kp.size hk.size, fun k hlt hn => ?_⟩, fun x hx => ?_, fun x hx => ?_, ?_, fun x hx h2 => ?_, h.hz⟩
  · by_cases hkb : k = b.n
    · exfalso
      cases hb2 : b.m == 2 with
      | true =>
        have hb2 : b.m = 2 := by simpa using hb2
        have := h.nw b self hb2
        omega
      | false =>
        rw [hb2] at hm
        simp at hm
        exact hn ⟨_, self, hm.symm, hkb.symm⟩
    · rw [hk.block k (Nat.lt_of_lt_of_le hlt h.kp.size) hkb]
      refine h.kp.block k hlt (fun ⟨x, hx, h1, h2⟩ => ?_)
      rcases mem hx with hx | hx
      · exact hn ⟨x, mem' hx, h1, h2⟩
      · subst hx; exact hkb h2.symm
  · rcases mem hx with hx | hx
    · exact hk.blk (h.blk x (mem' hx)) (hne x hx)
    · subst hx; exact hb
  · rcases mem hx with hx | hx
    · exact h.ge x (mem' hx)
    · subst hx; exact h.ge b self
  · rw [List.map_append, List.map_cons]; exact hnd
  · rcases mem hx with hx | hx
    · exact h.nw x (mem' hx) h2
    · subst hx
      simp only at h2
      subst h2
      cases hb2 : b.m == 2 with
      | true => exact h.nw b self (by simpa using hb2)
      | false => rw [hb2] at hm; simp at hm
theorem loc_new {z : Nat} {T : List Blk} {w W : World} (h : Loc z T w W) (t : TypeId) (cs : Array Value) : Loc z (⟨W.heap.size, t, cs.toList, 2⟩ :: T) w (W.alloc (.cells cs t)) := by
  have hn : NewB W (.cells cs t) W.heap.size (W.alloc (.cells cs t)) := ⟨rfl, rfl⟩
  have hk := hn.kp (fun _ => False)
  refine ⟨(h.kp.mono (fun i _ ⟨x, hx, e⟩ => ⟨x, List.mem_cons_of_mem _ hx, e⟩)).trans (hk.mono (fun _ _ h => h.elim)), fun x hx => ?_, fun x hx => ?_, ?_, fun x hx h2 => ?_, h.hz⟩
  · rcases List.mem_cons.1 hx with h1 | h1
    · subst h1; simpa using hn.block
    · exact hk.blk (h.blk x h1) (fun h => h)
  · rcases List.mem_cons.1 hx with h1 | h1
    · subst h1; exact Nat.le_trans h.hz h.kp.size
    · exact h.ge x h1
  · rw [List.map_cons]
    refine List.nodup_cons.2 ⟨fun hx => ?_, h.ne⟩
    obtain ⟨x, hx, e⟩ := List.mem_map.1 hx
    have := block_lt (h.blk x hx)
    simp only at e
    omega
  · rcases List.mem_cons.1 hx with h1 | h1
    · subst h1; exact h.kp.size
    · exact h.nw x h1 h2
/-- A new block in mind. -/
theorem tag_new {B : Bs} {T : Trk} {t t' : Array Value} {dst : Option Nat} {b : Blk} (hS : Same dst.toList t t') (h : TagOK B T t) : TagOK B ⟨(T.nx, b) :: (T.untag dst).bs, (T.untag dst).tg, (T.untag dst).sg, T.nx + 1, true⟩ t' := by
  have h0 := h.put hS
  have hn : (T.untag dst).nx = T.nx := by unfold Trk.untag; split <;> rfl
  have mem : ∀ (i : Nat) (b' : Blk), i < T.nx → (i, b') ∈ B ++ (T.nx, b) :: (T.untag dst).bs → (i, b') ∈ B ++ (T.untag dst).bs := fun i b' hi hb' => by
    rcases List.mem_append.1 hb' with hb' | hb'
    · exact List.mem_append.2 (.inl hb')
    · rcases List.mem_cons.1 hb' with hb' | hb'
      · cases hb'; omega
      · exact List.mem_append.2 (.inr hb')
  refine ⟨fun s i o hx => ?_, fun s i hx => ?_, fun x hx => ?_⟩
  · obtain ⟨h1, h2⟩ := h0.p s i o hx
    rw [hn] at h1
    exact ⟨by show i < T.nx + 1; omega, fun b' hb' => h2 b' (mem i b' h1 hb')⟩
  · obtain ⟨h1, h2⟩ := h0.s s i hx
    rw [hn] at h1
    exact ⟨by show i < T.nx + 1; omega, fun b' hb' => h2 b' (mem i b' h1 hb')⟩
  · show x.1 < T.nx + 1
    have key : x ∈ B ++ (T.untag dst).bs → x.1 < T.nx + 1 := fun hx => by have := h0.lt x hx; omega
    rcases List.mem_append.1 hx with hx | hx
    · exact key (List.mem_append.2 (.inl hx))
    · rcases List.mem_cons.1 hx with hx | hx
      · subst hx; show T.nx < T.nx + 1; omega
      · exact key (List.mem_append.2 (.inr hx))
theorem new_one {B : Bs} {T : Trk} {dst : Option Nat} {t : Array Value} (h : TagOK B T t) {b b' : Blk} (hb : (T.nx, b') ∈ B ++ (T.nx, b) :: (T.untag dst).bs) : b' = b := by
  have no : ∀ x ∈ B ++ T.bs, x.1 = T.nx → False := fun x hx e => by have := h.lt x hx; omega
  rcases List.mem_append.1 hb with hb | hb
  · exact (no _ (List.mem_append.2 (.inl hb)) rfl).elim
  · rcases List.mem_cons.1 hb with hb | hb
    · cases hb; rfl
    · rw [untag_bs] at hb
      exact (no _ (List.mem_append.2 (.inr hb)) rfl).elim
theorem tag_add {B : Bs} {T : Trk} {t : Array Value} {l : Fr} {dst : Option Nat} {b : Blk} (hR : Rel l t) (hi : inB dst l = true) (h : TagOK B T t) : TagOK B (T.add b dst) (({ tmps := t, defers := [] } : Act).put dst (.pointer (some ⟨b.n, 0, none⟩))).tmps := by
  have base := tag_new (b := b) (Same.put t dst (.pointer (some ⟨b.n, 0, none⟩))) h
  cases dst with
  | none => exact base
  | some d =>
    refine ⟨fun s i o hx => ?_, fun s i hx => base.s s i hx, base.lt⟩
    rcases List.mem_cons.1 hx with hx | hx
    · cases hx
      refine ⟨by show T.nx < T.nx + 1; omega, fun b' hb' => ?_⟩
      rw [inB_get hR hi, new_one (dst := some d) h hb']
    · exact base.p s i o hx
theorem tag_addS {B : Bs} {T : Trk} {t : Array Value} {l : Fr} {dst : Option Nat} {b : Blk} {m : Nat} (hR : Rel l t) (hi : inB dst l = true) (h : TagOK B T t) : TagOK B (T.addS b dst) (({ tmps := t, defers := [] } : Act).put dst (.slice (some ⟨b.n, 0, none⟩) m m)).tmps := by
  have base := tag_new (b := b) (Same.put t dst (.slice (some ⟨b.n, 0, none⟩) m m)) h
  cases dst with
  | none => exact base
  | some d =>
    refine ⟨fun s i o hx => base.p s i o hx, fun s i hx => ?_, base.lt⟩
    rcases List.mem_cons.1 hx with hx | hx
    · cases hx
      refine ⟨by show T.nx < T.nx + 1; omega, fun b' hb' => ⟨m, m, ?_⟩⟩
      rw [inB_get hR hi, new_one (dst := some d) h hb']
    · exact base.s s i hx
/-! ### New blocks -/
theorem run_alloc2 {P : Program} {w : World} {t : TypeId} {v : Value} (h : Sem.ev P (zeroValue t) = some v) : (Instr.alloc t true (.tuple #[])).run P w = .ok (.pointer (some ⟨w.heap.size, 0, none⟩)) (w.alloc (.cells v.cells t)) := by
  have hz := ev_run h w
  simp [Instr.alloc, hz, newVar, newRow, newObj, Sem.run]
theorem run_box2 {P : Program} {w : World} {t : TypeId} {v : Value} : (Instr.box t v).run P w = .ok (.pointer (some ⟨w.heap.size, 0, none⟩)) (w.alloc (.cells v.cells t)) := by
  simp [Instr.box, newVar, newRow, newObj, Sem.run]
theorem bind_assoc2 {α β γ : Type} (s : Sem α) (f : α → Sem β) (g : β → Sem γ) : (s.bind f).bind g = s.bind fun a => (f a).bind g := by
  induction s with
  | pure a => rfl
  | halt h => rfl
  | mark m k ih => simp only [Sem.bind, ih]
  | _ => first | (simp only [Sem.bind]; congr 1; funext x; rename_i ih; exact ih x) | (simp only [Sem.bind]; rename_i ih; rw [ih]) | (simp only [Sem.bind]; congr 1; funext x y; rename_i ih; exact ih x y)
theorem buildSlice_eq (t : TypeId) (len : Nat) (parts : Array (Nat × Value)) : Instr.buildSlice t len parts = Sem.bind (rowS2 t len parts) fun x => Sem.bind (newRow x.1 x.2) fun a => Sem.pure (.slice (some a) len len) := by
  unfold Instr.buildSlice rowS2
  simp only [bind, pure]
  rw [bind_assoc2]
  congr 1; funext d
  cases d with
  | slice e =>
    simp only
    rw [bind_assoc2]
    congr 1; funext size
    split
    · rfl
    · simp only [Sem.bind]
      have key : ∀ r : Option (Array Value), (match r with | some cells => (newRow e cells).bind fun a => Sem.pure (Value.slice (some a) len len) | _ => stuck "buildSlice: a part of the wrong size") = (match r with | some cells => Sem.pure (e, cells) | _ => stuck "buildSlice: a part of the wrong size").bind fun x => (newRow x.1 x.2).bind fun a => Sem.pure (Value.slice (some a) len len) := fun r => by cases r <;> rfl
      split
      · exact key _
      · rw [bind_assoc2]
        congr 1; funext zero
        exact key _
  | _ => rfl
theorem run_slice2 {P : Program} {w : World} {t : TypeId} {len : Nat} {parts : Array (Nat × Value)} {e : TypeId} {cells : Array Value} (h : Sem.ev P (rowS2 t len parts) = some (e, cells)) : (Instr.buildSlice t len parts).run P w = .ok (.slice (some ⟨w.heap.size, 0, none⟩) len len) (w.alloc (.cells cells e)) := by
  have hr := ev_run h w
  rw [buildSlice_eq]
  show (rowS2 t len parts >>= _).run P w = _
  rw [Sem.run_bind, hr]
  simp [newRow, newObj, Sem.run, Sem.bind, bind, pure]

section
variable {E : Env} (hp : PurOK E) {ops : Array Oper} {z : Nat} {B : Bs}
theorem trkStore_ok {T T' : Trk} {l : Fr} {o : Oper} {t : Array Value} {w W : World} (hs : trkStore E T l o.op = some (some T')) (h : Rel l t) (hT : TagOK B T t) (hL : LocD z B T w W) :
    ∃ W', (execOp ({ tmps := t, defers := [] } : Act).eval o).run E.P W = .ok .skip W' ∧ TagOK B T' t ∧ LocD z B T' w W' := by
  obtain ⟨dst, op, ty, pos, aft, gd⟩ := o
  unfold trkStore at hs
  simp only at hs
  split at hs
  · rename_i tt s v
    split at hs
    · rename_i id off hid
      split at hs
      · rename_i b hb
        split at hs
        · rename_i y n hv hsz
          split at hs
          · rename_i hc
            simp only [Bool.and_eq_true] at hc
            obtain ⟨h1, h2, h3⟩ := hc
            simp at hs; subst hs
            have hm : (id, b) ∈ B ++ T.bs := List.mem_append.2 (.inr (findN_mem hb))
            have hx := (hT.p s id off (findN_mem hid)).2 b hm
            have ey := rd_ok (ds := []) h (fun _ _ hm => by simp at hm) hv
            have hbk := hL.l.blk b (mem_blks.2 ⟨id, hm⟩)
            have hn : y.cells.size = n := by simpa using h1
            have hle : off + n ≤ b.cs.length := by simpa using Nat.le_of_ble_eq_true h3
            have hS : storeF E tt (.pointer (some ⟨b.n, off, none⟩)) y W (fun w1 => PutB W b.n off y.cells.toList w1) := by
              unfold storeF
              rw [hsz, h2]
              simp only [h1]
              exact ⟨WrF_at hbk (by simpa using hle), fun w1 h => h⟩
            obtain ⟨W', hr, hput⟩ := storeF_ok hS
            refine ⟨W', ?_, ?_, ?_⟩
            · have hx' : ({ tmps := t, defers := [] } : Act).eval (.tmp s) = .pointer (some ⟨b.n, off, none⟩) := hx
              simp only [execOp, hx', ey]
              simp [hr]
            · refine hT.of (fun x hx => ⟨hx, rfl⟩) (fun x hx => ⟨hx, rfl⟩) (fun x hx => ?_) (Nat.le_refl _)
              rcases List.mem_append.1 hx with hx | hx
              · exact ⟨x, List.mem_append.2 (.inl hx), rfl, rfl⟩
              · obtain ⟨y, h1, h2⟩ := setB_mem hx
                exact ⟨y, List.mem_append.2 (.inr h1), h2⟩
            · obtain ⟨l1, l2, e1, e2⟩ := setB_split (cs := repl b.cs off n y.cells.toList) hb
              refine ⟨?_, (fun h => by cases h), hL.b0⟩
              refine loc_store (l1 := blksOf (B ++ l1)) (l2 := blksOf l2) (b := b) (cs := repl b.cs off n y.cells.toList) hL.l ?_ ?_ hput.kp ?_
              · unfold allB; rw [e1]; simp [blksOf_eq]
              · unfold allB; rw [e2]; simp [blksOf_eq]
              · have := hput.block hbk
                rw [this]
                rw [show (b.cs.toArray).toList = b.cs by simp, putL_repl _ _ _ (by simpa [hn] using hle)]
                simp [hn]
          · cases hs
        · cases hs
      · cases hs
    · cases hs
  · cases hs
end

end Go.Proofs.YtgmmoghagpmpfaaGreatDoor
