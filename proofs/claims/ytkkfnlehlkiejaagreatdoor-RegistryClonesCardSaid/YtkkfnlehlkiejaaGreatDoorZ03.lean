/- Lemmas on worlds for the proofs of formulas: new blocks, written cells, what is kept. Generic: no program, no condition. -/
import Derived.Test.YtkkfnlehlkiejaaGreatDoorZ02
import Derived.Below
import Derived.ChangeSame
import Derived.DataReads
import Derived.Test.YtkkfnlehlkiejaaGreatDoorProg
import Derived.KernelRfl
import Derived.Lib.Bytealg
import Derived.Shelf.Small.Bits
import Derived.Shelf.Small.Strs
import Derived.Shelf.Small.Wraps
import Derived.Shelf.Utf8.RuneCount
import Derived.Shelf.Strconv.Itoa0
import Derived.Shelf.Strings.Search1
import Derived.Shelf.Strings.Search2
import Derived.Shelf.Strings.Search3
import Derived.Shelf.Strings.Count
import Derived.Shelf.LaysM
import Derived.Shelf.Strings.Shaped
import Derived.Shelf.Strings.Prefix
import Derived.Shelf.Strings.Split
import Derived.Shelf.Strings.SplitShaped
import Derived.Shelf.Unicode.Decode
import Derived.Shelf.Strings.RuneCount
import Derived.Shelf.Strings.Explode
import Derived.Shelf.Unicode.DecodeSlow
import Derived.Shelf.Unicode.DecodeAny
import Derived.Ground.Names2Prog
import Derived.Shelf.Slices.SearchI
namespace Go.Proofs.YtkkfnlehlkiejaaGreatDoor
open Go.RowKit

theorem bsp_intro {b : Bool} {X Y : Prop} (h1 : b = true → X) (h2 : b = false → Y) : bsp b X Y := by cases b <;> simp_all [bsp]
theorem gimp_intro {b : Bool} {X : Prop} (h : b = true → X) : gimp b X := by cases b <;> simp_all [gimp]
theorem wr64 {x : Int} (h1 : -9223372036854775808 ≤ x) (h2 : x ≤ 9223372036854775807) : IntKind.i64.wrap x = x := IntWalk.i64_in x ⟨h1, h2⟩

theorem Kp.mono {M M' : Nat → Prop} {a b : World} (h : Kp M a b) (hm : ∀ i, i < a.heap.size → M i → M' i) : Kp M' a b :=
  ⟨h.os, h.tape, h.output, h.size, fun i hi hn => h.block i hi (fun hM => hn (hm i hi hM))⟩
theorem Kp.drew {M : Nat → Prop} {a b : World} (h : Kp M a b) : Kp M a b.drew := ⟨h.os, h.tape, h.output, h.size, h.block⟩
theorem Kp.of_drew {M : Nat → Prop} {a b : World} (h : Kp M a.drew b) : Kp M a b := ⟨h.os, h.tape, h.output, h.size, h.block⟩
theorem K0.below {w w' : World} (h : K0 w w') : Below w.heap.size w w' := ⟨h.os, h.tape, h.output, h.size, fun k hk => h.block k hk (fun h => h)⟩
theorem Kp.cell {M : Nat → Prop} {w w' : World} (h : Kp M w w') {b o : Nat} (hb : b < w.heap.size) (hm : ¬ M b) : w'.cell? ⟨b, o, none⟩ = w.cell? ⟨b, o, none⟩ := by
  simp only [World.cell?, h.block b hb hm]
theorem cell_lt {w : World} {b o : Nat} {v : Value} (h : w.cell? ⟨b, o, none⟩ = some v) : b < w.heap.size := World.block_lt_of_cell? w ⟨b, o, none⟩ h
theorem Kp.cell' {M : Nat → Prop} {w w' : World} (h : Kp M w w') {b o : Nat} {v : Value} (hc : w.cell? ⟨b, o, none⟩ = some v) (hm : ¬ M b) : w'.cell? ⟨b, o, none⟩ = some v := by
  rw [h.cell (cell_lt hc) hm]; exact hc
theorem Kp.frozen {M : Nat → Prop} {w w' : World} (h : Kp M w w') {b o : Nat} (hb : b < w.heap.size) (hm : ¬ M b) : w'.frozen? ⟨b, o, none⟩ = w.frozen? ⟨b, o, none⟩ := by
  simp only [World.frozen?, h.block b hb hm]

theorem block_lt {w : World} {b : Nat} {o : Obj} (h : w.heap[b]? = some o) : b < w.heap.size := by
  rcases Nat.lt_or_ge b w.heap.size with h' | h'
  · exact h'
  · simp [Array.getElem?_eq_none h'] at h
theorem Kp.blk {M : Nat → Prop} {w w' : World} (h : Kp M w w') {b : Nat} {o : Obj} (hb : w.heap[b]? = some o) (hm : ¬ M b) : w'.heap[b]? = some o := by
  rw [h.block b (block_lt hb) hm]; exact hb
theorem blk_drew {w : World} {b : Nat} {o : Obj} (hb : w.heap[b]? = some o) : w.drew.heap[b]? = some o := hb

section
variable {w w1 : World} {obj : Obj} {n : Nat}
theorem NewB.block (h : NewB w obj n w1) : w1.heap[n]? = some obj := by
  obtain ⟨rfl, rfl⟩ := h
  show (w.heap.push obj)[w.heap.size]? = some obj
  simp
theorem NewB.kp (h : NewB w obj n w1) (M : Nat → Prop) : Kp M w w1 := by
  obtain ⟨rfl, rfl⟩ := h
  exact ⟨rfl, rfl, rfl, by simp, fun k hk _ => Below.heap_alloc _ _ _ hk⟩
theorem NewB.size (h : NewB w obj n w1) : w1.heap.size = n + 1 := by
  obtain ⟨rfl, rfl⟩ := h; simp
theorem NewB.ge (h : NewB w obj n w1) : w.heap.size ≤ n := by
  obtain ⟨rfl, rfl⟩ := h; exact Nat.le_refl _
end

theorem cell_block {w : World} {b : Nat} {c : Array Value} {t : TypeId} {f : Nat × Nat} (h : w.heap[b]? = some (.cells c t f)) (i : Nat) : w.cell? ⟨b, i, none⟩ = c[i]? := by
  simp [World.cell?, h]
theorem frozen_block {w : World} {b : Nat} {c : Array Value} {t : TypeId} (h : w.heap[b]? = some (.cells c t (0, 0))) (i : Nat) : w.frozen? ⟨b, i, none⟩ = false := by
  simp [World.frozen?, h]
theorem At_of {w : World} {b : Nat} : ∀ (cs : List Value) (o : Nat), (∀ j v, cs[j]? = some v → w.cell? ⟨b, o + j, none⟩ = some v) → At w b o cs
  | [], _, _ => trivial
  | [v], o, h => by have := h 0 v rfl; exact (by simpa using this : w.cell? ⟨b, o, none⟩ = some v)
  | v :: x :: r, o, h => ⟨by have := h 0 v rfl; simpa using this, At_of (x :: r) (o + 1) fun j u hj => by
      have := h (j + 1) u (by simpa using hj)
      rw [show o + 1 + j = o + (j + 1) by omega]; exact this⟩
/-- The cells of a block, from an offset on. -/
theorem AtL_block {w : World} {b o : Nat} {c : Array Value} {t : TypeId} {f : Nat × Nat} {cs : List Value} (h : w.heap[b]? = some (.cells c t f)) (hc : (c.toList.drop o).take cs.length = cs) : AtL w b o cs := by
  refine ⟨At_of cs o fun j v hj => ?_⟩
  rw [cell_block h]
  have hlt : j < cs.length := by
    rcases Nat.lt_or_ge j cs.length with h' | h'
    · exact h'
    · simp [List.getElem?_eq_none h'] at hj
  rw [← hc] at hj
  rw [List.getElem?_take, if_pos (by simpa using hlt), List.getElem?_drop] at hj
  simpa using hj
theorem WrL_block {w : World} {b o n : Nat} {c : Array Value} {t : TypeId} (h : w.heap[b]? = some (.cells c t (0, 0))) (hn : o + n ≤ c.size) : WrL w b o n := by
  refine ⟨Wr_of n o fun i hi => ⟨?_, frozen_block h _⟩⟩
  rw [cell_block h]
  exact ⟨c[o + i], by simp⟩
def putL (c : List Value) : Nat → List Value → List Value
  | _, [] => c
  | o, v :: r => putL (c.set o v) (o + 1) r
theorem block_setCell {w : World} {b o : Nat} {c : Array Value} {t : TypeId} {f : Nat × Nat} {v : Value} (h : w.heap[b]? = some (.cells c t f)) : (w.setCell ⟨b, o, none⟩ v).heap[b]? = some (.cells (c.setIfInBounds o v) t f) := by
  simp [World.setCell, Array.getElem?_modify, h]
theorem wset_block {b : Nat} {t : TypeId} {f : Nat × Nat} : ∀ (cs : List Value) (w : World) (o : Nat) (c : Array Value), w.heap[b]? = some (.cells c t f) → (wset w b o cs).heap[b]? = some (.cells (putL c.toList o cs).toArray t f)
  | [], w, o, c, h => by simpa [wset, putL] using h
  | v :: r, w, o, c, h => by
    have := wset_block (b := b) (t := t) (f := f) r (w.setCell ⟨b, o, none⟩ v) (o + 1) _ (block_setCell h)
    simp only [wset, putL]
    rw [this]
    simp
theorem wset_kp {b : Nat} : ∀ (cs : List Value) (w : World) (o : Nat), Kp (· = b) w (wset w b o cs)
  | [], w, _ => .refl _ _
  | v :: r, w, o => by
    have h1 : Kp (· = b) w (w.setCell ⟨b, o, none⟩ v) := ⟨rfl, rfl, rfl, by simp, fun k _ hk => Below.heap_setCell _ _ _ _ hk⟩
    exact h1.trans (wset_kp r _ _)
theorem wset_size {b : Nat} : ∀ (cs : List Value) (w : World) (o : Nat), (wset w b o cs).heap.size = w.heap.size
  | [], w, _ => rfl
  | v :: r, w, o => by simp only [wset]; rw [wset_size r]; simp
section
variable {w w1 : World} {b o : Nat} {cs : List Value}
theorem PutB.block (h : PutB w b o cs w1) {c : Array Value} {t : TypeId} {f : Nat × Nat} (hb : w.heap[b]? = some (.cells c t f)) : w1.heap[b]? = some (.cells (putL c.toList o cs).toArray t f) := by
  rw [h.hw]; exact wset_block cs w o c hb
theorem PutB.kp (h : PutB w b o cs w1) : Kp (· = b) w w1 := by rw [h.hw]; exact wset_kp cs w o
theorem PutB.size (h : PutB w b o cs w1) : w1.heap.size = w.heap.size := by rw [h.hw]; exact wset_size cs w o
end

theorem MarkB.kp {w w1 : World} {b : Nat} (h : MarkB w b w1) : Kp (· = b) w w1 := by
  rw [h.hw]
  unfold markW
  split
  · unfold World.freeze
    rw [if_neg (by decide)]
    refine ⟨rfl, rfl, rfl, by simp, fun k _ hk => ?_⟩
    show (w.heap.modify b _)[k]? = _
    rw [Array.getElem?_modify, if_neg (fun e => hk e.symm)]
  · exact .refl _ _
theorem MarkB.block {w w1 : World} {b : Nat} (h : MarkB w b w1) {c : Array Value} {t : TypeId} (hb : w.heap[b]? = some (.cells c t (0, 0))) : w1.heap[b]? = some (.cells c t (c.size, c.size + 1)) := by
  rw [h.hw]
  unfold markW World.shape?
  rw [hb]
  simp only [World.freeze]
  rw [if_neg (by decide)]
  show (w.heap.modify b _)[b]? = _
  rw [Array.getElem?_modify, if_pos rfl, hb]
  rfl
theorem MarkB.size {w w1 : World} {b : Nat} (h : MarkB w b w1) : w1.heap.size = w.heap.size := by
  rw [h.hw]
  unfold markW
  split
  · unfold World.freeze
    rw [if_neg (by decide)]
    simp
  · rfl

/-! ### Rows that are the program's own -/
theorem Kp.grown {M : Nat → Prop} {w0 w w' : World} {row : Option Nat} (h : Kp M w0 w) (hg : w.grownBy w' row) (hrow : ∀ k, row = some k → w0.heap.size ≤ k ∨ M k) : Kp M w0 w' :=
  ⟨hg.os.trans h.os, hg.tape.trans h.tape, hg.output.trans h.output, Nat.le_trans h.size hg.size, fun i hi hm => (hg.block i (Nat.lt_of_lt_of_le hi h.size) (fun e => by
    rcases hrow i e.symm with h1 | h1
    · omega
    · exact hm h1)).trans (h.block i hi hm)⟩
theorem owns_kp {M : Nat → Prop} {w w' : World} {base : Nat} {e : TypeId} {size : Nat} {v : Value} {n : Nat} {xs : List Value} (h : w.ownsRow base e size v n xs) (hk : Kp M w w') (hm : ∀ k, v.ownBlock = some k → ¬ M k) : w'.ownsRow base e size v n xs := by
  refine ⟨h.1, ?_⟩
  rcases h.2 with hn | ⟨g, cap, cur, rfl, hb, hgg, rest⟩
  · exact .inl hn
  · exact .inr ⟨g, cap, cur, rfl, hb, hk.blk hgg (hm g rfl), rest⟩
/-- The cells of a new block are appended. -/
theorem src_block {w : World} {b : Nat} {c : Array Value} {t : TypeId} {f : Nat × Nat} (h : w.heap[b]? = some (.cells c t f)) (h1 : ∀ u ∈ c.toList, u.oneCell' = true) : SrcP w (some (Addr.mk b 0 none)) c.toList :=
  ⟨fun j u hj => ⟨b, 0, rfl, by rw [Nat.zero_add, cell_block h]; simpa using hj⟩, h1⟩
theorem Kp.fresh {M M' : Nat → Prop} {w w1 w2 : World} (h : Kp M w w1) (k : Kp M' w1 w2) (hm : ∀ i, i < w.heap.size → M' i → M i) : Kp M w w2 :=
  ⟨k.os.trans h.os, k.tape.trans h.tape, k.output.trans h.output, Nat.le_trans h.size k.size, fun i hi hn => (k.block i (Nat.lt_of_lt_of_le hi h.size) (fun e => hn (hm i hi e))).trans (h.block i hi hn)⟩
theorem bsp_mono {b : Bool} {X Y X' Y' : Prop} (h : bsp b X Y) (h1 : X → X') (h2 : Y → Y') : bsp b X' Y' := by cases b; exact h2 h; exact h1 h

end Go.Proofs.YtkkfnlehlkiejaaGreatDoor

/- What was read before a call reads behind it as it did, where the blocks that were there are as they were; the last step of a law. Generic: no program, no condition. -/
namespace Go.Proofs.YtkkfnlehlkiejaaGreatDoor
open Go.RowKit Go.WideShapes Go.ChangeShapes

theorem mapM_to {α β : Type} {f g : α → Option β} : ∀ (l : List α) (ys : List β), l.mapM f = some ys → (∀ x ∈ l, ∀ y ∈ ys, f x = some y → g x = some y) → l.mapM g = some ys
  | [], ys, h, _ => by simpa using h
  | a :: r, ys, h, hg => by
    rw [List.mapM_cons] at h ⊢
    cases hf : f a with
    | none => simp [hf] at h
    | some y =>
      cases hr : r.mapM f with
      | none => simp [hf, hr] at h
      | some zs =>
        simp [hf, hr] at h
        subst h
        have h1 := hg a (by simp) y (by simp) hf
        have h2 := mapM_to r zs hr (fun x hx z hz => hg x (by simp [hx]) z (by simp [hz]))
        simp [h1, h2]
theorem cell_kept {w w' : World} (hk : K0 w w') {a : Addr} {v : Value} (h : w.cell? a = some v) : w'.cell? a = some v := by
  have hb : a.block < w.heap.size := World.block_lt_of_cell? w a h
  have := hk.block a.block hb (fun h => h)
  rw [← h]
  unfold World.cell?
  rw [this]
theorem cells_kept {w w' : World} (hk : K0 w w') {base n : Nat} {a : Addr} {cs : List Value} (h : w.cells? base a n = some cs) : w'.cells? base a n = some cs := by
  unfold World.cells? at h ⊢
  split at h
  · rename_i hb
    rw [if_pos hb]
    exact mapM_to _ _ h (fun x _ y _ hx => cell_kept hk hx)
  · cases h
/-- A type of bounded depth in which the elements of slices have cells. -/
def posT (P : Program) : Nat → TypeId → Bool
  | 0, t => (match P.underlying t with
    | some (.pointer _) => false
    | some (.slice _) => false
    | some (.struct _) => false
    | some (.array _ _) => false
    | some (.map _ _) => false
    | _ => true)
  | d + 1, t => (match P.underlying t with
    | some (.pointer e) => posT P d e
    | some (.slice e) => Nat.blt 0 (P.cellsOf e) && posT P d e
    | some (.struct fs) => fs.toList.all fun f => posT P d f.type
    | some (.array _ e) => posT P d e
    | some (.map _ e) => posT P d e
    | _ => true)
theorem posT_pointer {P : Program} {d : Nat} {t e : TypeId} (h : posT P d t = true) (hu : P.underlying t = some (.pointer e)) : ∃ d', posT P d' e = true := by
  cases d with
  | zero => simp [posT, hu] at h
  | succ d => simp only [posT, hu] at h; exact ⟨d, h⟩
theorem posT_slice {P : Program} {d : Nat} {t e : TypeId} (h : posT P d t = true) (hu : P.underlying t = some (.slice e)) : 0 < P.cellsOf e ∧ ∃ d', posT P d' e = true := by
  cases d with
  | zero => simp [posT, hu] at h
  | succ d => simp only [posT, hu, Bool.and_eq_true] at h; exact ⟨by simpa using h.1, d, h.2⟩
theorem posT_struct {P : Program} {d : Nat} {t : TypeId} {fs : Array Field} (h : posT P d t = true) (hu : P.underlying t = some (.struct fs)) : ∃ d', ∀ f ∈ fs.toList, posT P d' f.type = true := by
  cases d with
  | zero => simp [posT, hu] at h
  | succ d => simp only [posT, hu] at h; exact ⟨d, fun f hf => List.all_eq_true.1 h f hf⟩
theorem posT_array {P : Program} {d n : Nat} {t e : TypeId} (h : posT P d t = true) (hu : P.underlying t = some (.array n e)) : ∃ d', posT P d' e = true := by
  cases d with
  | zero => simp [posT, hu] at h
  | succ d => simp only [posT, hu] at h; exact ⟨d, h⟩
theorem posT_map {P : Program} {d : Nat} {t k e : TypeId} (h : posT P d t = true) (hu : P.underlying t = some (.map k e)) : ∃ d', posT P d' e = true := by
  cases d with
  | zero => simp [posT, hu] at h
  | succ d => simp only [posT, hu] at h; exact ⟨d, h⟩
theorem trod_kept {H : Type} {enc : TypeId × Value → H} {P : Program} {w w' : World} (hk : K0 w w') {base : Nat} {sp : Nat → Bool} : ∀ (fuel : Nat) (t : TypeId) (d : Nat) (cs : List Value) (x : DataW H × List MemPlace), posT P d t = true →
    DataW.trod enc P w base (fun _ => true) true fuel t cs = some x → (∀ p ∈ x.2, sp p.block = true) → DataW.trod enc P w' base sp true fuel t cs = some x
  | 0, t, d, cs, x, _, h, _ => by simp [DataW.trod] at h
  | fuel + 1, t, d, cs, x, hd, h, hsp => by
    have ih := trod_kept (enc := enc) (P := P) hk (base := base) (sp := sp) fuel
    unfold DataW.trod at h ⊢
    split at h
    case h_6 e a hu =>
      cases hc : w.cells? base a (P.cellsOf e) with
      | none => rw [hc] at h; simp at h
      | some cs' =>
        rw [hc] at h
        simp only [Option.bind_some, Option.map_eq_some_iff] at h
        obtain ⟨y, hy, rfl⟩ := h
        rw [cells_kept hk hc]
        simp only [Option.bind_some]
        obtain ⟨d', hd'⟩ := posT_pointer hd hu
        rw [ih e d' cs' y hd' hy (fun p hp => hsp p (by simp [hp]))]
        rfl
    case h_8 e a len cap hu =>
      obtain ⟨hpos, d', hd'⟩ := posT_slice hd hu
      dsimp only at h ⊢
      split at h
      · rename_i hcond
        rw [if_pos hcond]
        cases he : (List.range len).mapM (fun i => (w.cells? base (a.add (i * P.cellsOf e)) (P.cellsOf e)).bind (DataW.trod enc P w base (fun _ => true) true fuel e)) with
        | none => rw [he] at h; simp at h
        | some elems =>
          rw [he] at h
          simp only [Option.bind_some, if_true, Option.map_eq_some_iff] at h
          obtain ⟨rest, hr, rfl⟩ := h
          have el : ∀ i y, y ∈ elems ++ rest → (w.cells? base (a.add (i * P.cellsOf e)) (P.cellsOf e)).bind (DataW.trod enc P w base (fun _ => true) true fuel e) = some y → (w'.cells? base (a.add (i * P.cellsOf e)) (P.cellsOf e)).bind (DataW.trod enc P w' base sp true fuel e) = some y := fun i y hy h => by
            cases hc : w.cells? base (a.add (i * P.cellsOf e)) (P.cellsOf e) with
            | none => rw [hc] at h; simp at h
            | some cs' =>
              rw [hc] at h
              simp only [Option.bind_some] at h
              rw [cells_kept hk hc]
              simp only [Option.bind_some]
              refine ih e d' cs' y hd' h (fun p hp => hsp p ?_)
              simp only [List.mem_append]
              right
              exact List.mem_flatMap.2 ⟨y, hy, hp⟩
          have hel := mapM_to (g := fun i => (w'.cells? base (a.add (i * P.cellsOf e)) (P.cellsOf e)).bind (DataW.trod enc P w' base sp true fuel e)) _ _ he (fun i _ y hy h => el i y (by simp [hy]) h)
          rw [hel]
          simp only [Option.bind_some, Option.map_eq_some_iff]
          have hlr : rest.length = cap - len := by simpa using mapM_some_length hr
          refine ⟨rest, ?_, rfl⟩
          split
          · exact mapM_to _ _ hr (fun j _ y hy h => el (len + j) y (by simp [hy]) h)
          · rename_i hns
            have : cap - len = 0 := by
              rcases Nat.eq_zero_or_pos (cap - len) with h0 | h0
              · exact h0
              · exfalso
                apply hns
                have hp := hpos
                refine hsp (.cell a.block (a.off + 0)) ?_
                simp only [List.mem_append]
                left
                unfold MemPlace.row
                refine List.mem_map.2 ⟨0, List.mem_range.2 ?_, rfl⟩
                rw [hlr]
                exact Nat.mul_pos (by omega) hp
            have : rest = [] := List.eq_nil_of_length_eq_zero (by omega)
            rw [this]
      · cases h
    case h_9 =>
      obtain ⟨d', hd'⟩ := posT_struct hd (by assumption)
      split at h
      · rename_i hl
        rw [if_pos hl]
        simp only [Option.map_eq_some_iff] at h ⊢
        obtain ⟨xs, hxs, rfl⟩ := h
        exact ⟨xs, mapM_to _ _ hxs (fun f hfm y hy hf => ih _ d' _ y (hd' f hfm) hf (fun p hp => hsp p (List.mem_flatMap.2 ⟨y, hy, hp⟩))), rfl⟩
      · cases h
    case h_10 =>
      obtain ⟨d', hd'⟩ := posT_array hd (by assumption)
      split at h
      · rename_i hl
        rw [if_pos hl]
        simp only [Option.map_eq_some_iff] at h ⊢
        obtain ⟨xs, hxs, rfl⟩ := h
        exact ⟨xs, mapM_to _ _ hxs (fun f _ y hy hf => ih _ d' _ y hd' hf (fun p hp => hsp p (List.mem_flatMap.2 ⟨y, hy, hp⟩))), rfl⟩
      · cases h
    case h_12 => exact h
    case h_14 =>
      rename_i k e b hu
      obtain ⟨d', hd'⟩ := posT_map hd hu
      split at h
      · rename_i es clock hes
        rw [hk.blk hes (fun h => h)]
        dsimp only
        split at h
        · rename_i hcond
          rw [if_pos hcond]
          cases hm : es.toList.mapM (fun x => (keyOf P k x.key).bind fun key => if x.val.formed P e then (DataW.trod enc P w base (fun _ => true) true fuel e x.val.cells.toList).map fun y => ((key, y.1), y.2) else none) with
          | none => rw [hm] at h; simp at h
          | some entries =>
            rw [hm] at h
            simp only [Option.bind_some] at h
            split at h
            · rename_i hrs
              simp only [Option.some.injEq] at h
              subst h
              have := mapM_to (g := fun x => (keyOf P k x.key).bind fun key => if x.val.formed P e then (DataW.trod enc P w' base sp true fuel e x.val.cells.toList).map fun y => ((key, y.1), y.2) else none) _ _ hm (fun z _ y hy hf => by
                cases hkz : keyOf P k z.key with
                | none => rw [hkz] at hf; simp at hf
                | some key =>
                  rw [hkz] at hf
                  simp only [Option.bind_some] at hf ⊢
                  split at hf
                  · rename_i hfm
                    rw [if_pos hfm]
                    simp only [Option.map_eq_some_iff] at hf ⊢
                    obtain ⟨y', hy', rfl⟩ := hf
                    exact ⟨y', ih _ d' _ y' hd' hy' (fun p hp => hsp p (List.mem_cons_of_mem _ (List.mem_flatMap.2 ⟨_, hy, hp⟩))), rfl⟩
                  · cases hf)
              rw [this]
              simp only [Option.bind_some]
              rw [if_pos hrs]
            · cases h
        · cases h
      · cases h
    all_goals exact h

theorem addr_add2 (b o i j : Nat) : ((⟨b, o, none⟩ : Addr).add i).add j = ⟨b, o + i + j, none⟩ := by
  unfold Addr.add
  by_cases hi : i = 0 <;> by_cases hj : j = 0 <;> simp [hi, hj]

end Go.Proofs.YtkkfnlehlkiejaaGreatDoor

/- The empty environment of pure functions. No condition. -/
namespace Go.Proofs.YtkkfnlehlkiejaaGreatDoor
def pur0 (_ : FuncId) (_ : List Value) : Option (Option Prop × Value) := none
theorem pur0_ok {l : List (Nat × List (Nat × Ck))} {t : List (Nat × Nat)} {j : List (Nat × List (Nat × Ck))} {b : List (Nat × Unit)} {r : List (Nat × TypeId)} : PurOK { P := Tryz.prog, loops := l, pur := pur0, tails := t, joins := j, boxes := b, rngs := r } := fun f args p v h => by simp [pur0] at h
end Go.Proofs.YtkkfnlehlkiejaaGreatDoor

/- The formulas of functions by the symbolic evaluator, and that each gives the call's contract. Written by a program (gen.py). No condition. -/
namespace Go.Proofs.YtkkfnlehlkiejaaGreatDoor
set_option maxRecDepth 100000
set_option linter.unusedVariables false

def VC_isLower (c : Int) (w : World) (R : Ending → World → Prop) : Prop :=
 R (Ending.returned (Value.bool (decide (c ≥ 97) && decide (c ≤ 122)))) w
theorem vc_isLower (c : Int) (w : World) (R : Ending → World → Prop) (h : VC_isLower c w R) : Calls Tryz.prog 125 ([Value.int
    IntKind.u8 c] : List Value).toArray w R := by
  have e : execR { P := Tryz.prog, loops := [], pur := pur0, tails := [], joins := [], boxes := [] } Tryz.f125.results.toList R (Tryz.f125.body.getD .skip) (initF [Value.int
    IntKind.u8
    c] (Tryz.f125.ntmps - ([Value.int IntKind.u8 c] : List Value).length)) w = VC_isLower c w R := by kernel_rfl
  have hb : Tryz.f125.body = some (Tryz.f125.body.getD .skip) := by kernel_rfl
  exact calls_of_exec' (P := Tryz.prog) (fn := Tryz.f125) (c := Tryz.f125.body.getD .skip) (args := [Value.int
    IntKind.u8 c]) (w := w) (R := R) pur0_ok Tryz.func125 hb e h

def VC_isDigit (c : Int) (w : World) (R : Ending → World → Prop) : Prop :=
 R (Ending.returned (Value.bool (decide (c ≥ 48) && decide (c ≤ 57)))) w
theorem vc_isDigit (c : Int) (w : World) (R : Ending → World → Prop) (h : VC_isDigit c w R) : Calls Tryz.prog 126 ([Value.int
    IntKind.u8 c] : List Value).toArray w R := by
  have e : execR { P := Tryz.prog, loops := [], pur := pur0, tails := [], joins := [], boxes := [] } Tryz.f126.results.toList R (Tryz.f126.body.getD .skip) (initF [Value.int
    IntKind.u8
    c] (Tryz.f126.ntmps - ([Value.int IntKind.u8 c] : List Value).length)) w = VC_isDigit c w R := by kernel_rfl
  have hb : Tryz.f126.body = some (Tryz.f126.body.getD .skip) := by kernel_rfl
  exact calls_of_exec' (P := Tryz.prog) (fn := Tryz.f126) (c := Tryz.f126.body.getD .skip) (args := [Value.int
    IntKind.u8 c]) (w := w) (R := R) pur0_ok Tryz.func126 hb e h

def VC_alnum (c : Int) (w : World) (R : Ending → World → Prop) : Prop :=
 bsp (decide (c ≥ 97) && decide (c ≤ 122)) (R (Ending.returned (Value.int IntKind.i64 1)) w)
 (bsp (decide (c ≥ 48) && decide (c ≤ 57)) (R (Ending.returned (Value.int IntKind.i64 2)) w)
 (R (Ending.returned (Value.int IntKind.i64 0)) w))
theorem vc_alnum (c : Int) (w : World) (R : Ending → World → Prop) (h : VC_alnum c w R) : Calls Tryz.prog 107 ([Value.int
    IntKind.u8 c] : List Value).toArray w R := by
  have e : execR { P := Tryz.prog, loops := [], pur := pur0, tails := [], joins := [], boxes := [] } Tryz.f107.results.toList R (Tryz.f107.body.getD .skip) (initF [Value.int
    IntKind.u8
    c] (Tryz.f107.ntmps - ([Value.int IntKind.u8 c] : List Value).length)) w = VC_alnum c w R := by kernel_rfl
  have hb : Tryz.f107.body = some (Tryz.f107.body.getD .skip) := by kernel_rfl
  exact calls_of_exec' (P := Tryz.prog) (fn := Tryz.f107) (c := Tryz.f107.body.getD .skip) (args := [Value.int
    IntKind.u8 c]) (w := w) (R := R) pur0_ok Tryz.func107 hb e h

def VC_char (c : Int) (w : World) (R : Ending → World → Prop) : Prop :=
 CallsS Tryz.prog 107 #[Value.int IntKind.u8 c] w fun (e : Ending) (w' : World) =>
 ∃ (x : Int),
 e = Ending.returned (Value.int IntKind.i64 x) ∧
 R (Ending.returned (Value.bool (decide (x > 0) || c == 43 || c == 45 || c == 95 || c == 46))) w'
theorem vc_char (c : Int) (w : World) (R : Ending → World → Prop) (h : VC_char c w R) : Calls Tryz.prog 88 ([Value.int
    IntKind.u8 c] : List Value).toArray w R := by
  have e : execR { P := Tryz.prog, loops := [], pur := pur0, tails := [], joins := [], boxes := [] } Tryz.f88.results.toList R (Tryz.f88.body.getD .skip) (initF [Value.int
    IntKind.u8 c] (Tryz.f88.ntmps - ([Value.int IntKind.u8 c] : List Value).length)) w = VC_char c w R := by kernel_rfl
  have hb : Tryz.f88.body = some (Tryz.f88.body.getD .skip) := by kernel_rfl
  exact calls_of_exec' (P := Tryz.prog) (fn := Tryz.f88) (c := Tryz.f88.body.getD .skip) (args := [Value.int IntKind.u8
    c]) (w := w) (R := R) pur0_ok Tryz.func88 hb e h

def VC_litChars (s : ByteArray) (w : World) (R : Ending → World → Prop) : Prop :=
 R (Ending.returned (Value.string s)) w
theorem vc_litChars (s : ByteArray) (w : World) (R : Ending → World → Prop) (h : VC_litChars s w R) : Calls Tryz.prog 161 ([Value.string
    s] : List Value).toArray w R := by
  have e : execR { P := Tryz.prog, loops := [], pur := pur0, tails := [], joins := [], boxes := [] } Tryz.f161.results.toList R (Tryz.f161.body.getD .skip) (initF [Value.string
    s] (Tryz.f161.ntmps - ([Value.string s] : List Value).length)) w = VC_litChars s w R := by kernel_rfl
  have hb : Tryz.f161.body = some (Tryz.f161.body.getD .skip) := by kernel_rfl
  exact calls_of_exec' (P := Tryz.prog) (fn := Tryz.f161) (c := Tryz.f161.body.getD .skip) (args := [Value.string
    s]) (w := w) (R := R) pur0_ok Tryz.func161 hb e h

def VC_classChars (s : ByteArray) (w : World) (R : Ending → World → Prop) : Prop :=
 R (Ending.returned (Value.string s)) w
theorem vc_classChars (s : ByteArray) (w : World) (R : Ending → World → Prop) (h : VC_classChars s w R) : Calls Tryz.prog 160 ([Value.string
    s] : List Value).toArray w R := by
  have e : execR { P := Tryz.prog, loops := [], pur := pur0, tails := [], joins := [], boxes := [] } Tryz.f160.results.toList R (Tryz.f160.body.getD .skip) (initF [Value.string
    s] (Tryz.f160.ntmps - ([Value.string s] : List Value).length)) w = VC_classChars s w R := by kernel_rfl
  have hb : Tryz.f160.body = some (Tryz.f160.body.getD .skip) := by kernel_rfl
  exact calls_of_exec' (P := Tryz.prog) (fn := Tryz.f160) (c := Tryz.f160.body.getD .skip) (args := [Value.string
    s]) (w := w) (R := R) pur0_ok Tryz.func160 hb e h

def VC_singleChars (w : World) (R : Ending → World → Prop) : Prop :=
 ∀ (n : Nat) (w1 : World),
 NewB w (Obj.cells #[] 151) n w1 →
 R
 (Ending.returned
 (Value.string
 (ByteArray.mk
 #[43, 45, 46, 48, 49, 50, 51, 52, 53, 54, 55, 56, 57, 95, 97, 98, 99, 100, 101, 102, 103, 104, 105, 106, 107, 108,
 109, 110, 111, 112, 113, 114, 115, 116, 117, 118, 119, 120, 121, 122])))
 w1
theorem vc_singleChars (w : World) (R : Ending → World → Prop) (h : VC_singleChars w R) : Calls Tryz.prog 158 ([Value.agg
    #[]] : List Value).toArray w R := by
  have e : execR { P := Tryz.prog, loops := [], pur := pur0, tails := [], joins := [], boxes := [] } Tryz.f158.results.toList R (Tryz.f158.body.getD .skip) (initF [Value.agg
    #[]] (Tryz.f158.ntmps - ([Value.agg #[]] : List Value).length)) w = VC_singleChars w R := by kernel_rfl
  have hb : Tryz.f158.body = some (Tryz.f158.body.getD .skip) := by kernel_rfl
  exact calls_of_exec' (P := Tryz.prog) (fn := Tryz.f158) (c := Tryz.f158.body.getD .skip) (args := [Value.agg
    #[]]) (w := w) (R := R) pur0_ok Tryz.func158 hb e h

def VC_starChars (w : World) (R : Ending → World → Prop) : Prop :=
 ∀ (n : Nat) (w1 : World),
 NewB w (Obj.cells #[] 152) n w1 →
 R
 (Ending.returned
 (Value.string
 (ByteArray.mk
 #[43, 45, 46, 48, 49, 50, 51, 52, 53, 54, 55, 56, 57, 95, 97, 98, 99, 100, 101, 102, 103, 104, 105, 106, 107, 108,
 109, 110, 111, 112, 113, 114, 115, 116, 117, 118, 119, 120, 121, 122])))
 w1
theorem vc_starChars (w : World) (R : Ending → World → Prop) (h : VC_starChars w R) : Calls Tryz.prog 159 ([Value.agg
    #[]] : List Value).toArray w R := by
  have e : execR { P := Tryz.prog, loops := [], pur := pur0, tails := [], joins := [], boxes := [] } Tryz.f159.results.toList R (Tryz.f159.body.getD .skip) (initF [Value.agg
    #[]] (Tryz.f159.ntmps - ([Value.agg #[]] : List Value).length)) w = VC_starChars w R := by kernel_rfl
  have hb : Tryz.f159.body = some (Tryz.f159.body.getD .skip) := by kernel_rfl
  exact calls_of_exec' (P := Tryz.prog) (fn := Tryz.f159) (c := Tryz.f159.body.getD .skip) (args := [Value.agg
    #[]]) (w := w) (R := R) pur0_ok Tryz.func159 hb e h

def VC_isStarL (s : ByteArray) (w : World) (R : Ending → World → Prop) : Prop :=
 ∀ (n : Nat) (w1 : World),
 NewB w (Obj.cells #[] 152) n w1 →
 True ∧ ∀ (w1_1 : World), PutB w1 n 0 [] w1_1 → R (Ending.returned (Value.bool false)) w1_1
theorem vc_isStarL (s : ByteArray) (w : World) (R : Ending → World → Prop) (h : VC_isStarL s w R) : Calls Tryz.prog 92 ([Value.iface
    157 (Value.string s)] : List Value).toArray w R := by
  have e : execR { P := Tryz.prog, loops := [], pur := pur0, tails := [], joins := [], boxes := [] } Tryz.f92.results.toList R (Tryz.f92.body.getD .skip) (initF [Value.iface
    157
    (Value.string
      s)] (Tryz.f92.ntmps - ([Value.iface 157
    (Value.string s)] : List Value).length)) w = VC_isStarL s w R := by kernel_rfl
  have hb : Tryz.f92.body = some (Tryz.f92.body.getD .skip) := by kernel_rfl
  exact calls_of_exec' (P := Tryz.prog) (fn := Tryz.f92) (c := Tryz.f92.body.getD .skip) (args := [Value.iface 157
    (Value.string s)]) (w := w) (R := R) pur0_ok Tryz.func92 hb e h

def VC_isStarC (s : ByteArray) (w : World) (R : Ending → World → Prop) : Prop :=
 ∀ (n : Nat) (w1 : World),
 NewB w (Obj.cells #[] 152) n w1 →
 True ∧ ∀ (w1_1 : World), PutB w1 n 0 [] w1_1 → R (Ending.returned (Value.bool false)) w1_1
theorem vc_isStarC (s : ByteArray) (w : World) (R : Ending → World → Prop) (h : VC_isStarC s w R) : Calls Tryz.prog 92 ([Value.iface
    153 (Value.string s)] : List Value).toArray w R := by
  have e : execR { P := Tryz.prog, loops := [], pur := pur0, tails := [], joins := [], boxes := [] } Tryz.f92.results.toList R (Tryz.f92.body.getD .skip) (initF [Value.iface
    153
    (Value.string
      s)] (Tryz.f92.ntmps - ([Value.iface 153
    (Value.string s)] : List Value).length)) w = VC_isStarC s w R := by kernel_rfl
  have hb : Tryz.f92.body = some (Tryz.f92.body.getD .skip) := by kernel_rfl
  exact calls_of_exec' (P := Tryz.prog) (fn := Tryz.f92) (c := Tryz.f92.body.getD .skip) (args := [Value.iface 153
    (Value.string s)]) (w := w) (R := R) pur0_ok Tryz.func92 hb e h

def VC_isStarQ (w : World) (R : Ending → World → Prop) : Prop :=
 ∀ (n : Nat) (w1 : World),
 NewB w (Obj.cells #[] 152) n w1 →
 True ∧ ∀ (w1_1 : World), PutB w1 n 0 [] w1_1 → R (Ending.returned (Value.bool false)) w1_1
theorem vc_isStarQ (w : World) (R : Ending → World → Prop) (h : VC_isStarQ w R) : Calls Tryz.prog 92 ([Value.iface 151
    (Value.agg #[])] : List Value).toArray w R := by
  have e : execR { P := Tryz.prog, loops := [], pur := pur0, tails := [], joins := [], boxes := [] } Tryz.f92.results.toList R (Tryz.f92.body.getD .skip) (initF [Value.iface
    151
    (Value.agg
      #[])] (Tryz.f92.ntmps - ([Value.iface 151
    (Value.agg #[])] : List Value).length)) w = VC_isStarQ w R := by kernel_rfl
  have hb : Tryz.f92.body = some (Tryz.f92.body.getD .skip) := by kernel_rfl
  exact calls_of_exec' (P := Tryz.prog) (fn := Tryz.f92) (c := Tryz.f92.body.getD .skip) (args := [Value.iface 151
    (Value.agg #[])]) (w := w) (R := R) pur0_ok Tryz.func92 hb e h

def VC_isStarS (w : World) (R : Ending → World → Prop) : Prop :=
 ∀ (n : Nat) (w1 : World),
 NewB w (Obj.cells #[] 152) n w1 →
 True ∧ ∀ (w1_1 : World), PutB w1 n 0 [] w1_1 → R (Ending.returned (Value.bool true)) w1_1
theorem vc_isStarS (w : World) (R : Ending → World → Prop) (h : VC_isStarS w R) : Calls Tryz.prog 92 ([Value.iface 152
    (Value.agg #[])] : List Value).toArray w R := by
  have e : execR { P := Tryz.prog, loops := [], pur := pur0, tails := [], joins := [], boxes := [] } Tryz.f92.results.toList R (Tryz.f92.body.getD .skip) (initF [Value.iface
    152
    (Value.agg
      #[])] (Tryz.f92.ntmps - ([Value.iface 152
    (Value.agg #[])] : List Value).length)) w = VC_isStarS w R := by kernel_rfl
  have hb : Tryz.f92.body = some (Tryz.f92.body.getD .skip) := by kernel_rfl
  exact calls_of_exec' (P := Tryz.prog) (fn := Tryz.f92) (c := Tryz.f92.body.getD .skip) (args := [Value.iface 152
    (Value.agg #[])]) (w := w) (R := R) pur0_ok Tryz.func92 hb e h

def VC_standsL (s : ByteArray) (c : Int) (w : World) (R : Ending → World → Prop) : Prop :=
 CallsS Tryz.prog 161 #[Value.string s] w fun (e : Ending) (w' : World) =>
 ∃ (x : ByteArray),
 e = Ending.returned (Value.string x) ∧
 CallsS Tryz.prog 87 #[Value.string x, Value.int IntKind.u8 c] w' fun (e : Ending) (w' : World) =>
 ∃ (x : Int), e = Ending.returned (Value.int IntKind.i64 x) ∧ R (Ending.returned (Value.bool (decide (x ≥ 0)))) w'
theorem vc_standsL (s : ByteArray) (c : Int) (w : World) (R : Ending → World → Prop) (h : VC_standsL s c w R) : Calls Tryz.prog 91 ([Value.iface
    157 (Value.string s),
  Value.int IntKind.u8 c] : List Value).toArray w R := by
  have e : execR { P := Tryz.prog, loops := [], pur := pur0, tails := [], joins := [], boxes := [] } Tryz.f91.results.toList R (Tryz.f91.body.getD .skip) (initF [Value.iface
    157 (Value.string s),
  Value.int IntKind.u8
    c] (Tryz.f91.ntmps - ([Value.iface 157 (Value.string s),
  Value.int IntKind.u8 c] : List Value).length)) w = VC_standsL s c w R := by kernel_rfl
  have hb : Tryz.f91.body = some (Tryz.f91.body.getD .skip) := by kernel_rfl
  exact calls_of_exec' (P := Tryz.prog) (fn := Tryz.f91) (c := Tryz.f91.body.getD .skip) (args := [Value.iface 157
    (Value.string s),
  Value.int IntKind.u8 c]) (w := w) (R := R) pur0_ok Tryz.func91 hb e h

def VC_standsC (s : ByteArray) (c : Int) (w : World) (R : Ending → World → Prop) : Prop :=
 CallsS Tryz.prog 160 #[Value.string s] w fun (e : Ending) (w' : World) =>
 ∃ (x : ByteArray),
 e = Ending.returned (Value.string x) ∧
 CallsS Tryz.prog 87 #[Value.string x, Value.int IntKind.u8 c] w' fun (e : Ending) (w' : World) =>
 ∃ (x : Int), e = Ending.returned (Value.int IntKind.i64 x) ∧ R (Ending.returned (Value.bool (decide (x ≥ 0)))) w'
theorem vc_standsC (s : ByteArray) (c : Int) (w : World) (R : Ending → World → Prop) (h : VC_standsC s c w R) : Calls Tryz.prog 91 ([Value.iface
    153 (Value.string s),
  Value.int IntKind.u8 c] : List Value).toArray w R := by
  have e : execR { P := Tryz.prog, loops := [], pur := pur0, tails := [], joins := [], boxes := [] } Tryz.f91.results.toList R (Tryz.f91.body.getD .skip) (initF [Value.iface
    153 (Value.string s),
  Value.int IntKind.u8
    c] (Tryz.f91.ntmps - ([Value.iface 153 (Value.string s),
  Value.int IntKind.u8 c] : List Value).length)) w = VC_standsC s c w R := by kernel_rfl
  have hb : Tryz.f91.body = some (Tryz.f91.body.getD .skip) := by kernel_rfl
  exact calls_of_exec' (P := Tryz.prog) (fn := Tryz.f91) (c := Tryz.f91.body.getD .skip) (args := [Value.iface 153
    (Value.string s),
  Value.int IntKind.u8 c]) (w := w) (R := R) pur0_ok Tryz.func91 hb e h

def VC_standsQ (c : Int) (w : World) (R : Ending → World → Prop) : Prop :=
 CallsS Tryz.prog 158 #[Value.agg #[]] w fun (e : Ending) (w' : World) =>
 ∃ (x : ByteArray),
 e = Ending.returned (Value.string x) ∧
 CallsS Tryz.prog 87 #[Value.string x, Value.int IntKind.u8 c] w' fun (e : Ending) (w' : World) =>
 ∃ (x : Int), e = Ending.returned (Value.int IntKind.i64 x) ∧ R (Ending.returned (Value.bool (decide (x ≥ 0)))) w'
theorem vc_standsQ (c : Int) (w : World) (R : Ending → World → Prop) (h : VC_standsQ c w R) : Calls Tryz.prog 91 ([Value.iface
    151 (Value.agg #[]),
  Value.int IntKind.u8 c] : List Value).toArray w R := by
  have e : execR { P := Tryz.prog, loops := [], pur := pur0, tails := [], joins := [], boxes := [] } Tryz.f91.results.toList R (Tryz.f91.body.getD .skip) (initF [Value.iface
    151 (Value.agg #[]),
  Value.int IntKind.u8
    c] (Tryz.f91.ntmps - ([Value.iface 151 (Value.agg #[]),
  Value.int IntKind.u8 c] : List Value).length)) w = VC_standsQ c w R := by kernel_rfl
  have hb : Tryz.f91.body = some (Tryz.f91.body.getD .skip) := by kernel_rfl
  exact calls_of_exec' (P := Tryz.prog) (fn := Tryz.f91) (c := Tryz.f91.body.getD .skip) (args := [Value.iface 151
    (Value.agg #[]),
  Value.int IntKind.u8 c]) (w := w) (R := R) pur0_ok Tryz.func91 hb e h

def VC_standsS (c : Int) (w : World) (R : Ending → World → Prop) : Prop :=
 CallsS Tryz.prog 159 #[Value.agg #[]] w fun (e : Ending) (w' : World) =>
 ∃ (x : ByteArray),
 e = Ending.returned (Value.string x) ∧
 CallsS Tryz.prog 87 #[Value.string x, Value.int IntKind.u8 c] w' fun (e : Ending) (w' : World) =>
 ∃ (x : Int), e = Ending.returned (Value.int IntKind.i64 x) ∧ R (Ending.returned (Value.bool (decide (x ≥ 0)))) w'
theorem vc_standsS (c : Int) (w : World) (R : Ending → World → Prop) (h : VC_standsS c w R) : Calls Tryz.prog 91 ([Value.iface
    152 (Value.agg #[]),
  Value.int IntKind.u8 c] : List Value).toArray w R := by
  have e : execR { P := Tryz.prog, loops := [], pur := pur0, tails := [], joins := [], boxes := [] } Tryz.f91.results.toList R (Tryz.f91.body.getD .skip) (initF [Value.iface
    152 (Value.agg #[]),
  Value.int IntKind.u8
    c] (Tryz.f91.ntmps - ([Value.iface 152 (Value.agg #[]),
  Value.int IntKind.u8 c] : List Value).length)) w = VC_standsS c w R := by kernel_rfl
  have hb : Tryz.f91.body = some (Tryz.f91.body.getD .skip) := by kernel_rfl
  exact calls_of_exec' (P := Tryz.prog) (fn := Tryz.f91) (c := Tryz.f91.body.getD .skip) (args := [Value.iface 152
    (Value.agg #[]),
  Value.int IntKind.u8 c]) (w := w) (R := R) pur0_ok Tryz.func91 hb e h

end Go.Proofs.YtkkfnlehlkiejaaGreatDoor

/- Plain tests of bytes. No program in sight. -/
namespace Go.Proofs.YtkkfnlehlkiejaaGreatDoor
open Go.RowKit

def lowerB (c : Int) : Bool := decide (97 ≤ c) && decide (c ≤ 122)
def digitB (c : Int) : Bool := decide (48 ≤ c) && decide (c ≤ 57)
def alnumI (c : Int) : Int := if lowerB c = true then 1 else if digitB c = true then 2 else 0
def charB (c : Int) : Bool := lowerB c || digitB c || c == 43 || c == 45 || c == 95 || c == 46
def hasB (s : ByteArray) (c : Int) : Bool := s.data.toList.contains c.toNat.toUInt8
theorem indexByte_nonneg (l : List UInt8) (c : UInt8) : decide (0 ≤ Lib.indexByte l c) = l.contains c := by
  induction l with
  | nil => rfl
  | cons b r ih =>
    have hb : Lib.indexByte (b :: r) c = if b == c then 0 else if Lib.indexByte r c == -1 then -1 else Lib.indexByte r c + 1 := rfl
    rw [hb, List.contains_cons]
    by_cases h : b = c
    · subst h; simp
    · have h1 : (b == c) = false := by simpa using h
      have h2 : (c == b) = false := by simpa using fun e => h e.symm
      rw [h1, h2]
      simp only [Bool.false_or]
      rw [← ih]
      have hge : -1 ≤ Lib.indexByte r c := by
        clear ih hb
        induction r with
        | nil => exact Int.le_refl _
        | cons x r ih => 
          have hx : Lib.indexByte (x :: r) c = if x == c then 0 else if Lib.indexByte r c == -1 then -1 else Lib.indexByte r c + 1 := rfl
          rw [hx]; split
          · decide
          · split
            · decide
            · omega
      by_cases h3 : Lib.indexByte r c = -1
      · simp [h3]
      · have : (Lib.indexByte r c == -1) = false := by simpa using h3
        rw [this]
        apply decide_eq_decide.2
        simp only [Bool.false_eq_true, if_false]
        omega

end Go.Proofs.YtkkfnlehlkiejaaGreatDoor

/-
  DERIVED: THE SHELF's CONTRACTS AT THIS DUMP, IN PLAIN WORDS (tools/lay-plain.mjs out of 'TryzShelf.lean', which tools/lay-shelf.mjs wrote): THE SAME DECLARATIONS UNDER THE SAME NAMES: 'import', 'namespace', 'open', 'def', 'theorem' AND NOTHING ELSE: no command of the shelf's: FOR A HAND-IN. Each laying: the table of numbers ('.._ren') and one theorem, a field a fact of the dump's own or the kernel's comparison; each contract: ONE APPLICATION.
-/
namespace Go.Proofs
open Go.Shelf
def Tryz.lays137_ren : Go.Shelf.Ren := ⟨fun | 137 => 87 | 217 => 106 | 266 => 127 | n => n, fun | 9 => 9 | 5 => 5 | 3 => 3 | n => n, fun | n => n⟩
theorem Tryz.lays137 : Go.Proofs.Lays.n137 Tryz.prog Tryz.lays137_ren := {
  mixed := by kernel_rfl
  f137 := Tryz.func87.trans (congrArg some (by kernel_rfl))
  f217 := Tryz.func106.trans (congrArg some (by kernel_rfl))
  f266 := Tryz.func127.trans (congrArg some (by kernel_rfl))
  t3 := Tryz.underlying3
  a3 := Tryz.isAgg3
  z3 := Tryz.sizeOf3
  v3 := Tryz.zeroValue3
  t5 := Tryz.underlying5
  a5 := Tryz.isAgg5
  z5 := Tryz.sizeOf5
  v5 := Tryz.zeroValue5
  t9 := Tryz.underlying9
  a9 := Tryz.isAgg9
  z9 := Tryz.sizeOf9
  v9 := Tryz.zeroValue9 }
open Go.RowKit in
/-- strings.IndexByte: "IndexByte returns the index of the first instance of c in s, or -1 if c is not present in s.": IT RETURNS 'Lib.indexByte s c'; the world is as it was. (LAID: no walk: one application.) -/
theorem Tryz.strings_IndexByte (s : ByteArray) (c : Int) (w : World) :
    Calls Tryz.prog 87 #[.string s, .int .u8 c] w fun e w' => e = .returned (.int .i64 (Lib.indexByte s.data.toList c.toNat.toUInt8)) ∧ w' = w := Any.strings_IndexByte Tryz.lays137 s c w
def Tryz.lays122_ren : Go.Shelf.Ren := ⟨fun | 122 => 96 | 215 => 118 | n => n, fun | 3 => 3 | 4 => 4 | n => n, fun | n => n⟩
theorem Tryz.lays122 : Go.Proofs.Lays.n122 Tryz.prog Tryz.lays122_ren := {
  mixed := by kernel_rfl
  f122 := Tryz.func96.trans (congrArg some (by kernel_rfl))
  f215 := Tryz.func118.trans (congrArg some (by kernel_rfl))
  t3 := Tryz.underlying3
  a3 := Tryz.isAgg3
  z3 := Tryz.sizeOf3
  v3 := Tryz.zeroValue3
  t4 := Tryz.underlying4
  a4 := Tryz.isAgg4
  z4 := Tryz.sizeOf4
  v4 := Tryz.zeroValue4 }
open Go.RowKit in
/-- cmp.Compare at int: "Compare returns -1 if x is less than y, 0 if x equals y, +1 if x is greater than y.": IT RETURNS 'Lib.compareInt x y'; the world is as it was. (LAID: no walk: one application.) -/
theorem Tryz.cmp_Compare_int (x y : Int) (w : World) :
    Calls Tryz.prog 96 #[.int .i64 x, .int .i64 y] w fun e w' => e = .returned (.int .i64 (Lib.compareInt x y)) ∧ w' = w := Any.cmp_Compare_int Tryz.lays122 x y w
def Tryz.lays99_ren : Go.Shelf.Ren := ⟨fun | 99 => 60 | 206 => 85 | n => n, fun | 9 => 9 | 4 => 4 | 3 => 3 | n => n, fun | n => n⟩
theorem Tryz.lays99 : Go.Proofs.Lays.n99 Tryz.prog Tryz.lays99_ren := {
  mixed := by kernel_rfl
  f99 := Tryz.func60.trans (congrArg some (by kernel_rfl))
  f206 := Tryz.func85.trans (congrArg some (by kernel_rfl))
  t3 := Tryz.underlying3
  a3 := Tryz.isAgg3
  z3 := Tryz.sizeOf3
  v3 := Tryz.zeroValue3
  t4 := Tryz.underlying4
  a4 := Tryz.isAgg4
  z4 := Tryz.sizeOf4
  v4 := Tryz.zeroValue4
  t9 := Tryz.underlying9
  a9 := Tryz.isAgg9
  z9 := Tryz.sizeOf9
  v9 := Tryz.zeroValue9 }
open Go.RowKit Go.Lib in
/-- strings.HasPrefix: "HasPrefix reports whether the string s begins with prefix.": IT RETURNS 'Lib.hasPrefix s prefix'; the world is as it was. (LAID: no walk: one application.) -/
theorem Tryz.strings_HasPrefix (s p : ByteArray) (w : World) :
    Calls Tryz.prog 60 #[.string s, .string p] w fun e w' => e = .returned (.bool (Lib.hasPrefix s.data.toList p.data.toList)) ∧ w' = w := Any.strings_HasPrefix Tryz.lays99 s p w
def Tryz.lays146_ren : Go.Shelf.Ren := ⟨fun | 146 => 59 | 221 => 84 | 268 => 102 | 138 => 103 | 143 => 104 | 195 => 121 | 197 => 122 | 218 => 123 | 219 => 124 | 260 => 134 | 217 => 106 | 225 => 135 | 224 => 136 | 267 => 137 | 266 => 127 | 314 => 139 | n => n, fun | 9 => 9 | 31 => 78 | 3 => 3 | 4 => 4 | 0 => 0 | 105 => 199 | 21 => 21 | 5 => 5 | 46 => 172 | 119 => 211 | 139 => 214 | 138 => 213 | 146 => 215 | 51 => 193 | n => n, fun | 1 => 0 | 3 => 1 | 4 => 2 | n => n⟩
theorem Tryz.lays146 : Go.Proofs.Lays.n146 Tryz.prog Tryz.lays146_ren := {
  mixed := by kernel_rfl
  f138 := Tryz.func103.trans (congrArg some (by kernel_rfl))
  f143 := Tryz.func104.trans (congrArg some (by kernel_rfl))
  f146 := Tryz.func59.trans (congrArg some (by kernel_rfl))
  f195 := Tryz.func121.trans (congrArg some (by kernel_rfl))
  f197 := Tryz.func122.trans (congrArg some (by kernel_rfl))
  f217 := Tryz.func106.trans (congrArg some (by kernel_rfl))
  f218 := Tryz.func123.trans (congrArg some (by kernel_rfl))
  f219 := Tryz.func124.trans (congrArg some (by kernel_rfl))
  f221 := Tryz.func84.trans (congrArg some (by kernel_rfl))
  f224 := Tryz.func136.trans (congrArg some (by kernel_rfl))
  f225 := Tryz.func135.trans (congrArg some (by kernel_rfl))
  f260 := Tryz.func134.trans (congrArg some (by kernel_rfl))
  f266 := Tryz.func127.trans (congrArg some (by kernel_rfl))
  f267 := Tryz.func137.trans (congrArg some (by kernel_rfl))
  f268 := Tryz.func102.trans (congrArg some (by kernel_rfl))
  f314 := Tryz.func139.trans (congrArg some (by kernel_rfl))
  t0 := Tryz.underlying0
  a0 := Tryz.isAgg0
  z0 := Tryz.sizeOf0
  v0 := Tryz.zeroValue0
  t3 := Tryz.underlying3
  a3 := Tryz.isAgg3
  z3 := Tryz.sizeOf3
  v3 := Tryz.zeroValue3
  t4 := Tryz.underlying4
  a4 := Tryz.isAgg4
  z4 := Tryz.sizeOf4
  v4 := Tryz.zeroValue4
  t5 := Tryz.underlying5
  a5 := Tryz.isAgg5
  z5 := Tryz.sizeOf5
  v5 := Tryz.zeroValue5
  t9 := Tryz.underlying9
  a9 := Tryz.isAgg9
  z9 := Tryz.sizeOf9
  v9 := Tryz.zeroValue9
  t21 := Tryz.underlying21
  a21 := Tryz.isAgg21
  z21 := Tryz.sizeOf21
  v21 := Tryz.zeroValue21
  t31 := Tryz.underlying78
  a31 := Tryz.isAgg78
  z31 := Tryz.sizeOf78
  v31 := Tryz.zeroValue78
  t46 := Tryz.underlying172
  a46 := Tryz.isAgg172
  z46 := Tryz.sizeOf172
  v46 := Tryz.zeroValue172
  t51 := Tryz.underlying193
  a51 := Tryz.isAgg193
  z51 := Tryz.sizeOf193
  v51 := Tryz.zeroValue193
  t105 := Tryz.underlying199
  a105 := Tryz.isAgg199
  z105 := Tryz.sizeOf199
  v105 := Tryz.zeroValue199
  t119 := Tryz.underlying211
  a119 := Tryz.isAgg211
  z119 := Tryz.sizeOf211
  t138 := Tryz.underlying213
  a138 := Tryz.isAgg213
  z138 := Tryz.sizeOf213
  v138 := Tryz.zeroValue213
  t139 := Tryz.underlying214
  a139 := Tryz.isAgg214
  z139 := Tryz.sizeOf214
  v139 := Tryz.zeroValue214
  t146 := Tryz.underlying215
  a146 := Tryz.isAgg215
  z146 := Tryz.sizeOf215
  v146 := Tryz.zeroValue215
  g1 := by kernel_rfl
  g3 := by kernel_rfl
  g4 := by kernel_rfl }
open Go.RowKit Go.Lib in
/-- strings.Split. (LAID: no walk: one application.) -/
theorem Tryz.strings_Split (s sep : ByteArray) (m : Int) (w : World) (hs : s.size < 4294967281) (hm : w.cell? ⟨0, 0, none⟩ = some (.int .i64 m)) (h1 : 1 ≤ sep.size) :
    Calls Tryz.prog 59 #[.string s, .string sep] w fun e w' =>
      e = .returned (.slice (some ⟨w.heap.size, 0, none⟩) (Lib.countB s sep + 1) (Lib.countB s sep + 1)) ∧ w' = w.alloc (.cells ((Lib.splitB sep 0 (Lib.countB s sep) s).map Value.string).toArray 9) := Any.strings_Split Tryz.lays146 (by kernel_rfl) s sep m w hs hm h1
end Go.Proofs

/- Functions without an effect (IsLower, IsDigit, isPermitted, alnum, Char, IndexByte, HasPrefix), and isStar, stands,, by plain functions. No condition. -/
namespace Go.Proofs.YtkkfnlehlkiejaaGreatDoor
open Go.RowKit

theorem isLower_any (c : Int) (w : World) : Calls Tryz.prog 125 #[.int .u8 c] w fun e w' => e = .returned (.bool (lowerB c)) ∧ w' = w := vc_isLower c w _ ⟨rfl, rfl⟩
theorem isDigit_any (c : Int) (w : World) : Calls Tryz.prog 126 #[.int .u8 c] w fun e w' => e = .returned (.bool (digitB c)) ∧ w' = w := vc_isDigit c w _ ⟨rfl, rfl⟩
theorem alnum_any (c : Int) (w : World) : Calls Tryz.prog 107 #[.int .u8 c] w fun e w' => e = .returned (.int .i64 (alnumI c)) ∧ w' = w := by
  refine vc_alnum c w _ (bsp_intro (fun h => ?_) fun h => bsp_intro (fun h1 => ?_) fun h1 => ?_)
  · have h : lowerB c = true := h
    exact ⟨by simp [alnumI, h], rfl⟩
  · have h : lowerB c = false := h
    have h1 : digitB c = true := h1
    exact ⟨by simp [alnumI, h, h1], rfl⟩
  · have h : lowerB c = false := h
    have h1 : digitB c = false := h1
    exact ⟨by simp [alnumI, h, h1], rfl⟩
theorem alnumI_pos (c : Int) : decide (alnumI c > 0) = (lowerB c || digitB c) := by
  unfold alnumI; cases lowerB c <;> cases digitB c <;> simp
theorem char_any (c : Int) (w : World) : Calls Tryz.prog 88 #[.int .u8 c] w fun e w' => e = .returned (.bool (charB c)) ∧ w' = w := by
  refine vc_char c w _ ⟨(alnum_any c w).mono fun e w' ⟨he, hw⟩ => ⟨_, he, ?_, hw⟩⟩
  rw [alnumI_pos]
  simp [charB]

/-- An element of a pattern. -/
inductive El where
  | lit (s : ByteArray)
  | one
  | star
  | cls (s : ByteArray)
/-- '+-.0123456789_abcdefghijklmnopqrstuvwxyz'. -/
def nameBytes : ByteArray := ⟨#[43, 45, 46, 48, 49, 50, 51, 52, 53, 54, 55, 56, 57, 95, 97, 98, 99, 100, 101, 102, 103, 104, 105, 106, 107, 108, 109, 110, 111, 112, 113, 114, 115, 116, 117, 118, 119, 120, 121, 122]⟩
def El.val : El → Value
  | .lit s => .iface 157 (.string s)
  | .one => .iface 151 (.agg #[])
  | .star => .iface 152 (.agg #[])
  | .cls s => .iface 153 (.string s)
def El.chars : El → ByteArray
  | .lit s => s
  | .one => nameBytes
  | .star => nameBytes
  | .cls s => s
def El.isStar : El → Bool
  | .star => true
  | _ => false
theorem indexByte_any (s : ByteArray) (c : Int) (w : World) : Calls Tryz.prog 87 #[.string s, .int .u8 c] w fun e w' => e = .returned (.int .i64 (Lib.indexByte s.data.toList c.toNat.toUInt8)) ∧ w' = w := Tryz.strings_IndexByte s c w
theorem isStar_any (x : El) (w : World) : Calls Tryz.prog 92 #[x.val] w fun e w' => e = .returned (.bool x.isStar) ∧ K0 w w' := by
  cases x with
  | lit s => exact vc_isStarL s w _ fun n w1 hn => ⟨trivial, fun w2 hp => ⟨rfl, (hn.kp _).trans (by rw [hp.hw]; exact .refl _ _)⟩⟩
  | cls s => exact vc_isStarC s w _ fun n w1 hn => ⟨trivial, fun w2 hp => ⟨rfl, (hn.kp _).trans (by rw [hp.hw]; exact .refl _ _)⟩⟩
  | one => exact vc_isStarQ w _ fun n w1 hn => ⟨trivial, fun w2 hp => ⟨rfl, (hn.kp _).trans (by rw [hp.hw]; exact .refl _ _)⟩⟩
  | star => exact vc_isStarS w _ fun n w1 hn => ⟨trivial, fun w2 hp => ⟨rfl, (hn.kp _).trans (by rw [hp.hw]; exact .refl _ _)⟩⟩
theorem stands_any (x : El) (c : Int) (w : World) : Calls Tryz.prog 91 #[x.val, .int .u8 c] w fun e w' => e = .returned (.bool (hasB x.chars c)) ∧ K0 w w' := by
  have key : ∀ (s : ByteArray) (w1 : World), K0 w w1 → CallsS Tryz.prog 87 #[.string s, .int .u8 c] w1 fun e w' => ∃ x : Int, e = .returned (.int .i64 x) ∧ (Ending.returned (.bool (decide (x ≥ 0))) = .returned (.bool (hasB s c)) ∧ K0 w w') := fun s w1 h1 =>
    ⟨(indexByte_any s c w1).mono fun e w' ⟨he, hw⟩ => ⟨_, he, by rw [show decide (Lib.indexByte s.data.toList c.toNat.toUInt8 ≥ 0) = hasB s c from indexByte_nonneg _ _], hw ▸ h1⟩⟩
  cases x with
  | lit s => exact vc_standsL s c w _ ⟨(vc_litChars s w (fun e w' => e = .returned (.string s) ∧ K0 w w') ⟨rfl, .refl _ _⟩).mono fun e w' ⟨he, hw⟩ => ⟨_, he, key s w' hw⟩⟩
  | cls s => exact vc_standsC s c w _ ⟨(vc_classChars s w (fun e w' => e = .returned (.string s) ∧ K0 w w') ⟨rfl, .refl _ _⟩).mono fun e w' ⟨he, hw⟩ => ⟨_, he, key s w' hw⟩⟩
  | one => exact vc_standsQ c w _ ⟨(vc_singleChars w (fun e w' => e = .returned (.string nameBytes) ∧ K0 w w') fun n w1 hn => ⟨rfl, hn.kp _⟩).mono fun e w' ⟨he, hw⟩ => ⟨_, he, key _ w' hw⟩⟩
  | star => exact vc_standsS c w _ ⟨(vc_starChars w (fun e w' => e = .returned (.string nameBytes) ∧ K0 w w') fun n w1 hn => ⟨rfl, hn.kp _⟩).mono fun e w' ⟨he, hw⟩ => ⟨_, he, key _ w' hw⟩⟩

def pur1 (f : FuncId) (args : List Value) : Option (Option Prop × Value) :=
  match f with
  | 125 => (match args with | [.int .u8 c] => some (none, .bool (lowerB c)) | _ => none)
  | 126 => (match args with | [.int .u8 c] => some (none, .bool (digitB c)) | _ => none)
  | 107 => (match args with | [.int .u8 c] => some (none, .int .i64 (alnumI c)) | _ => none)
  | 88 => (match args with | [.int .u8 c] => some (none, .bool (charB c)) | _ => none)
  | 87 => (match args with | [.string s, .int .u8 c] => some (none, .int .i64 (Lib.indexByte s.data.toList c.toNat.toUInt8)) | _ => none)
  | 60 => (match args with | [.string s, .string p] => some (none, .bool (Lib.hasPrefix s.data.toList p.data.toList)) | _ => none)
  | _ => none
theorem pur1_ok {l : List (Nat × List (Nat × Ck))} {t : List (Nat × Nat)} {j : List (Nat × List (Nat × Ck))} {b : List (Nat × Unit)} {r : List (Nat × TypeId)} : PurOK { P := Tryz.prog, loops := l, pur := pur1, tails := t, joins := j, boxes := b, rngs := r } := fun f args p v h _ => by
  have key : ∀ (fn : Func), Tryz.prog.funcs[f]? = some fn → (fn.name == "runtime.NumGoroutine") = false → fn.body.isNone = false → ∃ fn, Tryz.prog.funcs[f]? = some fn ∧ (fn.name == "runtime.NumGoroutine") = false ∧ fn.body.isNone = false := fun fn h1 h2 h3 => ⟨fn, h1, h2, h3⟩
  simp only [pur1] at h
  split at h
  · split at h
    · simp at h; obtain ⟨rfl, rfl⟩ := h; exact ⟨fun w => isLower_any _ w, key _ Tryz.func125 (by decide) (by decide)⟩
    · simp at h
  · split at h
    · simp at h; obtain ⟨rfl, rfl⟩ := h; exact ⟨fun w => isDigit_any _ w, key _ Tryz.func126 (by decide) (by decide)⟩
    · simp at h
  · split at h
    · simp at h; obtain ⟨rfl, rfl⟩ := h; exact ⟨fun w => alnum_any _ w, key _ Tryz.func107 (by decide) (by decide)⟩
    · simp at h
  · split at h
    · simp at h; obtain ⟨rfl, rfl⟩ := h; exact ⟨fun w => char_any _ w, key _ Tryz.func88 (by decide) (by decide)⟩
    · simp at h
  · split at h
    · simp at h; obtain ⟨rfl, rfl⟩ := h; exact ⟨fun w => indexByte_any _ _ w, key _ Tryz.func87 (by decide) (by decide)⟩
    · simp at h
  · split at h
    · simp at h; obtain ⟨rfl, rfl⟩ := h; exact ⟨fun w => Tryz.strings_HasPrefix _ _ w, key _ Tryz.func60 (by decide) (by decide)⟩
    · simp at h
  · simp at h

end Go.Proofs.YtkkfnlehlkiejaaGreatDoor

/- The formulas of functions by the symbolic evaluator, and that each gives the call's contract. Written by a program (gen.py). No condition. -/
namespace Go.Proofs.YtkkfnlehlkiejaaGreatDoor
set_option maxRecDepth 100000
set_option linter.unusedVariables false

def VC_items (s : ByteArray) (w : World) (R : Ending → World → Prop) : Prop :=
 ∃ (I : List Value → World → Prop),
 ∃ (m : List Value → World → Nat),
 I [Value.int IntKind.i64 0, Value.string (ByteArray.mk #[])] w ∧
 ∀ (x : Int) (x_1 : ByteArray) (w' : World),
 I [Value.int IntKind.i64 x, Value.string x_1] w' →
 bsp (decide (x < (↑s.size : Int)))
 ((0 ≤ x ∧ x < (↑s.size : Int)) ∧
 gimp ((lowerB (at8 s x.toNat) || digitB (at8 s x.toNat)) && decide (IntKind.i64.wrap (x + 2) < (↑s.size : Int)))
 (0 ≤ IntKind.i64.wrap (x + 1) ∧ IntKind.i64.wrap (x + 1) < (↑s.size : Int)) ∧
 bsp
 ((lowerB (at8 s x.toNat) || digitB (at8 s x.toNat)) && decide (IntKind.i64.wrap (x + 2) < (↑s.size : Int)) &&
 at8 s (IntKind.i64.wrap (x + 1)).toNat == 45)
 ((0 ≤ IntKind.i64.wrap (x + 2) ∧ IntKind.i64.wrap (x + 2) < (↑s.size : Int)) ∧
 bsp
 (decide (at8 s (IntKind.i64.wrap (x + 2)).toNat < at8 s x.toNat) ||
 !lowerB (at8 s x.toNat) == lowerB (at8 s (IntKind.i64.wrap (x + 2)).toNat) ||
 !digitB (at8 s x.toNat) == digitB (at8 s (IntKind.i64.wrap (x + 2)).toNat))
 (R (Ending.returned (Value.tuple #[Value.string x_1, Value.int IntKind.i64 x])) w')
 (∃ (I_1 : List Value → World → Prop),
 ∃ (m_1 : List Value → World → Nat),
 I_1 [Value.int IntKind.u8 (at8 s x.toNat), Value.string x_1] w' ∧
 ∀ (x_2 : Int) (x_3 : ByteArray) (w'_1 : World),
 I_1 [Value.int IntKind.u8 x_2, Value.string x_3] w'_1 →
 bsp (decide (x_2 ≤ at8 s (IntKind.i64.wrap (x + 2)).toNat))
 (∀ (n : Nat) (w1 : World),
 NewB w'_1 (Obj.cells #[Value.int IntKind.u8 x_2] 5) n w1 →
 ∃ (s : ByteArray),
 (s.size = 1 ∧ BytesP w1 (some (Addr.mk n 0 none)) s) ∧
 (9223372036854775807 - (↑(x_3.size + s.size) : Int)).NonNeg ∧
 I_1 [Value.int IntKind.u8 (IntKind.u8.wrap (x_2 + 1)), Value.string (x_3 ++ s)] w1 ∧
 m_1 [Value.int IntKind.u8 (IntKind.u8.wrap (x_2 + 1)), Value.string (x_3 ++ s)] w1 <
 m_1 [Value.int IntKind.u8 x_2, Value.string x_3] w'_1)
 (I [Value.int IntKind.i64 (IntKind.i64.wrap (x + 3)), Value.string x_3] w'_1 ∧
 m [Value.int IntKind.i64 (IntKind.i64.wrap (x + 3)), Value.string x_3] w'_1 <
 m [Value.int IntKind.i64 x, Value.string x_1] w')))
 (bsp
 (lowerB (at8 s x.toNat) || digitB (at8 s x.toNat) || at8 s x.toNat == 43 || at8 s x.toNat == 95 ||
 at8 s x.toNat == 46 ||
 at8 s x.toNat == 45 && x == 0)
 (∀ (n : Nat) (w1 : World),
 NewB w' (Obj.cells #[Value.int IntKind.u8 (at8 s x.toNat)] 5) n w1 →
 ∃ (s : ByteArray),
 (s.size = 1 ∧ BytesP w1 (some (Addr.mk n 0 none)) s) ∧
 (9223372036854775807 - (↑(x_1.size + s.size) : Int)).NonNeg ∧
 I [Value.int IntKind.i64 (IntKind.i64.wrap (x + 1)), Value.string (x_1 ++ s)] w1 ∧
 m [Value.int IntKind.i64 (IntKind.i64.wrap (x + 1)), Value.string (x_1 ++ s)] w1 <
 m [Value.int IntKind.i64 x, Value.string x_1] w')
 (R (Ending.returned (Value.tuple #[Value.string x_1, Value.int IntKind.i64 x])) w')))
 (R (Ending.returned (Value.tuple #[Value.string x_1, Value.int IntKind.i64 x])) w')
theorem vc_items (s : ByteArray) (w : World) (R : Ending → World → Prop) (h : VC_items s w R) : Calls Tryz.prog 105 ([Value.string
    s] : List Value).toArray w R := by
  have e : execR { P := Tryz.prog, loops := [(1, [(3, Ck.int IntKind.i64), (2, Ck.str)]), (10, [(7, Ck.int IntKind.u8), (2, Ck.str)])], pur := pur1, tails := [], joins := [], boxes := [] } Tryz.f105.results.toList R (Tryz.f105.body.getD .skip) (initF [Value.string
    s] (Tryz.f105.ntmps - ([Value.string s] : List Value).length)) w = VC_items s w R := by kernel_rfl
  have hb : Tryz.f105.body = some (Tryz.f105.body.getD .skip) := by kernel_rfl
  exact calls_of_exec' (P := Tryz.prog) (fn := Tryz.f105) (c := Tryz.f105.body.getD .skip) (args := [Value.string
    s]) (w := w) (R := R) pur1_ok Tryz.func105 hb e h

def VC_parseClass (s : ByteArray) (w : World) (R : Ending → World → Prop) : Prop :=
 bsp (Lib.hasPrefix s.data.toList [91, 94])
 (((0 : Int) ≤ 2 ∧ 2 ≤ (↑s.size : Int)) ∧
 CallsS Tryz.prog 105 #[Value.string (s.extract 2 s.size)] w fun (e : Ending) (w' : World) =>
 ∃ (x : ByteArray),
 ∃ (x_1 : Int),
 e = Ending.returned (Value.tuple #[Value.string x, Value.int IntKind.i64 x_1]) ∧
 gimp (!(x_1 == 0 || IntKind.i64.wrap (2 + x_1) == (↑s.size : Int)))
 (0 ≤ IntKind.i64.wrap (2 + x_1) ∧ IntKind.i64.wrap (2 + x_1) < (↑s.size : Int)) ∧
 bsp (x_1 == 0 || IntKind.i64.wrap (2 + x_1) == (↑s.size : Int) || at8 s (IntKind.i64.wrap (2 + x_1)).toNat != 93)
 (R (Ending.returned (Value.tuple #[Value.string (ByteArray.mk #[]), Value.int IntKind.i64 0])) w')
 (∀ (n : Nat) (w1 : World),
 NewB w'
 (Obj.cells
 #[Value.int IntKind.u8 43, Value.int IntKind.u8 45, Value.int IntKind.u8 46, Value.int IntKind.u8 48,
 Value.int IntKind.u8 49, Value.int IntKind.u8 50, Value.int IntKind.u8 51, Value.int IntKind.u8 52,
 Value.int IntKind.u8 53, Value.int IntKind.u8 54, Value.int IntKind.u8 55, Value.int IntKind.u8 56,
 Value.int IntKind.u8 57, Value.int IntKind.u8 95, Value.int IntKind.u8 97, Value.int IntKind.u8 98,
 Value.int IntKind.u8 99, Value.int IntKind.u8 100, Value.int IntKind.u8 101, Value.int IntKind.u8 102,
 Value.int IntKind.u8 103, Value.int IntKind.u8 104, Value.int IntKind.u8 105, Value.int IntKind.u8 106,
 Value.int IntKind.u8 107, Value.int IntKind.u8 108, Value.int IntKind.u8 109, Value.int IntKind.u8 110,
 Value.int IntKind.u8 111, Value.int IntKind.u8 112, Value.int IntKind.u8 113, Value.int IntKind.u8 114,
 Value.int IntKind.u8 115, Value.int IntKind.u8 116, Value.int IntKind.u8 117, Value.int IntKind.u8 118,
 Value.int IntKind.u8 119, Value.int IntKind.u8 120, Value.int IntKind.u8 121, Value.int IntKind.u8 122]
 5)
 n w1 →
 ∀ (w1_1 : World),
 MarkB w1 n w1_1 →
 ∃ (I : List Value → World → Prop),
 ∃ (m : List Value → World → Nat),
 I [Value.int IntKind.i64 0, Value.slice none 0 0] w1_1 ∧
 ∀ (x_2 : Int) (p : Option Addr) (n_1 c : Nat) (w' : World),
 I [Value.int IntKind.i64 x_2, Value.slice p n_1 c] w' →
 bsp (decide (x_2 < (↑40 : Int)))
 ((0 ≤ x_2 ∧ x_2 < (↑40 : Int)) ∧
 ∃ (x_3 : Int),
 w'.cell? (Addr.mk n (0 + x_2.toNat) none) = some (Value.int IntKind.u8 x_3) ∧
 bsp
 (!decide (Lib.indexByte x.data.toList x_3.toNat.toUInt8 ≥ 0) ==
 Lib.hasPrefix s.data.toList [91, 94])
 (∀ (n : Nat) (w1 : World),
 NewB w' (Obj.cells #[Value.int IntKind.u8 x_3] 5) n w1 →
 ∃ (base : Nat),
 ∃ (xs : List Value),
 ∃ (news : List Value),
 w1.ownsRow base 5 1 (Value.slice p n_1 c) n_1 xs ∧
 news.length = 1 ∧
 SrcP w1 (some (Addr.mk n 0 none)) news ∧
 n_1 + 1 ≤ 9223372036854775807 ∧
 (n_1 + 1) * 1 ≤ 140737488355328 ∧
 base ≤ w1.heap.size ∧
 ∀ (p' : Option Addr) (c' : Nat) (w'_1 : World),
 w'_1.ownsRow base 5 1 (Value.slice p' (n_1 + 1) c') (n_1 + 1) (xs ++ news) →
 w1.grownBy w'_1 (Value.slice p n_1 c).ownBlock →
 (n_1 + 1 ≤ c → p' = p ∧ c' = c) →
 I [Value.int IntKind.i64 (IntKind.i64.wrap (x_2 + 1)), Value.slice p' (n_1 + 1) c']
 w'_1 ∧
 m
 [Value.int IntKind.i64 (IntKind.i64.wrap (x_2 + 1)),
 Value.slice p' (n_1 + 1) c']
 w'_1 <
 m [Value.int IntKind.i64 x_2, Value.slice p n_1 c] w')
 (I [Value.int IntKind.i64 (IntKind.i64.wrap (x_2 + 1)), Value.slice p n_1 c] w' ∧
 m [Value.int IntKind.i64 (IntKind.i64.wrap (x_2 + 1)), Value.slice p n_1 c] w' <
 m [Value.int IntKind.i64 x_2, Value.slice p n_1 c] w'))
 (∃ (s : ByteArray),
 (s.size = n_1 ∧ BytesP w' p s) ∧
 R
 (Ending.returned
 (Value.tuple
 #[Value.string s, Value.int IntKind.i64 (IntKind.i64.wrap (IntKind.i64.wrap (2 + x_1) + 1))]))
 w')))
 (((0 : Int) ≤ 1 ∧ 1 ≤ (↑s.size : Int)) ∧
 CallsS Tryz.prog 105 #[Value.string (s.extract 1 s.size)] w fun (e : Ending) (w' : World) =>
 ∃ (x : ByteArray),
 ∃ (x_1 : Int),
 e = Ending.returned (Value.tuple #[Value.string x, Value.int IntKind.i64 x_1]) ∧
 gimp (!(x_1 == 0 || IntKind.i64.wrap (1 + x_1) == (↑s.size : Int)))
 (0 ≤ IntKind.i64.wrap (1 + x_1) ∧ IntKind.i64.wrap (1 + x_1) < (↑s.size : Int)) ∧
 bsp (x_1 == 0 || IntKind.i64.wrap (1 + x_1) == (↑s.size : Int) || at8 s (IntKind.i64.wrap (1 + x_1)).toNat != 93)
 (R (Ending.returned (Value.tuple #[Value.string (ByteArray.mk #[]), Value.int IntKind.i64 0])) w')
 (∀ (n : Nat) (w1 : World),
 NewB w'
 (Obj.cells
 #[Value.int IntKind.u8 43, Value.int IntKind.u8 45, Value.int IntKind.u8 46, Value.int IntKind.u8 48,
 Value.int IntKind.u8 49, Value.int IntKind.u8 50, Value.int IntKind.u8 51, Value.int IntKind.u8 52,
 Value.int IntKind.u8 53, Value.int IntKind.u8 54, Value.int IntKind.u8 55, Value.int IntKind.u8 56,
 Value.int IntKind.u8 57, Value.int IntKind.u8 95, Value.int IntKind.u8 97, Value.int IntKind.u8 98,
 Value.int IntKind.u8 99, Value.int IntKind.u8 100, Value.int IntKind.u8 101, Value.int IntKind.u8 102,
 Value.int IntKind.u8 103, Value.int IntKind.u8 104, Value.int IntKind.u8 105, Value.int IntKind.u8 106,
 Value.int IntKind.u8 107, Value.int IntKind.u8 108, Value.int IntKind.u8 109, Value.int IntKind.u8 110,
 Value.int IntKind.u8 111, Value.int IntKind.u8 112, Value.int IntKind.u8 113, Value.int IntKind.u8 114,
 Value.int IntKind.u8 115, Value.int IntKind.u8 116, Value.int IntKind.u8 117, Value.int IntKind.u8 118,
 Value.int IntKind.u8 119, Value.int IntKind.u8 120, Value.int IntKind.u8 121, Value.int IntKind.u8 122]
 5)
 n w1 →
 ∀ (w1_1 : World),
 MarkB w1 n w1_1 →
 ∃ (I : List Value → World → Prop),
 ∃ (m : List Value → World → Nat),
 I [Value.int IntKind.i64 0, Value.slice none 0 0] w1_1 ∧
 ∀ (x_2 : Int) (p : Option Addr) (n_1 c : Nat) (w' : World),
 I [Value.int IntKind.i64 x_2, Value.slice p n_1 c] w' →
 bsp (decide (x_2 < (↑40 : Int)))
 ((0 ≤ x_2 ∧ x_2 < (↑40 : Int)) ∧
 ∃ (x_3 : Int),
 w'.cell? (Addr.mk n (0 + x_2.toNat) none) = some (Value.int IntKind.u8 x_3) ∧
 bsp
 (!decide (Lib.indexByte x.data.toList x_3.toNat.toUInt8 ≥ 0) ==
 Lib.hasPrefix s.data.toList [91, 94])
 (∀ (n : Nat) (w1 : World),
 NewB w' (Obj.cells #[Value.int IntKind.u8 x_3] 5) n w1 →
 ∃ (base : Nat),
 ∃ (xs : List Value),
 ∃ (news : List Value),
 w1.ownsRow base 5 1 (Value.slice p n_1 c) n_1 xs ∧
 news.length = 1 ∧
 SrcP w1 (some (Addr.mk n 0 none)) news ∧
 n_1 + 1 ≤ 9223372036854775807 ∧
 (n_1 + 1) * 1 ≤ 140737488355328 ∧
 base ≤ w1.heap.size ∧
 ∀ (p' : Option Addr) (c' : Nat) (w'_1 : World),
 w'_1.ownsRow base 5 1 (Value.slice p' (n_1 + 1) c') (n_1 + 1) (xs ++ news) →
 w1.grownBy w'_1 (Value.slice p n_1 c).ownBlock →
 (n_1 + 1 ≤ c → p' = p ∧ c' = c) →
 I [Value.int IntKind.i64 (IntKind.i64.wrap (x_2 + 1)), Value.slice p' (n_1 + 1) c']
 w'_1 ∧
 m
 [Value.int IntKind.i64 (IntKind.i64.wrap (x_2 + 1)),
 Value.slice p' (n_1 + 1) c']
 w'_1 <
 m [Value.int IntKind.i64 x_2, Value.slice p n_1 c] w')
 (I [Value.int IntKind.i64 (IntKind.i64.wrap (x_2 + 1)), Value.slice p n_1 c] w' ∧
 m [Value.int IntKind.i64 (IntKind.i64.wrap (x_2 + 1)), Value.slice p n_1 c] w' <
 m [Value.int IntKind.i64 x_2, Value.slice p n_1 c] w'))
 (∃ (s : ByteArray),
 (s.size = n_1 ∧ BytesP w' p s) ∧
 R
 (Ending.returned
 (Value.tuple
 #[Value.string s, Value.int IntKind.i64 (IntKind.i64.wrap (IntKind.i64.wrap (1 + x_1) + 1))]))
 w')))
theorem vc_parseClass (s : ByteArray) (w : World) (R : Ending → World → Prop) (h : VC_parseClass s w R) : Calls Tryz.prog 86 ([Value.string
    s] : List Value).toArray w R := by
  have e : execR { P := Tryz.prog, loops := [(11, [(42, Ck.int IntKind.i64), (9, Ck.slice)])], pur := pur1, tails := [], joins := [], boxes := [] } Tryz.f86.results.toList R (Tryz.f86.body.getD .skip) (initF [Value.string
    s] (Tryz.f86.ntmps - ([Value.string s] : List Value).length)) w = VC_parseClass s w R := by kernel_rfl
  have hb : Tryz.f86.body = some (Tryz.f86.body.getD .skip) := by kernel_rfl
  exact calls_of_exec' (P := Tryz.prog) (fn := Tryz.f86) (c := Tryz.f86.body.getD .skip) (args := [Value.string
    s]) (w := w) (R := R) pur1_ok Tryz.func86 hb e h

def VC_spread (b : Nat) (o : Nat) (p : Option Addr) (n : Nat) (c : Nat) (w : World) (R : Ending → World → Prop) : Prop :=
 ∃ (p_1 : Option Addr),
 ∃ (n_1 : Nat),
 ∃ (c : Nat),
 w.cell? (Addr.mk b (o + 1) none) = some (Value.slice p_1 n_1 c) ∧
 ∃ (I : List Value → World → Prop),
 ∃ (m : List Value → World → Nat),
 I [Value.int IntKind.i64 0] w ∧
 ∀ (x : Int) (w' : World),
 I [Value.int IntKind.i64 x] w' →
 bsp (decide (x < (↑n_1 : Int)))
 (nn true p_1 fun (b o : Nat) =>
 (0 ≤ x ∧ x < (↑n_1 : Int)) ∧
 ∃ (x_1 : Value),
 w'.cell? (Addr.mk b (o + x.toNat) none) = some x_1 ∧
 nn true p fun (b o : Nat) =>
 (0 ≤ x ∧ x < (↑n : Int)) ∧
 ∃ (x_2 : Bool),
 w'.cell? (Addr.mk b (o + x.toNat) none) = some (Value.bool x_2) ∧
 bsp x_2
 (CallsS Tryz.prog 92 #[x_1] w' fun (e : Ending) (w'_1 : World) =>
 ∃ (x_3 : Bool),
 e = Ending.returned (Value.bool x_3) ∧
 bsp (true && x_3)
 (nn true p fun (b o : Nat) =>
 (0 ≤ IntKind.i64.wrap (x + 1) ∧ IntKind.i64.wrap (x + 1) < (↑n : Int)) ∧
 ((∃ (u : Value), w'_1.cell? (Addr.mk b (o + (IntKind.i64.wrap (x + 1)).toNat) none) = some u) ∧
 w'_1.frozen? (Addr.mk b (o + (IntKind.i64.wrap (x + 1)).toNat) none) = false) ∧
 ∀ (w1 : World),
 PutB w'_1 b (o + (IntKind.i64.wrap (x + 1)).toNat) [Value.bool true] w1 →
 I [Value.int IntKind.i64 (IntKind.i64.wrap (x + 1))] w1 ∧
 m [Value.int IntKind.i64 (IntKind.i64.wrap (x + 1))] w1 < m [Value.int IntKind.i64 x] w')
 (I [Value.int IntKind.i64 (IntKind.i64.wrap (x + 1))] w'_1 ∧
 m [Value.int IntKind.i64 (IntKind.i64.wrap (x + 1))] w'_1 < m [Value.int IntKind.i64 x] w'))
 (I [Value.int IntKind.i64 (IntKind.i64.wrap (x + 1))] w' ∧
 m [Value.int IntKind.i64 (IntKind.i64.wrap (x + 1))] w' < m [Value.int IntKind.i64 x] w'))
 (R (Ending.returned (Value.tuple #[])) w')
theorem vc_spread (b : Nat) (o : Nat) (p : Option Addr) (n : Nat) (c : Nat) (w : World) (R : Ending → World → Prop) (h : VC_spread b o p n c w R) : Calls Tryz.prog 90 ([Value.pointer
    (some { block := b, off := o }),
  Value.slice p n c] : List Value).toArray w R := by
  have e : execR { P := Tryz.prog, loops := [(1, [(11, Ck.int IntKind.i64)])], pur := pur1, tails := [], joins := [], boxes := [] } Tryz.f90.results.toList R (Tryz.f90.body.getD .skip) (initF [Value.pointer
    (some { block := b, off := o }),
  Value.slice p n
    c] (Tryz.f90.ntmps - ([Value.pointer (some { block := b, off := o }),
  Value.slice p n c] : List Value).length)) w = VC_spread b o p n c w R := by kernel_rfl
  have hb : Tryz.f90.body = some (Tryz.f90.body.getD .skip) := by kernel_rfl
  exact calls_of_exec' (P := Tryz.prog) (fn := Tryz.f90) (c := Tryz.f90.body.getD .skip) (args := [Value.pointer
    (some { block := b, off := o }),
  Value.slice p n c]) (w := w) (R := R) pur1_ok Tryz.func90 hb e h

def VC_len (b : Nat) (o : Nat) (w : World) (R : Ending → World → Prop) : Prop :=
 ∃ (p : Option Addr),
 ∃ (n : Nat),
 ∃ (c : Nat),
 w.cell? (Addr.mk b (o + 1) none) = some (Value.slice p n c) ∧
 R (Ending.returned (Value.int IntKind.i64 (↑n : Int))) w
theorem vc_len (b : Nat) (o : Nat) (w : World) (R : Ending → World → Prop) (h : VC_len b o w R) : Calls Tryz.prog 67 ([Value.pointer
    (some { block := b, off := o })] : List Value).toArray w R := by
  have e : execR { P := Tryz.prog, loops := [], pur := pur1, tails := [], joins := [], boxes := [] } Tryz.f67.results.toList R (Tryz.f67.body.getD .skip) (initF [Value.pointer
    (some
      { block := b,
        off :=
          o })] (Tryz.f67.ntmps - ([Value.pointer
    (some { block := b, off := o })] : List Value).length)) w = VC_len b o w R := by kernel_rfl
  have hb : Tryz.f67.body = some (Tryz.f67.body.getD .skip) := by kernel_rfl
  exact calls_of_exec' (P := Tryz.prog) (fn := Tryz.f67) (c := Tryz.f67.body.getD .skip) (args := [Value.pointer
    (some { block := b, off := o })]) (w := w) (R := R) pur1_ok Tryz.func67 hb e h

end Go.Proofs.YtkkfnlehlkiejaaGreatDoor

/- Plain functions on texts (no program in sight): the tests of characters, the errors of a site's name, searches for a first index. No condition. -/
namespace Go.Proofs.YtkkfnlehlkiejaaGreatDoor

theorem at8_lt (s : ByteArray) (k : Nat) (h : k < s.size) : at8 s k = (s[k].toNat : Int) := by simp [at8, h]
theorem at8_bd (s : ByteArray) (k : Nat) : 0 ≤ at8 s k ∧ at8 s k ≤ 255 := by
  unfold at8
  split
  · have := s[k].toNat_lt; omega
  · omega

theorem toList_nil (s : ByteArray) : (s.toList == []) = decide (s.size = 0) := by
  have h : s.toList.length = s.size := by rw [ByteArray.toList_eq]; exact s.data.length_toList
  cases hs : s.toList with
  | nil => rw [hs] at h; have h : s.size = 0 := h.symm; rw [h]; rfl
  | cons a r =>
    rw [hs] at h
    have h : s.size = r.length + 1 := h.symm
    have : ¬ s.size = 0 := by omega
    rw [decide_eq_false this]
    rfl
/-- A loop that counts a slot from 0 up to n. -/
theorem count1 {w : World} {F : (List Value → World → Prop) → (List Value → World → Nat) → Int → World → Prop} (n : Nat) (hn : (n : Int) ≤ 9223372036854775807) (J : Nat → World → Prop) (h0 : J 0 w)
    (step : ∀ (I : List Value → World → Prop) (m : List Value → World → Nat) (k : Nat) (w' : World), k ≤ n → J k w' →
      (k < n → ∀ w'', J (k + 1) w'' → I [.int .i64 (IntKind.i64.wrap (k + 1))] w'' ∧ m [.int .i64 (IntKind.i64.wrap (k + 1))] w'' < m [.int .i64 k] w') → F I m k w') :
    ∃ (I : List Value → World → Prop) (m : List Value → World → Nat), I [.int .i64 0] w ∧ ∀ (x : Int) (w' : World), I [.int .i64 x] w' → F I m x w' := by
  refine ⟨fun vs w' => ∃ k : Nat, vs = [.int .i64 k] ∧ k ≤ n ∧ J k w', fun vs _ => (match vs with | [.int _ x] => n - x.toNat | _ => 0), ⟨0, rfl, by omega, h0⟩, fun x w' ⟨k, hv, hk, hJ⟩ => ?_⟩
  have hx : x = (k : Int) := by simpa using hv
  subst hx
  refine step _ _ k w' hk hJ (fun hlt w'' hJ' => ?_)
  rw [show IntKind.i64.wrap ((k : Int) + 1) = ((k + 1 : Nat) : Int) from by rw [wr64 (by omega) (by omega)]; omega]
  exact ⟨⟨k + 1, rfl, by omega, hJ'⟩, by simp; omega⟩

end Go.Proofs.YtkkfnlehlkiejaaGreatDoor

/- The contracts of msgid.Site, feedrule.isDistribution, and of the reference's Site and word. A word's length is in the range of int. -/
namespace Go.Proofs.YtkkfnlehlkiejaaGreatDoor
open Go.RowKit

end Go.Proofs.YtkkfnlehlkiejaaGreatDoor

/- The contract of wildmat.items, by a plain function (which bytes are listed, how long the items are). The text has at most 2^30 bytes. -/
namespace Go.Proofs.YtkkfnlehlkiejaaGreatDoor
open Go.RowKit

/-- The string of one byte. -/
def b1 (c : Int) : ByteArray := ⟨#[c.toNat.toUInt8]⟩
theorem b1_size (c : Int) : (b1 c).size = 1 := rfl
theorem byte_inj {c d : Int} (hc : 0 ≤ c ∧ c ≤ 255) (hd : 0 ≤ d ∧ d ≤ 255) : (d.toNat.toUInt8 == c.toNat.toUInt8) = decide (d = c) := by
  rw [Bool.eq_iff_iff]
  simp only [beq_iff_eq, decide_eq_true_eq]
  constructor
  · intro h
    have h1 : d.toNat.toUInt8.toNat = c.toNat.toUInt8.toNat := by rw [h]
    rw [UInt8.toNat_ofNat', UInt8.toNat_ofNat'] at h1
    omega
  · rintro rfl; rfl
theorem hasB_b1 {a : ByteArray} {c d : Int} (hc : 0 ≤ c ∧ c ≤ 255) (hd : 0 ≤ d ∧ d ≤ 255) : hasB (a ++ b1 c) d = (hasB a d || decide (d = c)) := by
  unfold hasB
  have : (a ++ b1 c).data.toList = a.data.toList ++ [c.toNat.toUInt8] := by
    rw [ByteArray.data_append]; simp [b1]
  rw [this, ← byte_inj hc hd, List.contains_append]
  congr 1
  rw [List.contains_cons]
  simp
theorem b1_bytes {w : World} {n : Nat} {c : Int} (hc : 0 ≤ c ∧ c ≤ 255) {t : TypeId} (h : w.heap[n]? = some (.cells #[.int .u8 c] t (0, 0))) : (b1 c).size = 1 ∧ BytesP w (some (Addr.mk n 0 none)) (b1 c) := by
  refine ⟨rfl, ⟨.inr ⟨n, 0, rfl, ?_⟩⟩⟩
  have : byteCells (b1 c) = [.int .u8 c] := by
    simp only [byteCells, b1, List.map_cons, List.map_nil]
    congr 2
    rw [UInt8.toNat_ofNat']
    omega
  rw [this]
  exact cell_block h 0

def alB (c : Int) : Bool := lowerB c || digitB c
/-- A range of characters begins at an index. -/
def rngB (s : ByteArray) (k : Nat) : Bool := alB (at8 s k) && decide (k + 2 < s.size) && at8 s (k + 1) == 45
/-- A range has ends that don't fit. -/
def badB (c l : Int) : Bool := decide (l < c) || lowerB c != lowerB l || digitB c != digitB l
def singB (s : ByteArray) (k : Nat) : Bool := alB (at8 s k) || at8 s k == 43 || at8 s k == 95 || at8 s k == 46 || (at8 s k == 45 && k == 0)
/-- Which bytes the items at the beginning list, and how long they are. -/
def itemsS (s : ByteArray) : Nat → Nat → (Int → Bool) → (Int → Bool) × Nat
  | 0, k, p => (p, k)
  | f + 1, k, p =>
    if k < s.size then
      if rngB s k = true then
        if badB (at8 s k) (at8 s (k + 2)) = true then (p, k)
        else itemsS s f (k + 3) (fun d => p d || (decide (at8 s k ≤ d) && decide (d ≤ at8 s (k + 2))))
      else if singB s k = true then itemsS s f (k + 1) (fun d => p d || decide (d = at8 s k))
      else (p, k)
    else (p, k)
theorem alB_bd {c : Int} (h : alB c = true) : 0 ≤ c ∧ c ≤ 122 := by
  simp [alB, lowerB, digitB] at h; omega
theorem badB_not {c l : Int} (h : badB c l = false) (hc : alB c = true) : c ≤ l ∧ alB l = true := by
  simp [badB] at h
  obtain ⟨⟨h1, h2⟩, h3⟩ := h
  unfold alB at hc ⊢
  rw [← h2, ← h3]
  exact ⟨by omega, hc⟩

theorem items_any (s : ByteArray) (w : World) (hs : s.size ≤ 1073741824) : Calls Tryz.prog 105 #[.string s] w fun e w' =>
    ∃ x : ByteArray, e = .returned (.tuple #[.string x, .int .i64 (itemsS s s.size 0 (fun _ => false)).2]) ∧ (∀ d, 0 ≤ d → d ≤ 255 → hasB x d = (itemsS s s.size 0 (fun _ => false)).1 d) ∧ x.size ≤ 256 * s.size ∧ K0 w w' := by
  refine vc_items s w _ ?_
  unfold VC_items
  refine ⟨fun vs w' => ∃ (k f : Nat) (cs : ByteArray) (p : Int → Bool), vs = [.int .i64 k, .string cs] ∧ k ≤ s.size ∧ s.size - k ≤ f ∧ itemsS s f k p = itemsS s s.size 0 (fun _ => false) ∧
      cs.size ≤ 256 * k ∧ (∀ d, 0 ≤ d → d ≤ 255 → hasB cs d = p d) ∧ K0 w w', fun vs _ => (match vs with | .int _ x :: _ => s.size - x.toNat | _ => 0),
    ⟨0, s.size, ⟨#[]⟩, fun _ => false, rfl, by omega, by omega, rfl, by simp [ByteArray.size], fun d _ _ => rfl, .refl _ _⟩, fun x x_1 w' ⟨k, f, cs, p, hv, hk, hf, hS, hcs, hp, hw⟩ => ?_⟩
  simp only [List.cons.injEq, Value.int.injEq, true_and, Value.string.injEq, and_true] at hv
  obtain ⟨rfl, rfl⟩ := hv
  have fin : itemsS s f k p = (p, k) → (∃ x : ByteArray, Ending.returned (.tuple #[.string x_1, .int .i64 (k : Int)]) = .returned (.tuple #[.string x, .int .i64 (itemsS s s.size 0 (fun _ => false)).2]) ∧
      (∀ d, 0 ≤ d → d ≤ 255 → hasB x d = (itemsS s s.size 0 (fun _ => false)).1 d) ∧ x.size ≤ 256 * s.size ∧ K0 w w') := fun h => by
    rw [← hS, h]
    exact ⟨x_1, rfl, hp, by omega, hw⟩
  refine bsp_intro (fun hlt => ⟨?_, ?_, ?_⟩) (fun hge => ?_)
  · have : k < s.size := by simpa using hlt
    omega
  · have hlt : k < s.size := by simpa using hlt
    refine gimp_intro fun hg => ?_
    simp only [Bool.and_eq_true, decide_eq_true_eq] at hg
    have h2 := hg.2
    rw [wr64 (by omega) (by omega)] at h2
    rw [wr64 (by omega) (by omega)]
    omega
  · have hlt : k < s.size := by simpa using hlt
    rw [wr64 (x := (k : Int) + 2) (by omega) (by omega), wr64 (x := (k : Int) + 1) (by omega) (by omega), wr64 (x := (k : Int) + 3) (by omega) (by omega)]
    have e1 : ((k : Int) + 1).toNat = k + 1 := by omega
    have e2 : ((k : Int) + 2).toNat = k + 2 := by omega
    have e0 : (k : Int).toNat = k := by omega
    rw [e1, e2, e0]
    obtain ⟨f, rfl⟩ : ∃ g, f = g + 1 := ⟨f - 1, by omega⟩
    have hr : ((lowerB (at8 s k) || digitB (at8 s k)) && decide ((k : Int) + 2 < (s.size : Int)) && at8 s (k + 1) == 45) = rngB s k := by
      unfold rngB alB
      congr 2
      apply decide_eq_decide.2; omega
    rw [hr]
    have hbd := at8_bd s k
    refine bsp_intro (fun h1 => ⟨?_, ?_⟩) (fun h1 => ?_)
    · simp [rngB] at h1; omega
    · have h1' := h1
      simp only [rngB, Bool.and_eq_true, decide_eq_true_eq] at h1'
      have hb : (decide (at8 s (k + 2) < at8 s k) || !lowerB (at8 s k) == lowerB (at8 s (k + 2)) || !digitB (at8 s k) == digitB (at8 s (k + 2))) = badB (at8 s k) (at8 s (k + 2)) := rfl
      rw [hb]
      refine bsp_intro (fun h2 => ?_) (fun h2 => ?_)
      · exact fin (by simp [itemsS, hlt, h1, h2])
      · obtain ⟨hle, hal⟩ := badB_not h2 h1'.1.1
        have hlb := alB_bd hal
        have hcb := alB_bd h1'.1.1
        refine ⟨fun vs w1 => ∃ (j : Nat) (cs : ByteArray), vs = [.int .u8 (at8 s k + j), .string cs] ∧ at8 s k + j ≤ at8 s (k + 2) + 1 ∧ cs.size ≤ 256 * k + j ∧
            (∀ d, 0 ≤ d → d ≤ 255 → hasB cs d = (p d || (decide (at8 s k ≤ d) && decide (d < at8 s k + j)))) ∧ K0 w w1, fun vs _ => (match vs with | .int _ x :: _ => (at8 s (k + 2) + 1 - x).toNat | _ => 0),
          ⟨0, x_1, by simp, by omega, by omega, fun d h0 h9 => ?_, hw⟩, fun x_2 x_3 w1 ⟨j, cs, hv, hj, hcs', hp', hw1⟩ => ?_⟩
        · rw [hp d h0 h9]
          have : (decide (at8 s k ≤ d) && decide (d < at8 s k + (0 : Nat))) = false := by simp
          rw [this]; simp
        · simp only [List.cons.injEq, Value.int.injEq, true_and, Value.string.injEq, and_true] at hv
          obtain ⟨rfl, rfl⟩ := hv
          refine bsp_intro (fun h3 => fun n w2 hn => ⟨b1 (at8 s k + j), b1_bytes (by simp at h3; omega) hn.block, ?_, ?_⟩) (fun h3 => ⟨?_, ?_⟩)
          · show (((x_3.size + (b1 (at8 s k + j)).size : Nat) : Int) ≤ 9223372036854775807)
            rw [b1_size]
            simp at h3
            omega
          · have h3 : at8 s k + j ≤ at8 s (k + 2) := by simpa using h3
            have hwr : IntKind.u8.wrap (at8 s k + j + 1) = at8 s k + (j + 1 : Nat) := by
              have : IntKind.u8.wrap (at8 s k + j + 1) = at8 s k + j + 1 := IntWalk.u8_in _ ⟨by omega, by omega⟩
              rw [this]; omega
            rw [hwr]
            refine ⟨⟨j + 1, x_3 ++ b1 (at8 s k + j), rfl, by omega, by rw [ByteArray.size_append, b1_size]; omega, fun d h0 h9 => ?_, hw1.trans (hn.kp _)⟩, by simp; omega⟩
            rw [hasB_b1 (by omega) ⟨h0, h9⟩, hp' d h0 h9, Bool.or_assoc]
            congr 1
            rw [Bool.eq_iff_iff]
            simp
            omega
          · have h3 : ¬ at8 s k + j ≤ at8 s (k + 2) := by simpa using h3
            refine ⟨k + 3, f, x_3, fun d => p d || (decide (at8 s k ≤ d) && decide (d ≤ at8 s (k + 2))), by simp, by omega, by omega, ?_, by omega, fun d h0 h9 => ?_, hw1⟩
            · rw [← hS]
              simp [itemsS, hlt, h1, h2]
            · rw [hp' d h0 h9]
              congr 2
              apply decide_eq_decide.2
              omega
          · simp; omega
    · have hsg : (lowerB (at8 s k) || digitB (at8 s k) || at8 s k == 43 || at8 s k == 95 || at8 s k == 46 || at8 s k == 45 && (k : Int) == 0) = singB s k := by
        unfold singB alB
        congr 2
        rw [Bool.eq_iff_iff]; simp
      rw [hsg]
      refine bsp_intro (fun h2 => fun n w2 hn => ⟨b1 (at8 s k), b1_bytes (by omega) hn.block, ?_, ?_, ?_⟩) (fun h2 => ?_)
      · show (((x_1.size + (b1 (at8 s k)).size : Nat) : Int) ≤ 9223372036854775807)
        rw [b1_size]
        omega
      · refine ⟨k + 1, f, x_1 ++ b1 (at8 s k), fun d => p d || decide (d = at8 s k), by simp, by omega, by omega, ?_, by rw [ByteArray.size_append, b1_size]; omega, fun d h0 h9 => ?_, hw.trans (hn.kp _)⟩
        · rw [← hS]
          simp [itemsS, hlt, h1, h2]
        · rw [hasB_b1 (by omega) ⟨h0, h9⟩, hp d h0 h9]
      · simp; omega
      · exact fin (by simp [itemsS, hlt, h1, h2])
  · have hge : ¬ k < s.size := by simpa using hge
    refine fin ?_
    cases f with
    | zero => rfl
    | succ f => simp [itemsS, hge]

end Go.Proofs.YtkkfnlehlkiejaaGreatDoor

/- The contract of wildmat.parseClass, by a plain function. The text has at least one and at most 2^20 bytes. -/
namespace Go.Proofs.YtkkfnlehlkiejaaGreatDoor
open Go.RowKit

theorem byteCells_length (s : ByteArray) : (byteCells s).length = s.size := by
  unfold byteCells
  rw [List.length_map]
  exact s.data.length_toList
/-- A row of bytes as a string. -/
theorem owns_bytes {w : World} {base : Nat} {e : TypeId} {p : Option Addr} {n c : Nat} {s : ByteArray} (h : w.ownsRow base e 1 (.slice p n c) n (byteCells s)) : s.size = n ∧ BytesP w p s := by
  have hl := h.1
  rw [byteCells_length] at hl
  refine ⟨by omega, ⟨?_⟩⟩
  rcases h.2 with ⟨_, hn⟩ | ⟨g, cap, cur, hv, _, hg, _, _, _, ht⟩
  · left; omega
  · right
    simp only [Value.slice.injEq] at hv
    refine ⟨g, 0, hv.1, At_of _ 0 fun j v hj => ?_⟩
    rw [Nat.zero_add, cell_block hg]
    rw [← ht, List.getElem?_take] at hj
    split at hj
    · simpa using hj
    · simp at hj

def pickB (x : ByteArray) (neg : Bool) (b : UInt8) : Bool := !(hasB x (b.toNat : Int) == neg)
/-- The characters of a class. -/
def clsB (x : ByteArray) (neg : Bool) : ByteArray := ⟨(nameBytes.data.toList.filter (pickB x neg)).toArray⟩
theorem byteCells_cls (x : ByteArray) (neg : Bool) : byteCells (clsB x neg) = (nameBytes.data.toList.filter (pickB x neg)).map (fun b => Value.int .u8 b.toNat) := by simp [byteCells, clsB]

theorem class_loop {w0 wS : World} {n : Nat} {x : ByteArray} {neg : Bool} {R : ByteArray → World → Prop} {t : TypeId} {fz : Nat × Nat} (hb : wS.heap[n]? = some (.cells (byteCells nameBytes).toArray t fz)) (hK : K0 w0 wS) (hR : ∀ w', K0 w0 w' → R (clsB x neg) w') :
    ∃ (I : List Value → World → Prop), ∃ (m : List Value → World → Nat), I [.int .i64 0, .slice none 0 0] wS ∧
      ∀ (x_2 : Int) (p : Option Addr) (n_1 c : Nat) (w' : World), I [.int .i64 x_2, .slice p n_1 c] w' →
        bsp (decide (x_2 < (↑40 : Int)))
          ((0 ≤ x_2 ∧ x_2 < (↑40 : Int)) ∧
            ∃ (x_3 : Int), w'.cell? (Addr.mk n (0 + x_2.toNat) none) = some (.int .u8 x_3) ∧
              bsp (!decide (Lib.indexByte x.data.toList x_3.toNat.toUInt8 ≥ 0) == neg)
                (∀ (n : Nat) (w1 : World), NewB w' (Obj.cells #[.int .u8 x_3] 5) n w1 →
                  ∃ (base : Nat), ∃ (xs : List Value), ∃ (news : List Value), w1.ownsRow base 5 1 (.slice p n_1 c) n_1 xs ∧ news.length = 1 ∧ SrcP w1 (some (Addr.mk n 0 none)) news ∧
                    n_1 + 1 ≤ 9223372036854775807 ∧ (n_1 + 1) * 1 ≤ 140737488355328 ∧ base ≤ w1.heap.size ∧
                    ∀ (p' : Option Addr) (c' : Nat) (w'_1 : World), w'_1.ownsRow base 5 1 (.slice p' (n_1 + 1) c') (n_1 + 1) (xs ++ news) → w1.grownBy w'_1 (Value.slice p n_1 c).ownBlock → (n_1 + 1 ≤ c → p' = p ∧ c' = c) →
                      I [.int .i64 (IntKind.i64.wrap (x_2 + 1)), .slice p' (n_1 + 1) c'] w'_1 ∧ m [.int .i64 (IntKind.i64.wrap (x_2 + 1)), .slice p' (n_1 + 1) c'] w'_1 < m [.int .i64 x_2, .slice p n_1 c] w')
                (I [.int .i64 (IntKind.i64.wrap (x_2 + 1)), .slice p n_1 c] w' ∧ m [.int .i64 (IntKind.i64.wrap (x_2 + 1)), .slice p n_1 c] w' < m [.int .i64 x_2, .slice p n_1 c] w'))
          (∃ (s : ByteArray), (s.size = n_1 ∧ BytesP w' p s) ∧ R s w') := by
  let l := nameBytes.data.toList
  have hl : l.length = 40 := rfl
  let cell := fun b : UInt8 => Value.int .u8 b.toNat
  refine ⟨fun vs w' => ∃ (k : Nat) (p : Option Addr) (n_1 c : Nat), vs = [.int .i64 k, .slice p n_1 c] ∧ k ≤ 40 ∧ n_1 ≤ k ∧ K0 wS w' ∧ w'.ownsRow wS.heap.size 5 1 (.slice p n_1 c) n_1 (((l.take k).filter (pickB x neg)).map cell),
    fun vs _ => (match vs with | .int _ x :: _ => 40 - x.toNat | _ => 0), ⟨0, none, 0, 0, rfl, by omega, by omega, .refl _ _, World.ownsRow_nil _ _ _ _⟩, fun x_2 p n_1 c w' ⟨k, p', n', c', hv, hk, hn, hw, ho⟩ => ?_⟩
  simp only [List.cons.injEq, Value.int.injEq, true_and, Value.slice.injEq, and_true] at hv
  obtain ⟨rfl, rfl, rfl, rfl⟩ := hv
  have hbw : w'.heap[n]? = some (.cells (byteCells nameBytes).toArray t fz) := hw.blk hb (fun h => h)
  have hnb : n < wS.heap.size := block_lt hb
  refine bsp_intro (fun hlt => ?_) (fun hge => ?_)
  · have hlt : (k : Int) < 40 := of_decide_eq_true hlt
    have hlt : k < 40 := by omega
    have hlk : l[k]? = some (l[k]'(by rw [hl]; exact hlt)) := List.getElem?_eq_getElem _
    generalize hbk : l[k]'(by rw [hl]; exact hlt) = b at hlk
    have hbd := b.toNat_lt
    have htk : l.take (k + 1) = l.take k ++ [b] := by rw [List.take_add_one, hlk]; rfl
    have hwr : IntKind.i64.wrap ((k : Int) + 1) = ((k + 1 : Nat) : Int) := by rw [wr64 (by omega) (by omega)]; omega
    rw [hwr]
    refine ⟨by omega, (b.toNat : Int), ?_, ?_⟩
    · rw [Nat.zero_add, Int.toNat_natCast, cell_block hbw]
      have : (byteCells nameBytes)[k]? = some (.int .u8 b.toNat) := by
        show (l.map fun b => Value.int .u8 b.toNat)[k]? = _
        rw [List.getElem?_map, hlk]; rfl
      simpa using this
    · have hP : (!decide (Lib.indexByte x.data.toList (b.toNat : Int).toNat.toUInt8 ≥ 0) == neg) = pickB x neg b := by
        unfold pickB
        rw [show decide (Lib.indexByte x.data.toList (b.toNat : Int).toNat.toUInt8 ≥ 0) = hasB x (b.toNat : Int) from indexByte_nonneg _ _]
      rw [hP]
      refine bsp_intro (fun hp => fun n2 w1 hn2 => ?_) (fun hp => ⟨⟨k + 1, p, n_1, c, rfl, by omega, by omega, hw, ?_⟩, by simp; omega⟩)
      · have hK1 : K0 wS w1 := hw.trans (hn2.kp _)
        refine ⟨wS.heap.size, _, [.int .u8 b.toNat], owns_kp ho (hn2.kp (fun _ => False)) (fun _ _ h => h), rfl, src_block hn2.block (by simp [Value.oneCell']), by omega, by omega, hK1.size, fun p' c' w2 ho2 hg _ => ?_⟩
        refine ⟨⟨k + 1, p', n_1 + 1, c', rfl, by omega, by omega, hK1.grown hg (fun q hq => .inl (ho.lt q hq).1), ?_⟩, by simp; omega⟩
        rw [htk, List.filter_append, List.map_append]
        simpa [List.filter, hp, cell] using ho2
      · rw [htk, List.filter_append, List.map_append]
        simpa [List.filter, hp] using ho
  · have hge : ¬ (k : Int) < 40 := of_decide_eq_false hge
    have h40 : k = 40 := by omega
    subst h40
    have ht : l.take 40 = l := List.take_of_length_le (by rw [hl]; exact Nat.le_refl _)
    rw [ht, ← byteCells_cls] at ho
    exact ⟨clsB x neg, owns_bytes ho, hR w' (hK.trans hw)⟩

theorem itemsS_le (s : ByteArray) : ∀ (f k : Nat) (p : Int → Bool), k ≤ s.size → (itemsS s f k p).2 ≤ s.size
  | 0, k, p, h => h
  | f + 1, k, p, h => by
    unfold itemsS
    split
    · split
      · rename_i hr
        simp [rngB] at hr
        split
        · exact h
        · exact itemsS_le s f _ _ (by omega)
      · split
        · exact itemsS_le s f _ _ (by omega)
        · exact h
    · exact h
def negB (s : ByteArray) : Bool := Lib.hasPrefix s.data.toList [91, 94]
def fromN (s : ByteArray) : Nat := if negB s = true then 2 else 1
def restB (s : ByteArray) : ByteArray := s.extract (fromN s) s.size
def listS (s : ByteArray) : (Int → Bool) × Nat := itemsS (restB s) (restB s).size 0 (fun _ => false)
/-- The length of the class at the beginning, or 0. -/
def clsN (s : ByteArray) : Nat := if (listS s).2 = 0 ∨ fromN s + (listS s).2 = s.size ∨ at8 s (fromN s + (listS s).2) ≠ 93 then 0 else fromN s + (listS s).2 + 1
/-- The characters of the class at the beginning. -/
def clsS (s : ByteArray) : ByteArray := if clsN s = 0 then ⟨#[]⟩ else ⟨(nameBytes.data.toList.filter fun b => !((listS s).1 b.toNat == negB s)).toArray⟩
theorem hasPrefix_size {s : ByteArray} (h : negB s = true) : 2 ≤ s.size := by
  have hl : s.data.toList.length = s.size := s.data.length_toList
  unfold negB at h
  cases hs : s.data.toList with
  | nil => rw [hs] at h; simp [Lib.hasPrefix] at h
  | cons a r => cases r with
    | nil => rw [hs] at h; simp [Lib.hasPrefix] at h
    | cons b r => rw [hs] at hl; simp at hl; omega
theorem clsB_eq {s x : ByteArray} (h : clsN s ≠ 0) (hx : ∀ d, 0 ≤ d → d ≤ 255 → hasB x d = (listS s).1 d) : clsB x (negB s) = clsS s := by
  unfold clsB clsS
  rw [if_neg h]
  congr 2
  apply List.filter_congr
  intro b _
  unfold pickB
  rw [hx b.toNat (by omega) (by have := b.toNat_lt; omega)]
theorem parseClass_any (s : ByteArray) (w : World) (h1 : 1 ≤ s.size) (hs : s.size ≤ 1048576) : Calls Tryz.prog 86 #[.string s] w fun e w' =>
    e = .returned (.tuple #[.string (clsS s), .int .i64 (clsN s)]) ∧ K0 w w' := by
  refine vc_parseClass s w _ ?_
  unfold VC_parseClass
  have hsz : (restB s).size = s.size - fromN s := by unfold restB; rw [ByteArray.size_extract]; simp
  have key : ∀ (fr : Nat), fr = fromN s → ∀ (e : Ending) (w' : World), (∃ x : ByteArray, e = .returned (.tuple #[.string x, .int .i64 (listS s).2]) ∧ (∀ d, 0 ≤ d → d ≤ 255 → hasB x d = (listS s).1 d) ∧ x.size ≤ 256 * (restB s).size ∧ K0 w w') →
      (fr : Int) ≤ s.size →
      IntKind.i64.wrap ((fr : Int) + (listS s).2) = ((fr + (listS s).2 : Nat) : Int) := fun fr hfr e w' _ hle => by
    have := itemsS_le (restB s) (restB s).size 0 (fun _ => false) (by omega)
    have h2 : (listS s).2 ≤ (restB s).size := this
    rw [hsz] at h2
    rw [wr64 (by omega) (by omega)]; omega
  have hN : ∀ {w' : World}, ((listS s).2 = 0 ∨ fromN s + (listS s).2 = s.size ∨ at8 s (fromN s + (listS s).2) ≠ 93) → K0 w w' →
      (Ending.returned (.tuple #[.string ⟨#[]⟩, .int .i64 0]) = .returned (.tuple #[.string (clsS s), .int .i64 (clsN s)]) ∧ K0 w w') := fun h hk => by
    have h0 : clsN s = 0 := by unfold clsN; rw [if_pos h]
    refine ⟨?_, hk⟩
    unfold clsS
    rw [h0, if_pos rfl]
    rfl
  have core : ∀ (fr : Nat), fr = fromN s → fr ≤ s.size → ∀ (e : Ending) (w' : World), (∃ x : ByteArray, e = .returned (.tuple #[.string x, .int .i64 (listS s).2]) ∧ (∀ d, 0 ≤ d → d ≤ 255 → hasB x d = (listS s).1 d) ∧ x.size ≤ 256 * (restB s).size ∧ K0 w w') →
      ∃ (x : ByteArray), ∃ (x_1 : Int), e = .returned (.tuple #[.string x, .int .i64 x_1]) ∧
        gimp (!(x_1 == 0 || IntKind.i64.wrap ((fr : Int) + x_1) == (↑s.size : Int))) (0 ≤ IntKind.i64.wrap ((fr : Int) + x_1) ∧ IntKind.i64.wrap ((fr : Int) + x_1) < (↑s.size : Int)) ∧
        bsp (x_1 == 0 || IntKind.i64.wrap ((fr : Int) + x_1) == (↑s.size : Int) || at8 s (IntKind.i64.wrap ((fr : Int) + x_1)).toNat != 93)
          (Ending.returned (.tuple #[.string ⟨#[]⟩, .int .i64 0]) = .returned (.tuple #[.string (clsS s), .int .i64 (clsN s)]) ∧ K0 w w')
          (∀ (n : Nat) (w1 : World), NewB w' (Obj.cells (byteCells nameBytes).toArray 5) n w1 → ∀ (w2 : World), MarkB w1 n w2 → clsN s ≠ 0 ∧ K0 w w2 ∧ w2.heap[n]? = some (.cells (byteCells nameBytes).toArray 5 (40, 41)) ∧
            (∀ d, 0 ≤ d → d ≤ 255 → hasB x d = (listS s).1 d) ∧ IntKind.i64.wrap (IntKind.i64.wrap ((fr : Int) + x_1) + 1) = (clsN s : Int)) := fun fr hfr hle e w' he => by
    have hk := key fr hfr e w' he (by omega)
    obtain ⟨x, he, hx, _, hw⟩ := he
    refine ⟨x, _, he, ?_⟩
    rw [hk]
    have h2 : (listS s).2 ≤ (restB s).size := itemsS_le (restB s) (restB s).size 0 (fun _ => false) (by omega)
    rw [hsz] at h2
    have hcond : ((((listS s).2 : Nat) : Int) == 0 || ((fr + (listS s).2 : Nat) : Int) == (↑s.size : Int) || at8 s (((fr + (listS s).2 : Nat) : Int)).toNat != 93) = true ↔ ((listS s).2 = 0 ∨ fromN s + (listS s).2 = s.size ∨ at8 s (fromN s + (listS s).2) ≠ 93) := by
      rw [Int.toNat_natCast, hfr]
      simp only [Bool.or_eq_true, beq_iff_eq, bne_iff_ne, ne_eq, or_assoc]
      constructor
      · rintro (h | h | h)
        · left; omega
        · right; left; omega
        · right; right; exact h
      · rintro (h | h | h)
        · left; omega
        · right; left; omega
        · right; right; exact h
    refine ⟨gimp_intro fun hg => ?_, bsp_intro (fun hc => hN (hcond.1 hc) hw) (fun hc => fun n w1 hn w2 hm => ?_)⟩
    · simp only [Bool.not_eq_true', Bool.or_eq_false_iff, beq_eq_false_iff_ne, ne_eq] at hg
      omega
    · have hc' : ¬ ((listS s).2 = 0 ∨ fromN s + (listS s).2 = s.size ∨ at8 s (fromN s + (listS s).2) ≠ 93) := fun h => by rw [hcond.2 h] at hc; cases hc
      have hcn : clsN s = fromN s + (listS s).2 + 1 := by unfold clsN; rw [if_neg hc']
      refine ⟨by omega, ?_, hm.block hn.block, hx, ?_⟩
      · have := hn.ge
        have := hw.size
        exact (hw.trans (hn.kp _)).fresh hm.kp (fun i hi h => by omega)
      · rw [hcn, ← hfr, wr64 (by omega) (by omega)]; omega
  refine bsp_intro (fun hneg => ?_) (fun hneg => ?_)
  · have hf : fromN s = 2 := by unfold fromN; exact if_pos (show negB s = true from hneg)
    have h2 := hasPrefix_size hneg
    have hr : s.extract 2 s.size = restB s := by unfold restB; rw [hf]
    rw [hr]
    refine ⟨⟨by decide, by omega⟩, ⟨(items_any (restB s) w (by omega)).mono fun e w' he => ?_⟩⟩
    obtain ⟨x, x_1, h3, h4, h5⟩ := core 2 hf.symm h2 e w' he
    refine ⟨x, x_1, h3, h4, bsp_mono h5 (fun h => h) (fun h n w1 hn w2 hm => ?_)⟩
    obtain ⟨q1, q2, q3, q4, q5⟩ := h n w1 hn w2 hm
    refine class_loop q3 q2 (fun w3 hk => ⟨?_, hk⟩)
    rw [show IntKind.i64.wrap (IntKind.i64.wrap (2 + x_1) + 1) = (clsN s : Int) from q5]
    rw [show Lib.hasPrefix s.data.toList [91, 94] = negB s from rfl, clsB_eq q1 q4]
  · have hf : fromN s = 1 := by unfold fromN; rw [if_neg (by rw [show negB s = false from hneg]; decide)]
    have hr : s.extract 1 s.size = restB s := by unfold restB; rw [hf]
    rw [hr]
    refine ⟨⟨by decide, by omega⟩, ⟨(items_any (restB s) w (by omega)).mono fun e w' he => ?_⟩⟩
    obtain ⟨x, x_1, h3, h4, h5⟩ := core 1 hf.symm h1 e w' he
    refine ⟨x, x_1, h3, h4, bsp_mono h5 (fun h => h) (fun h n w1 hn w2 hm => ?_)⟩
    obtain ⟨q1, q2, q3, q4, q5⟩ := h n w1 hn w2 hm
    refine class_loop q3 q2 (fun w3 hk => ⟨?_, hk⟩)
    rw [show IntKind.i64.wrap (IntKind.i64.wrap (1 + x_1) + 1) = (clsN s : Int) from q5]
    rw [show Lib.hasPrefix s.data.toList [91, 94] = negB s from rfl, clsB_eq q1 q4]

end Go.Proofs.YtkkfnlehlkiejaaGreatDoor

/- Rows that grow by one element, cells of own blocks: lemmas for the proofs of formulas. Generic: no program, no condition. -/
namespace Go.Proofs.YtkkfnlehlkiejaaGreatDoor
open Go.RowKit

/-- One element is appended (its cells lie in a new block). -/
theorem app1 {w w1 : World} {base n2 n c L sz : Nat} {T : TypeId} {p : Option Addr} {xs : List Value} {cs : Array Value} (ho : w.ownsRow base T L (.slice p n c) n xs) (hb : base ≤ w.heap.size) (hn : NewB w (.cells cs T) n2 w1) (hL : cs.size = L)
    (hv : ∀ u ∈ cs.toList, u.oneCell' = true) (h1 : n + 1 ≤ 9223372036854775807) (h2 : (n + 1) * sz ≤ 140737488355328) {X : Option Addr → Nat → World → Prop}
    (h : ∀ (p' : Option Addr) (c' : Nat) (w' : World), w'.ownsRow base T L (.slice p' (n + 1) c') (n + 1) (xs ++ cs.toList) → Kp (fun k => (Value.slice p n c).ownBlock = some k) w w' → w1.heap.size ≤ w'.heap.size → X p' c' w') :
    ∃ (base : Nat) (xs news : List Value), w1.ownsRow base T L (.slice p n c) n xs ∧ news.length = L ∧ SrcP w1 (some (Addr.mk n2 0 none)) news ∧ n + 1 ≤ 9223372036854775807 ∧ (n + 1) * sz ≤ 140737488355328 ∧ base ≤ w1.heap.size ∧
      ∀ (p' : Option Addr) (c' : Nat) (w' : World), w'.ownsRow base T L (.slice p' (n + 1) c') (n + 1) (xs ++ news) → w1.grownBy w' (Value.slice p n c).ownBlock → (n + 1 ≤ c → p' = p ∧ c' = c) → X p' c' w' := by
  have hk := hn.kp (fun _ => False)
  refine ⟨base, xs, cs.toList, owns_kp ho hk (fun _ _ h => h), by simpa using hL, src_block hn.block hv, h1, h2, Nat.le_trans hb hk.size, fun p' c' w' ho' hg _ => h p' c' w' ho' ?_ hg.size⟩
  exact (hn.kp _).grown hg (fun k hk => .inr hk)
/-- The block of a row is not before its base. -/
theorem own_ge {w : World} {base : Nat} {e : TypeId} {size : Nat} {v : Value} {n : Nat} {xs : List Value} (h : w.ownsRow base e size v n xs) {k : Nat} (hk : v.ownBlock = some k) : base ≤ k := (h.lt k hk).1
theorem own_lt {w : World} {base : Nat} {e : TypeId} {size : Nat} {v : Value} {n : Nat} {xs : List Value} (h : w.ownsRow base e size v n xs) {k : Nat} (hk : v.ownBlock = some k) : k < w.heap.size := (h.lt k hk).2
theorem cell_at {w : World} {b o : Nat} {c : Array Value} {t : TypeId} {f : Nat × Nat} {v : Value} (h : w.heap[b]? = some (.cells c t f)) (hv : c[o]? = some v) : w.cell? ⟨b, o, none⟩ = some v := by rw [cell_block h]; exact hv
/-- A block that can be written: a cell of it. -/
theorem cell_wr {w : World} {b o : Nat} {c : Array Value} {t : TypeId} (h : w.heap[b]? = some (.cells c t (0, 0))) (ho : o < c.size) : (∃ u, w.cell? ⟨b, o, none⟩ = some u) ∧ w.frozen? ⟨b, o, none⟩ = false :=
  ⟨⟨c[o], by rw [cell_block h]; simp [ho]⟩, frozen_block h _⟩
/-- An element of a row, read. -/
theorem own_cell {w : World} {base : Nat} {e : TypeId} {n c : Nat} {p : Option Addr} {xs : List Value} (h : w.ownsRow base e 1 (.slice p n c) n xs) {k : Nat} (hk : k < n) : ∃ g v, p = some ⟨g, 0, none⟩ ∧ xs[k]? = some v ∧ w.cell? ⟨g, 0 + k, none⟩ = some v := by
  have hl := h.1
  rcases h.2 with ⟨_, hn⟩ | ⟨g, cap, cur, hv, _, hg, _, _, _, ht⟩
  · omega
  · simp only [Value.slice.injEq] at hv
    obtain ⟨v, hx⟩ : ∃ v, xs[k]? = some v := ⟨_, List.getElem?_eq_getElem (by omega)⟩
    refine ⟨g, v, hv.1, hx, ?_⟩
    rw [cell_block hg, Nat.zero_add]
    rw [← ht, List.getElem?_take] at hx
    simp only [Nat.mul_one, hk, if_true] at hx
    rw [Array.getElem?_toList] at hx
    rw [hx]
/-- What lies in the block of a row. -/
theorem own_type {w : World} {base : Nat} {e : TypeId} {size : Nat} {v : Value} {n : Nat} {xs : List Value} (h : w.ownsRow base e size v n xs) {k : Nat} (hk : v.ownBlock = some k) : ∃ c, w.heap[k]? = some (.cells c e (0, 0)) := by
  rcases h.2 with ⟨rfl, _⟩ | ⟨g, cap, cur, rfl, _, hg, _⟩
  · simp [Value.ownBlock] at hk
  · simp only [Value.ownBlock, Option.some.injEq] at hk
    subst hk
    exact ⟨cur, hg⟩
theorem putL_all : ∀ (vs pre c : List Value), c.length = vs.length → putL (pre ++ c) pre.length vs = pre ++ vs
  | [], pre, [], _ => by simp [putL]
  | [], pre, _ :: _, h => by simp at h
  | v :: r, pre, [], h => by simp at h
  | v :: r, pre, x :: c, h => by
    have := putL_all r (pre ++ [v]) c (by simpa using h)
    simp only [putL]
    simpa using this
/-- All cells of a block are written. -/
theorem PutB.full {w w1 : World} {b : Nat} {cs : List Value} (h : PutB w b 0 cs w1) {c : Array Value} {t : TypeId} {f : Nat × Nat} (hb : w.heap[b]? = some (.cells c t f)) (hl : c.size = cs.length) : w1.heap[b]? = some (.cells cs.toArray t f) := by
  have := putL_all cs [] c.toList (by simpa using hl)
  simp at this
  rw [h.block hb, this]

end Go.Proofs.YtkkfnlehlkiejaaGreatDoor

/- The formulas of functions by the symbolic evaluator, and that each gives the call's contract. Written by a program (gen.py). No condition. -/
namespace Go.Proofs.YtkkfnlehlkiejaaGreatDoor
set_option maxRecDepth 100000
set_option linter.unusedVariables false

def VC_compile (s : ByteArray) (w : World) (R : Ending → World → Prop) : Prop :=
 bsp (s.toList == [])
 (R (Ending.returned (Value.tuple #[Value.pointer none, Value.int IntKind.i64 0, Value.int IntKind.i64 4])) w)
 (bsp (decide ((↑s.size : Int) > 80))
 (R (Ending.returned (Value.tuple #[Value.pointer none, Value.int IntKind.i64 80, Value.int IntKind.i64 5])) w)
 (∀ (n : Nat) (w1 : World),
 NewB w (Obj.cells #[Value.string s, Value.slice none 0 0] 149) n w1 →
 ∃ (I : List Value → World → Prop),
 ∃ (m : List Value → World → Nat),
 I [Value.int IntKind.i64 0] w1 ∧
 ∀ (x : Int) (w' : World),
 I [Value.int IntKind.i64 x] w' →
 bsp (decide (x < (↑s.size : Int)))
 (∃ (J : List Value → World → Prop),
 ((0 ≤ x ∧ x < (↑s.size : Int)) ∧
 bsp (at8 s x.toNat == 63)
 (∃ (p : Option Addr),
 ∃ (n_1 : Nat),
 ∃ (c : Nat),
 w'.cell? (Addr.mk n (0 + 1) none) = some (Value.slice p n_1 c) ∧
 ∀ (n_2 : Nat) (w1 : World),
 NewB w' (Obj.cells #[Value.iface 151 (Value.agg #[])] 167) n_2 w1 →
 ∃ (base : Nat),
 ∃ (xs : List Value),
 ∃ (news : List Value),
 w1.ownsRow base 167 1 (Value.slice p n_1 c) n_1 xs ∧
 news.length = 1 ∧
 SrcP w1 (some (Addr.mk n_2 0 none)) news ∧
 n_1 + 1 ≤ 9223372036854775807 ∧
 (n_1 + 1) * 16 ≤ 140737488355328 ∧
 base ≤ w1.heap.size ∧
 ∀ (p' : Option Addr) (c' : Nat) (w' : World),
 w'.ownsRow base 167 1 (Value.slice p' (n_1 + 1) c') (n_1 + 1) (xs ++ news) →
 w1.grownBy w' (Value.slice p n_1 c).ownBlock →
 (n_1 + 1 ≤ c → p' = p ∧ c' = c) →
 ((∃ (u : Value), w'.cell? (Addr.mk n (0 + 1) none) = some u) ∧
 w'.frozen? (Addr.mk n (0 + 1) none) = false) ∧
 ∀ (w1 : World),
 PutB w' n (0 + 1) [Value.slice p' (n_1 + 1) c'] w1 → J [Value.int IntKind.i64 1] w1)
 (bsp (at8 s x.toNat == 42)
 (∃ (p : Option Addr),
 ∃ (n_1 : Nat),
 ∃ (c : Nat),
 w'.cell? (Addr.mk n (0 + 1) none) = some (Value.slice p n_1 c) ∧
 ∀ (n_2 : Nat) (w1 : World),
 NewB w' (Obj.cells #[Value.iface 152 (Value.agg #[])] 167) n_2 w1 →
 ∃ (base : Nat),
 ∃ (xs : List Value),
 ∃ (news : List Value),
 w1.ownsRow base 167 1 (Value.slice p n_1 c) n_1 xs ∧
 news.length = 1 ∧
 SrcP w1 (some (Addr.mk n_2 0 none)) news ∧
 n_1 + 1 ≤ 9223372036854775807 ∧
 (n_1 + 1) * 16 ≤ 140737488355328 ∧
 base ≤ w1.heap.size ∧
 ∀ (p' : Option Addr) (c' : Nat) (w' : World),
 w'.ownsRow base 167 1 (Value.slice p' (n_1 + 1) c') (n_1 + 1) (xs ++ news) →
 w1.grownBy w' (Value.slice p n_1 c).ownBlock →
 (n_1 + 1 ≤ c → p' = p ∧ c' = c) →
 ((∃ (u : Value), w'.cell? (Addr.mk n (0 + 1) none) = some u) ∧
 w'.frozen? (Addr.mk n (0 + 1) none) = false) ∧
 ∀ (w1 : World),
 PutB w' n (0 + 1) [Value.slice p' (n_1 + 1) c'] w1 → J [Value.int IntKind.i64 1] w1)
 (bsp (at8 s x.toNat == 91)
 ((0 ≤ x ∧ x ≤ (↑s.size : Int)) ∧
 CallsS Tryz.prog 86 #[Value.string (s.extract x.toNat s.size)] w' fun (e : Ending) (w' : World) =>
 ∃ (x_1 : ByteArray),
 ∃ (x_2 : Int),
 e = Ending.returned (Value.tuple #[Value.string x_1, Value.int IntKind.i64 x_2]) ∧
 bsp (x_2 == 0)
 (R
 (Ending.returned
 (Value.tuple #[Value.pointer none, Value.int IntKind.i64 x, Value.int IntKind.i64 3]))
 w')
 (∃ (p : Option Addr),
 ∃ (n_1 : Nat),
 ∃ (c : Nat),
 w'.cell? (Addr.mk n (0 + 1) none) = some (Value.slice p n_1 c) ∧
 ∀ (n_2 : Nat) (w1 : World),
 NewB w' (Obj.cells #[Value.iface 153 (Value.string x_1)] 167) n_2 w1 →
 ∃ (base : Nat),
 ∃ (xs : List Value),
 ∃ (news : List Value),
 w1.ownsRow base 167 1 (Value.slice p n_1 c) n_1 xs ∧
 news.length = 1 ∧
 SrcP w1 (some (Addr.mk n_2 0 none)) news ∧
 n_1 + 1 ≤ 9223372036854775807 ∧
 (n_1 + 1) * 16 ≤ 140737488355328 ∧
 base ≤ w1.heap.size ∧
 ∀ (p' : Option Addr) (c' : Nat) (w' : World),
 w'.ownsRow base 167 1 (Value.slice p' (n_1 + 1) c') (n_1 + 1) (xs ++ news) →
 w1.grownBy w' (Value.slice p n_1 c).ownBlock →
 (n_1 + 1 ≤ c → p' = p ∧ c' = c) →
 ((∃ (u : Value), w'.cell? (Addr.mk n (0 + 1) none) = some u) ∧
 w'.frozen? (Addr.mk n (0 + 1) none) = false) ∧
 ∀ (w1 : World),
 PutB w' n (0 + 1) [Value.slice p' (n_1 + 1) c'] w1 →
 J [Value.int IntKind.i64 x_2] w1))
 (bsp
 (decide
 (Lib.indexByte
 (ByteArray.mk
 #[43, 45, 46, 48, 49, 50, 51, 52, 53, 54, 55, 56, 57, 95, 97, 98, 99, 100, 101, 102, 103, 104,
 105, 106, 107, 108, 109, 110, 111, 112, 113, 114, 115, 116, 117, 118, 119, 120, 121,
 122]).data.toList
 (at8 s x.toNat).toNat.toUInt8 ≥
 0))
 (∃ (S : World → Prop),
 S w'.drew ∧
 ∃ (p : Option Addr),
 ∃ (n_1 : Nat),
 ∃ (c : Nat),
 (∀ (w' : World), S w' → w'.cell? (Addr.mk n (0 + 1) none) = some (Value.slice p n_1 c)) ∧
 (0 ≤ x ∧ x ≤ IntKind.i64.wrap (x + 1) ∧ IntKind.i64.wrap (x + 1) ≤ (↑s.size : Int)) ∧
 ∀ (n_2 : Nat) (w1 : World),
 NewB w'.drew
 (Obj.cells
 #[Value.iface 157 (Value.string (s.extract x.toNat (IntKind.i64.wrap (x + 1)).toNat))] 167)
 n_2 w1 →
 S w1 ∧
 ∃ (base : Nat),
 ∃ (xs : List Value),
 ∃ (news : List Value),
 w1.ownsRow base 167 1 (Value.slice p n_1 c) n_1 xs ∧
 news.length = 1 ∧
 SrcP w1 (some (Addr.mk n_2 0 none)) news ∧
 n_1 + 1 ≤ 9223372036854775807 ∧
 (n_1 + 1) * 16 ≤ 140737488355328 ∧
 base ≤ w1.heap.size ∧
 ∀ (p' : Option Addr) (c' : Nat) (w' : World),
 w'.ownsRow base 167 1 (Value.slice p' (n_1 + 1) c') (n_1 + 1) (xs ++ news) →
 w1.grownBy w' (Value.slice p n_1 c).ownBlock →
 (n_1 + 1 ≤ c → p' = p ∧ c' = c) →
 ((∃ (u : Value), w'.cell? (Addr.mk n (0 + 1) none) = some u) ∧
 w'.frozen? (Addr.mk n (0 + 1) none) = false) ∧
 ∀ (w1 : World),
 PutB w' n (0 + 1) [Value.slice p' (n_1 + 1) c'] w1 →
 J [Value.int IntKind.i64 1] w1)
 (R
 (Ending.returned
 (Value.tuple #[Value.pointer none, Value.int IntKind.i64 x, Value.int IntKind.i64 6]))
 w'))))) ∧
 ∀ (x_1 : Int) (w'_1 : World),
 J [Value.int IntKind.i64 x_1] w'_1 →
 I [Value.int IntKind.i64 (IntKind.i64.wrap (x + x_1))] w'_1 ∧
 m [Value.int IntKind.i64 (IntKind.i64.wrap (x + x_1))] w'_1 < m [Value.int IntKind.i64 x] w')
 (R
 (Ending.returned
 (Value.tuple #[Value.pointer (some (Addr.mk n 0 none)), Value.int IntKind.i64 0, Value.int IntKind.i64 0]))
 w')))
theorem vc_compile (s : ByteArray) (w : World) (R : Ending → World → Prop) (h : VC_compile s w R) : Calls Tryz.prog 61 ([Value.string
    s] : List Value).toArray w R := by
  have e : execR { P := Tryz.prog, loops := [(7, [(6, Ck.int IntKind.i64)])], pur := pur1, tails := [(22, 11)], joins := [(23, [(7, Ck.int IntKind.i64)])], boxes := [] } Tryz.f61.results.toList R (Tryz.f61.body.getD .skip) (initF [Value.string
    s] (Tryz.f61.ntmps - ([Value.string s] : List Value).length)) w = VC_compile s w R := by kernel_rfl
  have hb : Tryz.f61.body = some (Tryz.f61.body.getD .skip) := by kernel_rfl
  exact calls_of_exec' (P := Tryz.prog) (fn := Tryz.f61) (c := Tryz.f61.body.getD .skip) (args := [Value.string
    s]) (w := w) (R := R) pur1_ok Tryz.func61 hb e h

end Go.Proofs.YtkkfnlehlkiejaaGreatDoor

/- The contract of wildmat.Compile, by a plain function. No condition. -/
namespace Go.Proofs.YtkkfnlehlkiejaaGreatDoor
open Go.RowKit

/-- A pattern in the memory: its block and its row of elements lie where D says. -/
def PatR (D : Nat → Prop) (w : World) (b : Nat) (s : ByteArray) (els : List El) : Prop :=
  ∃ (p : Option Addr) (n c : Nat), w.heap[b]? = some (.cells #[.string s, .slice p n c] 149 (0, 0)) ∧ D b ∧ w.ownsRow 0 167 1 (.slice p n c) n (els.map El.val) ∧ ∀ k, (Value.slice p n c).ownBlock = some k → D k
theorem PatR.kp {D M : Nat → Prop} {w w' : World} {b : Nat} {s : ByteArray} {els : List El} (h : PatR D w b s els) (hk : Kp M w w') (hm : ∀ k, D k → k < w.heap.size → ¬ M k) : PatR D w' b s els := by
  obtain ⟨p, n, c, h1, h2, h3, h4⟩ := h
  exact ⟨p, n, c, hk.blk h1 (hm b h2 (block_lt h1)), h2, owns_kp h3 hk (fun k hk => hm k (h4 k hk) (own_lt h3 hk)), h4⟩
/-- Blocks of other types are written. -/
theorem PatR.kpT {D M : Nat → Prop} {w w' : World} {b : Nat} {s : ByteArray} {els : List El} (h : PatR D w b s els) (hk : Kp M w w') (hm : ∀ k c t f, M k → w.heap[k]? = some (.cells c t f) → t ≠ 149 ∧ t ≠ 167) : PatR D w' b s els := by
  obtain ⟨p, n, c, h1, h2, h3, h4⟩ := h
  refine ⟨p, n, c, hk.blk h1 (fun hM => (hm b _ _ _ hM h1).1 rfl), h2, owns_kp h3 hk (fun k hk hM => ?_), h4⟩
  obtain ⟨cc, hc⟩ := own_type h3 hk
  exact (hm k _ _ _ hM hc).2 rfl
theorem PatR.mono {D D' : Nat → Prop} {w : World} {b : Nat} {s : ByteArray} {els : List El} (h : PatR D w b s els) (hd : ∀ k, D k → k < w.heap.size → D' k) : PatR D' w b s els := by
  obtain ⟨p, n, c, h1, h2, h3, h4⟩ := h
  exact ⟨p, n, c, h1, hd b h2 (block_lt h1), h3, fun k hk => hd k (h4 k hk) (own_lt h3 hk)⟩

/-- The elements of a pattern from an index on, or the offset and the kind of the error. -/
def compS (s : ByteArray) : Nat → Nat → List El → List El ⊕ (Nat × Int)
  | 0, _, acc => .inl acc
  | f + 1, k, acc =>
    if k < s.size then
      if (at8 s k == 63) = true then compS s f (k + 1) (acc ++ [.one])
      else if (at8 s k == 42) = true then compS s f (k + 1) (acc ++ [.star])
      else if (at8 s k == 91) = true then
        if clsN (s.extract k s.size) = 0 then .inr (k, 3) else compS s f (k + clsN (s.extract k s.size)) (acc ++ [.cls (clsS (s.extract k s.size))])
      else if hasB nameBytes (at8 s k) = true then compS s f (k + 1) (acc ++ [.lit (s.extract k (k + 1))])
      else .inr (k, 6)
    else .inl acc
def compileR (s : ByteArray) : List El ⊕ (Nat × Int) :=
  if s.size = 0 then .inr (0, 4) else if 80 < s.size then .inr (80, 5) else compS s s.size 0 []
theorem clsN_le (s : ByteArray) (h : 1 ≤ s.size) : clsN s ≤ s.size := by
  unfold clsN
  split
  · omega
  · rename_i hn
    have h1 := itemsS_le (restB s) (restB s).size 0 (fun _ => false) (by omega)
    have h2 : (restB s).size = s.size - fromN s := by unfold restB; rw [ByteArray.size_extract]; omega
    have h3 : fromN s ≤ s.size := by
      unfold fromN
      split
      · rename_i hneg; exact hasPrefix_size hneg
      · exact h
    have h4 : (listS s).2 ≤ s.size - fromN s := by unfold listS; omega
    have h5 : ¬ fromN s + (listS s).2 = s.size := fun e => hn (.inr (.inl e))
    omega
theorem El.oneCell (x : El) : (x.val).oneCell' = true := by cases x <;> rfl
theorem hasB_index (x : ByteArray) (c : Int) : decide (Lib.indexByte x.data.toList c.toNat.toUInt8 ≥ 0) = hasB x c := by
  exact indexByte_nonneg _ _

/-- A pattern that is being made. -/
def PatSt (w : World) (nb : Nat) (s : ByteArray) (acc : List El) : Prop :=
  ∃ (p : Option Addr) (n c : Nat), w.heap[nb]? = some (.cells #[.string s, .slice p n c] 149 (0, 0)) ∧ w.ownsRow (nb + 1) 167 1 (.slice p n c) n (acc.map El.val)
theorem PatSt.kp {w w' : World} {nb : Nat} {s : ByteArray} {acc : List El} (h : PatSt w nb s acc) (hk : K0 w w') : PatSt w' nb s acc := by
  obtain ⟨p, n, c, h1, h2⟩ := h
  exact ⟨p, n, c, hk.blk h1 (fun h => h), owns_kp h2 hk (fun _ _ h => h)⟩

set_option maxHeartbeats 400000 in
theorem compile_any (s : ByteArray) (w : World) : Calls Tryz.prog 61 #[.string s] w fun e w' => K0 w w' ∧
    match compileR s with
    | .inl els => ∃ b, e = .returned (.tuple #[.pointer (some ⟨b, 0, none⟩), .int .i64 0, .int .i64 0]) ∧ PatR (fun k => w.heap.size ≤ k) w' b s els
    | .inr (o, x) => e = .returned (.tuple #[.pointer none, .int .i64 o, .int .i64 x]) := by
  refine vc_compile s w _ ?_
  unfold VC_compile
  rw [toList_nil]
  refine bsp_intro (fun h0 => ?_) (fun h0 => bsp_intro (fun h1 => ?_) (fun h1 => ?_))
  · have h0 : s.size = 0 := by simpa using h0
    refine ⟨.refl _ _, ?_⟩
    simp only [compileR, h0, if_true]
    rfl
  · have h0 : ¬ s.size = 0 := by simpa using h0
    have h1 : 80 < s.size := by simp at h1; omega
    refine ⟨.refl _ _, ?_⟩
    simp only [compileR, h0, h1, if_true, if_false]
    rfl
  have h0 : ¬ s.size = 0 := by simpa using h0
  have h1 : ¬ 80 < s.size := by simp at h1; omega
  have hR : compileR s = compS s s.size 0 [] := by simp only [compileR, h0, h1, if_false]
  rw [hR]
  intro nb w1 hn
  refine ⟨fun vs w' => ∃ (k f : Nat) (acc : List El), vs = [.int .i64 k] ∧ k ≤ s.size ∧ s.size - k ≤ f ∧ acc.length ≤ k ∧ compS s f k acc = compS s s.size 0 [] ∧ PatSt w' nb s acc ∧ K0 w w',
    fun vs _ => (match vs with | .int _ x :: _ => s.size - x.toNat | _ => 0), ⟨0, s.size, [], rfl, by omega, by omega, by simp, rfl, ⟨none, 0, 0, hn.block, World.ownsRow_nil _ _ _ _⟩, hn.kp _⟩, fun x w' ⟨k, f, acc, hv, hk, hf, hacc, hS, hst, hw⟩ => ?_⟩
  simp only [List.cons.injEq, Value.int.injEq, true_and, and_true] at hv
  subst hv
  have hnb : nb = w.heap.size := hn.hn
  refine bsp_intro (fun hlt => ?_) (fun hge => ?_)
  · have hlt : k < s.size := by simpa using hlt
    obtain ⟨f, rfl⟩ : ∃ g, f = g + 1 := ⟨f - 1, by omega⟩
    have e0 : (k : Int).toNat = k := by omega
    rw [e0, wr64 (x := (k : Int) + 1) (by omega) (by omega)]
    have e1 : ((k : Int) + 1).toNat = k + 1 := by omega
    rw [e1]
    -- one element more
    have app : ∀ (x : El) (wa : World), PatSt wa nb s acc → K0 w wa → ∀ (p : Option Addr) (n_1 c : Nat), wa.heap[nb]? = some (.cells #[.string s, .slice p n_1 c] 149 (0, 0)) → wa.ownsRow (nb + 1) 167 1 (.slice p n_1 c) n_1 (acc.map El.val) →
        ∀ (n_2 : Nat) (w1 : World), NewB wa (.cells #[x.val] 167) n_2 w1 → ∀ (Y : World → Prop), (∀ w2, PatSt w2 nb s (acc ++ [x]) → K0 w w2 → Y w2) →
        ∃ (base : Nat) (xs news : List Value), w1.ownsRow base 167 1 (.slice p n_1 c) n_1 xs ∧ news.length = 1 ∧ SrcP w1 (some (Addr.mk n_2 0 none)) news ∧ n_1 + 1 ≤ 9223372036854775807 ∧ (n_1 + 1) * 16 ≤ 140737488355328 ∧ base ≤ w1.heap.size ∧
          ∀ (p' : Option Addr) (c' : Nat) (w' : World), w'.ownsRow base 167 1 (.slice p' (n_1 + 1) c') (n_1 + 1) (xs ++ news) → w1.grownBy w' (Value.slice p n_1 c).ownBlock → (n_1 + 1 ≤ c → p' = p ∧ c' = c) →
            ((∃ (u : Value), w'.cell? (Addr.mk nb (0 + 1) none) = some u) ∧ w'.frozen? (Addr.mk nb (0 + 1) none) = false) ∧
              ∀ (w1 : World), PutB w' nb (0 + 1) [Value.slice p' (n_1 + 1) c'] w1 → Y w1 := by
      intro x wa hsta hwa p n_1 c hb ho n_2 w1 hn2 Y hY
      have hl := ho.1
      rw [List.length_map] at hl
      refine app1 ho (block_lt hb) hn2 rfl (fun u hu => by simp at hu; subst hu; exact x.oneCell) (by omega) (by omega) (fun p' c' w' ho' hk' _ => ?_)
      have hne : ∀ k, (Value.slice p n_1 c).ownBlock = some k → ¬ nb = k := fun k hk e => by have := own_ge ho hk; omega
      have hb' : w'.heap[nb]? = some (.cells #[.string s, .slice p n_1 c] 149 (0, 0)) := hk'.blk hb (fun e => hne _ e rfl)
      refine ⟨cell_wr hb' (by simp), fun w2 hp => hY w2 ⟨p', n_1 + 1, c', hp.block hb', ?_⟩ ?_⟩
      · rw [List.map_append]
        exact owns_kp ho' hp.kp (fun k hk e => by have := own_ge ho' hk; omega)
      · have := hwa.size
        exact (hwa.fresh hk' (fun i hi e => by have := own_ge ho e; omega)).fresh hp.kp (fun i hi e => by omega)
    refine ⟨fun vs w2 => ∃ (d : Nat) (acc' : List El), vs = [.int .i64 (d : Int)] ∧ 1 ≤ d ∧ k + d ≤ s.size ∧ acc'.length ≤ k + d ∧ compS s f (k + d) acc' = compS s s.size 0 [] ∧ PatSt w2 nb s acc' ∧ K0 w w2, ⟨⟨by omega, by omega⟩, ?_⟩, fun x_1 w2 ⟨d, acc', hv, hd1, hd2, hd3, hd4, hd5, hd6⟩ => ?_⟩
    · obtain ⟨p, n_1, c, hb, ho⟩ := hst
      refine bsp_intro (fun c1 => ?_) (fun c1 => bsp_intro (fun c2 => ?_) (fun c2 => bsp_intro (fun c3 => ?_) (fun c3 => ?_)))
      · exact ⟨p, n_1, c, cell_at hb rfl, fun n_2 w1 hn2 => app .one w' ⟨p, n_1, c, hb, ho⟩ hw p n_1 c hb ho n_2 w1 hn2 _ (fun w2 h1 h2 => ⟨1, _, rfl, by omega, by omega, by simp; omega, by rw [← hS]; simp [compS, hlt, c1], h1, h2⟩)⟩
      · exact ⟨p, n_1, c, cell_at hb rfl, fun n_2 w1 hn2 => app .star w' ⟨p, n_1, c, hb, ho⟩ hw p n_1 c hb ho n_2 w1 hn2 _ (fun w2 h1 h2 => ⟨1, _, rfl, by omega, by omega, by simp; omega, by rw [← hS]; simp [compS, hlt, c1, c2], h1, h2⟩)⟩
      · have hxs : (s.extract k s.size).size = s.size - k := by rw [ByteArray.size_extract]; omega
        refine ⟨⟨by omega, by omega⟩, ⟨(parseClass_any (s.extract k s.size) w' (by omega) (by omega)).mono fun e w2 he => ?_⟩⟩
        obtain ⟨he, hk2⟩ := he
        have hle := clsN_le (s.extract k s.size) (by omega)
        have hcs0 : compS s (f + 1) k acc = if clsN (s.extract k s.size) = 0 then .inr (k, 3) else compS s f (k + clsN (s.extract k s.size)) (acc ++ [.cls (clsS (s.extract k s.size))]) := by simp [compS, hlt, c1, c2, c3]
        generalize clsN (s.extract k s.size) = cn at he hle hcs0
        generalize clsS (s.extract k s.size) = cs at he hcs0
        refine ⟨cs, cn, he, ?_⟩
        refine bsp_intro (fun c4 => ⟨hw.trans hk2, ?_⟩) (fun c4 => ?_)
        · have c4 : cn = 0 := by simpa using c4
          rw [← hS, hcs0, if_pos c4]
        · have c4 : ¬ cn = 0 := by simpa using c4
          rw [if_neg c4] at hcs0
          have hb2 := hk2.blk hb (fun h => h)
          have ho2 := owns_kp ho hk2 (fun _ _ h => h)
          exact ⟨p, n_1, c, cell_at hb2 rfl, fun n_2 w1 hn2 => app (.cls cs) w2 ⟨p, n_1, c, hb2, ho2⟩ (hw.trans hk2) p n_1 c hb2 ho2 n_2 w1 hn2 _ (fun w2 h1 h2 => ⟨cn, _, rfl, by omega, by omega, by simp; omega, by rw [← hS]; exact hcs0.symm, h1, h2⟩)⟩
      · have hh : decide (Lib.indexByte (ByteArray.mk #[43, 45, 46, 48, 49, 50, 51, 52, 53, 54, 55, 56, 57, 95, 97, 98, 99, 100, 101, 102, 103, 104, 105, 106, 107, 108, 109, 110, 111, 112, 113, 114, 115, 116, 117, 118, 119, 120, 121, 122]).data.toList (at8 s k).toNat.toUInt8 ≥ 0) = hasB nameBytes (at8 s k) := hasB_index nameBytes _
        rw [hh]
        refine bsp_intro (fun c4 => ?_) (fun c4 => ⟨hw, ?_⟩)
        · refine ⟨fun w2 => w2.cell? (Addr.mk nb (0 + 1) none) = some (Value.slice p n_1 c), cell_at (blk_drew hb) rfl, p, n_1, c, fun w2 h => h, ⟨by omega, by omega, by omega⟩, fun n_2 w1 hn2 => ?_⟩
          have hb2 := blk_drew hb
          have ho2 : w'.drew.ownsRow (nb + 1) 167 1 (.slice p n_1 c) n_1 (acc.map El.val) := ho
          refine ⟨cell_at (hn2.kp (fun _ => False) |>.blk hb2 (fun h => h)) rfl, ?_⟩
          exact app (.lit (s.extract k (k + 1))) w'.drew ⟨p, n_1, c, hb2, ho2⟩ hw.drew p n_1 c hb2 ho2 n_2 w1 hn2 _ (fun w2 h1 h2 => ⟨1, _, rfl, by omega, by omega, by simp; omega, by rw [← hS]; simp [compS, hlt, c1, c2, c3, c4], h1, h2⟩)
        · rw [← hS]
          simp [compS, hlt, c1, c2, c3, c4]
    · simp only [List.cons.injEq, Value.int.injEq, true_and, and_true] at hv
      subst hv
      rw [wr64 (by omega) (by omega)]
      exact ⟨⟨k + d, f, acc', by simp, hd2, by omega, hd3, hd4, hd5, hd6⟩, by simp; omega⟩
  · have hge : ¬ k < s.size := by simpa using hge
    refine ⟨hw, ?_⟩
    have : compS s f k acc = .inl acc := by cases f <;> simp [compS, hge]
    rw [← hS, this]
    obtain ⟨p, n, c, hb, ho⟩ := hst
    exact ⟨nb, rfl, p, n, c, hb, by omega, ⟨ho.1, ho.2.imp id fun ⟨g, cap, cur, a1, a2, a3⟩ => ⟨g, cap, cur, a1, by omega, a3⟩⟩, fun k hk => by have := own_ge ho hk; omega⟩

end Go.Proofs.YtkkfnlehlkiejaaGreatDoor

/- The formulas of functions by the symbolic evaluator, and that each gives the call's contract. Written by a program (gen.py). No condition. -/
namespace Go.Proofs.YtkkfnlehlkiejaaGreatDoor
set_option maxRecDepth 100000
set_option linter.unusedVariables false

def VC_match (b : Nat) (o : Nat) (s : ByteArray) (w : World) (R : Ending → World → Prop) : Prop :=
 ∃ (p : Option Addr),
 ∃ (n : Nat),
 ∃ (c : Nat),
 w.cell? (Addr.mk b (o + 1) none) = some (Value.slice p n c) ∧
 (0 ≤ IntKind.i64.wrap ((↑n : Int) + 1) ∧
 IntKind.i64.wrap ((↑n : Int) + 1) ≤ IntKind.i64.wrap ((↑n : Int) + 1) ∧
 (↑1 : Int) * IntKind.i64.wrap ((↑n : Int) + 1) ≤ 281474976710656 ∧
 IntKind.i64.wrap ((↑n : Int) + 1) ≤ 9223372036854775807) ∧
 ∀ (n_1 : Nat) (w1 : World),
 NewB w (Obj.cells (madeCells #[Value.bool false] ((IntKind.i64.wrap ((↑n : Int) + 1)).toNat * 1)) 4) n_1 w1 →
 ((0 : Int) ≤ 0 ∧ 0 < (↑(IntKind.i64.wrap ((↑n : Int) + 1)).toNat : Int)) ∧
 ((∃ (u : Value), w1.cell? (Addr.mk n_1 0 none) = some u) ∧ w1.frozen? (Addr.mk n_1 0 none) = false) ∧
 ∀ (w1_1 : World),
 PutB w1 n_1 0 [Value.bool true] w1_1 →
 CallsS Tryz.prog 90
 #[Value.pointer (some (Addr.mk b o none)),
 Value.slice (some (Addr.mk n_1 0 none)) (IntKind.i64.wrap ((↑n : Int) + 1)).toNat
 (IntKind.i64.wrap ((↑n : Int) + 1)).toNat]
 w1_1 fun (e : Ending) (w' : World) =>
 e = Ending.returned (Value.tuple #[]) ∧
 ∀ (c n_2 : Nat) (w1 : World),
 s.size ≤ c →
 NewB w'.drew (Obj.cells (bytesRow s c) 5 ((bytesRow s c).size, (bytesRow s c).size + 1)) n_2 w1 →
 ∃ (I : List Value → World → Prop),
 ∃ (m : List Value → World → Nat),
 I
 [Value.slice (some (Addr.mk n_1 0 none)) (IntKind.i64.wrap ((↑n : Int) + 1)).toNat
 (IntKind.i64.wrap ((↑n : Int) + 1)).toNat,
 Value.int IntKind.i64 0]
 w1 ∧
 ∀ (p : Option Addr) (n c : Nat) (x : Int) (w' : World),
 I [Value.slice p n c, Value.int IntKind.i64 x] w' →
 bsp (decide (x < (↑s.size : Int)))
 ((0 ≤ x ∧ x < (↑s.size : Int)) ∧
 ∃ (x_1 : Int),
 w'.cell? (Addr.mk n_2 (0 + x.toNat) none) = some (Value.int IntKind.u8 x_1) ∧
 (0 ≤ (↑n : Int) ∧
 (↑n : Int) ≤ (↑n : Int) ∧
 (↑1 : Int) * (↑n : Int) ≤ 281474976710656 ∧ (↑n : Int) ≤ 9223372036854775807) ∧
 ∀ (n_3 : Nat) (w1 : World),
 NewB w' (Obj.cells (madeCells #[Value.bool false] ((↑n : Int).toNat * 1)) 4) n_3 w1 →
 ∃ (p_1 : Option Addr),
 ∃ (n_4 : Nat),
 ∃ (c_1 : Nat),
 w1.cell? (Addr.mk b (o + 1) none) = some (Value.slice p_1 n_4 c_1) ∧
 ∃ (I_1 : List Value → World → Prop),
 ∃ (m_1 : List Value → World → Nat),
 I_1 [Value.int IntKind.i64 0] w1 ∧
 ∀ (x_2 : Int) (w'_1 : World),
 I_1 [Value.int IntKind.i64 x_2] w'_1 →
 bsp (decide (x_2 < (↑n_4 : Int)))
 (∃ (J : List Value → World → Prop),
 (nn true p_1 fun (b o : Nat) =>
 (0 ≤ x_2 ∧ x_2 < (↑n_4 : Int)) ∧
 ∃ (x : Value),
 w'_1.cell? (Addr.mk b (o + x_2.toNat) none) = some x ∧
 nn true p fun (b o : Nat) =>
 (0 ≤ x_2 ∧ x_2 < (↑n : Int)) ∧
 ∃ (x_3 : Bool),
 w'_1.cell? (Addr.mk b (o + x_2.toNat) none) = some (Value.bool x_3) ∧
 bsp (!!x_3)
 (CallsS Tryz.prog 91 #[x, Value.int IntKind.u8 x_1] w'_1
 fun (e : Ending) (w' : World) =>
 ∃ (x_4 : Bool),
 e = Ending.returned (Value.bool x_4) ∧
 bsp (false || !x_4) (J [] w')
 (CallsS Tryz.prog 92 #[x] w' fun (e : Ending) (w' : World) =>
 ∃ (x : Bool),
 e = Ending.returned (Value.bool x) ∧
 bsp x
 ((0 ≤ x_2 ∧ x_2 < (↑(↑n : Int).toNat : Int)) ∧
 ((∃ (u : Value),
 w'.cell? (Addr.mk n_3 (0 + x_2.toNat) none) = some u) ∧
 w'.frozen? (Addr.mk n_3 (0 + x_2.toNat) none) = false) ∧
 ∀ (w1 : World),
 PutB w' n_3 (0 + x_2.toNat) [Value.bool true] w1 → J [] w1)
 ((0 ≤ IntKind.i64.wrap (x_2 + 1) ∧
 IntKind.i64.wrap (x_2 + 1) < (↑(↑n : Int).toNat : Int)) ∧
 ((∃ (u : Value),
 w'.cell?
 (Addr.mk n_3 (0 + (IntKind.i64.wrap (x_2 + 1)).toNat)
 none) =
 some u) ∧
 w'.frozen?
 (Addr.mk n_3 (0 + (IntKind.i64.wrap (x_2 + 1)).toNat)
 none) =
 false) ∧
 ∀ (w1 : World),
 PutB w' n_3 (0 + (IntKind.i64.wrap (x_2 + 1)).toNat)
 [Value.bool true] w1 →
 J [] w1)))
 (J [] w'_1)) ∧
 ∀ (w' : World),
 J [] w' →
 I_1 [Value.int IntKind.i64 (IntKind.i64.wrap (x_2 + 1))] w' ∧
 m_1 [Value.int IntKind.i64 (IntKind.i64.wrap (x_2 + 1))] w' <
 m_1 [Value.int IntKind.i64 x_2] w'_1)
 (CallsS Tryz.prog 90
 #[Value.pointer (some (Addr.mk b o none)),
 Value.slice (some (Addr.mk n_3 0 none)) (↑n : Int).toNat (↑n : Int).toNat]
 w'_1 fun (e : Ending) (w'_2 : World) =>
 e = Ending.returned (Value.tuple #[]) ∧
 I
 [Value.slice (some (Addr.mk n_3 0 none)) (↑n : Int).toNat (↑n : Int).toNat,
 Value.int IntKind.i64 (IntKind.i64.wrap (x + 1))]
 w'_2 ∧
 m
 [Value.slice (some (Addr.mk n_3 0 none)) (↑n : Int).toNat (↑n : Int).toNat,
 Value.int IntKind.i64 (IntKind.i64.wrap (x + 1))]
 w'_2 <
 m [Value.slice p n c, Value.int IntKind.i64 x] w'))
 (∃ (p_1 : Option Addr),
 ∃ (n_3 : Nat),
 ∃ (c : Nat),
 w'.cell? (Addr.mk b (o + 1) none) = some (Value.slice p_1 n_3 c) ∧
 nn true p fun (b o : Nat) =>
 (0 ≤ (↑n_3 : Int) ∧ (↑n_3 : Int) < (↑n : Int)) ∧
 ∃ (x : Bool),
 w'.cell? (Addr.mk b (o + (↑n_3 : Int).toNat) none) = some (Value.bool x) ∧
 R (Ending.returned (Value.bool x)) w')
theorem vc_match (b : Nat) (o : Nat) (s : ByteArray) (w : World) (R : Ending → World → Prop) (h : VC_match b o s w R) : Calls Tryz.prog 68 ([Value.pointer
    (some { block := b, off := o }),
  Value.string s] : List Value).toArray w R := by
  have e : execR { P := Tryz.prog, loops := [(7, [(5, Ck.slice), (28, Ck.int IntKind.i64)]), (11, [(40, Ck.int IntKind.i64)])], pur := pur1, tails := [], joins := [(17, [])], boxes := [] } Tryz.f68.results.toList R (Tryz.f68.body.getD .skip) (initF [Value.pointer
    (some { block := b, off := o }),
  Value.string
    s] (Tryz.f68.ntmps - ([Value.pointer (some { block := b, off := o }),
  Value.string s] : List Value).length)) w = VC_match b o s w R := by kernel_rfl
  have hb : Tryz.f68.body = some (Tryz.f68.body.getD .skip) := by kernel_rfl
  exact calls_of_exec' (P := Tryz.prog) (fn := Tryz.f68) (c := Tryz.f68.body.getD .skip) (args := [Value.pointer
    (some { block := b, off := o }),
  Value.string s]) (w := w) (R := R) pur1_ok Tryz.func68 hb e h

end Go.Proofs.YtkkfnlehlkiejaaGreatDoor
