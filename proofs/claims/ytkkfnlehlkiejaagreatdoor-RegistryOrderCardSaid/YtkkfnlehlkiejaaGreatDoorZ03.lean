/- Lemmas on worlds for the proofs of formulas: new blocks, written cells, what is kept. Generic: no program, no condition. -/
import Derived.Test.YtkkfnlehlkiejaaGreatDoorZ02
import Derived.Below
import Derived.ChangeSame
import Derived.DataReads
import Derived.Test.YtkkfnlehlkiejaaGreatDoorProg
import Derived.KernelRfl
import Derived.Lib.Bytealg
import Derived.Shelf.Small.Bits
import Derived.Shelf.Small.Strs
import Derived.Shelf.Small.Wraps
import Derived.Shelf.Utf8.RuneCount
import Derived.Shelf.Strconv.Itoa0
import Derived.Shelf.Strings.Search1
import Derived.Shelf.Strings.Search2
import Derived.Shelf.Strings.Search3
import Derived.Shelf.Strings.Count
import Derived.Shelf.LaysM
import Derived.Shelf.Strings.Shaped
import Derived.Shelf.Strings.Prefix
import Derived.Shelf.Strings.Split
import Derived.Shelf.Strings.SplitShaped
import Derived.Shelf.Unicode.Decode
import Derived.Shelf.Strings.RuneCount
import Derived.Shelf.Strings.Explode
import Derived.Shelf.Unicode.DecodeSlow
import Derived.Shelf.Unicode.DecodeAny
import Derived.Ground.Names2Prog
import Derived.Shelf.Slices.SearchI
namespace Go.Proofs.YtkkfnlehlkiejaaGreatDoor
open Go.RowKit

theorem bsp_intro {b : Bool} {X Y : Prop} (h1 : b = true → X) (h2 : b = false → Y) : bsp b X Y := by cases b <;> simp_all [bsp]
theorem gimp_intro {b : Bool} {X : Prop} (h : b = true → X) : gimp b X := by cases b <;> simp_all [gimp]
theorem wr64 {x : Int} (h1 : -9223372036854775808 ≤ x) (h2 : x ≤ 9223372036854775807) : IntKind.i64.wrap x = x := IntWalk.i64_in x ⟨h1, h2⟩

theorem Kp.mono {M M' : Nat → Prop} {a b : World} (h : Kp M a b) (hm : ∀ i, i < a.heap.size → M i → M' i) : Kp M' a b :=
  ⟨h.os, h.tape, h.output, h.size, fun i hi hn => h.block i hi (fun hM => hn (hm i hi hM))⟩
theorem Kp.drew {M : Nat → Prop} {a b : World} (h : Kp M a b) : Kp M a b.drew := ⟨h.os, h.tape, h.output, h.size, h.block⟩
theorem Kp.of_drew {M : Nat → Prop} {a b : World} (h : Kp M a.drew b) : Kp M a b := ⟨h.os, h.tape, h.output, h.size, h.block⟩
theorem K0.below {w w' : World} (h : K0 w w') : Below w.heap.size w w' := ⟨h.os, h.tape, h.output, h.size, fun k hk => h.block k hk (fun h => h)⟩
theorem Kp.cell {M : Nat → Prop} {w w' : World} (h : Kp M w w') {b o : Nat} (hb : b < w.heap.size) (hm : ¬ M b) : w'.cell? ⟨b, o, none⟩ = w.cell? ⟨b, o, none⟩ := by
  simp only [World.cell?, h.block b hb hm]
theorem cell_lt {w : World} {b o : Nat} {v : Value} (h : w.cell? ⟨b, o, none⟩ = some v) : b < w.heap.size := World.block_lt_of_cell? w ⟨b, o, none⟩ h
theorem Kp.cell' {M : Nat → Prop} {w w' : World} (h : Kp M w w') {b o : Nat} {v : Value} (hc : w.cell? ⟨b, o, none⟩ = some v) (hm : ¬ M b) : w'.cell? ⟨b, o, none⟩ = some v := by
  rw [h.cell (cell_lt hc) hm]; exact hc
theorem Kp.frozen {M : Nat → Prop} {w w' : World} (h : Kp M w w') {b o : Nat} (hb : b < w.heap.size) (hm : ¬ M b) : w'.frozen? ⟨b, o, none⟩ = w.frozen? ⟨b, o, none⟩ := by
  simp only [World.frozen?, h.block b hb hm]

theorem block_lt {w : World} {b : Nat} {o : Obj} (h : w.heap[b]? = some o) : b < w.heap.size := by
  rcases Nat.lt_or_ge b w.heap.size with h' | h'
  · exact h'
  · simp [Array.getElem?_eq_none h'] at h
theorem Kp.blk {M : Nat → Prop} {w w' : World} (h : Kp M w w') {b : Nat} {o : Obj} (hb : w.heap[b]? = some o) (hm : ¬ M b) : w'.heap[b]? = some o := by
  rw [h.block b (block_lt hb) hm]; exact hb
theorem blk_drew {w : World} {b : Nat} {o : Obj} (hb : w.heap[b]? = some o) : w.drew.heap[b]? = some o := hb

section
variable {w w1 : World} {obj : Obj} {n : Nat}
theorem NewB.block (h : NewB w obj n w1) : w1.heap[n]? = some obj := by
  obtain ⟨rfl, rfl⟩ := h
  show (w.heap.push obj)[w.heap.size]? = some obj
  simp
theorem NewB.kp (h : NewB w obj n w1) (M : Nat → Prop) : Kp M w w1 := by
  obtain ⟨rfl, rfl⟩ := h
  exact ⟨rfl, rfl, rfl, by simp, fun k hk _ => Below.heap_alloc _ _ _ hk⟩
theorem NewB.size (h : NewB w obj n w1) : w1.heap.size = n + 1 := by
  obtain ⟨rfl, rfl⟩ := h; simp
theorem NewB.ge (h : NewB w obj n w1) : w.heap.size ≤ n := by
  obtain ⟨rfl, rfl⟩ := h; exact Nat.le_refl _
end

theorem cell_block {w : World} {b : Nat} {c : Array Value} {t : TypeId} {f : Nat × Nat} (h : w.heap[b]? = some (.cells c t f)) (i : Nat) : w.cell? ⟨b, i, none⟩ = c[i]? := by
  simp [World.cell?, h]
theorem frozen_block {w : World} {b : Nat} {c : Array Value} {t : TypeId} (h : w.heap[b]? = some (.cells c t (0, 0))) (i : Nat) : w.frozen? ⟨b, i, none⟩ = false := by
  simp [World.frozen?, h]
theorem At_of {w : World} {b : Nat} : ∀ (cs : List Value) (o : Nat), (∀ j v, cs[j]? = some v → w.cell? ⟨b, o + j, none⟩ = some v) → At w b o cs
  | [], _, _ => trivial
  | [v], o, h => by have := h 0 v rfl; exact (by simpa using this : w.cell? ⟨b, o, none⟩ = some v)
  | v :: x :: r, o, h => ⟨by have := h 0 v rfl; simpa using this, At_of (x :: r) (o + 1) fun j u hj => by
      have := h (j + 1) u (by simpa using hj)
      rw [show o + 1 + j = o + (j + 1) by omega]; exact this⟩
/-- The cells of a block, from an offset on. -/
theorem AtL_block {w : World} {b o : Nat} {c : Array Value} {t : TypeId} {f : Nat × Nat} {cs : List Value} (h : w.heap[b]? = some (.cells c t f)) (hc : (c.toList.drop o).take cs.length = cs) : AtL w b o cs := by
  refine ⟨At_of cs o fun j v hj => ?_⟩
  rw [cell_block h]
  have hlt : j < cs.length := by
    rcases Nat.lt_or_ge j cs.length with h' | h'
    · exact h'
    · simp [List.getElem?_eq_none h'] at hj
  rw [← hc] at hj
  rw [List.getElem?_take, if_pos (by simpa using hlt), List.getElem?_drop] at hj
  simpa using hj
theorem WrL_block {w : World} {b o n : Nat} {c : Array Value} {t : TypeId} (h : w.heap[b]? = some (.cells c t (0, 0))) (hn : o + n ≤ c.size) : WrL w b o n := by
  refine ⟨Wr_of n o fun i hi => ⟨?_, frozen_block h _⟩⟩
  rw [cell_block h]
  exact ⟨c[o + i], by simp⟩
def putL (c : List Value) : Nat → List Value → List Value
  | _, [] => c
  | o, v :: r => putL (c.set o v) (o + 1) r
theorem block_setCell {w : World} {b o : Nat} {c : Array Value} {t : TypeId} {f : Nat × Nat} {v : Value} (h : w.heap[b]? = some (.cells c t f)) : (w.setCell ⟨b, o, none⟩ v).heap[b]? = some (.cells (c.setIfInBounds o v) t f) := by
  simp [World.setCell, Array.getElem?_modify, h]
theorem wset_block {b : Nat} {t : TypeId} {f : Nat × Nat} : ∀ (cs : List Value) (w : World) (o : Nat) (c : Array Value), w.heap[b]? = some (.cells c t f) → (wset w b o cs).heap[b]? = some (.cells (putL c.toList o cs).toArray t f)
  | [], w, o, c, h => by simpa [wset, putL] using h
  | v :: r, w, o, c, h => by
    have := wset_block (b := b) (t := t) (f := f) r (w.setCell ⟨b, o, none⟩ v) (o + 1) _ (block_setCell h)
    simp only [wset, putL]
    rw [this]
    simp
theorem wset_kp {b : Nat} : ∀ (cs : List Value) (w : World) (o : Nat), Kp (· = b) w (wset w b o cs)
  | [], w, _ => .refl _ _
  | v :: r, w, o => by
    have h1 : Kp (· = b) w (w.setCell ⟨b, o, none⟩ v) := ⟨rfl, rfl, rfl, by simp, fun k _ hk => Below.heap_setCell _ _ _ _ hk⟩
    exact h1.trans (wset_kp r _ _)
theorem wset_size {b : Nat} : ∀ (cs : List Value) (w : World) (o : Nat), (wset w b o cs).heap.size = w.heap.size
  | [], w, _ => rfl
  | v :: r, w, o => by simp only [wset]; rw [wset_size r]; simp
section
variable {w w1 : World} {b o : Nat} {cs : List Value}
theorem PutB.block (h : PutB w b o cs w1) {c : Array Value} {t : TypeId} {f : Nat × Nat} (hb : w.heap[b]? = some (.cells c t f)) : w1.heap[b]? = some (.cells (putL c.toList o cs).toArray t f) := by
  rw [h.hw]; exact wset_block cs w o c hb
theorem PutB.kp (h : PutB w b o cs w1) : Kp (· = b) w w1 := by rw [h.hw]; exact wset_kp cs w o
theorem PutB.size (h : PutB w b o cs w1) : w1.heap.size = w.heap.size := by rw [h.hw]; exact wset_size cs w o
end

theorem MarkB.kp {w w1 : World} {b : Nat} (h : MarkB w b w1) : Kp (· = b) w w1 := by
  rw [h.hw]
  unfold markW
  split
  · unfold World.freeze
    rw [if_neg (by decide)]
    refine ⟨rfl, rfl, rfl, by simp, fun k _ hk => ?_⟩
    show (w.heap.modify b _)[k]? = _
    rw [Array.getElem?_modify, if_neg (fun e => hk e.symm)]
  · exact .refl _ _
theorem MarkB.block {w w1 : World} {b : Nat} (h : MarkB w b w1) {c : Array Value} {t : TypeId} (hb : w.heap[b]? = some (.cells c t (0, 0))) : w1.heap[b]? = some (.cells c t (c.size, c.size + 1)) := by
  rw [h.hw]
  unfold markW World.shape?
  rw [hb]
  simp only [World.freeze]
  rw [if_neg (by decide)]
  show (w.heap.modify b _)[b]? = _
  rw [Array.getElem?_modify, if_pos rfl, hb]
  rfl
theorem MarkB.size {w w1 : World} {b : Nat} (h : MarkB w b w1) : w1.heap.size = w.heap.size := by
  rw [h.hw]
  unfold markW
  split
  · unfold World.freeze
    rw [if_neg (by decide)]
    simp
  · rfl

/-! ### Rows that are the program's own -/
theorem Kp.grown {M : Nat → Prop} {w0 w w' : World} {row : Option Nat} (h : Kp M w0 w) (hg : w.grownBy w' row) (hrow : ∀ k, row = some k → w0.heap.size ≤ k ∨ M k) : Kp M w0 w' :=
  ⟨hg.os.trans h.os, hg.tape.trans h.tape, hg.output.trans h.output, Nat.le_trans h.size hg.size, fun i hi hm => (hg.block i (Nat.lt_of_lt_of_le hi h.size) (fun e => by
    rcases hrow i e.symm with h1 | h1
    · omega
    · exact hm h1)).trans (h.block i hi hm)⟩
theorem owns_kp {M : Nat → Prop} {w w' : World} {base : Nat} {e : TypeId} {size : Nat} {v : Value} {n : Nat} {xs : List Value} (h : w.ownsRow base e size v n xs) (hk : Kp M w w') (hm : ∀ k, v.ownBlock = some k → ¬ M k) : w'.ownsRow base e size v n xs := by
  refine ⟨h.1, ?_⟩
  rcases h.2 with hn | ⟨g, cap, cur, rfl, hb, hgg, rest⟩
  · exact .inl hn
  · exact .inr ⟨g, cap, cur, rfl, hb, hk.blk hgg (hm g rfl), rest⟩
/-- The cells of a new block are appended. -/
theorem src_block {w : World} {b : Nat} {c : Array Value} {t : TypeId} {f : Nat × Nat} (h : w.heap[b]? = some (.cells c t f)) (h1 : ∀ u ∈ c.toList, u.oneCell' = true) : SrcP w (some (Addr.mk b 0 none)) c.toList :=
  ⟨fun j u hj => ⟨b, 0, rfl, by rw [Nat.zero_add, cell_block h]; simpa using hj⟩, h1⟩
theorem Kp.fresh {M M' : Nat → Prop} {w w1 w2 : World} (h : Kp M w w1) (k : Kp M' w1 w2) (hm : ∀ i, i < w.heap.size → M' i → M i) : Kp M w w2 :=
  ⟨k.os.trans h.os, k.tape.trans h.tape, k.output.trans h.output, Nat.le_trans h.size k.size, fun i hi hn => (k.block i (Nat.lt_of_lt_of_le hi h.size) (fun e => hn (hm i hi e))).trans (h.block i hi hn)⟩
theorem bsp_mono {b : Bool} {X Y X' Y' : Prop} (h : bsp b X Y) (h1 : X → X') (h2 : Y → Y') : bsp b X' Y' := by cases b; exact h2 h; exact h1 h

end Go.Proofs.YtkkfnlehlkiejaaGreatDoor

/- What was read before a call reads behind it as it did, where the blocks that were there are as they were; the last step of a law. Generic: no program, no condition. -/
namespace Go.Proofs.YtkkfnlehlkiejaaGreatDoor
open Go.RowKit Go.WideShapes Go.ChangeShapes

theorem mapM_to {α β : Type} {f g : α → Option β} : ∀ (l : List α) (ys : List β), l.mapM f = some ys → (∀ x ∈ l, ∀ y ∈ ys, f x = some y → g x = some y) → l.mapM g = some ys
  | [], ys, h, _ => by simpa using h
  | a :: r, ys, h, hg => by
    rw [List.mapM_cons] at h ⊢
    cases hf : f a with
    | none => simp [hf] at h
    | some y =>
      cases hr : r.mapM f with
      | none => simp [hf, hr] at h
      | some zs =>
        simp [hf, hr] at h
        subst h
        have h1 := hg a (by simp) y (by simp) hf
        have h2 := mapM_to r zs hr (fun x hx z hz => hg x (by simp [hx]) z (by simp [hz]))
        simp [h1, h2]
theorem cell_kept {w w' : World} (hk : K0 w w') {a : Addr} {v : Value} (h : w.cell? a = some v) : w'.cell? a = some v := by
  have hb : a.block < w.heap.size := World.block_lt_of_cell? w a h
  have := hk.block a.block hb (fun h => h)
  rw [← h]
  unfold World.cell?
  rw [this]
theorem cells_kept {w w' : World} (hk : K0 w w') {base n : Nat} {a : Addr} {cs : List Value} (h : w.cells? base a n = some cs) : w'.cells? base a n = some cs := by
  unfold World.cells? at h ⊢
  split at h
  · rename_i hb
    rw [if_pos hb]
    exact mapM_to _ _ h (fun x _ y _ hx => cell_kept hk hx)
  · cases h
/-- A type of bounded depth in which the elements of slices have cells. -/
def posT (P : Program) : Nat → TypeId → Bool
  | 0, t => (match P.underlying t with
    | some (.pointer _) => false
    | some (.slice _) => false
    | some (.struct _) => false
    | some (.array _ _) => false
    | some (.map _ _) => false
    | _ => true)
  | d + 1, t => (match P.underlying t with
    | some (.pointer e) => posT P d e
    | some (.slice e) => Nat.blt 0 (P.cellsOf e) && posT P d e
    | some (.struct fs) => fs.toList.all fun f => posT P d f.type
    | some (.array _ e) => posT P d e
    | some (.map _ e) => posT P d e
    | _ => true)
theorem posT_pointer {P : Program} {d : Nat} {t e : TypeId} (h : posT P d t = true) (hu : P.underlying t = some (.pointer e)) : ∃ d', posT P d' e = true := by
  cases d with
  | zero => simp [posT, hu] at h
  | succ d => simp only [posT, hu] at h; exact ⟨d, h⟩
theorem posT_slice {P : Program} {d : Nat} {t e : TypeId} (h : posT P d t = true) (hu : P.underlying t = some (.slice e)) : 0 < P.cellsOf e ∧ ∃ d', posT P d' e = true := by
  cases d with
  | zero => simp [posT, hu] at h
  | succ d => simp only [posT, hu, Bool.and_eq_true] at h; exact ⟨by simpa using h.1, d, h.2⟩
theorem posT_struct {P : Program} {d : Nat} {t : TypeId} {fs : Array Field} (h : posT P d t = true) (hu : P.underlying t = some (.struct fs)) : ∃ d', ∀ f ∈ fs.toList, posT P d' f.type = true := by
  cases d with
  | zero => simp [posT, hu] at h
  | succ d => simp only [posT, hu] at h; exact ⟨d, fun f hf => List.all_eq_true.1 h f hf⟩
theorem posT_array {P : Program} {d n : Nat} {t e : TypeId} (h : posT P d t = true) (hu : P.underlying t = some (.array n e)) : ∃ d', posT P d' e = true := by
  cases d with
  | zero => simp [posT, hu] at h
  | succ d => simp only [posT, hu] at h; exact ⟨d, h⟩
theorem posT_map {P : Program} {d : Nat} {t k e : TypeId} (h : posT P d t = true) (hu : P.underlying t = some (.map k e)) : ∃ d', posT P d' e = true := by
  cases d with
  | zero => simp [posT, hu] at h
  | succ d => simp only [posT, hu] at h; exact ⟨d, h⟩
theorem trod_kept {H : Type} {enc : TypeId × Value → H} {P : Program} {w w' : World} (hk : K0 w w') {base : Nat} {sp : Nat → Bool} : ∀ (fuel : Nat) (t : TypeId) (d : Nat) (cs : List Value) (x : DataW H × List MemPlace), posT P d t = true →
    DataW.trod enc P w base (fun _ => true) true fuel t cs = some x → (∀ p ∈ x.2, sp p.block = true) → DataW.trod enc P w' base sp true fuel t cs = some x
  | 0, t, d, cs, x, _, h, _ => by simp [DataW.trod] at h
  | fuel + 1, t, d, cs, x, hd, h, hsp => by
    have ih := trod_kept (enc := enc) (P := P) hk (base := base) (sp := sp) fuel
    unfold DataW.trod at h ⊢
    split at h
    case h_6 e a hu =>
      cases hc : w.cells? base a (P.cellsOf e) with
      | none => rw [hc] at h; simp at h
      | some cs' =>
        rw [hc] at h
        simp only [Option.bind_some, Option.map_eq_some_iff] at h
        obtain ⟨y, hy, rfl⟩ := h
        rw [cells_kept hk hc]
        simp only [Option.bind_some]
        obtain ⟨d', hd'⟩ := posT_pointer hd hu
        rw [ih e d' cs' y hd' hy (fun p hp => hsp p (by simp [hp]))]
        rfl
    case h_8 e a len cap hu =>
      obtain ⟨hpos, d', hd'⟩ := posT_slice hd hu
      dsimp only at h ⊢
      split at h
      · rename_i hcond
        rw [if_pos hcond]
        cases he : (List.range len).mapM (fun i => (w.cells? base (a.add (i * P.cellsOf e)) (P.cellsOf e)).bind (DataW.trod enc P w base (fun _ => true) true fuel e)) with
        | none => rw [he] at h; simp at h
        | some elems =>
          rw [he] at h
          simp only [Option.bind_some, if_true, Option.map_eq_some_iff] at h
          obtain ⟨rest, hr, rfl⟩ := h
          have el : ∀ i y, y ∈ elems ++ rest → (w.cells? base (a.add (i * P.cellsOf e)) (P.cellsOf e)).bind (DataW.trod enc P w base (fun _ => true) true fuel e) = some y → (w'.cells? base (a.add (i * P.cellsOf e)) (P.cellsOf e)).bind (DataW.trod enc P w' base sp true fuel e) = some y := fun i y hy h => by
            cases hc : w.cells? base (a.add (i * P.cellsOf e)) (P.cellsOf e) with
            | none => rw [hc] at h; simp at h
            | some cs' =>
              rw [hc] at h
              simp only [Option.bind_some] at h
              rw [cells_kept hk hc]
              simp only [Option.bind_some]
              refine ih e d' cs' y hd' h (fun p hp => hsp p ?_)
              simp only [List.mem_append]
              right
              exact List.mem_flatMap.2 ⟨y, hy, hp⟩
          have hel := mapM_to (g := fun i => (w'.cells? base (a.add (i * P.cellsOf e)) (P.cellsOf e)).bind (DataW.trod enc P w' base sp true fuel e)) _ _ he (fun i _ y hy h => el i y (by simp [hy]) h)
          rw [hel]
          simp only [Option.bind_some, Option.map_eq_some_iff]
          have hlr : rest.length = cap - len := by simpa using mapM_some_length hr
          refine ⟨rest, ?_, rfl⟩
          split
          · exact mapM_to _ _ hr (fun j _ y hy h => el (len + j) y (by simp [hy]) h)
          · rename_i hns
            have : cap - len = 0 := by
              rcases Nat.eq_zero_or_pos (cap - len) with h0 | h0
              · exact h0
              · exfalso
                apply hns
                have hp := hpos
                refine hsp (.cell a.block (a.off + 0)) ?_
                simp only [List.mem_append]
                left
                unfold MemPlace.row
                refine List.mem_map.2 ⟨0, List.mem_range.2 ?_, rfl⟩
                rw [hlr]
                exact Nat.mul_pos (by omega) hp
            have : rest = [] := List.eq_nil_of_length_eq_zero (by omega)
            rw [this]
      · cases h
    case h_9 =>
      obtain ⟨d', hd'⟩ := posT_struct hd (by assumption)
      split at h
      · rename_i hl
        rw [if_pos hl]
        simp only [Option.map_eq_some_iff] at h ⊢
        obtain ⟨xs, hxs, rfl⟩ := h
        exact ⟨xs, mapM_to _ _ hxs (fun f hfm y hy hf => ih _ d' _ y (hd' f hfm) hf (fun p hp => hsp p (List.mem_flatMap.2 ⟨y, hy, hp⟩))), rfl⟩
      · cases h
    case h_10 =>
      obtain ⟨d', hd'⟩ := posT_array hd (by assumption)
      split at h
      · rename_i hl
        rw [if_pos hl]
        simp only [Option.map_eq_some_iff] at h ⊢
        obtain ⟨xs, hxs, rfl⟩ := h
        exact ⟨xs, mapM_to _ _ hxs (fun f _ y hy hf => ih _ d' _ y hd' hf (fun p hp => hsp p (List.mem_flatMap.2 ⟨y, hy, hp⟩))), rfl⟩
      · cases h
    case h_12 => exact h
    case h_14 =>
      rename_i k e b hu
      obtain ⟨d', hd'⟩ := posT_map hd hu
      split at h
      · rename_i es clock hes
        rw [hk.blk hes (fun h => h)]
        dsimp only
        split at h
        · rename_i hcond
          rw [if_pos hcond]
          cases hm : es.toList.mapM (fun x => (keyOf P k x.key).bind fun key => if x.val.formed P e then (DataW.trod enc P w base (fun _ => true) true fuel e x.val.cells.toList).map fun y => ((key, y.1), y.2) else none) with
          | none => rw [hm] at h; simp at h
          | some entries =>
            rw [hm] at h
            simp only [Option.bind_some] at h
            split at h
            · rename_i hrs
              simp only [Option.some.injEq] at h
              subst h
              have := mapM_to (g := fun x => (keyOf P k x.key).bind fun key => if x.val.formed P e then (DataW.trod enc P w' base sp true fuel e x.val.cells.toList).map fun y => ((key, y.1), y.2) else none) _ _ hm (fun z _ y hy hf => by
                cases hkz : keyOf P k z.key with
                | none => rw [hkz] at hf; simp at hf
                | some key =>
                  rw [hkz] at hf
                  simp only [Option.bind_some] at hf ⊢
                  split at hf
                  · rename_i hfm
                    rw [if_pos hfm]
                    simp only [Option.map_eq_some_iff] at hf ⊢
                    obtain ⟨y', hy', rfl⟩ := hf
                    exact ⟨y', ih _ d' _ y' hd' hy' (fun p hp => hsp p (List.mem_cons_of_mem _ (List.mem_flatMap.2 ⟨_, hy, hp⟩))), rfl⟩
                  · cases hf)
              rw [this]
              simp only [Option.bind_some]
              rw [if_pos hrs]
            · cases h
        · cases h
      · cases h
    all_goals exact h

theorem addr_add2 (b o i j : Nat) : ((⟨b, o, none⟩ : Addr).add i).add j = ⟨b, o + i + j, none⟩ := by
  unfold Addr.add
  by_cases hi : i = 0 <;> by_cases hj : j = 0 <;> simp [hi, hj]

end Go.Proofs.YtkkfnlehlkiejaaGreatDoor

/- The empty environment of pure functions. No condition. -/
namespace Go.Proofs.YtkkfnlehlkiejaaGreatDoor
def pur0 (_ : FuncId) (_ : List Value) : Option (Option Prop × Value) := none
theorem pur0_ok {l : List (Nat × List (Nat × Ck))} {t : List (Nat × Nat)} {j : List (Nat × List (Nat × Ck))} {b : List (Nat × Unit)} {r : List (Nat × TypeId)} : PurOK { P := Tryz.prog, loops := l, pur := pur0, tails := t, joins := j, boxes := b, rngs := r } := fun f args p v h => by simp [pur0] at h
end Go.Proofs.YtkkfnlehlkiejaaGreatDoor

/- The formulas of functions by the symbolic evaluator, and that each gives the call's contract. Written by a program (gen.py). No condition. -/
namespace Go.Proofs.YtkkfnlehlkiejaaGreatDoor
set_option maxRecDepth 100000
set_option linter.unusedVariables false

def VC_isLower (c : Int) (w : World) (R : Ending → World → Prop) : Prop :=
 R (Ending.returned (Value.bool (decide (c ≥ 97) && decide (c ≤ 122)))) w
theorem vc_isLower (c : Int) (w : World) (R : Ending → World → Prop) (h : VC_isLower c w R) : Calls Tryz.prog 125 ([Value.int
    IntKind.u8 c] : List Value).toArray w R := by
  have e : execR { P := Tryz.prog, loops := [], pur := pur0, tails := [], joins := [], boxes := [] } Tryz.f125.results.toList R (Tryz.f125.body.getD .skip) (initF [Value.int
    IntKind.u8
    c] (Tryz.f125.ntmps - ([Value.int IntKind.u8 c] : List Value).length)) w = VC_isLower c w R := by kernel_rfl
  have hb : Tryz.f125.body = some (Tryz.f125.body.getD .skip) := by kernel_rfl
  exact calls_of_exec' (P := Tryz.prog) (fn := Tryz.f125) (c := Tryz.f125.body.getD .skip) (args := [Value.int
    IntKind.u8 c]) (w := w) (R := R) pur0_ok Tryz.func125 hb e h

def VC_isDigit (c : Int) (w : World) (R : Ending → World → Prop) : Prop :=
 R (Ending.returned (Value.bool (decide (c ≥ 48) && decide (c ≤ 57)))) w
theorem vc_isDigit (c : Int) (w : World) (R : Ending → World → Prop) (h : VC_isDigit c w R) : Calls Tryz.prog 126 ([Value.int
    IntKind.u8 c] : List Value).toArray w R := by
  have e : execR { P := Tryz.prog, loops := [], pur := pur0, tails := [], joins := [], boxes := [] } Tryz.f126.results.toList R (Tryz.f126.body.getD .skip) (initF [Value.int
    IntKind.u8
    c] (Tryz.f126.ntmps - ([Value.int IntKind.u8 c] : List Value).length)) w = VC_isDigit c w R := by kernel_rfl
  have hb : Tryz.f126.body = some (Tryz.f126.body.getD .skip) := by kernel_rfl
  exact calls_of_exec' (P := Tryz.prog) (fn := Tryz.f126) (c := Tryz.f126.body.getD .skip) (args := [Value.int
    IntKind.u8 c]) (w := w) (R := R) pur0_ok Tryz.func126 hb e h

def VC_alnum (c : Int) (w : World) (R : Ending → World → Prop) : Prop :=
 bsp (decide (c ≥ 97) && decide (c ≤ 122)) (R (Ending.returned (Value.int IntKind.i64 1)) w)
 (bsp (decide (c ≥ 48) && decide (c ≤ 57)) (R (Ending.returned (Value.int IntKind.i64 2)) w)
 (R (Ending.returned (Value.int IntKind.i64 0)) w))
theorem vc_alnum (c : Int) (w : World) (R : Ending → World → Prop) (h : VC_alnum c w R) : Calls Tryz.prog 107 ([Value.int
    IntKind.u8 c] : List Value).toArray w R := by
  have e : execR { P := Tryz.prog, loops := [], pur := pur0, tails := [], joins := [], boxes := [] } Tryz.f107.results.toList R (Tryz.f107.body.getD .skip) (initF [Value.int
    IntKind.u8
    c] (Tryz.f107.ntmps - ([Value.int IntKind.u8 c] : List Value).length)) w = VC_alnum c w R := by kernel_rfl
  have hb : Tryz.f107.body = some (Tryz.f107.body.getD .skip) := by kernel_rfl
  exact calls_of_exec' (P := Tryz.prog) (fn := Tryz.f107) (c := Tryz.f107.body.getD .skip) (args := [Value.int
    IntKind.u8 c]) (w := w) (R := R) pur0_ok Tryz.func107 hb e h

def VC_char (c : Int) (w : World) (R : Ending → World → Prop) : Prop :=
 CallsS Tryz.prog 107 #[Value.int IntKind.u8 c] w fun (e : Ending) (w' : World) =>
 ∃ (x : Int),
 e = Ending.returned (Value.int IntKind.i64 x) ∧
 R (Ending.returned (Value.bool (decide (x > 0) || c == 43 || c == 45 || c == 95 || c == 46))) w'
theorem vc_char (c : Int) (w : World) (R : Ending → World → Prop) (h : VC_char c w R) : Calls Tryz.prog 88 ([Value.int
    IntKind.u8 c] : List Value).toArray w R := by
  have e : execR { P := Tryz.prog, loops := [], pur := pur0, tails := [], joins := [], boxes := [] } Tryz.f88.results.toList R (Tryz.f88.body.getD .skip) (initF [Value.int
    IntKind.u8 c] (Tryz.f88.ntmps - ([Value.int IntKind.u8 c] : List Value).length)) w = VC_char c w R := by kernel_rfl
  have hb : Tryz.f88.body = some (Tryz.f88.body.getD .skip) := by kernel_rfl
  exact calls_of_exec' (P := Tryz.prog) (fn := Tryz.f88) (c := Tryz.f88.body.getD .skip) (args := [Value.int IntKind.u8
    c]) (w := w) (R := R) pur0_ok Tryz.func88 hb e h

def VC_litChars (s : ByteArray) (w : World) (R : Ending → World → Prop) : Prop :=
 R (Ending.returned (Value.string s)) w
theorem vc_litChars (s : ByteArray) (w : World) (R : Ending → World → Prop) (h : VC_litChars s w R) : Calls Tryz.prog 161 ([Value.string
    s] : List Value).toArray w R := by
  have e : execR { P := Tryz.prog, loops := [], pur := pur0, tails := [], joins := [], boxes := [] } Tryz.f161.results.toList R (Tryz.f161.body.getD .skip) (initF [Value.string
    s] (Tryz.f161.ntmps - ([Value.string s] : List Value).length)) w = VC_litChars s w R := by kernel_rfl
  have hb : Tryz.f161.body = some (Tryz.f161.body.getD .skip) := by kernel_rfl
  exact calls_of_exec' (P := Tryz.prog) (fn := Tryz.f161) (c := Tryz.f161.body.getD .skip) (args := [Value.string
    s]) (w := w) (R := R) pur0_ok Tryz.func161 hb e h

def VC_classChars (s : ByteArray) (w : World) (R : Ending → World → Prop) : Prop :=
 R (Ending.returned (Value.string s)) w
theorem vc_classChars (s : ByteArray) (w : World) (R : Ending → World → Prop) (h : VC_classChars s w R) : Calls Tryz.prog 160 ([Value.string
    s] : List Value).toArray w R := by
  have e : execR { P := Tryz.prog, loops := [], pur := pur0, tails := [], joins := [], boxes := [] } Tryz.f160.results.toList R (Tryz.f160.body.getD .skip) (initF [Value.string
    s] (Tryz.f160.ntmps - ([Value.string s] : List Value).length)) w = VC_classChars s w R := by kernel_rfl
  have hb : Tryz.f160.body = some (Tryz.f160.body.getD .skip) := by kernel_rfl
  exact calls_of_exec' (P := Tryz.prog) (fn := Tryz.f160) (c := Tryz.f160.body.getD .skip) (args := [Value.string
    s]) (w := w) (R := R) pur0_ok Tryz.func160 hb e h

def VC_singleChars (w : World) (R : Ending → World → Prop) : Prop :=
 ∀ (n : Nat) (w1 : World),
 NewB w (Obj.cells #[] 151) n w1 →
 R
 (Ending.returned
 (Value.string
 (ByteArray.mk
 #[43, 45, 46, 48, 49, 50, 51, 52, 53, 54, 55, 56, 57, 95, 97, 98, 99, 100, 101, 102, 103, 104, 105, 106, 107, 108,
 109, 110, 111, 112, 113, 114, 115, 116, 117, 118, 119, 120, 121, 122])))
 w1
theorem vc_singleChars (w : World) (R : Ending → World → Prop) (h : VC_singleChars w R) : Calls Tryz.prog 158 ([Value.agg
    #[]] : List Value).toArray w R := by
  have e : execR { P := Tryz.prog, loops := [], pur := pur0, tails := [], joins := [], boxes := [] } Tryz.f158.results.toList R (Tryz.f158.body.getD .skip) (initF [Value.agg
    #[]] (Tryz.f158.ntmps - ([Value.agg #[]] : List Value).length)) w = VC_singleChars w R := by kernel_rfl
  have hb : Tryz.f158.body = some (Tryz.f158.body.getD .skip) := by kernel_rfl
  exact calls_of_exec' (P := Tryz.prog) (fn := Tryz.f158) (c := Tryz.f158.body.getD .skip) (args := [Value.agg
    #[]]) (w := w) (R := R) pur0_ok Tryz.func158 hb e h

def VC_starChars (w : World) (R : Ending → World → Prop) : Prop :=
 ∀ (n : Nat) (w1 : World),
 NewB w (Obj.cells #[] 152) n w1 →
 R
 (Ending.returned
 (Value.string
 (ByteArray.mk
 #[43, 45, 46, 48, 49, 50, 51, 52, 53, 54, 55, 56, 57, 95, 97, 98, 99, 100, 101, 102, 103, 104, 105, 106, 107, 108,
 109, 110, 111, 112, 113, 114, 115, 116, 117, 118, 119, 120, 121, 122])))
 w1
theorem vc_starChars (w : World) (R : Ending → World → Prop) (h : VC_starChars w R) : Calls Tryz.prog 159 ([Value.agg
    #[]] : List Value).toArray w R := by
  have e : execR { P := Tryz.prog, loops := [], pur := pur0, tails := [], joins := [], boxes := [] } Tryz.f159.results.toList R (Tryz.f159.body.getD .skip) (initF [Value.agg
    #[]] (Tryz.f159.ntmps - ([Value.agg #[]] : List Value).length)) w = VC_starChars w R := by kernel_rfl
  have hb : Tryz.f159.body = some (Tryz.f159.body.getD .skip) := by kernel_rfl
  exact calls_of_exec' (P := Tryz.prog) (fn := Tryz.f159) (c := Tryz.f159.body.getD .skip) (args := [Value.agg
    #[]]) (w := w) (R := R) pur0_ok Tryz.func159 hb e h

def VC_isStarL (s : ByteArray) (w : World) (R : Ending → World → Prop) : Prop :=
 ∀ (n : Nat) (w1 : World),
 NewB w (Obj.cells #[] 152) n w1 →
 True ∧ ∀ (w1_1 : World), PutB w1 n 0 [] w1_1 → R (Ending.returned (Value.bool false)) w1_1
theorem vc_isStarL (s : ByteArray) (w : World) (R : Ending → World → Prop) (h : VC_isStarL s w R) : Calls Tryz.prog 92 ([Value.iface
    157 (Value.string s)] : List Value).toArray w R := by
  have e : execR { P := Tryz.prog, loops := [], pur := pur0, tails := [], joins := [], boxes := [] } Tryz.f92.results.toList R (Tryz.f92.body.getD .skip) (initF [Value.iface
    157
    (Value.string
      s)] (Tryz.f92.ntmps - ([Value.iface 157
    (Value.string s)] : List Value).length)) w = VC_isStarL s w R := by kernel_rfl
  have hb : Tryz.f92.body = some (Tryz.f92.body.getD .skip) := by kernel_rfl
  exact calls_of_exec' (P := Tryz.prog) (fn := Tryz.f92) (c := Tryz.f92.body.getD .skip) (args := [Value.iface 157
    (Value.string s)]) (w := w) (R := R) pur0_ok Tryz.func92 hb e h

def VC_isStarC (s : ByteArray) (w : World) (R : Ending → World → Prop) : Prop :=
 ∀ (n : Nat) (w1 : World),
 NewB w (Obj.cells #[] 152) n w1 →
 True ∧ ∀ (w1_1 : World), PutB w1 n 0 [] w1_1 → R (Ending.returned (Value.bool false)) w1_1
theorem vc_isStarC (s : ByteArray) (w : World) (R : Ending → World → Prop) (h : VC_isStarC s w R) : Calls Tryz.prog 92 ([Value.iface
    153 (Value.string s)] : List Value).toArray w R := by
  have e : execR { P := Tryz.prog, loops := [], pur := pur0, tails := [], joins := [], boxes := [] } Tryz.f92.results.toList R (Tryz.f92.body.getD .skip) (initF [Value.iface
    153
    (Value.string
      s)] (Tryz.f92.ntmps - ([Value.iface 153
    (Value.string s)] : List Value).length)) w = VC_isStarC s w R := by kernel_rfl
  have hb : Tryz.f92.body = some (Tryz.f92.body.getD .skip) := by kernel_rfl
  exact calls_of_exec' (P := Tryz.prog) (fn := Tryz.f92) (c := Tryz.f92.body.getD .skip) (args := [Value.iface 153
    (Value.string s)]) (w := w) (R := R) pur0_ok Tryz.func92 hb e h

def VC_isStarQ (w : World) (R : Ending → World → Prop) : Prop :=
 ∀ (n : Nat) (w1 : World),
 NewB w (Obj.cells #[] 152) n w1 →
 True ∧ ∀ (w1_1 : World), PutB w1 n 0 [] w1_1 → R (Ending.returned (Value.bool false)) w1_1
theorem vc_isStarQ (w : World) (R : Ending → World → Prop) (h : VC_isStarQ w R) : Calls Tryz.prog 92 ([Value.iface 151
    (Value.agg #[])] : List Value).toArray w R := by
  have e : execR { P := Tryz.prog, loops := [], pur := pur0, tails := [], joins := [], boxes := [] } Tryz.f92.results.toList R (Tryz.f92.body.getD .skip) (initF [Value.iface
    151
    (Value.agg
      #[])] (Tryz.f92.ntmps - ([Value.iface 151
    (Value.agg #[])] : List Value).length)) w = VC_isStarQ w R := by kernel_rfl
  have hb : Tryz.f92.body = some (Tryz.f92.body.getD .skip) := by kernel_rfl
  exact calls_of_exec' (P := Tryz.prog) (fn := Tryz.f92) (c := Tryz.f92.body.getD .skip) (args := [Value.iface 151
    (Value.agg #[])]) (w := w) (R := R) pur0_ok Tryz.func92 hb e h

def VC_isStarS (w : World) (R : Ending → World → Prop) : Prop :=
 ∀ (n : Nat) (w1 : World),
 NewB w (Obj.cells #[] 152) n w1 →
 True ∧ ∀ (w1_1 : World), PutB w1 n 0 [] w1_1 → R (Ending.returned (Value.bool true)) w1_1
theorem vc_isStarS (w : World) (R : Ending → World → Prop) (h : VC_isStarS w R) : Calls Tryz.prog 92 ([Value.iface 152
    (Value.agg #[])] : List Value).toArray w R := by
  have e : execR { P := Tryz.prog, loops := [], pur := pur0, tails := [], joins := [], boxes := [] } Tryz.f92.results.toList R (Tryz.f92.body.getD .skip) (initF [Value.iface
    152
    (Value.agg
      #[])] (Tryz.f92.ntmps - ([Value.iface 152
    (Value.agg #[])] : List Value).length)) w = VC_isStarS w R := by kernel_rfl
  have hb : Tryz.f92.body = some (Tryz.f92.body.getD .skip) := by kernel_rfl
  exact calls_of_exec' (P := Tryz.prog) (fn := Tryz.f92) (c := Tryz.f92.body.getD .skip) (args := [Value.iface 152
    (Value.agg #[])]) (w := w) (R := R) pur0_ok Tryz.func92 hb e h

def VC_standsL (s : ByteArray) (c : Int) (w : World) (R : Ending → World → Prop) : Prop :=
 CallsS Tryz.prog 161 #[Value.string s] w fun (e : Ending) (w' : World) =>
 ∃ (x : ByteArray),
 e = Ending.returned (Value.string x) ∧
 CallsS Tryz.prog 87 #[Value.string x, Value.int IntKind.u8 c] w' fun (e : Ending) (w' : World) =>
 ∃ (x : Int), e = Ending.returned (Value.int IntKind.i64 x) ∧ R (Ending.returned (Value.bool (decide (x ≥ 0)))) w'
theorem vc_standsL (s : ByteArray) (c : Int) (w : World) (R : Ending → World → Prop) (h : VC_standsL s c w R) : Calls Tryz.prog 91 ([Value.iface
    157 (Value.string s),
  Value.int IntKind.u8 c] : List Value).toArray w R := by
  have e : execR { P := Tryz.prog, loops := [], pur := pur0, tails := [], joins := [], boxes := [] } Tryz.f91.results.toList R (Tryz.f91.body.getD .skip) (initF [Value.iface
    157 (Value.string s),
  Value.int IntKind.u8
    c] (Tryz.f91.ntmps - ([Value.iface 157 (Value.string s),
  Value.int IntKind.u8 c] : List Value).length)) w = VC_standsL s c w R := by kernel_rfl
  have hb : Tryz.f91.body = some (Tryz.f91.body.getD .skip) := by kernel_rfl
  exact calls_of_exec' (P := Tryz.prog) (fn := Tryz.f91) (c := Tryz.f91.body.getD .skip) (args := [Value.iface 157
    (Value.string s),
  Value.int IntKind.u8 c]) (w := w) (R := R) pur0_ok Tryz.func91 hb e h

def VC_standsC (s : ByteArray) (c : Int) (w : World) (R : Ending → World → Prop) : Prop :=
 CallsS Tryz.prog 160 #[Value.string s] w fun (e : Ending) (w' : World) =>
 ∃ (x : ByteArray),
 e = Ending.returned (Value.string x) ∧
 CallsS Tryz.prog 87 #[Value.string x, Value.int IntKind.u8 c] w' fun (e : Ending) (w' : World) =>
 ∃ (x : Int), e = Ending.returned (Value.int IntKind.i64 x) ∧ R (Ending.returned (Value.bool (decide (x ≥ 0)))) w'
theorem vc_standsC (s : ByteArray) (c : Int) (w : World) (R : Ending → World → Prop) (h : VC_standsC s c w R) : Calls Tryz.prog 91 ([Value.iface
    153 (Value.string s),
  Value.int IntKind.u8 c] : List Value).toArray w R := by
  have e : execR { P := Tryz.prog, loops := [], pur := pur0, tails := [], joins := [], boxes := [] } Tryz.f91.results.toList R (Tryz.f91.body.getD .skip) (initF [Value.iface
    153 (Value.string s),
  Value.int IntKind.u8
    c] (Tryz.f91.ntmps - ([Value.iface 153 (Value.string s),
  Value.int IntKind.u8 c] : List Value).length)) w = VC_standsC s c w R := by kernel_rfl
  have hb : Tryz.f91.body = some (Tryz.f91.body.getD .skip) := by kernel_rfl
  exact calls_of_exec' (P := Tryz.prog) (fn := Tryz.f91) (c := Tryz.f91.body.getD .skip) (args := [Value.iface 153
    (Value.string s),
  Value.int IntKind.u8 c]) (w := w) (R := R) pur0_ok Tryz.func91 hb e h

def VC_standsQ (c : Int) (w : World) (R : Ending → World → Prop) : Prop :=
 CallsS Tryz.prog 158 #[Value.agg #[]] w fun (e : Ending) (w' : World) =>
 ∃ (x : ByteArray),
 e = Ending.returned (Value.string x) ∧
 CallsS Tryz.prog 87 #[Value.string x, Value.int IntKind.u8 c] w' fun (e : Ending) (w' : World) =>
 ∃ (x : Int), e = Ending.returned (Value.int IntKind.i64 x) ∧ R (Ending.returned (Value.bool (decide (x ≥ 0)))) w'
theorem vc_standsQ (c : Int) (w : World) (R : Ending → World → Prop) (h : VC_standsQ c w R) : Calls Tryz.prog 91 ([Value.iface
    151 (Value.agg #[]),
  Value.int IntKind.u8 c] : List Value).toArray w R := by
  have e : execR { P := Tryz.prog, loops := [], pur := pur0, tails := [], joins := [], boxes := [] } Tryz.f91.results.toList R (Tryz.f91.body.getD .skip) (initF [Value.iface
    151 (Value.agg #[]),
  Value.int IntKind.u8
    c] (Tryz.f91.ntmps - ([Value.iface 151 (Value.agg #[]),
  Value.int IntKind.u8 c] : List Value).length)) w = VC_standsQ c w R := by kernel_rfl
  have hb : Tryz.f91.body = some (Tryz.f91.body.getD .skip) := by kernel_rfl
  exact calls_of_exec' (P := Tryz.prog) (fn := Tryz.f91) (c := Tryz.f91.body.getD .skip) (args := [Value.iface 151
    (Value.agg #[]),
  Value.int IntKind.u8 c]) (w := w) (R := R) pur0_ok Tryz.func91 hb e h

def VC_standsS (c : Int) (w : World) (R : Ending → World → Prop) : Prop :=
 CallsS Tryz.prog 159 #[Value.agg #[]] w fun (e : Ending) (w' : World) =>
 ∃ (x : ByteArray),
 e = Ending.returned (Value.string x) ∧
 CallsS Tryz.prog 87 #[Value.string x, Value.int IntKind.u8 c] w' fun (e : Ending) (w' : World) =>
 ∃ (x : Int), e = Ending.returned (Value.int IntKind.i64 x) ∧ R (Ending.returned (Value.bool (decide (x ≥ 0)))) w'
theorem vc_standsS (c : Int) (w : World) (R : Ending → World → Prop) (h : VC_standsS c w R) : Calls Tryz.prog 91 ([Value.iface
    152 (Value.agg #[]),
  Value.int IntKind.u8 c] : List Value).toArray w R := by
  have e : execR { P := Tryz.prog, loops := [], pur := pur0, tails := [], joins := [], boxes := [] } Tryz.f91.results.toList R (Tryz.f91.body.getD .skip) (initF [Value.iface
    152 (Value.agg #[]),
  Value.int IntKind.u8
    c] (Tryz.f91.ntmps - ([Value.iface 152 (Value.agg #[]),
  Value.int IntKind.u8 c] : List Value).length)) w = VC_standsS c w R := by kernel_rfl
  have hb : Tryz.f91.body = some (Tryz.f91.body.getD .skip) := by kernel_rfl
  exact calls_of_exec' (P := Tryz.prog) (fn := Tryz.f91) (c := Tryz.f91.body.getD .skip) (args := [Value.iface 152
    (Value.agg #[]),
  Value.int IntKind.u8 c]) (w := w) (R := R) pur0_ok Tryz.func91 hb e h

end Go.Proofs.YtkkfnlehlkiejaaGreatDoor

/- Plain tests of bytes. No program in sight. -/
namespace Go.Proofs.YtkkfnlehlkiejaaGreatDoor
open Go.RowKit

def lowerB (c : Int) : Bool := decide (97 ≤ c) && decide (c ≤ 122)
def digitB (c : Int) : Bool := decide (48 ≤ c) && decide (c ≤ 57)
def alnumI (c : Int) : Int := if lowerB c = true then 1 else if digitB c = true then 2 else 0
def charB (c : Int) : Bool := lowerB c || digitB c || c == 43 || c == 45 || c == 95 || c == 46
def hasB (s : ByteArray) (c : Int) : Bool := s.data.toList.contains c.toNat.toUInt8
theorem indexByte_nonneg (l : List UInt8) (c : UInt8) : decide (0 ≤ Lib.indexByte l c) = l.contains c := by
  induction l with
  | nil => rfl
  | cons b r ih =>
    have hb : Lib.indexByte (b :: r) c = if b == c then 0 else if Lib.indexByte r c == -1 then -1 else Lib.indexByte r c + 1 := rfl
    rw [hb, List.contains_cons]
    by_cases h : b = c
    · subst h; simp
    · have h1 : (b == c) = false := by simpa using h
      have h2 : (c == b) = false := by simpa using fun e => h e.symm
      rw [h1, h2]
      simp only [Bool.false_or]
      rw [← ih]
      have hge : -1 ≤ Lib.indexByte r c := by
        clear ih hb
        induction r with
        | nil => exact Int.le_refl _
        | cons x r ih => 
          have hx : Lib.indexByte (x :: r) c = if x == c then 0 else if Lib.indexByte r c == -1 then -1 else Lib.indexByte r c + 1 := rfl
          rw [hx]; split
          · decide
          · split
            · decide
            · omega
      by_cases h3 : Lib.indexByte r c = -1
      · simp [h3]
      · have : (Lib.indexByte r c == -1) = false := by simpa using h3
        rw [this]
        apply decide_eq_decide.2
        simp only [Bool.false_eq_true, if_false]
        omega

end Go.Proofs.YtkkfnlehlkiejaaGreatDoor

/-
  DERIVED: THE SHELF's CONTRACTS AT THIS DUMP, IN PLAIN WORDS (tools/lay-plain.mjs out of 'TryzShelf.lean', which tools/lay-shelf.mjs wrote): THE SAME DECLARATIONS UNDER THE SAME NAMES: 'import', 'namespace', 'open', 'def', 'theorem' AND NOTHING ELSE: no command of the shelf's: FOR A HAND-IN. Each laying: the table of numbers ('.._ren') and one theorem, a field a fact of the dump's own or the kernel's comparison; each contract: ONE APPLICATION.
-/
namespace Go.Proofs
open Go.Shelf
def Tryz.lays137_ren : Go.Shelf.Ren := ⟨fun | 137 => 87 | 217 => 106 | 266 => 127 | n => n, fun | 9 => 9 | 5 => 5 | 3 => 3 | n => n, fun | n => n⟩
theorem Tryz.lays137 : Go.Proofs.Lays.n137 Tryz.prog Tryz.lays137_ren := {
  mixed := by kernel_rfl
  f137 := Tryz.func87.trans (congrArg some (by kernel_rfl))
  f217 := Tryz.func106.trans (congrArg some (by kernel_rfl))
  f266 := Tryz.func127.trans (congrArg some (by kernel_rfl))
  t3 := Tryz.underlying3
  a3 := Tryz.isAgg3
  z3 := Tryz.sizeOf3
  v3 := Tryz.zeroValue3
  t5 := Tryz.underlying5
  a5 := Tryz.isAgg5
  z5 := Tryz.sizeOf5
  v5 := Tryz.zeroValue5
  t9 := Tryz.underlying9
  a9 := Tryz.isAgg9
  z9 := Tryz.sizeOf9
  v9 := Tryz.zeroValue9 }
open Go.RowKit in
/-- strings.IndexByte: "IndexByte returns the index of the first instance of c in s, or -1 if c is not present in s.": IT RETURNS 'Lib.indexByte s c'; the world is as it was. (LAID: no walk: one application.) -/
theorem Tryz.strings_IndexByte (s : ByteArray) (c : Int) (w : World) :
    Calls Tryz.prog 87 #[.string s, .int .u8 c] w fun e w' => e = .returned (.int .i64 (Lib.indexByte s.data.toList c.toNat.toUInt8)) ∧ w' = w := Any.strings_IndexByte Tryz.lays137 s c w
def Tryz.lays122_ren : Go.Shelf.Ren := ⟨fun | 122 => 96 | 215 => 118 | n => n, fun | 3 => 3 | 4 => 4 | n => n, fun | n => n⟩
theorem Tryz.lays122 : Go.Proofs.Lays.n122 Tryz.prog Tryz.lays122_ren := {
  mixed := by kernel_rfl
  f122 := Tryz.func96.trans (congrArg some (by kernel_rfl))
  f215 := Tryz.func118.trans (congrArg some (by kernel_rfl))
  t3 := Tryz.underlying3
  a3 := Tryz.isAgg3
  z3 := Tryz.sizeOf3
  v3 := Tryz.zeroValue3
  t4 := Tryz.underlying4
  a4 := Tryz.isAgg4
  z4 := Tryz.sizeOf4
  v4 := Tryz.zeroValue4 }
open Go.RowKit in
/-- cmp.Compare at int: "Compare returns -1 if x is less than y, 0 if x equals y, +1 if x is greater than y.": IT RETURNS 'Lib.compareInt x y'; the world is as it was. (LAID: no walk: one application.) -/
theorem Tryz.cmp_Compare_int (x y : Int) (w : World) :
    Calls Tryz.prog 96 #[.int .i64 x, .int .i64 y] w fun e w' => e = .returned (.int .i64 (Lib.compareInt x y)) ∧ w' = w := Any.cmp_Compare_int Tryz.lays122 x y w
def Tryz.lays99_ren : Go.Shelf.Ren := ⟨fun | 99 => 60 | 206 => 85 | n => n, fun | 9 => 9 | 4 => 4 | 3 => 3 | n => n, fun | n => n⟩
theorem Tryz.lays99 : Go.Proofs.Lays.n99 Tryz.prog Tryz.lays99_ren := {
  mixed := by kernel_rfl
  f99 := Tryz.func60.trans (congrArg some (by kernel_rfl))
  f206 := Tryz.func85.trans (congrArg some (by kernel_rfl))
  t3 := Tryz.underlying3
  a3 := Tryz.isAgg3
  z3 := Tryz.sizeOf3
  v3 := Tryz.zeroValue3
  t4 := Tryz.underlying4
  a4 := Tryz.isAgg4
  z4 := Tryz.sizeOf4
  v4 := Tryz.zeroValue4
  t9 := Tryz.underlying9
  a9 := Tryz.isAgg9
  z9 := Tryz.sizeOf9
  v9 := Tryz.zeroValue9 }
open Go.RowKit Go.Lib in
/-- strings.HasPrefix: "HasPrefix reports whether the string s begins with prefix.": IT RETURNS 'Lib.hasPrefix s prefix'; the world is as it was. (LAID: no walk: one application.) -/
theorem Tryz.strings_HasPrefix (s p : ByteArray) (w : World) :
    Calls Tryz.prog 60 #[.string s, .string p] w fun e w' => e = .returned (.bool (Lib.hasPrefix s.data.toList p.data.toList)) ∧ w' = w := Any.strings_HasPrefix Tryz.lays99 s p w
def Tryz.lays146_ren : Go.Shelf.Ren := ⟨fun | 146 => 59 | 221 => 84 | 268 => 102 | 138 => 103 | 143 => 104 | 195 => 121 | 197 => 122 | 218 => 123 | 219 => 124 | 260 => 134 | 217 => 106 | 225 => 135 | 224 => 136 | 267 => 137 | 266 => 127 | 314 => 139 | n => n, fun | 9 => 9 | 31 => 78 | 3 => 3 | 4 => 4 | 0 => 0 | 105 => 199 | 21 => 21 | 5 => 5 | 46 => 172 | 119 => 211 | 139 => 214 | 138 => 213 | 146 => 215 | 51 => 193 | n => n, fun | 1 => 0 | 3 => 1 | 4 => 2 | n => n⟩
theorem Tryz.lays146 : Go.Proofs.Lays.n146 Tryz.prog Tryz.lays146_ren := {
  mixed := by kernel_rfl
  f138 := Tryz.func103.trans (congrArg some (by kernel_rfl))
  f143 := Tryz.func104.trans (congrArg some (by kernel_rfl))
  f146 := Tryz.func59.trans (congrArg some (by kernel_rfl))
  f195 := Tryz.func121.trans (congrArg some (by kernel_rfl))
  f197 := Tryz.func122.trans (congrArg some (by kernel_rfl))
  f217 := Tryz.func106.trans (congrArg some (by kernel_rfl))
  f218 := Tryz.func123.trans (congrArg some (by kernel_rfl))
  f219 := Tryz.func124.trans (congrArg some (by kernel_rfl))
  f221 := Tryz.func84.trans (congrArg some (by kernel_rfl))
  f224 := Tryz.func136.trans (congrArg some (by kernel_rfl))
  f225 := Tryz.func135.trans (congrArg some (by kernel_rfl))
  f260 := Tryz.func134.trans (congrArg some (by kernel_rfl))
  f266 := Tryz.func127.trans (congrArg some (by kernel_rfl))
  f267 := Tryz.func137.trans (congrArg some (by kernel_rfl))
  f268 := Tryz.func102.trans (congrArg some (by kernel_rfl))
  f314 := Tryz.func139.trans (congrArg some (by kernel_rfl))
  t0 := Tryz.underlying0
  a0 := Tryz.isAgg0
  z0 := Tryz.sizeOf0
  v0 := Tryz.zeroValue0
  t3 := Tryz.underlying3
  a3 := Tryz.isAgg3
  z3 := Tryz.sizeOf3
  v3 := Tryz.zeroValue3
  t4 := Tryz.underlying4
  a4 := Tryz.isAgg4
  z4 := Tryz.sizeOf4
  v4 := Tryz.zeroValue4
  t5 := Tryz.underlying5
  a5 := Tryz.isAgg5
  z5 := Tryz.sizeOf5
  v5 := Tryz.zeroValue5
  t9 := Tryz.underlying9
  a9 := Tryz.isAgg9
  z9 := Tryz.sizeOf9
  v9 := Tryz.zeroValue9
  t21 := Tryz.underlying21
  a21 := Tryz.isAgg21
  z21 := Tryz.sizeOf21
  v21 := Tryz.zeroValue21
  t31 := Tryz.underlying78
  a31 := Tryz.isAgg78
  z31 := Tryz.sizeOf78
  v31 := Tryz.zeroValue78
  t46 := Tryz.underlying172
  a46 := Tryz.isAgg172
  z46 := Tryz.sizeOf172
  v46 := Tryz.zeroValue172
  t51 := Tryz.underlying193
  a51 := Tryz.isAgg193
  z51 := Tryz.sizeOf193
  v51 := Tryz.zeroValue193
  t105 := Tryz.underlying199
  a105 := Tryz.isAgg199
  z105 := Tryz.sizeOf199
  v105 := Tryz.zeroValue199
  t119 := Tryz.underlying211
  a119 := Tryz.isAgg211
  z119 := Tryz.sizeOf211
  t138 := Tryz.underlying213
  a138 := Tryz.isAgg213
  z138 := Tryz.sizeOf213
  v138 := Tryz.zeroValue213
  t139 := Tryz.underlying214
  a139 := Tryz.isAgg214
  z139 := Tryz.sizeOf214
  v139 := Tryz.zeroValue214
  t146 := Tryz.underlying215
  a146 := Tryz.isAgg215
  z146 := Tryz.sizeOf215
  v146 := Tryz.zeroValue215
  g1 := by kernel_rfl
  g3 := by kernel_rfl
  g4 := by kernel_rfl }
open Go.RowKit Go.Lib in
/-- strings.Split. (LAID: no walk: one application.) -/
theorem Tryz.strings_Split (s sep : ByteArray) (m : Int) (w : World) (hs : s.size < 4294967281) (hm : w.cell? ⟨0, 0, none⟩ = some (.int .i64 m)) (h1 : 1 ≤ sep.size) :
    Calls Tryz.prog 59 #[.string s, .string sep] w fun e w' =>
      e = .returned (.slice (some ⟨w.heap.size, 0, none⟩) (Lib.countB s sep + 1) (Lib.countB s sep + 1)) ∧ w' = w.alloc (.cells ((Lib.splitB sep 0 (Lib.countB s sep) s).map Value.string).toArray 9) := Any.strings_Split Tryz.lays146 (by kernel_rfl) s sep m w hs hm h1
end Go.Proofs

/- Functions without an effect (IsLower, IsDigit, isPermitted, alnum, Char, IndexByte, HasPrefix), and isStar, stands,, by plain functions. No condition. -/
namespace Go.Proofs.YtkkfnlehlkiejaaGreatDoor
open Go.RowKit

theorem isLower_any (c : Int) (w : World) : Calls Tryz.prog 125 #[.int .u8 c] w fun e w' => e = .returned (.bool (lowerB c)) ∧ w' = w := vc_isLower c w _ ⟨rfl, rfl⟩
theorem isDigit_any (c : Int) (w : World) : Calls Tryz.prog 126 #[.int .u8 c] w fun e w' => e = .returned (.bool (digitB c)) ∧ w' = w := vc_isDigit c w _ ⟨rfl, rfl⟩
theorem alnum_any (c : Int) (w : World) : Calls Tryz.prog 107 #[.int .u8 c] w fun e w' => e = .returned (.int .i64 (alnumI c)) ∧ w' = w := by
  refine vc_alnum c w _ (bsp_intro (fun h => ?_) fun h => bsp_intro (fun h1 => ?_) fun h1 => ?_)
  · have h : lowerB c = true := h
    exact ⟨by simp [alnumI, h], rfl⟩
  · have h : lowerB c = false := h
    have h1 : digitB c = true := h1
    exact ⟨by simp [alnumI, h, h1], rfl⟩
  · have h : lowerB c = false := h
    have h1 : digitB c = false := h1
    exact ⟨by simp [alnumI, h, h1], rfl⟩
theorem alnumI_pos (c : Int) : decide (alnumI c > 0) = (lowerB c || digitB c) := by
  unfold alnumI; cases lowerB c <;> cases digitB c <;> simp
theorem char_any (c : Int) (w : World) : Calls Tryz.prog 88 #[.int .u8 c] w fun e w' => e = .returned (.bool (charB c)) ∧ w' = w := by
  refine vc_char c w _ ⟨(alnum_any c w).mono fun e w' ⟨he, hw⟩ => ⟨_, he, ?_, hw⟩⟩
  rw [alnumI_pos]
  simp [charB]

/-- An element of a pattern. -/
inductive El where
  | lit (s : ByteArray)
  | one
  | star
  | cls (s : ByteArray)
/-- '+-.0123456789_abcdefghijklmnopqrstuvwxyz'. -/
def nameBytes : ByteArray := ⟨#[43, 45, 46, 48, 49, 50, 51, 52, 53, 54, 55, 56, 57, 95, 97, 98, 99, 100, 101, 102, 103, 104, 105, 106, 107, 108, 109, 110, 111, 112, 113, 114, 115, 116, 117, 118, 119, 120, 121, 122]⟩
def El.val : El → Value
  | .lit s => .iface 157 (.string s)
  | .one => .iface 151 (.agg #[])
  | .star => .iface 152 (.agg #[])
  | .cls s => .iface 153 (.string s)
def El.chars : El → ByteArray
  | .lit s => s
  | .one => nameBytes
  | .star => nameBytes
  | .cls s => s
def El.isStar : El → Bool
  | .star => true
  | _ => false
theorem indexByte_any (s : ByteArray) (c : Int) (w : World) : Calls Tryz.prog 87 #[.string s, .int .u8 c] w fun e w' => e = .returned (.int .i64 (Lib.indexByte s.data.toList c.toNat.toUInt8)) ∧ w' = w := Tryz.strings_IndexByte s c w
theorem isStar_any (x : El) (w : World) : Calls Tryz.prog 92 #[x.val] w fun e w' => e = .returned (.bool x.isStar) ∧ K0 w w' := by
  cases x with
  | lit s => exact vc_isStarL s w _ fun n w1 hn => ⟨trivial, fun w2 hp => ⟨rfl, (hn.kp _).trans (by rw [hp.hw]; exact .refl _ _)⟩⟩
  | cls s => exact vc_isStarC s w _ fun n w1 hn => ⟨trivial, fun w2 hp => ⟨rfl, (hn.kp _).trans (by rw [hp.hw]; exact .refl _ _)⟩⟩
  | one => exact vc_isStarQ w _ fun n w1 hn => ⟨trivial, fun w2 hp => ⟨rfl, (hn.kp _).trans (by rw [hp.hw]; exact .refl _ _)⟩⟩
  | star => exact vc_isStarS w _ fun n w1 hn => ⟨trivial, fun w2 hp => ⟨rfl, (hn.kp _).trans (by rw [hp.hw]; exact .refl _ _)⟩⟩
theorem stands_any (x : El) (c : Int) (w : World) : Calls Tryz.prog 91 #[x.val, .int .u8 c] w fun e w' => e = .returned (.bool (hasB x.chars c)) ∧ K0 w w' := by
  have key : ∀ (s : ByteArray) (w1 : World), K0 w w1 → CallsS Tryz.prog 87 #[.string s, .int .u8 c] w1 fun e w' => ∃ x : Int, e = .returned (.int .i64 x) ∧ (Ending.returned (.bool (decide (x ≥ 0))) = .returned (.bool (hasB s c)) ∧ K0 w w') := fun s w1 h1 =>
    ⟨(indexByte_any s c w1).mono fun e w' ⟨he, hw⟩ => ⟨_, he, by rw [show decide (Lib.indexByte s.data.toList c.toNat.toUInt8 ≥ 0) = hasB s c from indexByte_nonneg _ _], hw ▸ h1⟩⟩
  cases x with
  | lit s => exact vc_standsL s c w _ ⟨(vc_litChars s w (fun e w' => e = .returned (.string s) ∧ K0 w w') ⟨rfl, .refl _ _⟩).mono fun e w' ⟨he, hw⟩ => ⟨_, he, key s w' hw⟩⟩
  | cls s => exact vc_standsC s c w _ ⟨(vc_classChars s w (fun e w' => e = .returned (.string s) ∧ K0 w w') ⟨rfl, .refl _ _⟩).mono fun e w' ⟨he, hw⟩ => ⟨_, he, key s w' hw⟩⟩
  | one => exact vc_standsQ c w _ ⟨(vc_singleChars w (fun e w' => e = .returned (.string nameBytes) ∧ K0 w w') fun n w1 hn => ⟨rfl, hn.kp _⟩).mono fun e w' ⟨he, hw⟩ => ⟨_, he, key _ w' hw⟩⟩
  | star => exact vc_standsS c w _ ⟨(vc_starChars w (fun e w' => e = .returned (.string nameBytes) ∧ K0 w w') fun n w1 hn => ⟨rfl, hn.kp _⟩).mono fun e w' ⟨he, hw⟩ => ⟨_, he, key _ w' hw⟩⟩

def pur1 (f : FuncId) (args : List Value) : Option (Option Prop × Value) :=
  match f with
  | 125 => (match args with | [.int .u8 c] => some (none, .bool (lowerB c)) | _ => none)
  | 126 => (match args with | [.int .u8 c] => some (none, .bool (digitB c)) | _ => none)
  | 107 => (match args with | [.int .u8 c] => some (none, .int .i64 (alnumI c)) | _ => none)
  | 88 => (match args with | [.int .u8 c] => some (none, .bool (charB c)) | _ => none)
  | 87 => (match args with | [.string s, .int .u8 c] => some (none, .int .i64 (Lib.indexByte s.data.toList c.toNat.toUInt8)) | _ => none)
  | 60 => (match args with | [.string s, .string p] => some (none, .bool (Lib.hasPrefix s.data.toList p.data.toList)) | _ => none)
  | _ => none
theorem pur1_ok {l : List (Nat × List (Nat × Ck))} {t : List (Nat × Nat)} {j : List (Nat × List (Nat × Ck))} {b : List (Nat × Unit)} {r : List (Nat × TypeId)} : PurOK { P := Tryz.prog, loops := l, pur := pur1, tails := t, joins := j, boxes := b, rngs := r } := fun f args p v h _ => by
  have key : ∀ (fn : Func), Tryz.prog.funcs[f]? = some fn → (fn.name == "runtime.NumGoroutine") = false → fn.body.isNone = false → ∃ fn, Tryz.prog.funcs[f]? = some fn ∧ (fn.name == "runtime.NumGoroutine") = false ∧ fn.body.isNone = false := fun fn h1 h2 h3 => ⟨fn, h1, h2, h3⟩
  simp only [pur1] at h
  split at h
  · split at h
    · simp at h; obtain ⟨rfl, rfl⟩ := h; exact ⟨fun w => isLower_any _ w, key _ Tryz.func125 (by decide) (by decide)⟩
    · simp at h
  · split at h
    · simp at h; obtain ⟨rfl, rfl⟩ := h; exact ⟨fun w => isDigit_any _ w, key _ Tryz.func126 (by decide) (by decide)⟩
    · simp at h
  · split at h
    · simp at h; obtain ⟨rfl, rfl⟩ := h; exact ⟨fun w => alnum_any _ w, key _ Tryz.func107 (by decide) (by decide)⟩
    · simp at h
  · split at h
    · simp at h; obtain ⟨rfl, rfl⟩ := h; exact ⟨fun w => char_any _ w, key _ Tryz.func88 (by decide) (by decide)⟩
    · simp at h
  · split at h
    · simp at h; obtain ⟨rfl, rfl⟩ := h; exact ⟨fun w => indexByte_any _ _ w, key _ Tryz.func87 (by decide) (by decide)⟩
    · simp at h
  · split at h
    · simp at h; obtain ⟨rfl, rfl⟩ := h; exact ⟨fun w => Tryz.strings_HasPrefix _ _ w, key _ Tryz.func60 (by decide) (by decide)⟩
    · simp at h
  · simp at h

end Go.Proofs.YtkkfnlehlkiejaaGreatDoor

/- The formulas of functions by the symbolic evaluator, and that each gives the call's contract. Written by a program (gen.py). No condition. -/
namespace Go.Proofs.YtkkfnlehlkiejaaGreatDoor
set_option maxRecDepth 100000
set_option linter.unusedVariables false

def VC_items (s : ByteArray) (w : World) (R : Ending → World → Prop) : Prop :=
 ∃ (I : List Value → World → Prop),
 ∃ (m : List Value → World → Nat),
 I [Value.int IntKind.i64 0, Value.string (ByteArray.mk #[])] w ∧
 ∀ (x : Int) (x_1 : ByteArray) (w' : World),
 I [Value.int IntKind.i64 x, Value.string x_1] w' →
 bsp (decide (x < (↑s.size : Int)))
 ((0 ≤ x ∧ x < (↑s.size : Int)) ∧
 gimp ((lowerB (at8 s x.toNat) || digitB (at8 s x.toNat)) && decide (IntKind.i64.wrap (x + 2) < (↑s.size : Int)))
 (0 ≤ IntKind.i64.wrap (x + 1) ∧ IntKind.i64.wrap (x + 1) < (↑s.size : Int)) ∧
 bsp
 ((lowerB (at8 s x.toNat) || digitB (at8 s x.toNat)) && decide (IntKind.i64.wrap (x + 2) < (↑s.size : Int)) &&
 at8 s (IntKind.i64.wrap (x + 1)).toNat == 45)
 ((0 ≤ IntKind.i64.wrap (x + 2) ∧ IntKind.i64.wrap (x + 2) < (↑s.size : Int)) ∧
 bsp
 (decide (at8 s (IntKind.i64.wrap (x + 2)).toNat < at8 s x.toNat) ||
 !lowerB (at8 s x.toNat) == lowerB (at8 s (IntKind.i64.wrap (x + 2)).toNat) ||
 !digitB (at8 s x.toNat) == digitB (at8 s (IntKind.i64.wrap (x + 2)).toNat))
 (R (Ending.returned (Value.tuple #[Value.string x_1, Value.int IntKind.i64 x])) w')
 (∃ (I_1 : List Value → World → Prop),
 ∃ (m_1 : List Value → World → Nat),
 I_1 [Value.int IntKind.u8 (at8 s x.toNat), Value.string x_1] w' ∧
 ∀ (x_2 : Int) (x_3 : ByteArray) (w'_1 : World),
 I_1 [Value.int IntKind.u8 x_2, Value.string x_3] w'_1 →
 bsp (decide (x_2 ≤ at8 s (IntKind.i64.wrap (x + 2)).toNat))
 (∀ (n : Nat) (w1 : World),
 NewB w'_1 (Obj.cells #[Value.int IntKind.u8 x_2] 5) n w1 →
 ∃ (s : ByteArray),
 (s.size = 1 ∧ BytesP w1 (some (Addr.mk n 0 none)) s) ∧
 (9223372036854775807 - (↑(x_3.size + s.size) : Int)).NonNeg ∧
 I_1 [Value.int IntKind.u8 (IntKind.u8.wrap (x_2 + 1)), Value.string (x_3 ++ s)] w1 ∧
 m_1 [Value.int IntKind.u8 (IntKind.u8.wrap (x_2 + 1)), Value.string (x_3 ++ s)] w1 <
 m_1 [Value.int IntKind.u8 x_2, Value.string x_3] w'_1)
 (I [Value.int IntKind.i64 (IntKind.i64.wrap (x + 3)), Value.string x_3] w'_1 ∧
 m [Value.int IntKind.i64 (IntKind.i64.wrap (x + 3)), Value.string x_3] w'_1 <
 m [Value.int IntKind.i64 x, Value.string x_1] w')))
 (bsp
 (lowerB (at8 s x.toNat) || digitB (at8 s x.toNat) || at8 s x.toNat == 43 || at8 s x.toNat == 95 ||
 at8 s x.toNat == 46 ||
 at8 s x.toNat == 45 && x == 0)
 (∀ (n : Nat) (w1 : World),
 NewB w' (Obj.cells #[Value.int IntKind.u8 (at8 s x.toNat)] 5) n w1 →
 ∃ (s : ByteArray),
 (s.size = 1 ∧ BytesP w1 (some (Addr.mk n 0 none)) s) ∧
 (9223372036854775807 - (↑(x_1.size + s.size) : Int)).NonNeg ∧
 I [Value.int IntKind.i64 (IntKind.i64.wrap (x + 1)), Value.string (x_1 ++ s)] w1 ∧
 m [Value.int IntKind.i64 (IntKind.i64.wrap (x + 1)), Value.string (x_1 ++ s)] w1 <
 m [Value.int IntKind.i64 x, Value.string x_1] w')
 (R (Ending.returned (Value.tuple #[Value.string x_1, Value.int IntKind.i64 x])) w')))
 (R (Ending.returned (Value.tuple #[Value.string x_1, Value.int IntKind.i64 x])) w')
theorem vc_items (s : ByteArray) (w : World) (R : Ending → World → Prop) (h : VC_items s w R) : Calls Tryz.prog 105 ([Value.string
    s] : List Value).toArray w R := by
  have e : execR { P := Tryz.prog, loops := [(1, [(3, Ck.int IntKind.i64), (2, Ck.str)]), (10, [(7, Ck.int IntKind.u8), (2, Ck.str)])], pur := pur1, tails := [], joins := [], boxes := [] } Tryz.f105.results.toList R (Tryz.f105.body.getD .skip) (initF [Value.string
    s] (Tryz.f105.ntmps - ([Value.string s] : List Value).length)) w = VC_items s w R := by kernel_rfl
  have hb : Tryz.f105.body = some (Tryz.f105.body.getD .skip) := by kernel_rfl
  exact calls_of_exec' (P := Tryz.prog) (fn := Tryz.f105) (c := Tryz.f105.body.getD .skip) (args := [Value.string
    s]) (w := w) (R := R) pur1_ok Tryz.func105 hb e h

def VC_parseClass (s : ByteArray) (w : World) (R : Ending → World → Prop) : Prop :=
 bsp (Lib.hasPrefix s.data.toList [91, 94])
 (((0 : Int) ≤ 2 ∧ 2 ≤ (↑s.size : Int)) ∧
 CallsS Tryz.prog 105 #[Value.string (s.extract 2 s.size)] w fun (e : Ending) (w' : World) =>
 ∃ (x : ByteArray),
 ∃ (x_1 : Int),
 e = Ending.returned (Value.tuple #[Value.string x, Value.int IntKind.i64 x_1]) ∧
 gimp (!(x_1 == 0 || IntKind.i64.wrap (2 + x_1) == (↑s.size : Int)))
 (0 ≤ IntKind.i64.wrap (2 + x_1) ∧ IntKind.i64.wrap (2 + x_1) < (↑s.size : Int)) ∧
 bsp (x_1 == 0 || IntKind.i64.wrap (2 + x_1) == (↑s.size : Int) || at8 s (IntKind.i64.wrap (2 + x_1)).toNat != 93)
 (R (Ending.returned (Value.tuple #[Value.string (ByteArray.mk #[]), Value.int IntKind.i64 0])) w')
 (∀ (n : Nat) (w1 : World),
 NewB w'
 (Obj.cells
 #[Value.int IntKind.u8 43, Value.int IntKind.u8 45, Value.int IntKind.u8 46, Value.int IntKind.u8 48,
 Value.int IntKind.u8 49, Value.int IntKind.u8 50, Value.int IntKind.u8 51, Value.int IntKind.u8 52,
 Value.int IntKind.u8 53, Value.int IntKind.u8 54, Value.int IntKind.u8 55, Value.int IntKind.u8 56,
 Value.int IntKind.u8 57, Value.int IntKind.u8 95, Value.int IntKind.u8 97, Value.int IntKind.u8 98,
 Value.int IntKind.u8 99, Value.int IntKind.u8 100, Value.int IntKind.u8 101, Value.int IntKind.u8 102,
 Value.int IntKind.u8 103, Value.int IntKind.u8 104, Value.int IntKind.u8 105, Value.int IntKind.u8 106,
 Value.int IntKind.u8 107, Value.int IntKind.u8 108, Value.int IntKind.u8 109, Value.int IntKind.u8 110,
 Value.int IntKind.u8 111, Value.int IntKind.u8 112, Value.int IntKind.u8 113, Value.int IntKind.u8 114,
 Value.int IntKind.u8 115, Value.int IntKind.u8 116, Value.int IntKind.u8 117, Value.int IntKind.u8 118,
 Value.int IntKind.u8 119, Value.int IntKind.u8 120, Value.int IntKind.u8 121, Value.int IntKind.u8 122]
 5)
 n w1 →
 ∀ (w1_1 : World),
 MarkB w1 n w1_1 →
 ∃ (I : List Value → World → Prop),
 ∃ (m : List Value → World → Nat),
 I [Value.int IntKind.i64 0, Value.slice none 0 0] w1_1 ∧
 ∀ (x_2 : Int) (p : Option Addr) (n_1 c : Nat) (w' : World),
 I [Value.int IntKind.i64 x_2, Value.slice p n_1 c] w' →
 bsp (decide (x_2 < (↑40 : Int)))
 ((0 ≤ x_2 ∧ x_2 < (↑40 : Int)) ∧
 ∃ (x_3 : Int),
 w'.cell? (Addr.mk n (0 + x_2.toNat) none) = some (Value.int IntKind.u8 x_3) ∧
 bsp
 (!decide (Lib.indexByte x.data.toList x_3.toNat.toUInt8 ≥ 0) ==
 Lib.hasPrefix s.data.toList [91, 94])
 (∀ (n : Nat) (w1 : World),
 NewB w' (Obj.cells #[Value.int IntKind.u8 x_3] 5) n w1 →
 ∃ (base : Nat),
 ∃ (xs : List Value),
 ∃ (news : List Value),
 w1.ownsRow base 5 1 (Value.slice p n_1 c) n_1 xs ∧
 news.length = 1 ∧
 SrcP w1 (some (Addr.mk n 0 none)) news ∧
 n_1 + 1 ≤ 9223372036854775807 ∧
 (n_1 + 1) * 1 ≤ 140737488355328 ∧
 base ≤ w1.heap.size ∧
 ∀ (p' : Option Addr) (c' : Nat) (w'_1 : World),
 w'_1.ownsRow base 5 1 (Value.slice p' (n_1 + 1) c') (n_1 + 1) (xs ++ news) →
 w1.grownBy w'_1 (Value.slice p n_1 c).ownBlock →
 (n_1 + 1 ≤ c → p' = p ∧ c' = c) →
 I [Value.int IntKind.i64 (IntKind.i64.wrap (x_2 + 1)), Value.slice p' (n_1 + 1) c']
 w'_1 ∧
 m
 [Value.int IntKind.i64 (IntKind.i64.wrap (x_2 + 1)),
 Value.slice p' (n_1 + 1) c']
 w'_1 <
 m [Value.int IntKind.i64 x_2, Value.slice p n_1 c] w')
 (I [Value.int IntKind.i64 (IntKind.i64.wrap (x_2 + 1)), Value.slice p n_1 c] w' ∧
 m [Value.int IntKind.i64 (IntKind.i64.wrap (x_2 + 1)), Value.slice p n_1 c] w' <
 m [Value.int IntKind.i64 x_2, Value.slice p n_1 c] w'))
 (∃ (s : ByteArray),
 (s.size = n_1 ∧ BytesP w' p s) ∧
 R
 (Ending.returned
 (Value.tuple
 #[Value.string s, Value.int IntKind.i64 (IntKind.i64.wrap (IntKind.i64.wrap (2 + x_1) + 1))]))
 w')))
 (((0 : Int) ≤ 1 ∧ 1 ≤ (↑s.size : Int)) ∧
 CallsS Tryz.prog 105 #[Value.string (s.extract 1 s.size)] w fun (e : Ending) (w' : World) =>
 ∃ (x : ByteArray),
 ∃ (x_1 : Int),
 e = Ending.returned (Value.tuple #[Value.string x, Value.int IntKind.i64 x_1]) ∧
 gimp (!(x_1 == 0 || IntKind.i64.wrap (1 + x_1) == (↑s.size : Int)))
 (0 ≤ IntKind.i64.wrap (1 + x_1) ∧ IntKind.i64.wrap (1 + x_1) < (↑s.size : Int)) ∧
 bsp (x_1 == 0 || IntKind.i64.wrap (1 + x_1) == (↑s.size : Int) || at8 s (IntKind.i64.wrap (1 + x_1)).toNat != 93)
 (R (Ending.returned (Value.tuple #[Value.string (ByteArray.mk #[]), Value.int IntKind.i64 0])) w')
 (∀ (n : Nat) (w1 : World),
 NewB w'
 (Obj.cells
 #[Value.int IntKind.u8 43, Value.int IntKind.u8 45, Value.int IntKind.u8 46, Value.int IntKind.u8 48,
 Value.int IntKind.u8 49, Value.int IntKind.u8 50, Value.int IntKind.u8 51, Value.int IntKind.u8 52,
 Value.int IntKind.u8 53, Value.int IntKind.u8 54, Value.int IntKind.u8 55, Value.int IntKind.u8 56,
 Value.int IntKind.u8 57, Value.int IntKind.u8 95, Value.int IntKind.u8 97, Value.int IntKind.u8 98,
 Value.int IntKind.u8 99, Value.int IntKind.u8 100, Value.int IntKind.u8 101, Value.int IntKind.u8 102,
 Value.int IntKind.u8 103, Value.int IntKind.u8 104, Value.int IntKind.u8 105, Value.int IntKind.u8 106,
 Value.int IntKind.u8 107, Value.int IntKind.u8 108, Value.int IntKind.u8 109, Value.int IntKind.u8 110,
 Value.int IntKind.u8 111, Value.int IntKind.u8 112, Value.int IntKind.u8 113, Value.int IntKind.u8 114,
 Value.int IntKind.u8 115, Value.int IntKind.u8 116, Value.int IntKind.u8 117, Value.int IntKind.u8 118,
 Value.int IntKind.u8 119, Value.int IntKind.u8 120, Value.int IntKind.u8 121, Value.int IntKind.u8 122]
 5)
 n w1 →
 ∀ (w1_1 : World),
 MarkB w1 n w1_1 →
 ∃ (I : List Value → World → Prop),
 ∃ (m : List Value → World → Nat),
 I [Value.int IntKind.i64 0, Value.slice none 0 0] w1_1 ∧
 ∀ (x_2 : Int) (p : Option Addr) (n_1 c : Nat) (w' : World),
 I [Value.int IntKind.i64 x_2, Value.slice p n_1 c] w' →
 bsp (decide (x_2 < (↑40 : Int)))
 ((0 ≤ x_2 ∧ x_2 < (↑40 : Int)) ∧
 ∃ (x_3 : Int),
 w'.cell? (Addr.mk n (0 + x_2.toNat) none) = some (Value.int IntKind.u8 x_3) ∧
 bsp
 (!decide (Lib.indexByte x.data.toList x_3.toNat.toUInt8 ≥ 0) ==
 Lib.hasPrefix s.data.toList [91, 94])
 (∀ (n : Nat) (w1 : World),
 NewB w' (Obj.cells #[Value.int IntKind.u8 x_3] 5) n w1 →
 ∃ (base : Nat),
 ∃ (xs : List Value),
 ∃ (news : List Value),
 w1.ownsRow base 5 1 (Value.slice p n_1 c) n_1 xs ∧
 news.length = 1 ∧
 SrcP w1 (some (Addr.mk n 0 none)) news ∧
 n_1 + 1 ≤ 9223372036854775807 ∧
 (n_1 + 1) * 1 ≤ 140737488355328 ∧
 base ≤ w1.heap.size ∧
 ∀ (p' : Option Addr) (c' : Nat) (w'_1 : World),
 w'_1.ownsRow base 5 1 (Value.slice p' (n_1 + 1) c') (n_1 + 1) (xs ++ news) →
 w1.grownBy w'_1 (Value.slice p n_1 c).ownBlock →
 (n_1 + 1 ≤ c → p' = p ∧ c' = c) →
 I [Value.int IntKind.i64 (IntKind.i64.wrap (x_2 + 1)), Value.slice p' (n_1 + 1) c']
 w'_1 ∧
 m
 [Value.int IntKind.i64 (IntKind.i64.wrap (x_2 + 1)),
 Value.slice p' (n_1 + 1) c']
 w'_1 <
 m [Value.int IntKind.i64 x_2, Value.slice p n_1 c] w')
 (I [Value.int IntKind.i64 (IntKind.i64.wrap (x_2 + 1)), Value.slice p n_1 c] w' ∧
 m [Value.int IntKind.i64 (IntKind.i64.wrap (x_2 + 1)), Value.slice p n_1 c] w' <
 m [Value.int IntKind.i64 x_2, Value.slice p n_1 c] w'))
 (∃ (s : ByteArray),
 (s.size = n_1 ∧ BytesP w' p s) ∧
 R
 (Ending.returned
 (Value.tuple
 #[Value.string s, Value.int IntKind.i64 (IntKind.i64.wrap (IntKind.i64.wrap (1 + x_1) + 1))]))
 w')))
theorem vc_parseClass (s : ByteArray) (w : World) (R : Ending → World → Prop) (h : VC_parseClass s w R) : Calls Tryz.prog 86 ([Value.string
    s] : List Value).toArray w R := by
  have e : execR { P := Tryz.prog, loops := [(11, [(42, Ck.int IntKind.i64), (9, Ck.slice)])], pur := pur1, tails := [], joins := [], boxes := [] } Tryz.f86.results.toList R (Tryz.f86.body.getD .skip) (initF [Value.string
    s] (Tryz.f86.ntmps - ([Value.string s] : List Value).length)) w = VC_parseClass s w R := by kernel_rfl
  have hb : Tryz.f86.body = some (Tryz.f86.body.getD .skip) := by kernel_rfl
  exact calls_of_exec' (P := Tryz.prog) (fn := Tryz.f86) (c := Tryz.f86.body.getD .skip) (args := [Value.string
    s]) (w := w) (R := R) pur1_ok Tryz.func86 hb e h

def VC_spread (b : Nat) (o : Nat) (p : Option Addr) (n : Nat) (c : Nat) (w : World) (R : Ending → World → Prop) : Prop :=
 ∃ (p_1 : Option Addr),
 ∃ (n_1 : Nat),
 ∃ (c : Nat),
 w.cell? (Addr.mk b (o + 1) none) = some (Value.slice p_1 n_1 c) ∧
 ∃ (I : List Value → World → Prop),
 ∃ (m : List Value → World → Nat),
 I [Value.int IntKind.i64 0] w ∧
 ∀ (x : Int) (w' : World),
 I [Value.int IntKind.i64 x] w' →
 bsp (decide (x < (↑n_1 : Int)))
 (nn true p_1 fun (b o : Nat) =>
 (0 ≤ x ∧ x < (↑n_1 : Int)) ∧
 ∃ (x_1 : Value),
 w'.cell? (Addr.mk b (o + x.toNat) none) = some x_1 ∧
 nn true p fun (b o : Nat) =>
 (0 ≤ x ∧ x < (↑n : Int)) ∧
 ∃ (x_2 : Bool),
 w'.cell? (Addr.mk b (o + x.toNat) none) = some (Value.bool x_2) ∧
 bsp x_2
 (CallsS Tryz.prog 92 #[x_1] w' fun (e : Ending) (w'_1 : World) =>
 ∃ (x_3 : Bool),
 e = Ending.returned (Value.bool x_3) ∧
 bsp (true && x_3)
 (nn true p fun (b o : Nat) =>
 (0 ≤ IntKind.i64.wrap (x + 1) ∧ IntKind.i64.wrap (x + 1) < (↑n : Int)) ∧
 ((∃ (u : Value), w'_1.cell? (Addr.mk b (o + (IntKind.i64.wrap (x + 1)).toNat) none) = some u) ∧
 w'_1.frozen? (Addr.mk b (o + (IntKind.i64.wrap (x + 1)).toNat) none) = false) ∧
 ∀ (w1 : World),
 PutB w'_1 b (o + (IntKind.i64.wrap (x + 1)).toNat) [Value.bool true] w1 →
 I [Value.int IntKind.i64 (IntKind.i64.wrap (x + 1))] w1 ∧
 m [Value.int IntKind.i64 (IntKind.i64.wrap (x + 1))] w1 < m [Value.int IntKind.i64 x] w')
 (I [Value.int IntKind.i64 (IntKind.i64.wrap (x + 1))] w'_1 ∧
 m [Value.int IntKind.i64 (IntKind.i64.wrap (x + 1))] w'_1 < m [Value.int IntKind.i64 x] w'))
 (I [Value.int IntKind.i64 (IntKind.i64.wrap (x + 1))] w' ∧
 m [Value.int IntKind.i64 (IntKind.i64.wrap (x + 1))] w' < m [Value.int IntKind.i64 x] w'))
 (R (Ending.returned (Value.tuple #[])) w')
theorem vc_spread (b : Nat) (o : Nat) (p : Option Addr) (n : Nat) (c : Nat) (w : World) (R : Ending → World → Prop) (h : VC_spread b o p n c w R) : Calls Tryz.prog 90 ([Value.pointer
    (some { block := b, off := o }),
  Value.slice p n c] : List Value).toArray w R := by
  have e : execR { P := Tryz.prog, loops := [(1, [(11, Ck.int IntKind.i64)])], pur := pur1, tails := [], joins := [], boxes := [] } Tryz.f90.results.toList R (Tryz.f90.body.getD .skip) (initF [Value.pointer
    (some { block := b, off := o }),
  Value.slice p n
    c] (Tryz.f90.ntmps - ([Value.pointer (some { block := b, off := o }),
  Value.slice p n c] : List Value).length)) w = VC_spread b o p n c w R := by kernel_rfl
  have hb : Tryz.f90.body = some (Tryz.f90.body.getD .skip) := by kernel_rfl
  exact calls_of_exec' (P := Tryz.prog) (fn := Tryz.f90) (c := Tryz.f90.body.getD .skip) (args := [Value.pointer
    (some { block := b, off := o }),
  Value.slice p n c]) (w := w) (R := R) pur1_ok Tryz.func90 hb e h

def VC_len (b : Nat) (o : Nat) (w : World) (R : Ending → World → Prop) : Prop :=
 ∃ (p : Option Addr),
 ∃ (n : Nat),
 ∃ (c : Nat),
 w.cell? (Addr.mk b (o + 1) none) = some (Value.slice p n c) ∧
 R (Ending.returned (Value.int IntKind.i64 (↑n : Int))) w
theorem vc_len (b : Nat) (o : Nat) (w : World) (R : Ending → World → Prop) (h : VC_len b o w R) : Calls Tryz.prog 67 ([Value.pointer
    (some { block := b, off := o })] : List Value).toArray w R := by
  have e : execR { P := Tryz.prog, loops := [], pur := pur1, tails := [], joins := [], boxes := [] } Tryz.f67.results.toList R (Tryz.f67.body.getD .skip) (initF [Value.pointer
    (some
      { block := b,
        off :=
          o })] (Tryz.f67.ntmps - ([Value.pointer
    (some { block := b, off := o })] : List Value).length)) w = VC_len b o w R := by kernel_rfl
  have hb : Tryz.f67.body = some (Tryz.f67.body.getD .skip) := by kernel_rfl
  exact calls_of_exec' (P := Tryz.prog) (fn := Tryz.f67) (c := Tryz.f67.body.getD .skip) (args := [Value.pointer
    (some { block := b, off := o })]) (w := w) (R := R) pur1_ok Tryz.func67 hb e h

end Go.Proofs.YtkkfnlehlkiejaaGreatDoor
