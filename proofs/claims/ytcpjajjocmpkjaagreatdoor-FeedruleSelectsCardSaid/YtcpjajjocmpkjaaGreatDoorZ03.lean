/- Lemmas on worlds for the proofs of formulas: new blocks, written cells, what is kept. Generic: no program, no condition. -/
import Derived.Test.YtcpjajjocmpkjaaGreatDoorZ02
import Derived.Below
import Derived.ChangeSame
import Derived.DataReads
import Derived.Test.YtcpjajjocmpkjaaGreatDoorProg
import Derived.KernelRfl
import Derived.Shelf.Small.Bits
import Derived.Shelf.Small.Strs
import Derived.Shelf.Small.Wraps
import Derived.Shelf.Utf8.RuneCount
import Derived.Shelf.Strconv.Itoa0
import Derived.Shelf.Strings.Search1
import Derived.Shelf.Strings.Search2
import Derived.Shelf.Strings.Search3
import Derived.Shelf.Strings.Count
import Derived.Shelf.LaysM
import Derived.Shelf.Strings.Shaped
import Derived.Shelf.Strings.Prefix
import Derived.Shelf.Strings.Split
import Derived.Shelf.Strings.SplitShaped
import Derived.Shelf.Unicode.Decode
import Derived.Shelf.Strings.RuneCount
import Derived.Shelf.Strings.Explode
import Derived.Shelf.Unicode.DecodeSlow
import Derived.Shelf.Unicode.DecodeAny
import Derived.Shelf.Slices.Turned
import Derived.Ground.Names2Prog
import Derived.Shelf.Slices.Clone
import Derived.Shelf.Slices.SearchI
import Derived.Ground.SlgnProg
import Derived.Shelf.SlicesE.Clone
namespace Go.Proofs.YtcpjajjocmpkjaaGreatDoor
open Go.RowKit

theorem bsp_intro {b : Bool} {X Y : Prop} (h1 : b = true → X) (h2 : b = false → Y) : bsp b X Y := by cases b <;> simp_all [bsp]
theorem gimp_intro {b : Bool} {X : Prop} (h : b = true → X) : gimp b X := by cases b <;> simp_all [gimp]
theorem wr64 {x : Int} (h1 : -9223372036854775808 ≤ x) (h2 : x ≤ 9223372036854775807) : IntKind.i64.wrap x = x := IntWalk.i64_in x ⟨h1, h2⟩

theorem Kp.mono {M M' : Nat → Prop} {a b : World} (h : Kp M a b) (hm : ∀ i, i < a.heap.size → M i → M' i) : Kp M' a b :=
  ⟨h.os, h.tape, h.output, h.size, fun i hi hn => h.block i hi (fun hM => hn (hm i hi hM))⟩
theorem Kp.drew {M : Nat → Prop} {a b : World} (h : Kp M a b) : Kp M a b.drew := ⟨h.os, h.tape, h.output, h.size, h.block⟩
theorem Kp.of_drew {M : Nat → Prop} {a b : World} (h : Kp M a.drew b) : Kp M a b := ⟨h.os, h.tape, h.output, h.size, h.block⟩
theorem K0.below {w w' : World} (h : K0 w w') : Below w.heap.size w w' := ⟨h.os, h.tape, h.output, h.size, fun k hk => h.block k hk (fun h => h)⟩
theorem K0.of_below {w w' : World} (h : Below w.heap.size w w') : K0 w w' := ⟨h.os, h.tape, h.output, h.size, fun k hk _ => h.block k hk⟩
theorem Kp.cell {M : Nat → Prop} {w w' : World} (h : Kp M w w') {b o : Nat} (hb : b < w.heap.size) (hm : ¬ M b) : w'.cell? ⟨b, o, none⟩ = w.cell? ⟨b, o, none⟩ := by
  simp only [World.cell?, h.block b hb hm]
theorem cell_lt {w : World} {b o : Nat} {v : Value} (h : w.cell? ⟨b, o, none⟩ = some v) : b < w.heap.size := World.block_lt_of_cell? w ⟨b, o, none⟩ h
theorem Kp.cell' {M : Nat → Prop} {w w' : World} (h : Kp M w w') {b o : Nat} {v : Value} (hc : w.cell? ⟨b, o, none⟩ = some v) (hm : ¬ M b) : w'.cell? ⟨b, o, none⟩ = some v := by
  rw [h.cell (cell_lt hc) hm]; exact hc
theorem Kp.frozen {M : Nat → Prop} {w w' : World} (h : Kp M w w') {b o : Nat} (hb : b < w.heap.size) (hm : ¬ M b) : w'.frozen? ⟨b, o, none⟩ = w.frozen? ⟨b, o, none⟩ := by
  simp only [World.frozen?, h.block b hb hm]

theorem block_lt {w : World} {b : Nat} {o : Obj} (h : w.heap[b]? = some o) : b < w.heap.size := by
  rcases Nat.lt_or_ge b w.heap.size with h' | h'
  · exact h'
  · simp [Array.getElem?_eq_none h'] at h
theorem Kp.blk {M : Nat → Prop} {w w' : World} (h : Kp M w w') {b : Nat} {o : Obj} (hb : w.heap[b]? = some o) (hm : ¬ M b) : w'.heap[b]? = some o := by
  rw [h.block b (block_lt hb) hm]; exact hb
theorem blk_drew {w : World} {b : Nat} {o : Obj} (hb : w.heap[b]? = some o) : w.drew.heap[b]? = some o := hb

section
variable {w w1 : World} {obj : Obj} {n : Nat}
theorem NewB.block (h : NewB w obj n w1) : w1.heap[n]? = some obj := by
  obtain ⟨rfl, rfl⟩ := h
  show (w.heap.push obj)[w.heap.size]? = some obj
  simp
theorem NewB.kp (h : NewB w obj n w1) (M : Nat → Prop) : Kp M w w1 := by
  obtain ⟨rfl, rfl⟩ := h
  exact ⟨rfl, rfl, rfl, by simp, fun k hk _ => Below.heap_alloc _ _ _ hk⟩
theorem NewB.size (h : NewB w obj n w1) : w1.heap.size = n + 1 := by
  obtain ⟨rfl, rfl⟩ := h; simp
theorem NewB.ge (h : NewB w obj n w1) : w.heap.size ≤ n := by
  obtain ⟨rfl, rfl⟩ := h; exact Nat.le_refl _
end

theorem cell_block {w : World} {b : Nat} {c : Array Value} {t : TypeId} {f : Nat × Nat} (h : w.heap[b]? = some (.cells c t f)) (i : Nat) : w.cell? ⟨b, i, none⟩ = c[i]? := by
  simp [World.cell?, h]
theorem frozen_block {w : World} {b : Nat} {c : Array Value} {t : TypeId} (h : w.heap[b]? = some (.cells c t (0, 0))) (i : Nat) : w.frozen? ⟨b, i, none⟩ = false := by
  simp [World.frozen?, h]
theorem At_of {w : World} {b : Nat} : ∀ (cs : List Value) (o : Nat), (∀ j v, cs[j]? = some v → w.cell? ⟨b, o + j, none⟩ = some v) → At w b o cs
  | [], _, _ => trivial
  | [v], o, h => by have := h 0 v rfl; exact (by simpa using this : w.cell? ⟨b, o, none⟩ = some v)
  | v :: x :: r, o, h => ⟨by have := h 0 v rfl; simpa using this, At_of (x :: r) (o + 1) fun j u hj => by
      have := h (j + 1) u (by simpa using hj)
      rw [show o + 1 + j = o + (j + 1) by omega]; exact this⟩
/-- The cells of a block, from an offset on. -/
theorem AtL_block {w : World} {b o : Nat} {c : Array Value} {t : TypeId} {f : Nat × Nat} {cs : List Value} (h : w.heap[b]? = some (.cells c t f)) (hc : (c.toList.drop o).take cs.length = cs) : AtL w b o cs := by
  refine ⟨At_of cs o fun j v hj => ?_⟩
  rw [cell_block h]
  have hlt : j < cs.length := by
    rcases Nat.lt_or_ge j cs.length with h' | h'
    · exact h'
    · simp [List.getElem?_eq_none h'] at hj
  rw [← hc] at hj
  rw [List.getElem?_take, if_pos (by simpa using hlt), List.getElem?_drop] at hj
  simpa using hj
theorem WrL_block {w : World} {b o n : Nat} {c : Array Value} {t : TypeId} (h : w.heap[b]? = some (.cells c t (0, 0))) (hn : o + n ≤ c.size) : WrL w b o n := by
  refine ⟨Wr_of n o fun i hi => ⟨?_, frozen_block h _⟩⟩
  rw [cell_block h]
  exact ⟨c[o + i], by simp⟩
def putL (c : List Value) : Nat → List Value → List Value
  | _, [] => c
  | o, v :: r => putL (c.set o v) (o + 1) r
theorem block_setCell {w : World} {b o : Nat} {c : Array Value} {t : TypeId} {f : Nat × Nat} {v : Value} (h : w.heap[b]? = some (.cells c t f)) : (w.setCell ⟨b, o, none⟩ v).heap[b]? = some (.cells (c.setIfInBounds o v) t f) := by
  simp [World.setCell, Array.getElem?_modify, h]
theorem wset_block {b : Nat} {t : TypeId} {f : Nat × Nat} : ∀ (cs : List Value) (w : World) (o : Nat) (c : Array Value), w.heap[b]? = some (.cells c t f) → (wset w b o cs).heap[b]? = some (.cells (putL c.toList o cs).toArray t f)
  | [], w, o, c, h => by simpa [wset, putL] using h
  | v :: r, w, o, c, h => by
    have := wset_block (b := b) (t := t) (f := f) r (w.setCell ⟨b, o, none⟩ v) (o + 1) _ (block_setCell h)
    simp only [wset, putL]
    rw [this]
    simp
theorem wset_kp {b : Nat} : ∀ (cs : List Value) (w : World) (o : Nat), Kp (· = b) w (wset w b o cs)
  | [], w, _ => .refl _ _
  | v :: r, w, o => by
    have h1 : Kp (· = b) w (w.setCell ⟨b, o, none⟩ v) := ⟨rfl, rfl, rfl, by simp, fun k _ hk => Below.heap_setCell _ _ _ _ hk⟩
    exact h1.trans (wset_kp r _ _)
theorem wset_size {b : Nat} : ∀ (cs : List Value) (w : World) (o : Nat), (wset w b o cs).heap.size = w.heap.size
  | [], w, _ => rfl
  | v :: r, w, o => by simp only [wset]; rw [wset_size r]; simp
section
variable {w w1 : World} {b o : Nat} {cs : List Value}
theorem PutB.block (h : PutB w b o cs w1) {c : Array Value} {t : TypeId} {f : Nat × Nat} (hb : w.heap[b]? = some (.cells c t f)) : w1.heap[b]? = some (.cells (putL c.toList o cs).toArray t f) := by
  rw [h.hw]; exact wset_block cs w o c hb
theorem PutB.kp (h : PutB w b o cs w1) : Kp (· = b) w w1 := by rw [h.hw]; exact wset_kp cs w o
theorem PutB.size (h : PutB w b o cs w1) : w1.heap.size = w.heap.size := by rw [h.hw]; exact wset_size cs w o
end

theorem MarkB.kp {w w1 : World} {b : Nat} (h : MarkB w b w1) : Kp (· = b) w w1 := by
  rw [h.hw]
  unfold markW
  split
  · unfold World.freeze
    rw [if_neg (by decide)]
    refine ⟨rfl, rfl, rfl, by simp, fun k _ hk => ?_⟩
    show (w.heap.modify b _)[k]? = _
    rw [Array.getElem?_modify, if_neg (fun e => hk e.symm)]
  · exact .refl _ _
theorem MarkB.block {w w1 : World} {b : Nat} (h : MarkB w b w1) {c : Array Value} {t : TypeId} (hb : w.heap[b]? = some (.cells c t (0, 0))) : w1.heap[b]? = some (.cells c t (c.size, c.size + 1)) := by
  rw [h.hw]
  unfold markW World.shape?
  rw [hb]
  simp only [World.freeze]
  rw [if_neg (by decide)]
  show (w.heap.modify b _)[b]? = _
  rw [Array.getElem?_modify, if_pos rfl, hb]
  rfl
theorem MarkB.size {w w1 : World} {b : Nat} (h : MarkB w b w1) : w1.heap.size = w.heap.size := by
  rw [h.hw]
  unfold markW
  split
  · unfold World.freeze
    rw [if_neg (by decide)]
    simp
  · rfl

/-! ### Rows that are the program's own -/
theorem Kp.grown {M : Nat → Prop} {w0 w w' : World} {row : Option Nat} (h : Kp M w0 w) (hg : w.grownBy w' row) (hrow : ∀ k, row = some k → w0.heap.size ≤ k ∨ M k) : Kp M w0 w' :=
  ⟨hg.os.trans h.os, hg.tape.trans h.tape, hg.output.trans h.output, Nat.le_trans h.size hg.size, fun i hi hm => (hg.block i (Nat.lt_of_lt_of_le hi h.size) (fun e => by
    rcases hrow i e.symm with h1 | h1
    · omega
    · exact hm h1)).trans (h.block i hi hm)⟩
theorem owns_kp {M : Nat → Prop} {w w' : World} {base : Nat} {e : TypeId} {size : Nat} {v : Value} {n : Nat} {xs : List Value} (h : w.ownsRow base e size v n xs) (hk : Kp M w w') (hm : ∀ k, v.ownBlock = some k → ¬ M k) : w'.ownsRow base e size v n xs := by
  refine ⟨h.1, ?_⟩
  rcases h.2 with hn | ⟨g, cap, cur, rfl, hb, hgg, rest⟩
  · exact .inl hn
  · exact .inr ⟨g, cap, cur, rfl, hb, hk.blk hgg (hm g rfl), rest⟩
/-- The cells of a new block are appended. -/
theorem src_block {w : World} {b : Nat} {c : Array Value} {t : TypeId} {f : Nat × Nat} (h : w.heap[b]? = some (.cells c t f)) (h1 : ∀ u ∈ c.toList, u.oneCell' = true) : SrcP w (some (Addr.mk b 0 none)) c.toList :=
  ⟨fun j u hj => ⟨b, 0, rfl, by rw [Nat.zero_add, cell_block h]; simpa using hj⟩, h1⟩
theorem Kp.fresh {M M' : Nat → Prop} {w w1 w2 : World} (h : Kp M w w1) (k : Kp M' w1 w2) (hm : ∀ i, i < w.heap.size → M' i → M i) : Kp M w w2 :=
  ⟨k.os.trans h.os, k.tape.trans h.tape, k.output.trans h.output, Nat.le_trans h.size k.size, fun i hi hn => (k.block i (Nat.lt_of_lt_of_le hi h.size) (fun e => hn (hm i hi e))).trans (h.block i hi hn)⟩
theorem bsp_mono {b : Bool} {X Y X' Y' : Prop} (h : bsp b X Y) (h1 : X → X') (h2 : Y → Y') : bsp b X' Y' := by cases b; exact h2 h; exact h1 h

end Go.Proofs.YtcpjajjocmpkjaaGreatDoor

/- What was read before a call reads behind it as it did, where the blocks that were there are as they were; the last step of a law. Generic: no program, no condition. -/
namespace Go.Proofs.YtcpjajjocmpkjaaGreatDoor
open Go.RowKit Go.WideShapes Go.ChangeShapes

theorem mapM_to {α β : Type} {f g : α → Option β} : ∀ (l : List α) (ys : List β), l.mapM f = some ys → (∀ x ∈ l, ∀ y ∈ ys, f x = some y → g x = some y) → l.mapM g = some ys
  | [], ys, h, _ => by simpa using h
  | a :: r, ys, h, hg => by
    rw [List.mapM_cons] at h ⊢
    cases hf : f a with
    | none => simp [hf] at h
    | some y =>
      cases hr : r.mapM f with
      | none => simp [hf, hr] at h
      | some zs =>
        simp [hf, hr] at h
        subst h
        have h1 := hg a (by simp) y (by simp) hf
        have h2 := mapM_to r zs hr (fun x hx z hz => hg x (by simp [hx]) z (by simp [hz]))
        simp [h1, h2]
theorem cell_kept {w w' : World} (hk : K0 w w') {a : Addr} {v : Value} (h : w.cell? a = some v) : w'.cell? a = some v := by
  have hb : a.block < w.heap.size := World.block_lt_of_cell? w a h
  have := hk.block a.block hb (fun h => h)
  rw [← h]
  unfold World.cell?
  rw [this]
theorem cells_kept {w w' : World} (hk : K0 w w') {base n : Nat} {a : Addr} {cs : List Value} (h : w.cells? base a n = some cs) : w'.cells? base a n = some cs := by
  unfold World.cells? at h ⊢
  split at h
  · rename_i hb
    rw [if_pos hb]
    exact mapM_to _ _ h (fun x _ y _ hx => cell_kept hk hx)
  · cases h
/-- A type of bounded depth in which the elements of slices have cells. -/
def posT (P : Program) : Nat → TypeId → Bool
  | 0, t => (match P.underlying t with
    | some (.pointer _) => false
    | some (.slice _) => false
    | some (.struct _) => false
    | some (.array _ _) => false
    | some (.map _ _) => false
    | _ => true)
  | d + 1, t => (match P.underlying t with
    | some (.pointer e) => posT P d e
    | some (.slice e) => Nat.blt 0 (P.cellsOf e) && posT P d e
    | some (.struct fs) => fs.toList.all fun f => posT P d f.type
    | some (.array _ e) => posT P d e
    | some (.map _ e) => posT P d e
    | _ => true)
theorem posT_pointer {P : Program} {d : Nat} {t e : TypeId} (h : posT P d t = true) (hu : P.underlying t = some (.pointer e)) : ∃ d', posT P d' e = true := by
  cases d with
  | zero => simp [posT, hu] at h
  | succ d => simp only [posT, hu] at h; exact ⟨d, h⟩
theorem posT_slice {P : Program} {d : Nat} {t e : TypeId} (h : posT P d t = true) (hu : P.underlying t = some (.slice e)) : 0 < P.cellsOf e ∧ ∃ d', posT P d' e = true := by
  cases d with
  | zero => simp [posT, hu] at h
  | succ d => simp only [posT, hu, Bool.and_eq_true] at h; exact ⟨by simpa using h.1, d, h.2⟩
theorem posT_struct {P : Program} {d : Nat} {t : TypeId} {fs : Array Field} (h : posT P d t = true) (hu : P.underlying t = some (.struct fs)) : ∃ d', ∀ f ∈ fs.toList, posT P d' f.type = true := by
  cases d with
  | zero => simp [posT, hu] at h
  | succ d => simp only [posT, hu] at h; exact ⟨d, fun f hf => List.all_eq_true.1 h f hf⟩
theorem posT_array {P : Program} {d n : Nat} {t e : TypeId} (h : posT P d t = true) (hu : P.underlying t = some (.array n e)) : ∃ d', posT P d' e = true := by
  cases d with
  | zero => simp [posT, hu] at h
  | succ d => simp only [posT, hu] at h; exact ⟨d, h⟩
theorem posT_map {P : Program} {d : Nat} {t k e : TypeId} (h : posT P d t = true) (hu : P.underlying t = some (.map k e)) : ∃ d', posT P d' e = true := by
  cases d with
  | zero => simp [posT, hu] at h
  | succ d => simp only [posT, hu] at h; exact ⟨d, h⟩
theorem trod_kept {H : Type} {enc : TypeId × Value → H} {P : Program} {w w' : World} (hk : K0 w w') {base : Nat} {sp : Nat → Bool} : ∀ (fuel : Nat) (t : TypeId) (d : Nat) (cs : List Value) (x : DataW H × List MemPlace), posT P d t = true →
    DataW.trod enc P w base (fun _ => true) true fuel t cs = some x → (∀ p ∈ x.2, sp p.block = true) → DataW.trod enc P w' base sp true fuel t cs = some x
  | 0, t, d, cs, x, _, h, _ => by simp [DataW.trod] at h
  | fuel + 1, t, d, cs, x, hd, h, hsp => by
    have ih := trod_kept (enc := enc) (P := P) hk (base := base) (sp := sp) fuel
    unfold DataW.trod at h ⊢
    split at h
    case h_6 e a hu =>
      cases hc : w.cells? base a (P.cellsOf e) with
      | none => rw [hc] at h; simp at h
      | some cs' =>
        rw [hc] at h
        simp only [Option.bind_some, Option.map_eq_some_iff] at h
        obtain ⟨y, hy, rfl⟩ := h
        rw [cells_kept hk hc]
        simp only [Option.bind_some]
        obtain ⟨d', hd'⟩ := posT_pointer hd hu
        rw [ih e d' cs' y hd' hy (fun p hp => hsp p (by simp [hp]))]
        rfl
    case h_8 e a len cap hu =>
      obtain ⟨hpos, d', hd'⟩ := posT_slice hd hu
      dsimp only at h ⊢
      split at h
      · rename_i hcond
        rw [if_pos hcond]
        cases he : (List.range len).mapM (fun i => (w.cells? base (a.add (i * P.cellsOf e)) (P.cellsOf e)).bind (DataW.trod enc P w base (fun _ => true) true fuel e)) with
        | none => rw [he] at h; simp at h
        | some elems =>
          rw [he] at h
          simp only [Option.bind_some, if_true, Option.map_eq_some_iff] at h
          obtain ⟨rest, hr, rfl⟩ := h
          have el : ∀ i y, y ∈ elems ++ rest → (w.cells? base (a.add (i * P.cellsOf e)) (P.cellsOf e)).bind (DataW.trod enc P w base (fun _ => true) true fuel e) = some y → (w'.cells? base (a.add (i * P.cellsOf e)) (P.cellsOf e)).bind (DataW.trod enc P w' base sp true fuel e) = some y := fun i y hy h => by
            cases hc : w.cells? base (a.add (i * P.cellsOf e)) (P.cellsOf e) with
            | none => rw [hc] at h; simp at h
            | some cs' =>
              rw [hc] at h
              simp only [Option.bind_some] at h
              rw [cells_kept hk hc]
              simp only [Option.bind_some]
              refine ih e d' cs' y hd' h (fun p hp => hsp p ?_)
              simp only [List.mem_append]
              right
              exact List.mem_flatMap.2 ⟨y, hy, hp⟩
          have hel := mapM_to (g := fun i => (w'.cells? base (a.add (i * P.cellsOf e)) (P.cellsOf e)).bind (DataW.trod enc P w' base sp true fuel e)) _ _ he (fun i _ y hy h => el i y (by simp [hy]) h)
          rw [hel]
          simp only [Option.bind_some, Option.map_eq_some_iff]
          have hlr : rest.length = cap - len := by simpa using mapM_some_length hr
          refine ⟨rest, ?_, rfl⟩
          split
          · exact mapM_to _ _ hr (fun j _ y hy h => el (len + j) y (by simp [hy]) h)
          · rename_i hns
            have : cap - len = 0 := by
              rcases Nat.eq_zero_or_pos (cap - len) with h0 | h0
              · exact h0
              · exfalso
                apply hns
                have hp := hpos
                refine hsp (.cell a.block (a.off + 0)) ?_
                simp only [List.mem_append]
                left
                unfold MemPlace.row
                refine List.mem_map.2 ⟨0, List.mem_range.2 ?_, rfl⟩
                rw [hlr]
                exact Nat.mul_pos (by omega) hp
            have : rest = [] := List.eq_nil_of_length_eq_zero (by omega)
            rw [this]
      · cases h
    case h_9 =>
      obtain ⟨d', hd'⟩ := posT_struct hd (by assumption)
      split at h
      · rename_i hl
        rw [if_pos hl]
        simp only [Option.map_eq_some_iff] at h ⊢
        obtain ⟨xs, hxs, rfl⟩ := h
        exact ⟨xs, mapM_to _ _ hxs (fun f hfm y hy hf => ih _ d' _ y (hd' f hfm) hf (fun p hp => hsp p (List.mem_flatMap.2 ⟨y, hy, hp⟩))), rfl⟩
      · cases h
    case h_10 =>
      obtain ⟨d', hd'⟩ := posT_array hd (by assumption)
      split at h
      · rename_i hl
        rw [if_pos hl]
        simp only [Option.map_eq_some_iff] at h ⊢
        obtain ⟨xs, hxs, rfl⟩ := h
        exact ⟨xs, mapM_to _ _ hxs (fun f _ y hy hf => ih _ d' _ y hd' hf (fun p hp => hsp p (List.mem_flatMap.2 ⟨y, hy, hp⟩))), rfl⟩
      · cases h
    case h_12 => exact h
    case h_14 =>
      rename_i k e b hu
      obtain ⟨d', hd'⟩ := posT_map hd hu
      split at h
      · rename_i es clock hes
        rw [hk.blk hes (fun h => h)]
        dsimp only
        split at h
        · rename_i hcond
          rw [if_pos hcond]
          cases hm : es.toList.mapM (fun x => (keyOf P k x.key).bind fun key => if x.val.formed P e then (DataW.trod enc P w base (fun _ => true) true fuel e x.val.cells.toList).map fun y => ((key, y.1), y.2) else none) with
          | none => rw [hm] at h; simp at h
          | some entries =>
            rw [hm] at h
            simp only [Option.bind_some] at h
            split at h
            · rename_i hrs
              simp only [Option.some.injEq] at h
              subst h
              have := mapM_to (g := fun x => (keyOf P k x.key).bind fun key => if x.val.formed P e then (DataW.trod enc P w' base sp true fuel e x.val.cells.toList).map fun y => ((key, y.1), y.2) else none) _ _ hm (fun z _ y hy hf => by
                cases hkz : keyOf P k z.key with
                | none => rw [hkz] at hf; simp at hf
                | some key =>
                  rw [hkz] at hf
                  simp only [Option.bind_some] at hf ⊢
                  split at hf
                  · rename_i hfm
                    rw [if_pos hfm]
                    simp only [Option.map_eq_some_iff] at hf ⊢
                    obtain ⟨y', hy', rfl⟩ := hf
                    exact ⟨y', ih _ d' _ y' hd' hy' (fun p hp => hsp p (List.mem_cons_of_mem _ (List.mem_flatMap.2 ⟨_, hy, hp⟩))), rfl⟩
                  · cases hf)
              rw [this]
              simp only [Option.bind_some]
              rw [if_pos hrs]
            · cases h
        · cases h
      · cases h
    all_goals exact h

theorem addr_add2 (b o i j : Nat) : ((⟨b, o, none⟩ : Addr).add i).add j = ⟨b, o + i + j, none⟩ := by
  unfold Addr.add
  by_cases hi : i = 0 <;> by_cases hj : j = 0 <;> simp [hi, hj]

end Go.Proofs.YtcpjajjocmpkjaaGreatDoor

/- The empty environment of pure functions. No condition. -/
namespace Go.Proofs.YtcpjajjocmpkjaaGreatDoor
def pur0 (_ : FuncId) (_ : List Value) : Option (Option Prop × Value) := none
theorem pur0_ok {l : List (Nat × List (Nat × Ck))} {t : List (Nat × Nat)} {j : List (Nat × List (Nat × Ck))} {b : List (Nat × Unit)} : PurOK { P := Tryz.prog, loops := l, pur := pur0, tails := t, joins := j, boxes := b } := fun f args p v h => by simp [pur0] at h
end Go.Proofs.YtcpjajjocmpkjaaGreatDoor

/- The formulas of functions by the symbolic evaluator, and that each gives the call's contract. Written by a program (gen.py). No condition. -/
namespace Go.Proofs.YtcpjajjocmpkjaaGreatDoor
set_option maxRecDepth 100000
set_option linter.unusedVariables false

def VC_isLower (c : Int) (w : World) (R : Ending → World → Prop) : Prop :=
 R (Ending.returned (Value.bool (decide (c ≥ 97) && decide (c ≤ 122)))) w
theorem vc_isLower (c : Int) (w : World) (R : Ending → World → Prop) (h : VC_isLower c w R) : Calls Tryz.prog 51 ([Value.int
    IntKind.u8 c] : List Value).toArray w R := by
  have e : execR { P := Tryz.prog, loops := [], pur := pur0, tails := [], joins := [], boxes := [] } Tryz.f51.results.toList R (Tryz.f51.body.getD .skip) (initF [Value.int
    IntKind.u8
    c] (Tryz.f51.ntmps - ([Value.int IntKind.u8 c] : List Value).length)) w = VC_isLower c w R := by kernel_rfl
  have hb : Tryz.f51.body = some (Tryz.f51.body.getD .skip) := by kernel_rfl
  exact calls_of_exec' (P := Tryz.prog) (fn := Tryz.f51) (c := Tryz.f51.body.getD .skip) (args := [Value.int IntKind.u8
    c]) (w := w) (R := R) pur0_ok Tryz.func51 hb e h

def VC_isDigit (c : Int) (w : World) (R : Ending → World → Prop) : Prop :=
 R (Ending.returned (Value.bool (decide (c ≥ 48) && decide (c ≤ 57)))) w
theorem vc_isDigit (c : Int) (w : World) (R : Ending → World → Prop) (h : VC_isDigit c w R) : Calls Tryz.prog 52 ([Value.int
    IntKind.u8 c] : List Value).toArray w R := by
  have e : execR { P := Tryz.prog, loops := [], pur := pur0, tails := [], joins := [], boxes := [] } Tryz.f52.results.toList R (Tryz.f52.body.getD .skip) (initF [Value.int
    IntKind.u8
    c] (Tryz.f52.ntmps - ([Value.int IntKind.u8 c] : List Value).length)) w = VC_isDigit c w R := by kernel_rfl
  have hb : Tryz.f52.body = some (Tryz.f52.body.getD .skip) := by kernel_rfl
  exact calls_of_exec' (P := Tryz.prog) (fn := Tryz.f52) (c := Tryz.f52.body.getD .skip) (args := [Value.int IntKind.u8
    c]) (w := w) (R := R) pur0_ok Tryz.func52 hb e h

def VC_isPermitted (c : Int) (w : World) (R : Ending → World → Prop) : Prop :=
 CallsS Tryz.prog 51 #[Value.int IntKind.u8 c] w fun (e : Ending) (w' : World) =>
 ∃ (x : Bool),
 e = Ending.returned (Value.bool x) ∧
 bsp (!x)
 (CallsS Tryz.prog 52 #[Value.int IntKind.u8 c] w' fun (e : Ending) (w' : World) =>
 ∃ (x : Bool),
 e = Ending.returned (Value.bool x) ∧ R (Ending.returned (Value.bool (false || x || c == 45 || c == 46))) w')
 (R (Ending.returned (Value.bool (true || c == 45 || c == 46))) w')
theorem vc_isPermitted (c : Int) (w : World) (R : Ending → World → Prop) (h : VC_isPermitted c w R) : Calls Tryz.prog 50 ([Value.int
    IntKind.u8 c] : List Value).toArray w R := by
  have e : execR { P := Tryz.prog, loops := [], pur := pur0, tails := [], joins := [], boxes := [] } Tryz.f50.results.toList R (Tryz.f50.body.getD .skip) (initF [Value.int
    IntKind.u8
    c] (Tryz.f50.ntmps - ([Value.int IntKind.u8 c] : List Value).length)) w = VC_isPermitted c w R := by kernel_rfl
  have hb : Tryz.f50.body = some (Tryz.f50.body.getD .skip) := by kernel_rfl
  exact calls_of_exec' (P := Tryz.prog) (fn := Tryz.f50) (c := Tryz.f50.body.getD .skip) (args := [Value.int IntKind.u8
    c]) (w := w) (R := R) pur0_ok Tryz.func50 hb e h

def VC_alnum (c : Int) (w : World) (R : Ending → World → Prop) : Prop :=
 bsp (decide (c ≥ 97) && decide (c ≤ 122)) (R (Ending.returned (Value.int IntKind.i64 1)) w)
 (bsp (decide (c ≥ 48) && decide (c ≤ 57)) (R (Ending.returned (Value.int IntKind.i64 2)) w)
 (R (Ending.returned (Value.int IntKind.i64 0)) w))
theorem vc_alnum (c : Int) (w : World) (R : Ending → World → Prop) (h : VC_alnum c w R) : Calls Tryz.prog 80 ([Value.int
    IntKind.u8 c] : List Value).toArray w R := by
  have e : execR { P := Tryz.prog, loops := [], pur := pur0, tails := [], joins := [], boxes := [] } Tryz.f80.results.toList R (Tryz.f80.body.getD .skip) (initF [Value.int
    IntKind.u8 c] (Tryz.f80.ntmps - ([Value.int IntKind.u8 c] : List Value).length)) w = VC_alnum c w R := by kernel_rfl
  have hb : Tryz.f80.body = some (Tryz.f80.body.getD .skip) := by kernel_rfl
  exact calls_of_exec' (P := Tryz.prog) (fn := Tryz.f80) (c := Tryz.f80.body.getD .skip) (args := [Value.int IntKind.u8
    c]) (w := w) (R := R) pur0_ok Tryz.func80 hb e h

def VC_char (c : Int) (w : World) (R : Ending → World → Prop) : Prop :=
 CallsS Tryz.prog 80 #[Value.int IntKind.u8 c] w fun (e : Ending) (w' : World) =>
 ∃ (x : Int),
 e = Ending.returned (Value.int IntKind.i64 x) ∧
 R (Ending.returned (Value.bool (decide (x > 0) || c == 43 || c == 45 || c == 95 || c == 46))) w'
theorem vc_char (c : Int) (w : World) (R : Ending → World → Prop) (h : VC_char c w R) : Calls Tryz.prog 59 ([Value.int
    IntKind.u8 c] : List Value).toArray w R := by
  have e : execR { P := Tryz.prog, loops := [], pur := pur0, tails := [], joins := [], boxes := [] } Tryz.f59.results.toList R (Tryz.f59.body.getD .skip) (initF [Value.int
    IntKind.u8 c] (Tryz.f59.ntmps - ([Value.int IntKind.u8 c] : List Value).length)) w = VC_char c w R := by kernel_rfl
  have hb : Tryz.f59.body = some (Tryz.f59.body.getD .skip) := by kernel_rfl
  exact calls_of_exec' (P := Tryz.prog) (fn := Tryz.f59) (c := Tryz.f59.body.getD .skip) (args := [Value.int IntKind.u8
    c]) (w := w) (R := R) pur0_ok Tryz.func59 hb e h

def VC_litChars (s : ByteArray) (w : World) (R : Ending → World → Prop) : Prop :=
 R (Ending.returned (Value.string s)) w
theorem vc_litChars (s : ByteArray) (w : World) (R : Ending → World → Prop) (h : VC_litChars s w R) : Calls Tryz.prog 122 ([Value.string
    s] : List Value).toArray w R := by
  have e : execR { P := Tryz.prog, loops := [], pur := pur0, tails := [], joins := [], boxes := [] } Tryz.f122.results.toList R (Tryz.f122.body.getD .skip) (initF [Value.string
    s] (Tryz.f122.ntmps - ([Value.string s] : List Value).length)) w = VC_litChars s w R := by kernel_rfl
  have hb : Tryz.f122.body = some (Tryz.f122.body.getD .skip) := by kernel_rfl
  exact calls_of_exec' (P := Tryz.prog) (fn := Tryz.f122) (c := Tryz.f122.body.getD .skip) (args := [Value.string
    s]) (w := w) (R := R) pur0_ok Tryz.func122 hb e h

def VC_classChars (s : ByteArray) (w : World) (R : Ending → World → Prop) : Prop :=
 R (Ending.returned (Value.string s)) w
theorem vc_classChars (s : ByteArray) (w : World) (R : Ending → World → Prop) (h : VC_classChars s w R) : Calls Tryz.prog 121 ([Value.string
    s] : List Value).toArray w R := by
  have e : execR { P := Tryz.prog, loops := [], pur := pur0, tails := [], joins := [], boxes := [] } Tryz.f121.results.toList R (Tryz.f121.body.getD .skip) (initF [Value.string
    s] (Tryz.f121.ntmps - ([Value.string s] : List Value).length)) w = VC_classChars s w R := by kernel_rfl
  have hb : Tryz.f121.body = some (Tryz.f121.body.getD .skip) := by kernel_rfl
  exact calls_of_exec' (P := Tryz.prog) (fn := Tryz.f121) (c := Tryz.f121.body.getD .skip) (args := [Value.string
    s]) (w := w) (R := R) pur0_ok Tryz.func121 hb e h

def VC_singleChars (w : World) (R : Ending → World → Prop) : Prop :=
 ∀ (n : Nat) (w1 : World),
 NewB w (Obj.cells #[] 124) n w1 →
 R
 (Ending.returned
 (Value.string
 (ByteArray.mk
 #[43, 45, 46, 48, 49, 50, 51, 52, 53, 54, 55, 56, 57, 95, 97, 98, 99, 100, 101, 102, 103, 104, 105, 106, 107, 108,
 109, 110, 111, 112, 113, 114, 115, 116, 117, 118, 119, 120, 121, 122])))
 w1
theorem vc_singleChars (w : World) (R : Ending → World → Prop) (h : VC_singleChars w R) : Calls Tryz.prog 119 ([Value.agg
    #[]] : List Value).toArray w R := by
  have e : execR { P := Tryz.prog, loops := [], pur := pur0, tails := [], joins := [], boxes := [] } Tryz.f119.results.toList R (Tryz.f119.body.getD .skip) (initF [Value.agg
    #[]] (Tryz.f119.ntmps - ([Value.agg #[]] : List Value).length)) w = VC_singleChars w R := by kernel_rfl
  have hb : Tryz.f119.body = some (Tryz.f119.body.getD .skip) := by kernel_rfl
  exact calls_of_exec' (P := Tryz.prog) (fn := Tryz.f119) (c := Tryz.f119.body.getD .skip) (args := [Value.agg
    #[]]) (w := w) (R := R) pur0_ok Tryz.func119 hb e h

def VC_starChars (w : World) (R : Ending → World → Prop) : Prop :=
 ∀ (n : Nat) (w1 : World),
 NewB w (Obj.cells #[] 125) n w1 →
 R
 (Ending.returned
 (Value.string
 (ByteArray.mk
 #[43, 45, 46, 48, 49, 50, 51, 52, 53, 54, 55, 56, 57, 95, 97, 98, 99, 100, 101, 102, 103, 104, 105, 106, 107, 108,
 109, 110, 111, 112, 113, 114, 115, 116, 117, 118, 119, 120, 121, 122])))
 w1
theorem vc_starChars (w : World) (R : Ending → World → Prop) (h : VC_starChars w R) : Calls Tryz.prog 120 ([Value.agg
    #[]] : List Value).toArray w R := by
  have e : execR { P := Tryz.prog, loops := [], pur := pur0, tails := [], joins := [], boxes := [] } Tryz.f120.results.toList R (Tryz.f120.body.getD .skip) (initF [Value.agg
    #[]] (Tryz.f120.ntmps - ([Value.agg #[]] : List Value).length)) w = VC_starChars w R := by kernel_rfl
  have hb : Tryz.f120.body = some (Tryz.f120.body.getD .skip) := by kernel_rfl
  exact calls_of_exec' (P := Tryz.prog) (fn := Tryz.f120) (c := Tryz.f120.body.getD .skip) (args := [Value.agg
    #[]]) (w := w) (R := R) pur0_ok Tryz.func120 hb e h

def VC_isStarL (s : ByteArray) (w : World) (R : Ending → World → Prop) : Prop :=
 ∀ (n : Nat) (w1 : World),
 NewB w (Obj.cells #[] 125) n w1 →
 True ∧ ∀ (w1_1 : World), PutB w1 n 0 [] w1_1 → R (Ending.returned (Value.bool false)) w1_1
theorem vc_isStarL (s : ByteArray) (w : World) (R : Ending → World → Prop) (h : VC_isStarL s w R) : Calls Tryz.prog 94 ([Value.iface
    130 (Value.string s)] : List Value).toArray w R := by
  have e : execR { P := Tryz.prog, loops := [], pur := pur0, tails := [], joins := [], boxes := [] } Tryz.f94.results.toList R (Tryz.f94.body.getD .skip) (initF [Value.iface
    130
    (Value.string
      s)] (Tryz.f94.ntmps - ([Value.iface 130
    (Value.string s)] : List Value).length)) w = VC_isStarL s w R := by kernel_rfl
  have hb : Tryz.f94.body = some (Tryz.f94.body.getD .skip) := by kernel_rfl
  exact calls_of_exec' (P := Tryz.prog) (fn := Tryz.f94) (c := Tryz.f94.body.getD .skip) (args := [Value.iface 130
    (Value.string s)]) (w := w) (R := R) pur0_ok Tryz.func94 hb e h

def VC_isStarC (s : ByteArray) (w : World) (R : Ending → World → Prop) : Prop :=
 ∀ (n : Nat) (w1 : World),
 NewB w (Obj.cells #[] 125) n w1 →
 True ∧ ∀ (w1_1 : World), PutB w1 n 0 [] w1_1 → R (Ending.returned (Value.bool false)) w1_1
theorem vc_isStarC (s : ByteArray) (w : World) (R : Ending → World → Prop) (h : VC_isStarC s w R) : Calls Tryz.prog 94 ([Value.iface
    126 (Value.string s)] : List Value).toArray w R := by
  have e : execR { P := Tryz.prog, loops := [], pur := pur0, tails := [], joins := [], boxes := [] } Tryz.f94.results.toList R (Tryz.f94.body.getD .skip) (initF [Value.iface
    126
    (Value.string
      s)] (Tryz.f94.ntmps - ([Value.iface 126
    (Value.string s)] : List Value).length)) w = VC_isStarC s w R := by kernel_rfl
  have hb : Tryz.f94.body = some (Tryz.f94.body.getD .skip) := by kernel_rfl
  exact calls_of_exec' (P := Tryz.prog) (fn := Tryz.f94) (c := Tryz.f94.body.getD .skip) (args := [Value.iface 126
    (Value.string s)]) (w := w) (R := R) pur0_ok Tryz.func94 hb e h

def VC_isStarQ (w : World) (R : Ending → World → Prop) : Prop :=
 ∀ (n : Nat) (w1 : World),
 NewB w (Obj.cells #[] 125) n w1 →
 True ∧ ∀ (w1_1 : World), PutB w1 n 0 [] w1_1 → R (Ending.returned (Value.bool false)) w1_1
theorem vc_isStarQ (w : World) (R : Ending → World → Prop) (h : VC_isStarQ w R) : Calls Tryz.prog 94 ([Value.iface 124
    (Value.agg #[])] : List Value).toArray w R := by
  have e : execR { P := Tryz.prog, loops := [], pur := pur0, tails := [], joins := [], boxes := [] } Tryz.f94.results.toList R (Tryz.f94.body.getD .skip) (initF [Value.iface
    124
    (Value.agg
      #[])] (Tryz.f94.ntmps - ([Value.iface 124
    (Value.agg #[])] : List Value).length)) w = VC_isStarQ w R := by kernel_rfl
  have hb : Tryz.f94.body = some (Tryz.f94.body.getD .skip) := by kernel_rfl
  exact calls_of_exec' (P := Tryz.prog) (fn := Tryz.f94) (c := Tryz.f94.body.getD .skip) (args := [Value.iface 124
    (Value.agg #[])]) (w := w) (R := R) pur0_ok Tryz.func94 hb e h

def VC_isStarS (w : World) (R : Ending → World → Prop) : Prop :=
 ∀ (n : Nat) (w1 : World),
 NewB w (Obj.cells #[] 125) n w1 →
 True ∧ ∀ (w1_1 : World), PutB w1 n 0 [] w1_1 → R (Ending.returned (Value.bool true)) w1_1
theorem vc_isStarS (w : World) (R : Ending → World → Prop) (h : VC_isStarS w R) : Calls Tryz.prog 94 ([Value.iface 125
    (Value.agg #[])] : List Value).toArray w R := by
  have e : execR { P := Tryz.prog, loops := [], pur := pur0, tails := [], joins := [], boxes := [] } Tryz.f94.results.toList R (Tryz.f94.body.getD .skip) (initF [Value.iface
    125
    (Value.agg
      #[])] (Tryz.f94.ntmps - ([Value.iface 125
    (Value.agg #[])] : List Value).length)) w = VC_isStarS w R := by kernel_rfl
  have hb : Tryz.f94.body = some (Tryz.f94.body.getD .skip) := by kernel_rfl
  exact calls_of_exec' (P := Tryz.prog) (fn := Tryz.f94) (c := Tryz.f94.body.getD .skip) (args := [Value.iface 125
    (Value.agg #[])]) (w := w) (R := R) pur0_ok Tryz.func94 hb e h

def VC_standsL (s : ByteArray) (c : Int) (w : World) (R : Ending → World → Prop) : Prop :=
 CallsS Tryz.prog 122 #[Value.string s] w fun (e : Ending) (w' : World) =>
 ∃ (x : ByteArray),
 e = Ending.returned (Value.string x) ∧
 CallsS Tryz.prog 57 #[Value.string x, Value.int IntKind.u8 c] w' fun (e : Ending) (w' : World) =>
 ∃ (x : Int), e = Ending.returned (Value.int IntKind.i64 x) ∧ R (Ending.returned (Value.bool (decide (x ≥ 0)))) w'
theorem vc_standsL (s : ByteArray) (c : Int) (w : World) (R : Ending → World → Prop) (h : VC_standsL s c w R) : Calls Tryz.prog 93 ([Value.iface
    130 (Value.string s),
  Value.int IntKind.u8 c] : List Value).toArray w R := by
  have e : execR { P := Tryz.prog, loops := [], pur := pur0, tails := [], joins := [], boxes := [] } Tryz.f93.results.toList R (Tryz.f93.body.getD .skip) (initF [Value.iface
    130 (Value.string s),
  Value.int IntKind.u8
    c] (Tryz.f93.ntmps - ([Value.iface 130 (Value.string s),
  Value.int IntKind.u8 c] : List Value).length)) w = VC_standsL s c w R := by kernel_rfl
  have hb : Tryz.f93.body = some (Tryz.f93.body.getD .skip) := by kernel_rfl
  exact calls_of_exec' (P := Tryz.prog) (fn := Tryz.f93) (c := Tryz.f93.body.getD .skip) (args := [Value.iface 130
    (Value.string s),
  Value.int IntKind.u8 c]) (w := w) (R := R) pur0_ok Tryz.func93 hb e h

def VC_standsC (s : ByteArray) (c : Int) (w : World) (R : Ending → World → Prop) : Prop :=
 CallsS Tryz.prog 121 #[Value.string s] w fun (e : Ending) (w' : World) =>
 ∃ (x : ByteArray),
 e = Ending.returned (Value.string x) ∧
 CallsS Tryz.prog 57 #[Value.string x, Value.int IntKind.u8 c] w' fun (e : Ending) (w' : World) =>
 ∃ (x : Int), e = Ending.returned (Value.int IntKind.i64 x) ∧ R (Ending.returned (Value.bool (decide (x ≥ 0)))) w'
theorem vc_standsC (s : ByteArray) (c : Int) (w : World) (R : Ending → World → Prop) (h : VC_standsC s c w R) : Calls Tryz.prog 93 ([Value.iface
    126 (Value.string s),
  Value.int IntKind.u8 c] : List Value).toArray w R := by
  have e : execR { P := Tryz.prog, loops := [], pur := pur0, tails := [], joins := [], boxes := [] } Tryz.f93.results.toList R (Tryz.f93.body.getD .skip) (initF [Value.iface
    126 (Value.string s),
  Value.int IntKind.u8
    c] (Tryz.f93.ntmps - ([Value.iface 126 (Value.string s),
  Value.int IntKind.u8 c] : List Value).length)) w = VC_standsC s c w R := by kernel_rfl
  have hb : Tryz.f93.body = some (Tryz.f93.body.getD .skip) := by kernel_rfl
  exact calls_of_exec' (P := Tryz.prog) (fn := Tryz.f93) (c := Tryz.f93.body.getD .skip) (args := [Value.iface 126
    (Value.string s),
  Value.int IntKind.u8 c]) (w := w) (R := R) pur0_ok Tryz.func93 hb e h

def VC_standsQ (c : Int) (w : World) (R : Ending → World → Prop) : Prop :=
 CallsS Tryz.prog 119 #[Value.agg #[]] w fun (e : Ending) (w' : World) =>
 ∃ (x : ByteArray),
 e = Ending.returned (Value.string x) ∧
 CallsS Tryz.prog 57 #[Value.string x, Value.int IntKind.u8 c] w' fun (e : Ending) (w' : World) =>
 ∃ (x : Int), e = Ending.returned (Value.int IntKind.i64 x) ∧ R (Ending.returned (Value.bool (decide (x ≥ 0)))) w'
theorem vc_standsQ (c : Int) (w : World) (R : Ending → World → Prop) (h : VC_standsQ c w R) : Calls Tryz.prog 93 ([Value.iface
    124 (Value.agg #[]),
  Value.int IntKind.u8 c] : List Value).toArray w R := by
  have e : execR { P := Tryz.prog, loops := [], pur := pur0, tails := [], joins := [], boxes := [] } Tryz.f93.results.toList R (Tryz.f93.body.getD .skip) (initF [Value.iface
    124 (Value.agg #[]),
  Value.int IntKind.u8
    c] (Tryz.f93.ntmps - ([Value.iface 124 (Value.agg #[]),
  Value.int IntKind.u8 c] : List Value).length)) w = VC_standsQ c w R := by kernel_rfl
  have hb : Tryz.f93.body = some (Tryz.f93.body.getD .skip) := by kernel_rfl
  exact calls_of_exec' (P := Tryz.prog) (fn := Tryz.f93) (c := Tryz.f93.body.getD .skip) (args := [Value.iface 124
    (Value.agg #[]),
  Value.int IntKind.u8 c]) (w := w) (R := R) pur0_ok Tryz.func93 hb e h

def VC_standsS (c : Int) (w : World) (R : Ending → World → Prop) : Prop :=
 CallsS Tryz.prog 120 #[Value.agg #[]] w fun (e : Ending) (w' : World) =>
 ∃ (x : ByteArray),
 e = Ending.returned (Value.string x) ∧
 CallsS Tryz.prog 57 #[Value.string x, Value.int IntKind.u8 c] w' fun (e : Ending) (w' : World) =>
 ∃ (x : Int), e = Ending.returned (Value.int IntKind.i64 x) ∧ R (Ending.returned (Value.bool (decide (x ≥ 0)))) w'
theorem vc_standsS (c : Int) (w : World) (R : Ending → World → Prop) (h : VC_standsS c w R) : Calls Tryz.prog 93 ([Value.iface
    125 (Value.agg #[]),
  Value.int IntKind.u8 c] : List Value).toArray w R := by
  have e : execR { P := Tryz.prog, loops := [], pur := pur0, tails := [], joins := [], boxes := [] } Tryz.f93.results.toList R (Tryz.f93.body.getD .skip) (initF [Value.iface
    125 (Value.agg #[]),
  Value.int IntKind.u8
    c] (Tryz.f93.ntmps - ([Value.iface 125 (Value.agg #[]),
  Value.int IntKind.u8 c] : List Value).length)) w = VC_standsS c w R := by kernel_rfl
  have hb : Tryz.f93.body = some (Tryz.f93.body.getD .skip) := by kernel_rfl
  exact calls_of_exec' (P := Tryz.prog) (fn := Tryz.f93) (c := Tryz.f93.body.getD .skip) (args := [Value.iface 125
    (Value.agg #[]),
  Value.int IntKind.u8 c]) (w := w) (R := R) pur0_ok Tryz.func93 hb e h

def VC_ref11Site (s : ByteArray) (w : World) (R : Ending → World → Prop) : Prop :=
 bsp (s.toList == []) (R (Ending.returned (Value.tuple #[Value.int IntKind.i64 0, Value.int IntKind.i64 4])) w)
 (bsp (decide ((↑s.size : Int) > 30))
 (R (Ending.returned (Value.tuple #[Value.int IntKind.i64 30, Value.int IntKind.i64 5])) w)
 (∃ (I : List Value → World → Prop),
 ∃ (m : List Value → World → Nat),
 I [Value.int IntKind.i64 0] w ∧
 ∀ (x : Int) (w' : World),
 I [Value.int IntKind.i64 x] w' →
 bsp (decide (x < (↑s.size : Int)))
 ((0 ≤ x ∧ x < (↑s.size : Int)) ∧
 bsp
 (!(decide (at8 s x.toNat ≥ 97) && decide (at8 s x.toNat ≤ 122) ||
 decide (at8 s x.toNat ≥ 48) && decide (at8 s x.toNat ≤ 57) ||
 at8 s x.toNat == 45 ||
 at8 s x.toNat == 46))
 (R (Ending.returned (Value.tuple #[Value.int IntKind.i64 x, Value.int IntKind.i64 6])) w')
 (I [Value.int IntKind.i64 (IntKind.i64.wrap (x + 1))] w' ∧
 m [Value.int IntKind.i64 (IntKind.i64.wrap (x + 1))] w' < m [Value.int IntKind.i64 x] w'))
 (∃ (I : List Value → World → Prop),
 ∃ (m : List Value → World → Nat),
 I [Value.int IntKind.i64 0] w' ∧
 ∀ (x : Int) (w' : World),
 I [Value.int IntKind.i64 x] w' →
 bsp (decide (x < (↑s.size : Int)))
 ((0 ≤ x ∧ x < (↑s.size : Int)) ∧
 gimp
 (!(x == 0 && !(decide (at8 s x.toNat ≥ 97) && decide (at8 s x.toNat ≤ 122))) &&
 (decide (x > 0) && at8 s x.toNat == 46))
 (0 ≤ IntKind.i64.wrap (x - 1) ∧ IntKind.i64.wrap (x - 1) < (↑s.size : Int)) ∧
 bsp
 (x == 0 && !(decide (at8 s x.toNat ≥ 97) && decide (at8 s x.toNat ≤ 122)) ||
 decide (x > 0) && at8 s x.toNat == 46 && at8 s (IntKind.i64.wrap (x - 1)).toNat == 46 ||
 x == IntKind.i64.wrap ((↑s.size : Int) - 1) && (at8 s x.toNat == 45 || at8 s x.toNat == 46))
 (R (Ending.returned (Value.tuple #[Value.int IntKind.i64 x, Value.int IntKind.i64 12])) w')
 (I [Value.int IntKind.i64 (IntKind.i64.wrap (x + 1))] w' ∧
 m [Value.int IntKind.i64 (IntKind.i64.wrap (x + 1))] w' < m [Value.int IntKind.i64 x] w'))
 (R (Ending.returned (Value.tuple #[Value.int IntKind.i64 0, Value.int IntKind.i64 0])) w'))))
theorem vc_ref11Site (s : ByteArray) (w : World) (R : Ending → World → Prop) (h : VC_ref11Site s w R) : Calls Tryz.prog 19 ([Value.string
    s] : List Value).toArray w R := by
  have e : execR { P := Tryz.prog, loops := [(6, [(4, Ck.int IntKind.i64)]), (12, [(6, Ck.int IntKind.i64)])], pur := pur0, tails := [], joins := [], boxes := [] } Tryz.f19.results.toList R (Tryz.f19.body.getD .skip) (initF [Value.string
    s] (Tryz.f19.ntmps - ([Value.string s] : List Value).length)) w = VC_ref11Site s w R := by kernel_rfl
  have hb : Tryz.f19.body = some (Tryz.f19.body.getD .skip) := by kernel_rfl
  exact calls_of_exec' (P := Tryz.prog) (fn := Tryz.f19) (c := Tryz.f19.body.getD .skip) (args := [Value.string
    s]) (w := w) (R := R) pur0_ok Tryz.func19 hb e h

def VC_word (s : ByteArray) (w : World) (R : Ending → World → Prop) : Prop :=
 ∃ (I : List Value → World → Prop),
 ∃ (m : List Value → World → Nat),
 I [Value.int IntKind.i64 0] w ∧
 ∀ (x : Int) (w' : World),
 I [Value.int IntKind.i64 x] w' →
 bsp (decide (x < (↑s.size : Int)))
 ((0 ≤ x ∧ x < (↑s.size : Int)) ∧
 bsp
 ((decide (at8 s x.toNat < 97) || decide (at8 s x.toNat > 122)) &&
 (decide (at8 s x.toNat < 48) || decide (at8 s x.toNat > 57)) &&
 at8 s x.toNat != 45)
 (R (Ending.returned (Value.bool false)) w')
 (I [Value.int IntKind.i64 (IntKind.i64.wrap (x + 1))] w' ∧
 m [Value.int IntKind.i64 (IntKind.i64.wrap (x + 1))] w' < m [Value.int IntKind.i64 x] w'))
 (R (Ending.returned (Value.bool (decide ((↑s.size : Int) ≥ 1) && decide ((↑s.size : Int) ≤ 20)))) w')
theorem vc_word (s : ByteArray) (w : World) (R : Ending → World → Prop) (h : VC_word s w R) : Calls Tryz.prog 21 ([Value.string
    s] : List Value).toArray w R := by
  have e : execR { P := Tryz.prog, loops := [(2, [(3, Ck.int IntKind.i64)])], pur := pur0, tails := [], joins := [], boxes := [] } Tryz.f21.results.toList R (Tryz.f21.body.getD .skip) (initF [Value.string
    s] (Tryz.f21.ntmps - ([Value.string s] : List Value).length)) w = VC_word s w R := by kernel_rfl
  have hb : Tryz.f21.body = some (Tryz.f21.body.getD .skip) := by kernel_rfl
  exact calls_of_exec' (P := Tryz.prog) (fn := Tryz.f21) (c := Tryz.f21.body.getD .skip) (args := [Value.string
    s]) (w := w) (R := R) pur0_ok Tryz.func21 hb e h

end Go.Proofs.YtcpjajjocmpkjaaGreatDoor

/-
  DERIVED: THE SHELF's CONTRACTS AT THIS DUMP, IN PLAIN WORDS (tools/lay-plain.mjs out of 'TryzShelf.lean', which tools/lay-shelf.mjs wrote): THE SAME DECLARATIONS UNDER THE SAME NAMES: 'import', 'namespace', 'open', 'def', 'theorem' AND NOTHING ELSE: no command of the shelf's: FOR A HAND-IN. Each laying: the table of numbers ('.._ren') and one theorem, a field a fact of the dump's own or the kernel's comparison; each contract: ONE APPLICATION.
-/
namespace Go.Proofs
open Go.Shelf
def Tryz.lays128_ren : Go.Shelf.Ren := ⟨fun | 128 => 69 | n => n, fun | 51 => 145 | 3 => 3 | 4 => 4 | 46 => 111 | 5 => 5 | 9 => 9 | n => n, fun | n => n⟩
theorem Tryz.lays128 : Go.Proofs.Lays.n128 Tryz.prog Tryz.lays128_ren := {
  mixed := by kernel_rfl
  f128 := Tryz.func69.trans (congrArg some (by kernel_rfl))
  t3 := Tryz.underlying3
  a3 := Tryz.isAgg3
  z3 := Tryz.sizeOf3
  v3 := Tryz.zeroValue3
  t4 := Tryz.underlying4
  a4 := Tryz.isAgg4
  z4 := Tryz.sizeOf4
  v4 := Tryz.zeroValue4
  t5 := Tryz.underlying5
  a5 := Tryz.isAgg5
  z5 := Tryz.sizeOf5
  v5 := Tryz.zeroValue5
  t9 := Tryz.underlying9
  a9 := Tryz.isAgg9
  z9 := Tryz.sizeOf9
  v9 := Tryz.zeroValue9
  t46 := Tryz.underlying111
  a46 := Tryz.isAgg111
  z46 := Tryz.sizeOf111
  v46 := Tryz.zeroValue111
  t51 := Tryz.underlying145
  a51 := Tryz.isAgg145
  z51 := Tryz.sizeOf145
  v51 := Tryz.zeroValue145 }
/-- bits.Len32: "Len32 returns the minimum number of bits required to represent x; the result is 0 for x == 0.": IT RETURNS 'Lib.bitLen x'; the world is as it was. ('h0', 'h1': x is a uint32.) (LAID: no walk: one application.) -/
theorem Tryz.bits_Len32 (x : Int) (w : World) (h0 : 0 ≤ x) (h1 : x ≤ 4294967295) :
    Calls Tryz.prog 69 #[.int .u32 x] w fun e w' => e = .returned (.int .i64 (Lib.bitLen x.toNat)) ∧ w' = w := Any.bits_Len32 Tryz.lays128 x w h0 h1
def Tryz.lays125_ren : Go.Shelf.Ren := ⟨fun | 125 => 46 | 128 => 69 | 129 => 70 | n => n, fun | 46 => 111 | 3 => 3 | 51 => 145 | 53 => 147 | 4 => 4 | 5 => 5 | 9 => 9 | n => n, fun | n => n⟩
theorem Tryz.lays125 : Go.Proofs.Lays.n125 Tryz.prog Tryz.lays125_ren := {
  mixed := by kernel_rfl
  f125 := Tryz.func46.trans (congrArg some (by kernel_rfl))
  f128 := Tryz.func69.trans (congrArg some (by kernel_rfl))
  f129 := Tryz.func70.trans (congrArg some (by kernel_rfl))
  t3 := Tryz.underlying3
  a3 := Tryz.isAgg3
  z3 := Tryz.sizeOf3
  v3 := Tryz.zeroValue3
  t4 := Tryz.underlying4
  a4 := Tryz.isAgg4
  z4 := Tryz.sizeOf4
  v4 := Tryz.zeroValue4
  t5 := Tryz.underlying5
  a5 := Tryz.isAgg5
  z5 := Tryz.sizeOf5
  v5 := Tryz.zeroValue5
  t9 := Tryz.underlying9
  a9 := Tryz.isAgg9
  z9 := Tryz.sizeOf9
  v9 := Tryz.zeroValue9
  t46 := Tryz.underlying111
  a46 := Tryz.isAgg111
  z46 := Tryz.sizeOf111
  v46 := Tryz.zeroValue111
  t51 := Tryz.underlying145
  a51 := Tryz.isAgg145
  z51 := Tryz.sizeOf145
  v51 := Tryz.zeroValue145
  t53 := Tryz.underlying147
  a53 := Tryz.isAgg147
  z53 := Tryz.sizeOf147
  v53 := Tryz.zeroValue147 }
/-- bits.Len: "Len returns the minimum number of bits required to represent x; the result is 0 for x == 0.": IT RETURNS 'Lib.bitLen x'; the world is as it was. (A uint has 64 bits in the model.) ITS CALLEE bits.Len64 IS MET BY ITS OWN CONTRACT OFF THE SHELF (lay that first). (LAID: no walk: one application.) -/
theorem Tryz.bits_Len (x : Int) (w : World) (h0 : 0 ≤ x) (h1 : x ≤ 18446744073709551615) :
    Calls Tryz.prog 46 #[.int .u64 x] w fun e w' => e = .returned (.int .i64 (Lib.bitLen x.toNat)) ∧ w' = w := Any.bits_Len Tryz.lays125 x w h0 h1
def Tryz.lays137_ren : Go.Shelf.Ren := ⟨fun | 137 => 57 | 217 => 77 | 266 => 91 | n => n, fun | 9 => 9 | 5 => 5 | 3 => 3 | n => n, fun | n => n⟩
theorem Tryz.lays137 : Go.Proofs.Lays.n137 Tryz.prog Tryz.lays137_ren := {
  mixed := by kernel_rfl
  f137 := Tryz.func57.trans (congrArg some (by kernel_rfl))
  f217 := Tryz.func77.trans (congrArg some (by kernel_rfl))
  f266 := Tryz.func91.trans (congrArg some (by kernel_rfl))
  t3 := Tryz.underlying3
  a3 := Tryz.isAgg3
  z3 := Tryz.sizeOf3
  v3 := Tryz.zeroValue3
  t5 := Tryz.underlying5
  a5 := Tryz.isAgg5
  z5 := Tryz.sizeOf5
  v5 := Tryz.zeroValue5
  t9 := Tryz.underlying9
  a9 := Tryz.isAgg9
  z9 := Tryz.sizeOf9
  v9 := Tryz.zeroValue9 }
open Go.RowKit in
/-- strings.IndexByte: "IndexByte returns the index of the first instance of c in s, or -1 if c is not present in s.": IT RETURNS 'Lib.indexByte s c'; the world is as it was. (LAID: no walk: one application.) -/
theorem Tryz.strings_IndexByte (s : ByteArray) (c : Int) (w : World) :
    Calls Tryz.prog 57 #[.string s, .int .u8 c] w fun e w' => e = .returned (.int .i64 (Lib.indexByte s.data.toList c.toNat.toUInt8)) ∧ w' = w := Any.strings_IndexByte Tryz.lays137 s c w
def Tryz.lays215_ren : Go.Shelf.Ren := ⟨fun | 215 => 47 | n => n, fun | 3 => 3 | 4 => 4 | n => n, fun | n => n⟩
theorem Tryz.lays215 : Go.Proofs.Lays.n215 Tryz.prog Tryz.lays215_ren := {
  mixed := by kernel_rfl
  f215 := Tryz.func47.trans (congrArg some (by kernel_rfl))
  t3 := Tryz.underlying3
  a3 := Tryz.isAgg3
  z3 := Tryz.sizeOf3
  v3 := Tryz.zeroValue3
  t4 := Tryz.underlying4
  a4 := Tryz.isAgg4
  z4 := Tryz.sizeOf4
  v4 := Tryz.zeroValue4 }
open Go.RowKit in
/-- cmp.isNaN at int: 'x != x': false. (LAID: no walk: one application.) -/
theorem Tryz.cmp_isNaN_int (x : Int) (w : World) :
    Calls Tryz.prog 47 #[.int .i64 x] w fun e w' => e = .returned (.bool false) ∧ w' = w := Any.cmp_isNaN_int Tryz.lays215 x w
def Tryz.lays122_ren : Go.Shelf.Ren := ⟨fun | 122 => 27 | 215 => 47 | n => n, fun | 3 => 3 | 4 => 4 | n => n, fun | n => n⟩
theorem Tryz.lays122 : Go.Proofs.Lays.n122 Tryz.prog Tryz.lays122_ren := {
  mixed := by kernel_rfl
  f122 := Tryz.func27.trans (congrArg some (by kernel_rfl))
  f215 := Tryz.func47.trans (congrArg some (by kernel_rfl))
  t3 := Tryz.underlying3
  a3 := Tryz.isAgg3
  z3 := Tryz.sizeOf3
  v3 := Tryz.zeroValue3
  t4 := Tryz.underlying4
  a4 := Tryz.isAgg4
  z4 := Tryz.sizeOf4
  v4 := Tryz.zeroValue4 }
open Go.RowKit in
/-- cmp.Compare at int: "Compare returns -1 if x is less than y, 0 if x equals y, +1 if x is greater than y.": IT RETURNS 'Lib.compareInt x y'; the world is as it was. (LAID: no walk: one application.) -/
theorem Tryz.cmp_Compare_int (x y : Int) (w : World) :
    Calls Tryz.prog 27 #[.int .i64 x, .int .i64 y] w fun e w' => e = .returned (.int .i64 (Lib.compareInt x y)) ∧ w' = w := Any.cmp_Compare_int Tryz.lays122 x y w
def Tryz.lays195_ren : Go.Shelf.Ren := ⟨fun | 195 => 87 | n => n, fun | 9 => 9 | 3 => 3 | 0 => 0 | 4 => 4 | n => n, fun | n => n⟩
theorem Tryz.lays195 : Go.Proofs.Lays.n195 Tryz.prog Tryz.lays195_ren := {
  mixed := by kernel_rfl
  f195 := Tryz.func87.trans (congrArg some (by kernel_rfl))
  t0 := Tryz.underlying0
  a0 := Tryz.isAgg0
  z0 := Tryz.sizeOf0
  v0 := Tryz.zeroValue0
  t3 := Tryz.underlying3
  a3 := Tryz.isAgg3
  z3 := Tryz.sizeOf3
  v3 := Tryz.zeroValue3
  t4 := Tryz.underlying4
  a4 := Tryz.isAgg4
  z4 := Tryz.sizeOf4
  v4 := Tryz.zeroValue4
  t9 := Tryz.underlying9
  a9 := Tryz.isAgg9
  z9 := Tryz.sizeOf9
  v9 := Tryz.zeroValue9 }
open Go.RowKit in
/-- unicode/utf8.RuneCountInString: "RuneCountInString is like RuneCount but its input is a string." ("RuneCount returns the number of runes in p. Erroneous and short encodings are treated as single runes of width 1 byte."): EVERY STRING, valid UTF-8 or not: 'Lib.runeCount s' (plain Lean over the model's own 'Utf8.decode'; 'Lib.runeCount_le': at most len(s); 'Lib.runeCount_ascii': on ASCII: len(s)). THE ONE CONDITION: len(s) below 2^63 - 1 (the counter does not wrap): the form's reach pays it. THE WORLD BEHIND THE CALL: ONE BLOCK MORE: the model's iterator over s, at its end: all else as it was. (LAID: no walk: one application.) -/
theorem Tryz.utf8_RuneCountInString (s : ByteArray) (w : World) (hs : s.size < 9223372036854775807) :
    Calls Tryz.prog 87 #[.string s] w fun e w' => e = .returned (.int .i64 (Lib.runeCount s)) ∧ ∃ pos, w' = w.iter s pos := Any.utf8_RuneCountInString Tryz.lays195 s w hs
def Tryz.lays129_ren : Go.Shelf.Ren := ⟨fun | 129 => 70 | n => n, fun | 53 => 147 | 3 => 3 | 4 => 4 | 46 => 111 | 5 => 5 | 9 => 9 | n => n, fun | n => n⟩
theorem Tryz.lays129 : Go.Proofs.Lays.n129 Tryz.prog Tryz.lays129_ren := {
  mixed := by kernel_rfl
  f129 := Tryz.func70.trans (congrArg some (by kernel_rfl))
  t3 := Tryz.underlying3
  a3 := Tryz.isAgg3
  z3 := Tryz.sizeOf3
  v3 := Tryz.zeroValue3
  t4 := Tryz.underlying4
  a4 := Tryz.isAgg4
  z4 := Tryz.sizeOf4
  v4 := Tryz.zeroValue4
  t5 := Tryz.underlying5
  a5 := Tryz.isAgg5
  z5 := Tryz.sizeOf5
  v5 := Tryz.zeroValue5
  t9 := Tryz.underlying9
  a9 := Tryz.isAgg9
  z9 := Tryz.sizeOf9
  v9 := Tryz.zeroValue9
  t46 := Tryz.underlying111
  a46 := Tryz.isAgg111
  z46 := Tryz.sizeOf111
  v46 := Tryz.zeroValue111
  t53 := Tryz.underlying147
  a53 := Tryz.isAgg147
  z53 := Tryz.sizeOf147
  v53 := Tryz.zeroValue147 }
/-- bits.Len64: "Len64 returns the minimum number of bits required to represent x; the result is 0 for x == 0.": IT RETURNS 'Lib.bitLen x'; the world is as it was. ('h0', 'h1': x is a uint64.) (LAID: no walk: one application.) -/
theorem Tryz.bits_Len64 (x : Int) (w : World) (h0 : 0 ≤ x) (h1 : x ≤ 18446744073709551615) :
    Calls Tryz.prog 70 #[.int .u64 x] w fun e w' => e = .returned (.int .i64 (Lib.bitLen x.toNat)) ∧ w' = w := Any.bits_Len64 Tryz.lays129 x w h0 h1
def Tryz.lays217_ren : Go.Shelf.Ren := ⟨fun | 217 => 77 | 266 => 91 | n => n, fun | 9 => 9 | 5 => 5 | 3 => 3 | n => n, fun | n => n⟩
theorem Tryz.lays217 : Go.Proofs.Lays.n217 Tryz.prog Tryz.lays217_ren := {
  mixed := by kernel_rfl
  f217 := Tryz.func77.trans (congrArg some (by kernel_rfl))
  f266 := Tryz.func91.trans (congrArg some (by kernel_rfl))
  t3 := Tryz.underlying3
  a3 := Tryz.isAgg3
  z3 := Tryz.sizeOf3
  v3 := Tryz.zeroValue3
  t5 := Tryz.underlying5
  a5 := Tryz.isAgg5
  z5 := Tryz.sizeOf5
  v5 := Tryz.zeroValue5
  t9 := Tryz.underlying9
  a9 := Tryz.isAgg9
  z9 := Tryz.sizeOf9
  v9 := Tryz.zeroValue9 }
open Go.RowKit Go.Lib in
/-- internal/stringslite.IndexByte (what strings.IndexByte calls): IT RETURNS 'Lib.indexByte s c'; the world is as it was. (LAID: no walk: one application.) -/
theorem Tryz.stringslite_IndexByte (s : ByteArray) (c : Int) (w : World) :
    Calls Tryz.prog 77 #[.string s, .int .u8 c] w fun e w' => e = .returned (.int .i64 (Lib.indexByte s.data.toList c.toNat.toUInt8)) ∧ w' = w := Any.stringslite_IndexByte Tryz.lays217 s c w
def Tryz.lays224_ren : Go.Shelf.Ren := ⟨fun | 224 => 98 | n => n, fun | 3 => 3 | n => n, fun | n => n⟩
theorem Tryz.lays224 : Go.Proofs.Lays.n224 Tryz.prog Tryz.lays224_ren := {
  mixed := by kernel_rfl
  f224 := Tryz.func98.trans (congrArg some (by kernel_rfl))
  t3 := Tryz.underlying3
  a3 := Tryz.isAgg3
  z3 := Tryz.sizeOf3
  v3 := Tryz.zeroValue3 }
open Go.RowKit Go.Lib in
/-- internal/bytealg.Cutover: "Cutover reports the number of failures of IndexByte we should tolerate before switching over to Index. n is the number of bytes processed so far.": on amd64: (n + 16) / 8. (LAID: no walk: one application.) -/
theorem Tryz.bytealg_Cutover (n : Int) (h0 : 0 ≤ n) (h1 : n < 4611686018427387904) (w : World) :
    Calls Tryz.prog 98 #[.int .i64 n] w fun e w' => e = .returned (.int .i64 ((n + 16) / 8)) ∧ w' = w := Any.bytealg_Cutover Tryz.lays224 n h0 h1 w
def Tryz.lays314_ren : Go.Shelf.Ren := ⟨fun | 314 => 100 | n => n, fun | 9 => 9 | 51 => 145 | 3 => 3 | 4 => 4 | 5 => 5 | 46 => 111 | n => n, fun | n => n⟩
theorem Tryz.lays314 : Go.Proofs.Lays.n314 Tryz.prog Tryz.lays314_ren := {
  mixed := by kernel_rfl
  f314 := Tryz.func100.trans (congrArg some (by kernel_rfl))
  t3 := Tryz.underlying3
  a3 := Tryz.isAgg3
  z3 := Tryz.sizeOf3
  v3 := Tryz.zeroValue3
  t4 := Tryz.underlying4
  a4 := Tryz.isAgg4
  z4 := Tryz.sizeOf4
  v4 := Tryz.zeroValue4
  t5 := Tryz.underlying5
  a5 := Tryz.isAgg5
  z5 := Tryz.sizeOf5
  v5 := Tryz.zeroValue5
  t9 := Tryz.underlying9
  a9 := Tryz.isAgg9
  z9 := Tryz.sizeOf9
  v9 := Tryz.zeroValue9
  t46 := Tryz.underlying111
  a46 := Tryz.isAgg111
  z46 := Tryz.sizeOf111
  v46 := Tryz.zeroValue111
  t51 := Tryz.underlying145
  a51 := Tryz.isAgg145
  z51 := Tryz.sizeOf145
  v51 := Tryz.zeroValue145 }
open Go.RowKit Go.Lib in
/-- hashStr: "returns the hash and the appropriate multiplicative factor for use in Rabin-Karp algorithm": THE HASH OF ALL OF sep, AND 16777619 ^ len(sep), both in uint32. (LAID: no walk: one application.) -/
theorem Tryz.bytealg_hashStr (sep : ByteArray) (hs : sep.size < 4294967281) (w : World) :
    Calls Tryz.prog 100 #[.string sep] w fun e w' => e = .returned (.tuple #[.int .u32 (RK.H sep.data.toList % 4294967296), .int .u32 (16777619 ^ sep.size % 4294967296)]) ∧ w' = w := Any.bytealg_hashStr Tryz.lays314 sep hs w
def Tryz.lays267_ren : Go.Shelf.Ren := ⟨fun | 267 => 99 | 314 => 100 | n => n, fun | 9 => 9 | 3 => 3 | 146 => 178 | 51 => 145 | 4 => 4 | 5 => 5 | 46 => 111 | n => n, fun | n => n⟩
theorem Tryz.lays267 : Go.Proofs.Lays.n267 Tryz.prog Tryz.lays267_ren := {
  mixed := by kernel_rfl
  f267 := Tryz.func99.trans (congrArg some (by kernel_rfl))
  f314 := Tryz.func100.trans (congrArg some (by kernel_rfl))
  t3 := Tryz.underlying3
  a3 := Tryz.isAgg3
  z3 := Tryz.sizeOf3
  v3 := Tryz.zeroValue3
  t4 := Tryz.underlying4
  a4 := Tryz.isAgg4
  z4 := Tryz.sizeOf4
  v4 := Tryz.zeroValue4
  t5 := Tryz.underlying5
  a5 := Tryz.isAgg5
  z5 := Tryz.sizeOf5
  v5 := Tryz.zeroValue5
  t9 := Tryz.underlying9
  a9 := Tryz.isAgg9
  z9 := Tryz.sizeOf9
  v9 := Tryz.zeroValue9
  t46 := Tryz.underlying111
  a46 := Tryz.isAgg111
  z46 := Tryz.sizeOf111
  v46 := Tryz.zeroValue111
  t51 := Tryz.underlying145
  a51 := Tryz.isAgg145
  z51 := Tryz.sizeOf145
  v51 := Tryz.zeroValue145
  t146 := Tryz.underlying178
  a146 := Tryz.isAgg178
  z146 := Tryz.sizeOf178
  v146 := Tryz.zeroValue178 }
open Go.RowKit Go.Lib in
theorem Tryz.bytealg_IndexRabinKarp (s sep : ByteArray) (h1 : 1 ≤ sep.size) (h2 : sep.size ≤ s.size) (hs : s.size < 4294967281) (w : World) :
    Calls Tryz.prog 99 #[.string s, .string sep] w fun e w' => e = .returned (.int .i64 (Lib.index s.data.toList sep.data.toList)) ∧ w' = w := Any.bytealg_IndexRabinKarp Tryz.lays267 s sep h1 h2 hs w
def Tryz.lays219_ren : Go.Shelf.Ren := ⟨fun | 219 => 90 | 217 => 77 | 225 => 97 | 224 => 98 | 267 => 99 | 266 => 91 | 314 => 100 | n => n, fun | 9 => 9 | 3 => 3 | 4 => 4 | 5 => 5 | 46 => 111 | 146 => 178 | 51 => 145 | n => n, fun | 1 => 0 | n => n⟩
theorem Tryz.lays219 : Go.Proofs.Lays.n219 Tryz.prog Tryz.lays219_ren := {
  mixed := by kernel_rfl
  f217 := Tryz.func77.trans (congrArg some (by kernel_rfl))
  f219 := Tryz.func90.trans (congrArg some (by kernel_rfl))
  f224 := Tryz.func98.trans (congrArg some (by kernel_rfl))
  f225 := Tryz.func97.trans (congrArg some (by kernel_rfl))
  f266 := Tryz.func91.trans (congrArg some (by kernel_rfl))
  f267 := Tryz.func99.trans (congrArg some (by kernel_rfl))
  f314 := Tryz.func100.trans (congrArg some (by kernel_rfl))
  t3 := Tryz.underlying3
  a3 := Tryz.isAgg3
  z3 := Tryz.sizeOf3
  v3 := Tryz.zeroValue3
  t4 := Tryz.underlying4
  a4 := Tryz.isAgg4
  z4 := Tryz.sizeOf4
  v4 := Tryz.zeroValue4
  t5 := Tryz.underlying5
  a5 := Tryz.isAgg5
  z5 := Tryz.sizeOf5
  v5 := Tryz.zeroValue5
  t9 := Tryz.underlying9
  a9 := Tryz.isAgg9
  z9 := Tryz.sizeOf9
  v9 := Tryz.zeroValue9
  t46 := Tryz.underlying111
  a46 := Tryz.isAgg111
  z46 := Tryz.sizeOf111
  v46 := Tryz.zeroValue111
  t51 := Tryz.underlying145
  a51 := Tryz.isAgg145
  z51 := Tryz.sizeOf145
  v51 := Tryz.zeroValue145
  t146 := Tryz.underlying178
  a146 := Tryz.isAgg178
  z146 := Tryz.sizeOf178
  v146 := Tryz.zeroValue178
  g1 := by kernel_rfl }
open Go.RowKit Go.Lib in
/-- internal/stringslite.Index (what strings.Index calls) AT A substr OF ONE BYTE c: IT RETURNS 'Lib.indexByte s c'; the world is as it was. (LAID: no walk: one application.) -/
theorem Tryz.stringslite_Index_one (s : ByteArray) (c : UInt8) (w : World) :
    Calls Tryz.prog 90 #[.string s, .string ⟨#[c]⟩] w fun e w' => e = .returned (.int .i64 (Lib.indexByte s.data.toList c)) ∧ w' = w := Any.stringslite_Index_one Tryz.lays219 s c w
open Go.RowKit Go.Lib in
/-- internal/stringslite.Index (what strings.Index calls) AT A substr OF WHATEVER LENGTH: IT RETURNS 'Lib.index s substr'; the world is as it was. 'm': what internal/bytealg.MaxLen holds: whatever. (LAID: no walk: one application.) -/
theorem Tryz.stringslite_Index (s sub : ByteArray) (m : Int) (w : World) (hs : s.size < 4294967281) (hm : w.cell? ⟨0, 0, none⟩ = some (.int .i64 m)) :
    Calls Tryz.prog 90 #[.string s, .string sub] w fun e w' => e = .returned (.int .i64 (Lib.index s.data.toList sub.data.toList)) ∧ w' = w := Any.stringslite_Index Tryz.lays219 s sub m w hs hm
def Tryz.lays143_ren : Go.Shelf.Ren := ⟨fun | 143 => 75 | 219 => 90 | 217 => 77 | 225 => 97 | 224 => 98 | 267 => 99 | 266 => 91 | 314 => 100 | n => n, fun | 9 => 9 | 3 => 3 | 4 => 4 | 5 => 5 | 46 => 111 | 146 => 178 | 51 => 145 | n => n, fun | 1 => 0 | n => n⟩
theorem Tryz.lays143 : Go.Proofs.Lays.n143 Tryz.prog Tryz.lays143_ren := {
  mixed := by kernel_rfl
  f143 := Tryz.func75.trans (congrArg some (by kernel_rfl))
  f217 := Tryz.func77.trans (congrArg some (by kernel_rfl))
  f219 := Tryz.func90.trans (congrArg some (by kernel_rfl))
  f224 := Tryz.func98.trans (congrArg some (by kernel_rfl))
  f225 := Tryz.func97.trans (congrArg some (by kernel_rfl))
  f266 := Tryz.func91.trans (congrArg some (by kernel_rfl))
  f267 := Tryz.func99.trans (congrArg some (by kernel_rfl))
  f314 := Tryz.func100.trans (congrArg some (by kernel_rfl))
  t3 := Tryz.underlying3
  a3 := Tryz.isAgg3
  z3 := Tryz.sizeOf3
  v3 := Tryz.zeroValue3
  t4 := Tryz.underlying4
  a4 := Tryz.isAgg4
  z4 := Tryz.sizeOf4
  v4 := Tryz.zeroValue4
  t5 := Tryz.underlying5
  a5 := Tryz.isAgg5
  z5 := Tryz.sizeOf5
  v5 := Tryz.zeroValue5
  t9 := Tryz.underlying9
  a9 := Tryz.isAgg9
  z9 := Tryz.sizeOf9
  v9 := Tryz.zeroValue9
  t46 := Tryz.underlying111
  a46 := Tryz.isAgg111
  z46 := Tryz.sizeOf111
  v46 := Tryz.zeroValue111
  t51 := Tryz.underlying145
  a51 := Tryz.isAgg145
  z51 := Tryz.sizeOf145
  v51 := Tryz.zeroValue145
  t146 := Tryz.underlying178
  a146 := Tryz.isAgg178
  z146 := Tryz.sizeOf178
  v146 := Tryz.zeroValue178
  g1 := by kernel_rfl }
open Go.RowKit Go.Lib in
/-- strings.Index: "Index returns the index of the first instance of substr in s, or -1 if substr is not present in s.": AT A substr OF ONE BYTE c: IT RETURNS 'Lib.indexByte s c'; the world is as it was. (LAID: no walk: one application.) -/
theorem Tryz.strings_Index_one (s : ByteArray) (c : UInt8) (w : World) :
    Calls Tryz.prog 75 #[.string s, .string ⟨#[c]⟩] w fun e w' => e = .returned (.int .i64 (Lib.indexByte s.data.toList c)) ∧ w' = w := Any.strings_Index_one Tryz.lays143 s c w
open Go.RowKit Go.Lib in
/-- strings.Index: "Index returns the index of the first instance of substr in s, or -1 if substr is not present in s.": IT RETURNS 'Lib.index s substr'; the world is as it was. (LAID: no walk: one application.) -/
theorem Tryz.strings_Index (s sub : ByteArray) (m : Int) (w : World) (hs : s.size < 4294967281) (hm : w.cell? ⟨0, 0, none⟩ = some (.int .i64 m)) :
    Calls Tryz.prog 75 #[.string s, .string sub] w fun e w' => e = .returned (.int .i64 (Lib.index s.data.toList sub.data.toList)) ∧ w' = w := Any.strings_Index Tryz.lays143 s sub m w hs hm
def Tryz.lays138_ren : Go.Shelf.Ren := ⟨fun | 138 => 74 | 195 => 87 | 218 => 89 | 143 => 75 | 219 => 90 | 217 => 77 | 225 => 97 | 224 => 98 | 267 => 99 | 266 => 91 | 314 => 100 | n => n, fun | 9 => 9 | 3 => 3 | 4 => 4 | 5 => 5 | 0 => 0 | 46 => 111 | 146 => 178 | 51 => 145 | n => n, fun | 1 => 0 | n => n⟩
theorem Tryz.lays138 : Go.Proofs.Lays.n138 Tryz.prog Tryz.lays138_ren := {
  mixed := by kernel_rfl
  f138 := Tryz.func74.trans (congrArg some (by kernel_rfl))
  f143 := Tryz.func75.trans (congrArg some (by kernel_rfl))
  f195 := Tryz.func87.trans (congrArg some (by kernel_rfl))
  f217 := Tryz.func77.trans (congrArg some (by kernel_rfl))
  f218 := Tryz.func89.trans (congrArg some (by kernel_rfl))
  f219 := Tryz.func90.trans (congrArg some (by kernel_rfl))
  f224 := Tryz.func98.trans (congrArg some (by kernel_rfl))
  f225 := Tryz.func97.trans (congrArg some (by kernel_rfl))
  f266 := Tryz.func91.trans (congrArg some (by kernel_rfl))
  f267 := Tryz.func99.trans (congrArg some (by kernel_rfl))
  f314 := Tryz.func100.trans (congrArg some (by kernel_rfl))
  t0 := Tryz.underlying0
  a0 := Tryz.isAgg0
  z0 := Tryz.sizeOf0
  v0 := Tryz.zeroValue0
  t3 := Tryz.underlying3
  a3 := Tryz.isAgg3
  z3 := Tryz.sizeOf3
  v3 := Tryz.zeroValue3
  t4 := Tryz.underlying4
  a4 := Tryz.isAgg4
  z4 := Tryz.sizeOf4
  v4 := Tryz.zeroValue4
  t5 := Tryz.underlying5
  a5 := Tryz.isAgg5
  z5 := Tryz.sizeOf5
  v5 := Tryz.zeroValue5
  t9 := Tryz.underlying9
  a9 := Tryz.isAgg9
  z9 := Tryz.sizeOf9
  v9 := Tryz.zeroValue9
  t46 := Tryz.underlying111
  a46 := Tryz.isAgg111
  z46 := Tryz.sizeOf111
  v46 := Tryz.zeroValue111
  t51 := Tryz.underlying145
  a51 := Tryz.isAgg145
  z51 := Tryz.sizeOf145
  v51 := Tryz.zeroValue145
  t146 := Tryz.underlying178
  a146 := Tryz.isAgg178
  z146 := Tryz.sizeOf178
  v146 := Tryz.zeroValue178
  g1 := by kernel_rfl }
open Go.RowKit Go.Lib in
/-- strings.Count AT A substr OF ONE BYTE ('hp'): "Count counts the number of non-overlapping instances of substr in s.": IT RETURNS 'Lib.countByte s (that byte)'; the world is as it was. ✋ NO CONTRACT HERE YET at an empty substr (utf8.RuneCountInString) or at a longer one (a loop over strings.Index). (LAID: no walk: one application.) -/
theorem Tryz.strings_Count_one (s : ByteArray) (c : UInt8) (w : World) :
    Calls Tryz.prog 74 #[.string s, .string ⟨#[c]⟩] w fun e w' => e = .returned (.int .i64 (Lib.countByte s.data.toList c)) ∧ w' = w := Any.strings_Count_one Tryz.lays138 s c w
open Go.RowKit Go.Lib in
/-- strings.Count AT A substr OF TWO BYTES OR MORE: "Count counts the number of non-overlapping instances of substr in s.": IT RETURNS 'Lib.count s substr'; the world is as it was. (LAID: no walk: one application.) -/
theorem Tryz.strings_Count (s sub : ByteArray) (m : Int) (w : World) (hs : s.size < 4294967281) (hm : w.cell? ⟨0, 0, none⟩ = some (.int .i64 m)) (h2 : 2 ≤ sub.size) :
    Calls Tryz.prog 74 #[.string s, .string sub] w fun e w' => e = .returned (.int .i64 (Lib.countB s sub)) ∧ w' = w := Any.strings_Count Tryz.lays138 s sub m w hs hm h2
def Tryz.laysM219_ren : Go.Shelf.Ren := ⟨fun | 219 => 90 | 217 => 77 | 225 => 97 | 224 => 98 | 267 => 99 | 266 => 91 | 314 => 100 | n => n, fun | 9 => 9 | 3 => 3 | 4 => 4 | 5 => 5 | 46 => 111 | 146 => 178 | 51 => 145 | n => n, fun | 1 => 0 | n => n⟩
theorem Tryz.laysM219 : Go.Proofs.LaysM.n219 Tryz.prog Tryz.laysM219_ren := {
  mixed := by kernel_rfl
  f217 := Tryz.func77.trans (congrArg some (by kernel_rfl))
  f219 := Tryz.func90.trans (congrArg some (by kernel_rfl))
  f224 := Tryz.func98.trans (congrArg some (by kernel_rfl))
  f225 := Tryz.func97.trans (congrArg some (by kernel_rfl))
  f266 := Tryz.func91.trans (congrArg some (by kernel_rfl))
  f267 := Tryz.func99.trans (congrArg some (by kernel_rfl))
  f314 := Tryz.func100.trans (congrArg some (by kernel_rfl))
  t3 := Tryz.underlying3
  a3 := Tryz.isAgg3
  z3 := Tryz.sizeOf3
  v3 := Tryz.zeroValue3
  t4 := Tryz.underlying4
  a4 := Tryz.isAgg4
  z4 := Tryz.sizeOf4
  v4 := Tryz.zeroValue4
  t5 := Tryz.underlying5
  a5 := Tryz.isAgg5
  z5 := Tryz.sizeOf5
  v5 := Tryz.zeroValue5
  t9 := Tryz.underlying9
  a9 := Tryz.isAgg9
  z9 := Tryz.sizeOf9
  v9 := Tryz.zeroValue9
  t46 := Tryz.underlying111
  a46 := Tryz.isAgg111
  z46 := Tryz.sizeOf111
  v46 := Tryz.zeroValue111
  t51 := Tryz.underlying145
  a51 := Tryz.isAgg145
  z51 := Tryz.sizeOf145
  v51 := Tryz.zeroValue145
  t146 := Tryz.underlying178
  a146 := Tryz.isAgg178
  z146 := Tryz.sizeOf178
  v146 := Tryz.zeroValue178
  g1 := by kernel_rfl
  i3 := by kernel_rfl
  i4 := by kernel_rfl
  i5 := by kernel_rfl
  i9 := by kernel_rfl
  i46 := by kernel_rfl
  i51 := by kernel_rfl
  i146 := by kernel_rfl
  m1 := by kernel_rfl
  s1_3 := fun w h => Go.Proofs.cell_of_shapedOpen_int (zero := #[.int .i64 0]) (t := 3) h (of_decide_eq_true (by kernel_rfl)) (by kernel_rfl) rfl (by kernel_rfl) (by kernel_rfl) Tryz.underlying3 }
open Go.RowKit Go.Lib in
theorem Tryz.stringslite_Index_shaped (s sub : ByteArray) (w : World) (h : w.ShapedOpen Tryz.prog) (hs : s.size < 4294967281) :
    Calls Tryz.prog 90 #[.string s, .string sub] w fun e w' => e = .returned (.int .i64 (Lib.index s.data.toList sub.data.toList)) ∧ w' = w := Any.stringslite_Index_shaped Tryz.laysM219 s sub w h hs
def Tryz.laysM143_ren : Go.Shelf.Ren := ⟨fun | 143 => 75 | 219 => 90 | 217 => 77 | 225 => 97 | 224 => 98 | 267 => 99 | 266 => 91 | 314 => 100 | n => n, fun | 9 => 9 | 3 => 3 | 4 => 4 | 5 => 5 | 46 => 111 | 146 => 178 | 51 => 145 | n => n, fun | 1 => 0 | n => n⟩
theorem Tryz.laysM143 : Go.Proofs.LaysM.n143 Tryz.prog Tryz.laysM143_ren := {
  mixed := by kernel_rfl
  f143 := Tryz.func75.trans (congrArg some (by kernel_rfl))
  f217 := Tryz.func77.trans (congrArg some (by kernel_rfl))
  f219 := Tryz.func90.trans (congrArg some (by kernel_rfl))
  f224 := Tryz.func98.trans (congrArg some (by kernel_rfl))
  f225 := Tryz.func97.trans (congrArg some (by kernel_rfl))
  f266 := Tryz.func91.trans (congrArg some (by kernel_rfl))
  f267 := Tryz.func99.trans (congrArg some (by kernel_rfl))
  f314 := Tryz.func100.trans (congrArg some (by kernel_rfl))
  t3 := Tryz.underlying3
  a3 := Tryz.isAgg3
  z3 := Tryz.sizeOf3
  v3 := Tryz.zeroValue3
  t4 := Tryz.underlying4
  a4 := Tryz.isAgg4
  z4 := Tryz.sizeOf4
  v4 := Tryz.zeroValue4
  t5 := Tryz.underlying5
  a5 := Tryz.isAgg5
  z5 := Tryz.sizeOf5
  v5 := Tryz.zeroValue5
  t9 := Tryz.underlying9
  a9 := Tryz.isAgg9
  z9 := Tryz.sizeOf9
  v9 := Tryz.zeroValue9
  t46 := Tryz.underlying111
  a46 := Tryz.isAgg111
  z46 := Tryz.sizeOf111
  v46 := Tryz.zeroValue111
  t51 := Tryz.underlying145
  a51 := Tryz.isAgg145
  z51 := Tryz.sizeOf145
  v51 := Tryz.zeroValue145
  t146 := Tryz.underlying178
  a146 := Tryz.isAgg178
  z146 := Tryz.sizeOf178
  v146 := Tryz.zeroValue178
  g1 := by kernel_rfl
  i3 := by kernel_rfl
  i4 := by kernel_rfl
  i5 := by kernel_rfl
  i9 := by kernel_rfl
  i46 := by kernel_rfl
  i51 := by kernel_rfl
  i146 := by kernel_rfl
  m1 := by kernel_rfl
  s1_3 := fun w h => Go.Proofs.cell_of_shapedOpen_int (zero := #[.int .i64 0]) (t := 3) h (of_decide_eq_true (by kernel_rfl)) (by kernel_rfl) rfl (by kernel_rfl) (by kernel_rfl) Tryz.underlying3 }
open Go.RowKit Go.Lib in
theorem Tryz.strings_Index_shaped (s sub : ByteArray) (w : World) (h : w.ShapedOpen Tryz.prog) (hs : s.size < 4294967281) :
    Calls Tryz.prog 75 #[.string s, .string sub] w fun e w' => e = .returned (.int .i64 (Lib.index s.data.toList sub.data.toList)) ∧ w' = w := Any.strings_Index_shaped Tryz.laysM143 s sub w h hs
def Tryz.laysM138_ren : Go.Shelf.Ren := ⟨fun | 138 => 74 | 195 => 87 | 218 => 89 | 143 => 75 | 219 => 90 | 217 => 77 | 225 => 97 | 224 => 98 | 267 => 99 | 266 => 91 | 314 => 100 | n => n, fun | 9 => 9 | 3 => 3 | 4 => 4 | 5 => 5 | 0 => 0 | 46 => 111 | 146 => 178 | 51 => 145 | n => n, fun | 1 => 0 | n => n⟩
theorem Tryz.laysM138 : Go.Proofs.LaysM.n138 Tryz.prog Tryz.laysM138_ren := {
  mixed := by kernel_rfl
  f138 := Tryz.func74.trans (congrArg some (by kernel_rfl))
  f143 := Tryz.func75.trans (congrArg some (by kernel_rfl))
  f195 := Tryz.func87.trans (congrArg some (by kernel_rfl))
  f217 := Tryz.func77.trans (congrArg some (by kernel_rfl))
  f218 := Tryz.func89.trans (congrArg some (by kernel_rfl))
  f219 := Tryz.func90.trans (congrArg some (by kernel_rfl))
  f224 := Tryz.func98.trans (congrArg some (by kernel_rfl))
  f225 := Tryz.func97.trans (congrArg some (by kernel_rfl))
  f266 := Tryz.func91.trans (congrArg some (by kernel_rfl))
  f267 := Tryz.func99.trans (congrArg some (by kernel_rfl))
  f314 := Tryz.func100.trans (congrArg some (by kernel_rfl))
  t0 := Tryz.underlying0
  a0 := Tryz.isAgg0
  z0 := Tryz.sizeOf0
  v0 := Tryz.zeroValue0
  t3 := Tryz.underlying3
  a3 := Tryz.isAgg3
  z3 := Tryz.sizeOf3
  v3 := Tryz.zeroValue3
  t4 := Tryz.underlying4
  a4 := Tryz.isAgg4
  z4 := Tryz.sizeOf4
  v4 := Tryz.zeroValue4
  t5 := Tryz.underlying5
  a5 := Tryz.isAgg5
  z5 := Tryz.sizeOf5
  v5 := Tryz.zeroValue5
  t9 := Tryz.underlying9
  a9 := Tryz.isAgg9
  z9 := Tryz.sizeOf9
  v9 := Tryz.zeroValue9
  t46 := Tryz.underlying111
  a46 := Tryz.isAgg111
  z46 := Tryz.sizeOf111
  v46 := Tryz.zeroValue111
  t51 := Tryz.underlying145
  a51 := Tryz.isAgg145
  z51 := Tryz.sizeOf145
  v51 := Tryz.zeroValue145
  t146 := Tryz.underlying178
  a146 := Tryz.isAgg178
  z146 := Tryz.sizeOf178
  v146 := Tryz.zeroValue178
  g1 := by kernel_rfl
  i0 := by kernel_rfl
  i3 := by kernel_rfl
  i4 := by kernel_rfl
  i5 := by kernel_rfl
  i9 := by kernel_rfl
  i46 := by kernel_rfl
  i51 := by kernel_rfl
  i146 := by kernel_rfl
  m1 := by kernel_rfl
  s1_3 := fun w h => Go.Proofs.cell_of_shapedOpen_int (zero := #[.int .i64 0]) (t := 3) h (of_decide_eq_true (by kernel_rfl)) (by kernel_rfl) rfl (by kernel_rfl) (by kernel_rfl) Tryz.underlying3 }
open Go.RowKit Go.Lib in
theorem Tryz.strings_Count_shaped (s sub : ByteArray) (w : World) (h : w.ShapedOpen Tryz.prog) (hs : s.size < 4294967281) (h2 : 2 ≤ sub.size) :
    Calls Tryz.prog 74 #[.string s, .string sub] w fun e w' => e = .returned (.int .i64 (Lib.countB s sub)) ∧ w' = w := Any.strings_Count_shaped Tryz.laysM138 s sub w h hs h2
def Tryz.lays206_ren : Go.Shelf.Ren := ⟨fun | 206 => 55 | n => n, fun | 9 => 9 | 4 => 4 | 3 => 3 | n => n, fun | n => n⟩
theorem Tryz.lays206 : Go.Proofs.Lays.n206 Tryz.prog Tryz.lays206_ren := {
  mixed := by kernel_rfl
  f206 := Tryz.func55.trans (congrArg some (by kernel_rfl))
  t3 := Tryz.underlying3
  a3 := Tryz.isAgg3
  z3 := Tryz.sizeOf3
  v3 := Tryz.zeroValue3
  t4 := Tryz.underlying4
  a4 := Tryz.isAgg4
  z4 := Tryz.sizeOf4
  v4 := Tryz.zeroValue4
  t9 := Tryz.underlying9
  a9 := Tryz.isAgg9
  z9 := Tryz.sizeOf9
  v9 := Tryz.zeroValue9 }
open Go.RowKit Go.Lib in
/-- internal/stringslite.HasPrefix (what strings.HasPrefix calls). (LAID: no walk: one application.) -/
theorem Tryz.stringslite_HasPrefix (s p : ByteArray) (w : World) :
    Calls Tryz.prog 55 #[.string s, .string p] w fun e w' => e = .returned (.bool (Lib.hasPrefix s.data.toList p.data.toList)) ∧ w' = w := Any.stringslite_HasPrefix Tryz.lays206 s p w
def Tryz.lays99_ren : Go.Shelf.Ren := ⟨fun | 99 => 36 | 206 => 55 | n => n, fun | 9 => 9 | 4 => 4 | 3 => 3 | n => n, fun | n => n⟩
theorem Tryz.lays99 : Go.Proofs.Lays.n99 Tryz.prog Tryz.lays99_ren := {
  mixed := by kernel_rfl
  f99 := Tryz.func36.trans (congrArg some (by kernel_rfl))
  f206 := Tryz.func55.trans (congrArg some (by kernel_rfl))
  t3 := Tryz.underlying3
  a3 := Tryz.isAgg3
  z3 := Tryz.sizeOf3
  v3 := Tryz.zeroValue3
  t4 := Tryz.underlying4
  a4 := Tryz.isAgg4
  z4 := Tryz.sizeOf4
  v4 := Tryz.zeroValue4
  t9 := Tryz.underlying9
  a9 := Tryz.isAgg9
  z9 := Tryz.sizeOf9
  v9 := Tryz.zeroValue9 }
open Go.RowKit Go.Lib in
/-- strings.HasPrefix: "HasPrefix reports whether the string s begins with prefix.": IT RETURNS 'Lib.hasPrefix s prefix'; the world is as it was. (LAID: no walk: one application.) -/
theorem Tryz.strings_HasPrefix (s p : ByteArray) (w : World) :
    Calls Tryz.prog 36 #[.string s, .string p] w fun e w' => e = .returned (.bool (Lib.hasPrefix s.data.toList p.data.toList)) ∧ w' = w := Any.strings_HasPrefix Tryz.lays99 s p w
open Go.RowKit Go.Lib in
/-- strings.Count at whatever sep that is not empty: the two roads under one statement. (LAID: no walk: one application.) -/
theorem Tryz.strings_Count_any (s sep : ByteArray) (m : Int) (w : World) (hs : s.size < 4294967281) (hm : w.cell? ⟨0, 0, none⟩ = some (.int .i64 m)) (h1 : 1 ≤ sep.size) :
    Calls Tryz.prog 74 #[.string s, .string sep] w fun e w' => e = .returned (.int .i64 (Lib.countB s sep)) ∧ w' = w := Any.strings_Count_any Tryz.lays138 s sep m w hs hm h1
def Tryz.lays221_ren : Go.Shelf.Ren := ⟨fun | 221 => 54 | 268 => 73 | 138 => 74 | 143 => 75 | 195 => 87 | 197 => 88 | 218 => 89 | 219 => 90 | 260 => 96 | 217 => 77 | 225 => 97 | 224 => 98 | 267 => 99 | 266 => 91 | 314 => 100 | n => n, fun | 9 => 9 | 3 => 3 | 31 => 22 | 4 => 4 | 0 => 0 | 105 => 162 | 21 => 21 | 5 => 5 | 46 => 111 | 119 => 174 | 139 => 177 | 138 => 176 | 146 => 178 | 51 => 145 | n => n, fun | 1 => 0 | 3 => 1 | 4 => 2 | n => n⟩
theorem Tryz.lays221 : Go.Proofs.Lays.n221 Tryz.prog Tryz.lays221_ren := {
  mixed := by kernel_rfl
  f138 := Tryz.func74.trans (congrArg some (by kernel_rfl))
  f143 := Tryz.func75.trans (congrArg some (by kernel_rfl))
  f195 := Tryz.func87.trans (congrArg some (by kernel_rfl))
  f197 := Tryz.func88.trans (congrArg some (by kernel_rfl))
  f217 := Tryz.func77.trans (congrArg some (by kernel_rfl))
  f218 := Tryz.func89.trans (congrArg some (by kernel_rfl))
  f219 := Tryz.func90.trans (congrArg some (by kernel_rfl))
  f221 := Tryz.func54.trans (congrArg some (by kernel_rfl))
  f224 := Tryz.func98.trans (congrArg some (by kernel_rfl))
  f225 := Tryz.func97.trans (congrArg some (by kernel_rfl))
  f260 := Tryz.func96.trans (congrArg some (by kernel_rfl))
  f266 := Tryz.func91.trans (congrArg some (by kernel_rfl))
  f267 := Tryz.func99.trans (congrArg some (by kernel_rfl))
  f268 := Tryz.func73.trans (congrArg some (by kernel_rfl))
  f314 := Tryz.func100.trans (congrArg some (by kernel_rfl))
  t0 := Tryz.underlying0
  a0 := Tryz.isAgg0
  z0 := Tryz.sizeOf0
  v0 := Tryz.zeroValue0
  t3 := Tryz.underlying3
  a3 := Tryz.isAgg3
  z3 := Tryz.sizeOf3
  v3 := Tryz.zeroValue3
  t4 := Tryz.underlying4
  a4 := Tryz.isAgg4
  z4 := Tryz.sizeOf4
  v4 := Tryz.zeroValue4
  t5 := Tryz.underlying5
  a5 := Tryz.isAgg5
  z5 := Tryz.sizeOf5
  v5 := Tryz.zeroValue5
  t9 := Tryz.underlying9
  a9 := Tryz.isAgg9
  z9 := Tryz.sizeOf9
  v9 := Tryz.zeroValue9
  t21 := Tryz.underlying21
  a21 := Tryz.isAgg21
  z21 := Tryz.sizeOf21
  v21 := Tryz.zeroValue21
  t31 := Tryz.underlying22
  a31 := Tryz.isAgg22
  z31 := Tryz.sizeOf22
  v31 := Tryz.zeroValue22
  t46 := Tryz.underlying111
  a46 := Tryz.isAgg111
  z46 := Tryz.sizeOf111
  v46 := Tryz.zeroValue111
  t51 := Tryz.underlying145
  a51 := Tryz.isAgg145
  z51 := Tryz.sizeOf145
  v51 := Tryz.zeroValue145
  t105 := Tryz.underlying162
  a105 := Tryz.isAgg162
  z105 := Tryz.sizeOf162
  v105 := Tryz.zeroValue162
  t119 := Tryz.underlying174
  a119 := Tryz.isAgg174
  z119 := Tryz.sizeOf174
  t138 := Tryz.underlying176
  a138 := Tryz.isAgg176
  z138 := Tryz.sizeOf176
  v138 := Tryz.zeroValue176
  t139 := Tryz.underlying177
  a139 := Tryz.isAgg177
  z139 := Tryz.sizeOf177
  v139 := Tryz.zeroValue177
  t146 := Tryz.underlying178
  a146 := Tryz.isAgg178
  z146 := Tryz.sizeOf178
  v146 := Tryz.zeroValue178
  g1 := by kernel_rfl
  g3 := by kernel_rfl
  g4 := by kernel_rfl }
open Go.RowKit Go.Lib in
theorem Tryz.strings_genSplit (s sep : ByteArray) (sv : Nat) (n : Int) (N : Nat) (m : Int) (w : World) (hs : s.size < 4294967281) (hm : w.cell? ⟨0, 0, none⟩ = some (.int .i64 m)) (h1 : 1 ≤ sep.size) (hsv : sv ≤ sep.size) (hn0 : n ≠ 0) (hn63 : n ≤ 9223372036854775807) (hN : (N : Int) = min (if n < 0 then (Lib.countB s sep : Int) + 1 else n) ((s.size : Int) + 1)) :
    Calls Tryz.prog 54 #[.string s, .string sep, .int .i64 sv, .int .i64 n] w fun e w' =>
      e = .returned (.slice (some ⟨w.heap.size, 0, none⟩) (Lib.splitB sep sv (N - 1) s).length N) ∧ w' = w.alloc (.cells (Lib.cellsOf (Lib.splitB sep sv (N - 1) s) N) 9) := Any.strings_genSplit Tryz.lays221 (by kernel_rfl) s sep sv n N m w hs hm h1 hsv hn0 hn63 hN
def Tryz.lays146_ren : Go.Shelf.Ren := ⟨fun | 146 => 35 | 221 => 54 | 268 => 73 | 138 => 74 | 143 => 75 | 195 => 87 | 197 => 88 | 218 => 89 | 219 => 90 | 260 => 96 | 217 => 77 | 225 => 97 | 224 => 98 | 267 => 99 | 266 => 91 | 314 => 100 | n => n, fun | 9 => 9 | 31 => 22 | 3 => 3 | 4 => 4 | 0 => 0 | 105 => 162 | 21 => 21 | 5 => 5 | 46 => 111 | 119 => 174 | 139 => 177 | 138 => 176 | 146 => 178 | 51 => 145 | n => n, fun | 1 => 0 | 3 => 1 | 4 => 2 | n => n⟩
theorem Tryz.lays146 : Go.Proofs.Lays.n146 Tryz.prog Tryz.lays146_ren := {
  mixed := by kernel_rfl
  f138 := Tryz.func74.trans (congrArg some (by kernel_rfl))
  f143 := Tryz.func75.trans (congrArg some (by kernel_rfl))
  f146 := Tryz.func35.trans (congrArg some (by kernel_rfl))
  f195 := Tryz.func87.trans (congrArg some (by kernel_rfl))
  f197 := Tryz.func88.trans (congrArg some (by kernel_rfl))
  f217 := Tryz.func77.trans (congrArg some (by kernel_rfl))
  f218 := Tryz.func89.trans (congrArg some (by kernel_rfl))
  f219 := Tryz.func90.trans (congrArg some (by kernel_rfl))
  f221 := Tryz.func54.trans (congrArg some (by kernel_rfl))
  f224 := Tryz.func98.trans (congrArg some (by kernel_rfl))
  f225 := Tryz.func97.trans (congrArg some (by kernel_rfl))
  f260 := Tryz.func96.trans (congrArg some (by kernel_rfl))
  f266 := Tryz.func91.trans (congrArg some (by kernel_rfl))
  f267 := Tryz.func99.trans (congrArg some (by kernel_rfl))
  f268 := Tryz.func73.trans (congrArg some (by kernel_rfl))
  f314 := Tryz.func100.trans (congrArg some (by kernel_rfl))
  t0 := Tryz.underlying0
  a0 := Tryz.isAgg0
  z0 := Tryz.sizeOf0
  v0 := Tryz.zeroValue0
  t3 := Tryz.underlying3
  a3 := Tryz.isAgg3
  z3 := Tryz.sizeOf3
  v3 := Tryz.zeroValue3
  t4 := Tryz.underlying4
  a4 := Tryz.isAgg4
  z4 := Tryz.sizeOf4
  v4 := Tryz.zeroValue4
  t5 := Tryz.underlying5
  a5 := Tryz.isAgg5
  z5 := Tryz.sizeOf5
  v5 := Tryz.zeroValue5
  t9 := Tryz.underlying9
  a9 := Tryz.isAgg9
  z9 := Tryz.sizeOf9
  v9 := Tryz.zeroValue9
  t21 := Tryz.underlying21
  a21 := Tryz.isAgg21
  z21 := Tryz.sizeOf21
  v21 := Tryz.zeroValue21
  t31 := Tryz.underlying22
  a31 := Tryz.isAgg22
  z31 := Tryz.sizeOf22
  v31 := Tryz.zeroValue22
  t46 := Tryz.underlying111
  a46 := Tryz.isAgg111
  z46 := Tryz.sizeOf111
  v46 := Tryz.zeroValue111
  t51 := Tryz.underlying145
  a51 := Tryz.isAgg145
  z51 := Tryz.sizeOf145
  v51 := Tryz.zeroValue145
  t105 := Tryz.underlying162
  a105 := Tryz.isAgg162
  z105 := Tryz.sizeOf162
  v105 := Tryz.zeroValue162
  t119 := Tryz.underlying174
  a119 := Tryz.isAgg174
  z119 := Tryz.sizeOf174
  t138 := Tryz.underlying176
  a138 := Tryz.isAgg176
  z138 := Tryz.sizeOf176
  v138 := Tryz.zeroValue176
  t139 := Tryz.underlying177
  a139 := Tryz.isAgg177
  z139 := Tryz.sizeOf177
  v139 := Tryz.zeroValue177
  t146 := Tryz.underlying178
  a146 := Tryz.isAgg178
  z146 := Tryz.sizeOf178
  v146 := Tryz.zeroValue178
  g1 := by kernel_rfl
  g3 := by kernel_rfl
  g4 := by kernel_rfl }
open Go.RowKit Go.Lib in
/-- strings.Split. (LAID: no walk: one application.) -/
theorem Tryz.strings_Split (s sep : ByteArray) (m : Int) (w : World) (hs : s.size < 4294967281) (hm : w.cell? ⟨0, 0, none⟩ = some (.int .i64 m)) (h1 : 1 ≤ sep.size) :
    Calls Tryz.prog 35 #[.string s, .string sep] w fun e w' =>
      e = .returned (.slice (some ⟨w.heap.size, 0, none⟩) (Lib.countB s sep + 1) (Lib.countB s sep + 1)) ∧ w' = w.alloc (.cells ((Lib.splitB sep 0 (Lib.countB s sep) s).map Value.string).toArray 9) := Any.strings_Split Tryz.lays146 (by kernel_rfl) s sep m w hs hm h1
def Tryz.laysM146_ren : Go.Shelf.Ren := ⟨fun | 146 => 35 | 221 => 54 | 268 => 73 | 138 => 74 | 143 => 75 | 195 => 87 | 197 => 88 | 218 => 89 | 219 => 90 | 260 => 96 | 217 => 77 | 225 => 97 | 224 => 98 | 267 => 99 | 266 => 91 | 314 => 100 | n => n, fun | 9 => 9 | 31 => 22 | 3 => 3 | 4 => 4 | 0 => 0 | 105 => 162 | 21 => 21 | 5 => 5 | 46 => 111 | 119 => 174 | 139 => 177 | 138 => 176 | 146 => 178 | 51 => 145 | n => n, fun | 1 => 0 | 3 => 1 | 4 => 2 | n => n⟩
theorem Tryz.laysM146 : Go.Proofs.LaysM.n146 Tryz.prog Tryz.laysM146_ren := {
  mixed := by kernel_rfl
  f138 := Tryz.func74.trans (congrArg some (by kernel_rfl))
  f143 := Tryz.func75.trans (congrArg some (by kernel_rfl))
  f146 := Tryz.func35.trans (congrArg some (by kernel_rfl))
  f195 := Tryz.func87.trans (congrArg some (by kernel_rfl))
  f197 := Tryz.func88.trans (congrArg some (by kernel_rfl))
  f217 := Tryz.func77.trans (congrArg some (by kernel_rfl))
  f218 := Tryz.func89.trans (congrArg some (by kernel_rfl))
  f219 := Tryz.func90.trans (congrArg some (by kernel_rfl))
  f221 := Tryz.func54.trans (congrArg some (by kernel_rfl))
  f224 := Tryz.func98.trans (congrArg some (by kernel_rfl))
  f225 := Tryz.func97.trans (congrArg some (by kernel_rfl))
  f260 := Tryz.func96.trans (congrArg some (by kernel_rfl))
  f266 := Tryz.func91.trans (congrArg some (by kernel_rfl))
  f267 := Tryz.func99.trans (congrArg some (by kernel_rfl))
  f268 := Tryz.func73.trans (congrArg some (by kernel_rfl))
  f314 := Tryz.func100.trans (congrArg some (by kernel_rfl))
  t0 := Tryz.underlying0
  a0 := Tryz.isAgg0
  z0 := Tryz.sizeOf0
  v0 := Tryz.zeroValue0
  t3 := Tryz.underlying3
  a3 := Tryz.isAgg3
  z3 := Tryz.sizeOf3
  v3 := Tryz.zeroValue3
  t4 := Tryz.underlying4
  a4 := Tryz.isAgg4
  z4 := Tryz.sizeOf4
  v4 := Tryz.zeroValue4
  t5 := Tryz.underlying5
  a5 := Tryz.isAgg5
  z5 := Tryz.sizeOf5
  v5 := Tryz.zeroValue5
  t9 := Tryz.underlying9
  a9 := Tryz.isAgg9
  z9 := Tryz.sizeOf9
  v9 := Tryz.zeroValue9
  t21 := Tryz.underlying21
  a21 := Tryz.isAgg21
  z21 := Tryz.sizeOf21
  v21 := Tryz.zeroValue21
  t31 := Tryz.underlying22
  a31 := Tryz.isAgg22
  z31 := Tryz.sizeOf22
  v31 := Tryz.zeroValue22
  t46 := Tryz.underlying111
  a46 := Tryz.isAgg111
  z46 := Tryz.sizeOf111
  v46 := Tryz.zeroValue111
  t51 := Tryz.underlying145
  a51 := Tryz.isAgg145
  z51 := Tryz.sizeOf145
  v51 := Tryz.zeroValue145
  t105 := Tryz.underlying162
  a105 := Tryz.isAgg162
  z105 := Tryz.sizeOf162
  v105 := Tryz.zeroValue162
  t119 := Tryz.underlying174
  a119 := Tryz.isAgg174
  z119 := Tryz.sizeOf174
  t138 := Tryz.underlying176
  a138 := Tryz.isAgg176
  z138 := Tryz.sizeOf176
  v138 := Tryz.zeroValue176
  t139 := Tryz.underlying177
  a139 := Tryz.isAgg177
  z139 := Tryz.sizeOf177
  v139 := Tryz.zeroValue177
  t146 := Tryz.underlying178
  a146 := Tryz.isAgg178
  z146 := Tryz.sizeOf178
  v146 := Tryz.zeroValue178
  g1 := by kernel_rfl
  g3 := by kernel_rfl
  g4 := by kernel_rfl
  i0 := by kernel_rfl
  i3 := by kernel_rfl
  i4 := by kernel_rfl
  i5 := by kernel_rfl
  i9 := by kernel_rfl
  i21 := by kernel_rfl
  i31 := by kernel_rfl
  i46 := by kernel_rfl
  i51 := by kernel_rfl
  i105 := by kernel_rfl
  i138 := by kernel_rfl
  i139 := by kernel_rfl
  i146 := by kernel_rfl
  m1 := by kernel_rfl
  s1_3 := fun w h => Go.Proofs.cell_of_shapedOpen_int (zero := #[.int .i64 0]) (t := 3) h (of_decide_eq_true (by kernel_rfl)) (by kernel_rfl) rfl (by kernel_rfl) (by kernel_rfl) Tryz.underlying3
  m3 := by kernel_rfl
  m4 := by kernel_rfl }
open Go.RowKit Go.Lib in
/-- strings.Split, sep not empty. (LAID: no walk: one application.) -/
theorem Tryz.strings_Split_shaped (s sep : ByteArray) (w : World) (h : w.ShapedOpen Tryz.prog) (hs : s.size < 4294967281) (h1 : 1 ≤ sep.size) :
    Calls Tryz.prog 35 #[.string s, .string sep] w fun e w' =>
      e = .returned (.slice (some ⟨w.heap.size, 0, none⟩) (Lib.countB s sep + 1) (Lib.countB s sep + 1)) ∧ w' = w.alloc (.cells ((Lib.splitB sep 0 (Lib.countB s sep) s).map Value.string).toArray 9) := Any.strings_Split_shaped Tryz.laysM146 s sep w h hs h1
def Tryz.lays197_ren : Go.Shelf.Ren := ⟨fun | 197 => 88 | 260 => 96 | n => n, fun | 9 => 9 | 21 => 21 | 3 => 3 | 4 => 4 | 5 => 5 | 105 => 162 | 119 => 174 | 0 => 0 | 46 => 111 | 139 => 177 | 138 => 176 | n => n, fun | 3 => 1 | 4 => 2 | n => n⟩
theorem Tryz.lays197 : Go.Proofs.Lays.n197 Tryz.prog Tryz.lays197_ren := {
  mixed := by kernel_rfl
  f197 := Tryz.func88.trans (congrArg some (by kernel_rfl))
  f260 := Tryz.func96.trans (congrArg some (by kernel_rfl))
  t0 := Tryz.underlying0
  a0 := Tryz.isAgg0
  z0 := Tryz.sizeOf0
  v0 := Tryz.zeroValue0
  t3 := Tryz.underlying3
  a3 := Tryz.isAgg3
  z3 := Tryz.sizeOf3
  v3 := Tryz.zeroValue3
  t4 := Tryz.underlying4
  a4 := Tryz.isAgg4
  z4 := Tryz.sizeOf4
  v4 := Tryz.zeroValue4
  t5 := Tryz.underlying5
  a5 := Tryz.isAgg5
  z5 := Tryz.sizeOf5
  v5 := Tryz.zeroValue5
  t9 := Tryz.underlying9
  a9 := Tryz.isAgg9
  z9 := Tryz.sizeOf9
  v9 := Tryz.zeroValue9
  t21 := Tryz.underlying21
  a21 := Tryz.isAgg21
  z21 := Tryz.sizeOf21
  v21 := Tryz.zeroValue21
  t46 := Tryz.underlying111
  a46 := Tryz.isAgg111
  z46 := Tryz.sizeOf111
  v46 := Tryz.zeroValue111
  t105 := Tryz.underlying162
  a105 := Tryz.isAgg162
  z105 := Tryz.sizeOf162
  v105 := Tryz.zeroValue162
  t119 := Tryz.underlying174
  a119 := Tryz.isAgg174
  z119 := Tryz.sizeOf174
  t138 := Tryz.underlying176
  a138 := Tryz.isAgg176
  z138 := Tryz.sizeOf176
  v138 := Tryz.zeroValue176
  t139 := Tryz.underlying177
  a139 := Tryz.isAgg177
  z139 := Tryz.sizeOf177
  v139 := Tryz.zeroValue177
  g3 := by kernel_rfl
  g4 := by kernel_rfl }
open Go.RowKit Go.Lib in
/-- unicode/utf8.DecodeRuneInString: "DecodeRuneInString is like DecodeRune but its input is a string.": ("DecodeRune unpacks the first UTF-8 encoding in p and returns the rune and its width in bytes."): WHERE s BEGINS WITH AN ASCII BYTE x: (x, 1). (LAID: no walk: one application.) -/
theorem Tryz.utf8_DecodeRuneInString_ascii (s : ByteArray) (x : UInt8) (w : World) (h0 : s.data.toList[0]? = some x) (hx : x.toNat < 128) :
    Calls Tryz.prog 88 #[.string s] w fun e w' => e = .returned (.tuple #[.int .i32 x.toNat, .int .i64 1]) ∧ w' = w := Any.utf8_DecodeRuneInString_ascii Tryz.lays197 s x w h0 hx
open Go.RowKit Go.Lib in
theorem Tryz.utf8_RuneCountInString_ascii (s : ByteArray) (w : World) (hs : s.size < 4294967281) (hascii : ∀ (j : Nat) b, s.data.toList[j]? = some b → b.toNat < 128) :
    Calls Tryz.prog 87 #[.string s] w fun e w' => e = .returned (.int .i64 s.size) ∧ w' = w.iter s s.size := Any.utf8_RuneCountInString_ascii Tryz.lays195 s w hs hascii
def Tryz.lays268_ren : Go.Shelf.Ren := ⟨fun | 268 => 73 | 195 => 87 | 197 => 88 | 260 => 96 | n => n, fun | 9 => 9 | 3 => 3 | 31 => 22 | 4 => 4 | 105 => 162 | 21 => 21 | 0 => 0 | 5 => 5 | 119 => 174 | 46 => 111 | 139 => 177 | 138 => 176 | n => n, fun | 3 => 1 | 4 => 2 | n => n⟩
theorem Tryz.lays268 : Go.Proofs.Lays.n268 Tryz.prog Tryz.lays268_ren := {
  mixed := by kernel_rfl
  f195 := Tryz.func87.trans (congrArg some (by kernel_rfl))
  f197 := Tryz.func88.trans (congrArg some (by kernel_rfl))
  f260 := Tryz.func96.trans (congrArg some (by kernel_rfl))
  f268 := Tryz.func73.trans (congrArg some (by kernel_rfl))
  t0 := Tryz.underlying0
  a0 := Tryz.isAgg0
  z0 := Tryz.sizeOf0
  v0 := Tryz.zeroValue0
  t3 := Tryz.underlying3
  a3 := Tryz.isAgg3
  z3 := Tryz.sizeOf3
  v3 := Tryz.zeroValue3
  t4 := Tryz.underlying4
  a4 := Tryz.isAgg4
  z4 := Tryz.sizeOf4
  v4 := Tryz.zeroValue4
  t5 := Tryz.underlying5
  a5 := Tryz.isAgg5
  z5 := Tryz.sizeOf5
  v5 := Tryz.zeroValue5
  t9 := Tryz.underlying9
  a9 := Tryz.isAgg9
  z9 := Tryz.sizeOf9
  v9 := Tryz.zeroValue9
  t21 := Tryz.underlying21
  a21 := Tryz.isAgg21
  z21 := Tryz.sizeOf21
  v21 := Tryz.zeroValue21
  t31 := Tryz.underlying22
  a31 := Tryz.isAgg22
  z31 := Tryz.sizeOf22
  v31 := Tryz.zeroValue22
  t46 := Tryz.underlying111
  a46 := Tryz.isAgg111
  z46 := Tryz.sizeOf111
  v46 := Tryz.zeroValue111
  t105 := Tryz.underlying162
  a105 := Tryz.isAgg162
  z105 := Tryz.sizeOf162
  v105 := Tryz.zeroValue162
  t119 := Tryz.underlying174
  a119 := Tryz.isAgg174
  z119 := Tryz.sizeOf174
  t138 := Tryz.underlying176
  a138 := Tryz.isAgg176
  z138 := Tryz.sizeOf176
  v138 := Tryz.zeroValue176
  t139 := Tryz.underlying177
  a139 := Tryz.isAgg177
  z139 := Tryz.sizeOf177
  v139 := Tryz.zeroValue177
  g3 := by kernel_rfl
  g4 := by kernel_rfl }
open Go.RowKit Go.Lib in
theorem Tryz.strings_explode_all (s : ByteArray) (n : Int) (w : World) (hn : n < 0) (hs : s.size < 4294967281) (hascii : ∀ (j : Nat) b, s.data.toList[j]? = some b → b.toNat < 128) :
    Calls Tryz.prog 73 #[.string s, .int .i64 n] w fun e w' =>
      e = .returned (.slice (some ⟨(w.iter s s.size).heap.size, 0, none⟩) s.size s.size) ∧ w' = (w.iter s s.size).alloc (.cells ((Lib.charsB s).map Value.string).toArray 9) := Any.strings_explode_all Tryz.lays268 (by kernel_rfl) s n w hn hs hascii
open Go.RowKit Go.Lib in
/-- strings.genSplit at sep == "", n < 0: 'return explode(s, n)'. (LAID: no walk: one application.) -/
theorem Tryz.strings_genSplit_chars (s sep : ByteArray) (sv n : Int) (w : World) (h0 : sep.size = 0) (hn : n < 0) (hs : s.size < 4294967281) (hascii : ∀ (j : Nat) b, s.data.toList[j]? = some b → b.toNat < 128) :
    Calls Tryz.prog 54 #[.string s, .string sep, .int .i64 sv, .int .i64 n] w fun e w' =>
      e = .returned (.slice (some ⟨(w.iter s s.size).heap.size, 0, none⟩) s.size s.size) ∧ w' = (w.iter s s.size).alloc (.cells ((Lib.charsB s).map Value.string).toArray 9) := Any.strings_genSplit_chars Tryz.lays221 (by kernel_rfl) s sep sv n w h0 hn hs hascii
open Go.RowKit Go.Lib in
/-- strings.Split(s, ""), s ASCII: a piece a byte. (LAID: no walk: one application.) -/
theorem Tryz.strings_Split_chars (s sep : ByteArray) (w : World) (h0 : sep.size = 0) (hs : s.size < 4294967281) (hascii : ∀ (j : Nat) b, s.data.toList[j]? = some b → b.toNat < 128) :
    Calls Tryz.prog 35 #[.string s, .string sep] w fun e w' =>
      e = .returned (.slice (some ⟨(w.iter s s.size).heap.size, 0, none⟩) s.size s.size) ∧ w' = (w.iter s s.size).alloc (.cells ((Lib.charsB s).map Value.string).toArray 9) := Any.strings_Split_chars Tryz.lays146 (by kernel_rfl) s sep w h0 hs hascii
def Tryz.lays260_ren : Go.Shelf.Ren := ⟨fun | 260 => 96 | n => n, fun | 9 => 9 | 21 => 21 | 3 => 3 | 4 => 4 | 5 => 5 | 119 => 174 | 0 => 0 | 46 => 111 | 139 => 177 | 138 => 176 | n => n, fun | 3 => 1 | 4 => 2 | n => n⟩
theorem Tryz.lays260 : Go.Proofs.Lays.n260 Tryz.prog Tryz.lays260_ren := {
  mixed := by kernel_rfl
  f260 := Tryz.func96.trans (congrArg some (by kernel_rfl))
  t0 := Tryz.underlying0
  a0 := Tryz.isAgg0
  z0 := Tryz.sizeOf0
  v0 := Tryz.zeroValue0
  t3 := Tryz.underlying3
  a3 := Tryz.isAgg3
  z3 := Tryz.sizeOf3
  v3 := Tryz.zeroValue3
  t4 := Tryz.underlying4
  a4 := Tryz.isAgg4
  z4 := Tryz.sizeOf4
  v4 := Tryz.zeroValue4
  t5 := Tryz.underlying5
  a5 := Tryz.isAgg5
  z5 := Tryz.sizeOf5
  v5 := Tryz.zeroValue5
  t9 := Tryz.underlying9
  a9 := Tryz.isAgg9
  z9 := Tryz.sizeOf9
  v9 := Tryz.zeroValue9
  t21 := Tryz.underlying21
  a21 := Tryz.isAgg21
  z21 := Tryz.sizeOf21
  v21 := Tryz.zeroValue21
  t46 := Tryz.underlying111
  a46 := Tryz.isAgg111
  z46 := Tryz.sizeOf111
  v46 := Tryz.zeroValue111
  t119 := Tryz.underlying174
  a119 := Tryz.isAgg174
  z119 := Tryz.sizeOf174
  t138 := Tryz.underlying176
  a138 := Tryz.isAgg176
  z138 := Tryz.sizeOf176
  v138 := Tryz.zeroValue176
  t139 := Tryz.underlying177
  a139 := Tryz.isAgg177
  z139 := Tryz.sizeOf177
  v139 := Tryz.zeroValue177
  g3 := by kernel_rfl
  g4 := by kernel_rfl }
open Go.RowKit Go.Lib in
theorem Tryz.utf8_decodeRuneInStringSlow (s : ByteArray) (w : World) (hT : Lib.Utf8Tabs 1 2 w) :
    Calls Tryz.prog 96 #[.string s] w fun e w' => e = .returned (.tuple #[.int .i32 (Lib.decodeGo s).1, .int .i64 (Lib.decodeGo s).2]) ∧ Below w.heap.size w w' := Any.utf8_decodeRuneInStringSlow Tryz.lays260 s w hT
open Go.RowKit Go.Lib in
/-- **unicode/utf8.DecodeRuneInString AT EVERY STRING.** (LAID: no walk: one application.) -/
theorem Tryz.utf8_DecodeRuneInString (s : ByteArray) (w : World) (hT : Lib.Utf8Tabs 1 2 w) :
    Calls Tryz.prog 88 #[.string s] w fun e w' => e = .returned (.tuple #[.int .i32 (Lib.decodeGo s).1, .int .i64 (Lib.decodeGo s).2]) ∧ Below w.heap.size w w' := Any.utf8_DecodeRuneInString Tryz.lays197 s w hT
def Tryz.lays109_ren : Go.Shelf.Ren := ⟨fun | 109 => 53 | n => n, fun | 31 => 22 | 9 => 9 | 3 => 3 | 0 => 0 | 4 => 4 | n => n, fun | n => n⟩
theorem Tryz.lays109 : Go.Proofs.Lays.n109 Tryz.prog Tryz.lays109_ren := {
  mixed := by kernel_rfl
  f109 := Tryz.func53.trans (congrArg some (by kernel_rfl))
  t0 := Tryz.underlying0
  a0 := Tryz.isAgg0
  z0 := Tryz.sizeOf0
  v0 := Tryz.zeroValue0
  t3 := Tryz.underlying3
  a3 := Tryz.isAgg3
  z3 := Tryz.sizeOf3
  v3 := Tryz.zeroValue3
  t4 := Tryz.underlying4
  a4 := Tryz.isAgg4
  z4 := Tryz.sizeOf4
  v4 := Tryz.zeroValue4
  t9 := Tryz.underlying9
  a9 := Tryz.isAgg9
  z9 := Tryz.sizeOf9
  v9 := Tryz.zeroValue9
  t31 := Tryz.underlying22
  a31 := Tryz.isAgg22
  z31 := Tryz.sizeOf22
  v31 := Tryz.zeroValue22 }
open Go.Lib in
/-- slices.Index at []string: "Index returns the index of the first occurrence of v in s, or -1 if not present.": IT RETURNS 'Lib.idxOfS (the elements) v'; the world is as it was. 'zs': what the cells behind the slice's address hold (its spare capacity too, if you have it); 'zs.take n': its elements. (LAID: no walk: one application.) -/
theorem Tryz.slices_Index_string (b off n c : Nat) (zs : List ByteArray) (x : ByteArray) (w : World) (hz : n ≤ zs.length) (hbig : n ≤ 9223372036854775807) (hc : ∀ j, j < zs.length → w.cell? ⟨b, off + j, none⟩ = some (.string (zs.getD j ByteArray.empty))) :
    Calls Tryz.prog 53 #[.slice (some ⟨b, off, none⟩) n c, .string x] w fun e w' => e = .returned (.int .i64 (Lib.idxOfS (zs.take n) x)) ∧ w' = w := Any.slices_Index_string Tryz.lays109 b off n c zs x w hz hbig hc
open Go.Lib in
/-- The same at a slice of length 0, a nil one too: no cell is known, none is asked for. (LAID: no walk: one application.) -/
theorem Tryz.slices_Index_string_empty (a : Option Addr) (c : Nat) (x : ByteArray) (w : World) :
    Calls Tryz.prog 53 #[.slice a 0 c, .string x] w fun e w' => e = .returned (.int .i64 (Lib.idxOfS [] x)) ∧ w' = w := Any.slices_Index_string_empty Tryz.lays109 a c x w
def Tryz.lays110_ren : Go.Shelf.Ren := ⟨fun | 110 => 34 | 109 => 53 | n => n, fun | 31 => 22 | 9 => 9 | 4 => 4 | 3 => 3 | 0 => 0 | n => n, fun | n => n⟩
theorem Tryz.lays110 : Go.Proofs.Lays.n110 Tryz.prog Tryz.lays110_ren := {
  mixed := by kernel_rfl
  f109 := Tryz.func53.trans (congrArg some (by kernel_rfl))
  f110 := Tryz.func34.trans (congrArg some (by kernel_rfl))
  t0 := Tryz.underlying0
  a0 := Tryz.isAgg0
  z0 := Tryz.sizeOf0
  v0 := Tryz.zeroValue0
  t3 := Tryz.underlying3
  a3 := Tryz.isAgg3
  z3 := Tryz.sizeOf3
  v3 := Tryz.zeroValue3
  t4 := Tryz.underlying4
  a4 := Tryz.isAgg4
  z4 := Tryz.sizeOf4
  v4 := Tryz.zeroValue4
  t9 := Tryz.underlying9
  a9 := Tryz.isAgg9
  z9 := Tryz.sizeOf9
  v9 := Tryz.zeroValue9
  t31 := Tryz.underlying22
  a31 := Tryz.isAgg22
  z31 := Tryz.sizeOf22
  v31 := Tryz.zeroValue22 }
open Go.Lib in
/-- slices.Contains at []string: "Contains reports whether v is present in s.": IT RETURNS 'Lib.containsS (the elements) v', which is true just where v is among them ('Lib.containsS_iff'); the world is as it was. ITS CALLEE slices.Index IS MET BY ITS OWN CONTRACT OFF THE SHELF (lay that first): no loop is walked here. (LAID: no walk: one application.) -/
theorem Tryz.slices_Contains_string (b off n c : Nat) (zs : List ByteArray) (x : ByteArray) (w : World) (hz : n ≤ zs.length) (hbig : n ≤ 9223372036854775807) (hc : ∀ j, j < zs.length → w.cell? ⟨b, off + j, none⟩ = some (.string (zs.getD j ByteArray.empty))) :
    Calls Tryz.prog 34 #[.slice (some ⟨b, off, none⟩) n c, .string x] w fun e w' => e = .returned (.bool (Lib.containsS (zs.take n) x)) ∧ w' = w := Any.slices_Contains_string Tryz.lays110 b off n c zs x w hz hbig hc
open Go.Lib in
/-- The same at a slice of length 0, a nil one too. (LAID: no walk: one application.) -/
theorem Tryz.slices_Contains_string_empty (a : Option Addr) (c : Nat) (x : ByteArray) (w : World) :
    Calls Tryz.prog 34 #[.slice a 0 c, .string x] w fun e w' => e = .returned (.bool false) ∧ w' = w := Any.slices_Contains_string_empty Tryz.lays110 a c x w
def Tryz.laysNm216_ren : Go.Shelf.Ren := ⟨fun | 16 => 13 | n => n, fun | 24 => 22 | 9 => 9 | 4 => 4 | n => n, fun | n => n⟩
theorem Tryz.laysNm216 : Go.Proofs.Lays2.n16 Tryz.prog Tryz.laysNm216_ren := {
  mixed := by kernel_rfl
  f16 := Tryz.func13.trans (congrArg some (by kernel_rfl))
  t4 := Tryz.underlying4
  a4 := Tryz.isAgg4
  z4 := Tryz.sizeOf4
  v4 := Tryz.zeroValue4
  t9 := Tryz.underlying9
  a9 := Tryz.isAgg9
  z9 := Tryz.sizeOf9
  v9 := Tryz.zeroValue9
  t24 := Tryz.underlying22
  a24 := Tryz.isAgg22
  z24 := Tryz.sizeOf22
  v24 := Tryz.zeroValue22
  i9 := by kernel_rfl }
open Go.RowKit Go.Lib in
/-- slices.Clone at []string: "Clone returns a copy of the slice. The elements are copied using assignment, so this is a shallow clone. The result may have additional unused capacity. The result preserves the nilness of s.": OF A SLICE THAT IS NOT nil IT RETURNS A SLICE THAT IS NOT nil, OF THE SAME ELEMENTS, IN MEMORY OF THE CALL's OWN: in the how-to's words (6f): 'w'.ownsRow B e 1 v' n cells': v' begins at the head of a row among the blocks from B on (B: the heap's size at the call), not frozen, whose first cells are the elements · 'Below B w w'': below B all is as it was. The capacity is whatever the run-time gives. 'zs': what the cells behind the slice's address hold; 'zs.take n': its elements. (LAID: no walk: one application.) -/
theorem Tryz.slices_Clone_string (b off n c : Nat) (zs : List ByteArray) (w : World) (hz : n ≤ zs.length) (hbig : n * 16 ≤ 140737488355328) (hc : ∀ j, j < zs.length → w.cell? ⟨b, off + j, none⟩ = some (.string (zs.getD j ByteArray.empty))) :
    Calls Tryz.prog 13 #[.slice (some ⟨b, off, none⟩) n c] w fun e w' => ∃ v', e = .returned v' ∧ w'.ownsRow w.heap.size 9 1 v' n ((zs.take n).map (Value.string)) ∧ v' ≠ .slice none 0 0 ∧ Below w.heap.size w w' := Any.slices_Clone_string Tryz.laysNm216 b off n c zs w hz hbig hc
open Go.RowKit Go.Lib in
/-- The same at nil: nil comes back; the world is as it was. (LAID: no walk: one application.) -/
theorem Tryz.slices_Clone_string_nil (n c : Nat) (w : World) :
    Calls Tryz.prog 13 #[.slice none n c] w fun e w' => e = .returned (.slice none 0 0) ∧ w' = w := Any.slices_Clone_string_nil Tryz.laysNm216 n c w
open Go.RowKit Go.Lib in
/-- The same at a slice of length 0 that is not nil, WHATEVER ITS ADDRESS (no cell is asked for): a slice that is not nil and owns nothing comes back. (LAID: no walk: one application.) -/
theorem Tryz.slices_Clone_string_zero (a : Addr) (c : Nat) (w : World) :
    Calls Tryz.prog 13 #[.slice (some a) 0 c] w fun e w' => ∃ v', e = .returned v' ∧ w'.ownsRow w.heap.size 9 1 v' 0 [] ∧ v' ≠ .slice none 0 0 ∧ Below w.heap.size w w' := Any.slices_Clone_string_zero Tryz.laysNm216 a c w
def Tryz.laysNm237_ren : Go.Shelf.Ren := ⟨fun | 37 => 47 | n => n, fun | 3 => 3 | 4 => 4 | n => n, fun | n => n⟩
theorem Tryz.laysNm237 : Go.Proofs.Lays2.n37 Tryz.prog Tryz.laysNm237_ren := {
  mixed := by kernel_rfl
  f37 := Tryz.func47.trans (congrArg some (by kernel_rfl))
  t3 := Tryz.underlying3
  a3 := Tryz.isAgg3
  z3 := Tryz.sizeOf3
  v3 := Tryz.zeroValue3
  t4 := Tryz.underlying4
  a4 := Tryz.isAgg4
  z4 := Tryz.sizeOf4
  v4 := Tryz.zeroValue4 }
open Go.RowKit Go.Lib in
/-- cmp.isNaN[int]: 'x != x': false. (LAID: no walk: one application.) -/
theorem Tryz.cmp_isNaN_int2 (x : Int) (w : World) :
    Calls Tryz.prog 47 #[.int .i64 x] w fun e w' => e = .returned (.bool false) ∧ w' = w := Any.cmp_isNaN_int2 Tryz.laysNm237 x w
def Tryz.laysSlE041_f13_ren : Go.Shelf.Ren := ⟨fun | 41 => 13 | n => n, fun | 22 => 22 | 23 => 9 | 4 => 4 | n => n, fun | n => n⟩
theorem Tryz.laysSlE041_f13 : Go.Proofs.SlLaysE0.n41 Tryz.prog Tryz.laysSlE041_f13_ren := {
  mixed := by kernel_rfl
  f41 := ⟨Tryz.f13.name, by decide, Tryz.func13.trans (congrArg some (by kernel_rfl))⟩
  t4 := Tryz.underlying4
  a4 := Tryz.isAgg4
  z4 := Tryz.sizeOf4
  v4 := Tryz.zeroValue4
  t22 := Tryz.underlying22
  a22 := Tryz.isAgg22
  z22 := Tryz.sizeOf22
  v22 := Tryz.zeroValue22 }
open Go.RowKit Go.Lib in
/-- slices.Clone: "Clone returns a copy of the slice. The elements are copied using assignment, so this is a shallow clone. The result may have additional unused capacity. The result preserves the nilness of s.": OF A SLICE THAT IS NOT nil IT RETURNS A SLICE THAT IS NOT nil, OF THE SAME CELLS, IN MEMORY OF THE CALL's OWN ('ownsRow': the how-to's 6f); below the heap's size at the call all is as it was. (LAID AT THE INSTANCE 'slices.Clone[[]string,string]': no walk: one application.) -/
theorem Tryz.slices_Clone (i0 : TypeInfo) (z : Value) (size bytes : Nat) (hi : Tryz.prog.info? 9 = some i0) (hz0 : i0.zero = some z) (hz1 : i0.size = size) (hz2 : i0.bytes = bytes) (hzs : z.cells.size = size) (hsz : 0 < size) (z23 : ∀ w, (Go.sizeOf 9).run Tryz.prog w = .ok size w) (b off n c : Nat) (news : List Value) (w : World) (hl : news.length = n * size) (hn : n ≤ maxLen) (hbig : n * bytes ≤ 140737488355328) (hc : ∀ j u, news[j]? = some u → w.cell? ⟨b, off + j, none⟩ = some u) (h1 : ∀ u ∈ news, u.oneCell' = true) :
    Calls Tryz.prog 13 #[.slice (some ⟨b, off, none⟩) n c] w fun e w' => ∃ v', e = .returned v' ∧ w'.ownsRow w.heap.size 9 size v' n news ∧ v' ≠ .slice none 0 0 ∧ Below w.heap.size w w' := AnyE.slices_Clone Tryz.laysSlE041_f13 i0 z size bytes hi hz0 hz1 hz2 hzs hsz z23 b off n c news w hl hn hbig hc h1
open Go.RowKit Go.Lib in
/-- The same at nil: nil comes back; the world is as it was; nothing is asked of the element's type. (LAID AT THE INSTANCE 'slices.Clone[[]string,string]': no walk: one application.) -/
theorem Tryz.slices_Clone_nil (n c : Nat) (w : World) :
    Calls Tryz.prog 13 #[.slice none n c] w fun e w' => e = .returned (.slice none 0 0) ∧ w' = w := AnyE.slices_Clone_nil Tryz.laysSlE041_f13 n c w
end Go.Proofs
