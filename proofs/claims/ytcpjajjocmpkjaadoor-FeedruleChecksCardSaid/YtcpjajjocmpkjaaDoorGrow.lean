/- Rows that grow by one element, cells of own blocks: lemmas for the proofs of formulas. Generic: no program, no condition. -/
import Derived.Test.YtcpjajjocmpkjaaDoorWorld
namespace Go.Proofs.YtcpjajjocmpkjaaDoor
open Go.RowKit

/-- One element is appended (its cells lie in a new block). -/
theorem app1 {w w1 : World} {base n2 n c L sz : Nat} {T : TypeId} {p : Option Addr} {xs : List Value} {cs : Array Value} (ho : w.ownsRow base T L (.slice p n c) n xs) (hb : base ≤ w.heap.size) (hn : NewB w (.cells cs T) n2 w1) (hL : cs.size = L)
    (hv : ∀ u ∈ cs.toList, u.oneCell' = true) (h1 : n + 1 ≤ 9223372036854775807) (h2 : (n + 1) * sz ≤ 140737488355328) {X : Option Addr → Nat → World → Prop}
    (h : ∀ (p' : Option Addr) (c' : Nat) (w' : World), w'.ownsRow base T L (.slice p' (n + 1) c') (n + 1) (xs ++ cs.toList) → Kp (fun k => (Value.slice p n c).ownBlock = some k) w w' → w1.heap.size ≤ w'.heap.size → X p' c' w') :
    ∃ (base : Nat) (xs news : List Value), w1.ownsRow base T L (.slice p n c) n xs ∧ news.length = L ∧ SrcP w1 (some (Addr.mk n2 0 none)) news ∧ n + 1 ≤ 9223372036854775807 ∧ (n + 1) * sz ≤ 140737488355328 ∧ base ≤ w1.heap.size ∧
      ∀ (p' : Option Addr) (c' : Nat) (w' : World), w'.ownsRow base T L (.slice p' (n + 1) c') (n + 1) (xs ++ news) → w1.grownBy w' (Value.slice p n c).ownBlock → X p' c' w' := by
  have hk := hn.kp (fun _ => False)
  refine ⟨base, xs, cs.toList, owns_kp ho hk (fun _ _ h => h), by simpa using hL, src_block hn.block hv, h1, h2, Nat.le_trans hb hk.size, fun p' c' w' ho' hg => h p' c' w' ho' ?_ hg.size⟩
  exact (hn.kp _).grown hg (fun k hk => .inr hk)
/-- The block of a row is not before its base. -/
theorem own_ge {w : World} {base : Nat} {e : TypeId} {size : Nat} {v : Value} {n : Nat} {xs : List Value} (h : w.ownsRow base e size v n xs) {k : Nat} (hk : v.ownBlock = some k) : base ≤ k := (h.lt k hk).1
theorem own_lt {w : World} {base : Nat} {e : TypeId} {size : Nat} {v : Value} {n : Nat} {xs : List Value} (h : w.ownsRow base e size v n xs) {k : Nat} (hk : v.ownBlock = some k) : k < w.heap.size := (h.lt k hk).2
theorem cell_at {w : World} {b o : Nat} {c : Array Value} {t : TypeId} {f : Nat × Nat} {v : Value} (h : w.heap[b]? = some (.cells c t f)) (hv : c[o]? = some v) : w.cell? ⟨b, o, none⟩ = some v := by rw [cell_block h]; exact hv
/-- A block that can be written: a cell of it. -/
theorem cell_wr {w : World} {b o : Nat} {c : Array Value} {t : TypeId} (h : w.heap[b]? = some (.cells c t (0, 0))) (ho : o < c.size) : (∃ u, w.cell? ⟨b, o, none⟩ = some u) ∧ w.frozen? ⟨b, o, none⟩ = false :=
  ⟨⟨c[o], by rw [cell_block h]; simp [ho]⟩, frozen_block h _⟩
/-- An element of a row, read. -/
theorem own_cell {w : World} {base : Nat} {e : TypeId} {n c : Nat} {p : Option Addr} {xs : List Value} (h : w.ownsRow base e 1 (.slice p n c) n xs) {k : Nat} (hk : k < n) : ∃ g v, p = some ⟨g, 0, none⟩ ∧ xs[k]? = some v ∧ w.cell? ⟨g, 0 + k, none⟩ = some v := by
  have hl := h.1
  rcases h.2 with ⟨_, hn⟩ | ⟨g, cap, cur, hv, _, hg, _, _, _, ht⟩
  · omega
  · simp only [Value.slice.injEq] at hv
    obtain ⟨v, hx⟩ : ∃ v, xs[k]? = some v := ⟨_, List.getElem?_eq_getElem (by omega)⟩
    refine ⟨g, v, hv.1, hx, ?_⟩
    rw [cell_block hg, Nat.zero_add]
    rw [← ht, List.getElem?_take] at hx
    simp only [Nat.mul_one, hk, if_true] at hx
    rw [Array.getElem?_toList] at hx
    rw [hx]
/-- What lies in the block of a row. -/
theorem own_type {w : World} {base : Nat} {e : TypeId} {size : Nat} {v : Value} {n : Nat} {xs : List Value} (h : w.ownsRow base e size v n xs) {k : Nat} (hk : v.ownBlock = some k) : ∃ c, w.heap[k]? = some (.cells c e (0, 0)) := by
  rcases h.2 with ⟨rfl, _⟩ | ⟨g, cap, cur, rfl, _, hg, _⟩
  · simp [Value.ownBlock] at hk
  · simp only [Value.ownBlock, Option.some.injEq] at hk
    subst hk
    exact ⟨cur, hg⟩
theorem putL_all : ∀ (vs pre c : List Value), c.length = vs.length → putL (pre ++ c) pre.length vs = pre ++ vs
  | [], pre, [], _ => by simp [putL]
  | [], pre, _ :: _, h => by simp at h
  | v :: r, pre, [], h => by simp at h
  | v :: r, pre, x :: c, h => by
    have := putL_all r (pre ++ [v]) c (by simpa using h)
    simp only [putL]
    simpa using this
/-- All cells of a block are written. -/
theorem PutB.full {w w1 : World} {b : Nat} {cs : List Value} (h : PutB w b 0 cs w1) {c : Array Value} {t : TypeId} {f : Nat × Nat} (hb : w.heap[b]? = some (.cells c t f)) (hl : c.size = cs.length) : w1.heap[b]? = some (.cells cs.toArray t f) := by
  have := putL_all cs [] c.toList (by simpa using hl)
  simp at this
  rw [h.block hb, this]

end Go.Proofs.YtcpjajjocmpkjaaDoor
