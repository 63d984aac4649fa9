/- The contracts of wildmat's spread and Match, by plain functions. The pattern lies in the memory; at most 2^20 elements. -/
import Derived.Test.YtkkfnlehlkiejaaGreatDoorZ03
import Derived.Test.YtkkfnlehlkiejaaGreatDoorProg
import Derived.Test.YtkkfnlehlkiejaaGreatDoorZ02
import Derived.KernelRfl
import Derived.Test.YtkkfnlehlkiejaaGreatDoorRows
import Derived.Test.YtkkfnlehlkiejaaGreatDoorCards
import Derived.Test.YtkkfnlehlkiejaaGreatDoorTie
import Derived.WalkKit
import Derived.ProofKit
import Derived.OpenShut
import Derived.Shelf.Vars
import Derived.Deep.Slices
import Derived.Deep.DeepHandedRow
import Derived.Lib.LaidTab
namespace Go.Proofs.YtkkfnlehlkiejaaGreatDoor
open Go.RowKit

/-! ### Rows of bools -/
def bools (f : Nat → Bool) (n : Nat) : Array Value := ((List.range n).map fun j => Value.bool (f j)).toArray
theorem bools_size (f : Nat → Bool) (n : Nat) : (bools f n).size = n := by simp [bools]
theorem bools_get (f : Nat → Bool) (n k : Nat) (h : k < n) : (bools f n)[k]? = some (.bool (f k)) := by
  simp [bools, h]
theorem bools_congr {f g : Nat → Bool} {n : Nat} (h : ∀ j, j < n → f j = g j) : bools f n = bools g n := by
  unfold bools
  congr 1
  exact List.map_congr_left fun j hj => by rw [h j (List.mem_range.1 hj)]
theorem bools_put {f g : Nat → Bool} {n k : Nat} {b : Bool} (h : ∀ j, j < n → g j = if j = k then b else f j) : (putL (bools f n).toList k [.bool b]).toArray = bools g n := by
  simp only [putL]
  apply Array.ext'
  apply List.ext_getElem?
  intro i
  simp only [bools, List.getElem?_set, List.getElem?_map]
  rcases Nat.lt_or_ge i n with hi | hi
  · by_cases e : k = i
    · subst e
      simp [hi, h k hi]
    · have : ¬ i = k := fun x => e x.symm
      simp [hi, e, h i hi, this]
  · simp [hi]; omega
theorem bools_made (n : Nat) : madeCells #[Value.bool false] (n * 1) = bools (fun _ => false) n := by
  apply Array.ext'
  rw [toList_madeCells_one]
  simp only [bools, Nat.mul_one]
  apply List.ext_getElem?
  intro i
  rcases Nat.lt_or_ge i n with hi | hi <;> simp [hi]

def elS (els : List El) (j : Nat) : Bool := match els[j]? with | some e => e.isStar | none => false
def elH (els : List El) (j : Nat) (c : Int) : Bool := match els[j]? with | some e => hasB e.chars c | none => false
/-- What is reached because a star stands for nothing. -/
def spF (st : Nat → Bool) (m : Nat → Bool) : Nat → Bool
  | 0 => m 0
  | i + 1 => m (i + 1) || (st i && spF st m i)

theorem spread_any {D : Nat → Prop} {w : World} {b : Nat} {s : ByteArray} {els : List El} {g : Nat} {f : Nat → Bool} (hp : PatR D w b s els) (hl : els.length ≤ 1048576) (hg : w.heap[g]? = some (.cells (bools f (els.length + 1)) 4 (0, 0))) (hD : ∀ k, D k → k ≠ g) (c : Nat) :
    Calls Tryz.prog 90 #[.pointer (some ⟨b, 0, none⟩), .slice (some ⟨g, 0, none⟩) (els.length + 1) c] w fun e w' =>
      e = .returned (.tuple #[]) ∧ w'.heap[g]? = some (.cells (bools (spF (elS els) f) (els.length + 1)) 4 (0, 0)) ∧ Kp (· = g) w w' := by
  refine vc_spread b 0 _ _ c w _ ?_
  unfold VC_spread
  obtain ⟨p, n, c', hb, hDb, ho, hDo⟩ := hp
  have hn := ho.1
  rw [List.length_map] at hn
  have hn : n = els.length := by omega
  subst hn
  refine ⟨p, els.length, c', by rw [Nat.zero_add]; exact cell_at hb rfl, ?_⟩
  refine count1 els.length (by omega) (fun k w' => w'.heap[g]? = some (.cells (bools (fun j => if j ≤ k then spF (elS els) f j else f j) (els.length + 1)) 4 (0, 0)) ∧ Kp (· = g) w w') ⟨?_, .refl _ _⟩ ?_
  · rw [hg]
    congr 2
    apply bools_congr
    intro j _
    by_cases h : j ≤ 0
    · obtain rfl : j = 0 := by omega
      rfl
    · rw [if_neg h]
  · intro I m k w' hk ⟨hg', hw⟩ next
    refine bsp_intro (fun hlt => ?_) (fun hge => ?_)
    · have hlt : k < els.length := by simpa using hlt
      have ho' : w'.ownsRow 0 167 1 (.slice p els.length c') els.length (els.map El.val) := owns_kp ho hw (fun k hk e => hD k (hDo k hk) e)
      obtain ⟨q, v, hp, hv, hc⟩ := own_cell ho' hlt
      subst hp
      obtain ⟨x, hx⟩ : ∃ x, els[k]? = some x := ⟨_, List.getElem?_eq_getElem hlt⟩
      rw [List.getElem?_map, hx] at hv
      simp only [Option.map_some, Option.some.injEq] at hv
      subst hv
      have e0 : (k : Int).toNat = k := by omega
      have e1 : (IntKind.i64.wrap ((k : Int) + 1)).toNat = k + 1 := by rw [wr64 (by omega) (by omega)]; omega
      have e2 : IntKind.i64.wrap ((k : Int) + 1) = ((k + 1 : Nat) : Int) := by rw [wr64 (by omega) (by omega)]; omega
      show (0 ≤ (k : Int) ∧ (k : Int) < (els.length : Int)) ∧ _
      refine ⟨⟨by omega, by omega⟩, x.val, by rw [e0]; exact hc, ?_⟩
      show (0 ≤ (k : Int) ∧ (k : Int) < ((els.length + 1 : Nat) : Int)) ∧ _
      refine ⟨⟨by omega, by omega⟩, _, by rw [e0, Nat.zero_add]; exact cell_at hg' (bools_get _ _ _ (by omega)), ?_⟩
      rw [if_pos (Nat.le_refl k)]
      have keep : ∀ w2, Kp (· = g) w w2 → w2.heap[g]? = some (.cells (bools (fun j => if j ≤ k then spF (elS els) f j else f j) (els.length + 1)) 4 (0, 0)) → (elS els k && spF (elS els) f k) = false → w2.heap[g]? = some (.cells (bools (fun j => if j ≤ k + 1 then spF (elS els) f j else f j) (els.length + 1)) 4 (0, 0)) ∧ Kp (· = g) w w2 := fun w2 h1 h2 h3 => by
        refine ⟨?_, h1⟩
        rw [h2]
        congr 2
        apply bools_congr
        intro j _
        by_cases hj : j ≤ k
        · rw [if_pos hj, if_pos (by omega)]
        · rw [if_neg hj]
          by_cases hj1 : j ≤ k + 1
          · obtain rfl : j = k + 1 := by omega
            rw [if_pos hj1]
            simp [spF, h3]
          · rw [if_neg hj1]
      refine bsp_intro (fun hm => ⟨(isStar_any x w').mono fun e w2 ⟨he, hk2⟩ => ⟨_, he, ?_⟩⟩) (fun hm => ?_)
      · have hg2 := hk2.blk hg' (fun h => h)
        have hw2 : Kp (· = g) w w2 := hw.trans (hk2.mono fun _ _ h => h.elim)
        have hst : elS els k = x.isStar := by simp [elS, hx]
        refine bsp_intro (fun h4 => ?_) (fun h4 => ?_)
        · have h4 : x.isStar = true := by simpa using h4
          show (0 ≤ IntKind.i64.wrap ((k : Int) + 1) ∧ IntKind.i64.wrap ((k : Int) + 1) < ((els.length + 1 : Nat) : Int)) ∧ _
          rw [e1, e2]
          refine ⟨⟨by omega, by omega⟩, by rw [Nat.zero_add]; exact cell_wr hg2 (by rw [bools_size]; omega), fun w3 hp3 => ?_⟩
          have hg3 := hp3.block hg2
          rw [Nat.zero_add] at hg3
          rw [← e2]
          refine next (by omega) w3 ⟨?_, hw2.trans hp3.kp⟩
          rw [hg3]
          congr 2
          apply bools_put
          intro j _
          by_cases hj : j = k + 1
          · subst hj
            simp [spF, hst, h4, hm]
          · rw [if_neg hj]
            by_cases hj1 : j ≤ k
            · rw [if_pos hj1, if_pos (by omega)]
            · rw [if_neg hj1, if_neg (by omega)]
        · have h4 : x.isStar = false := by simpa using h4
          exact next (by omega) w2 (keep w2 hw2 hg2 (by simp [hst, h4]))
      · exact next (by omega) w' (keep w' hw hg' (by rw [hm]; simp))
    · have hge : ¬ k < els.length := by simpa using hge
      obtain rfl : k = els.length := by omega
      refine ⟨rfl, ?_, hw⟩
      rw [hg']
      congr 2
      apply bools_congr
      intro j hj
      rw [if_pos (by omega)]

/-! ### Match -/
/-- What is reached behind a character. -/
def stpF (els : List El) (c : Int) (f : Nat → Bool) (j : Nat) : Bool :=
  (elS els j && f j && elH els j c) || (match j with | 0 => false | i + 1 => !elS els i && f i && elH els i c)
/-- What is reached behind k characters. -/
def runF (els : List El) (s : ByteArray) : Nat → Nat → Bool
  | 0 => spF (elS els) (fun j => j == 0)
  | k + 1 => spF (elS els) (stpF els (at8 s k) (runF els s k))
def matchB (els : List El) (s : ByteArray) : Bool := runF els s s.size els.length
/-- The marks of the next row behind k elements. -/
def nxF (els : List El) (c : Int) (f : Nat → Bool) (k j : Nat) : Bool :=
  (decide (j < k) && (elS els j && f j && elH els j c)) || (match j with | 0 => false | i + 1 => decide (i < k) && (!elS els i && f i && elH els i c))
theorem nxF_end (els : List El) (c : Int) (f : Nat → Bool) (j : Nat) (hj : j < els.length + 1) : nxF els c f els.length j = stpF els c f j := by
  unfold nxF stpF
  have h0 : ∀ j, ¬ j < els.length → elS els j = false := fun j h => by simp [elS, List.getElem?_eq_none (Nat.le_of_not_lt h)]
  cases j with
  | zero =>
    by_cases h : 0 < els.length
    · simp [h]
    · simp [h, h0 0 h]
  | succ i =>
    have hi : i < els.length := by omega
    by_cases h : i + 1 < els.length
    · simp [h, hi]
    · simp [h, hi, h0 _ h]
theorem nxF_succ (els : List El) (c : Int) (f : Nat → Bool) (i j : Nat) : nxF els c f (i + 1) j = if (elS els i = true ∧ j = i ∨ elS els i = false ∧ j = i + 1) ∧ (f i && elH els i c) = true then true else nxF els c f i j := by
  have d1 : ∀ a : Nat, decide (a < i + 1) = (decide (a < i) || decide (a = i)) := fun a => by rw [Bool.eq_iff_iff]; simp; omega
  unfold nxF
  by_cases e1 : j = i
  · subst e1
    have e3 : ¬ j = j + 1 := by omega
    simp only [d1, e3, Nat.lt_irrefl, and_false, or_false, and_true, decide_true, decide_false]
    cases j with
    | zero => cases elS els 0 <;> cases f 0 <;> cases elH els 0 c <;> simp
    | succ j =>
      have : ¬ j = j + 1 := by omega
      have h2 : decide (j < j + 1) = true := by simp
      simp only [h2, this, decide_false]
      cases elS els (j + 1) <;> cases f (j + 1) <;> cases elH els (j + 1) c <;> simp
  · by_cases e2 : j = i + 1
    · subst e2
      have e3 : ¬ i + 1 < i := by omega
      simp only [d1, e1, e3, Nat.lt_irrefl, and_false, false_or, and_true, decide_true, decide_false]
      cases elS els i <;> cases f i <;> cases elH els i c <;> simp
    · simp only [d1, e1, e2, and_false, or_false, false_and, if_false, decide_false]
      cases j with
      | zero => simp
      | succ j =>
        have : ¬ j = i := by omega
        simp [this]
theorem spF_congr {st m m' : Nat → Bool} : ∀ (j : Nat), (∀ i, i ≤ j → m i = m' i) → spF st m j = spF st m' j
  | 0, h => h 0 (Nat.le_refl _)
  | j + 1, h => by simp only [spF]; rw [h (j + 1) (Nat.le_refl _), spF_congr j (fun i hi => h i (by omega))]
theorem byte_cell {w : World} {g : Nat} {s : ByteArray} {c : Nat} {t : TypeId} {fz : Nat × Nat} (h : w.heap[g]? = some (.cells (bytesRow s c) t fz)) {k : Nat} (hk : k < s.size) : w.cell? ⟨g, 0 + k, none⟩ = some (.int .u8 (at8 s k)) := by
  rw [cell_block h, Nat.zero_add, bytesRow_at s c k hk, at8_lt s k hk]
  rfl

set_option maxHeartbeats 400000 in
theorem match_any {D : Nat → Prop} {w : World} {b : Nat} {t : ByteArray} {els : List El} (hp : PatR D w b t els) (hl : els.length ≤ 1048576) (s : ByteArray) (hs : s.size ≤ 9223372036854775807) :
    Calls Tryz.prog 68 #[.pointer (some ⟨b, 0, none⟩), .string s] w fun e w' => e = .returned (.bool (matchB els s)) ∧ K0 w w' := by
  refine vc_match b 0 s w _ ?_
  unfold VC_match
  have hp0 : PatR (fun k => k < w.heap.size) w b t els := hp.mono fun k _ h => h
  obtain ⟨p, n, c, hb, hDb, ho, hDo⟩ := hp
  have hn := ho.1
  rw [List.length_map] at hn
  have hn : n = els.length := by omega
  subst hn
  have e1 : IntKind.i64.wrap ((els.length : Int) + 1) = ((els.length + 1 : Nat) : Int) := by rw [wr64 (by omega) (by omega)]; omega
  refine ⟨p, els.length, c, by rw [Nat.zero_add]; exact cell_at hb rfl, ?_⟩
  rw [e1]
  have e2 : ((els.length + 1 : Nat) : Int).toNat = els.length + 1 := by omega
  rw [e2]
  refine ⟨⟨by omega, by omega, by omega, by omega⟩, fun n_1 w1 hn1 => ⟨⟨by omega, by omega⟩, ?_⟩⟩
  rw [bools_made] at hn1
  have hg1 := hn1.block
  refine ⟨cell_wr hg1 (by rw [bools_size]; omega), fun w2 hp2 => ?_⟩
  have hg2 := hp2.block hg1
  rw [bools_put (g := fun j => j == 0) (fun j _ => by by_cases h : j = 0 <;> simp [h])] at hg2
  have hnew : w.heap.size ≤ n_1 := hn1.ge
  have hw2 : K0 w w2 := (hn1.kp _).fresh hp2.kp (fun i hi e => by omega)
  have hp2' := hp0.kp hw2 (fun k hk _ h => h)
  refine ⟨(spread_any hp2' hl hg2 (fun k hk e => by omega) _).mono fun e w3 ⟨he, hg3, hk3⟩ => ⟨he, fun c1 n_2 w4 hc1 hn4 => ?_⟩⟩
  have hw3 : K0 w w3 := hw2.fresh hk3 (fun i hi e => by omega)
  have hw4 : K0 w w4 := hw3.trans ((hn4.kp _).of_drew)
  have hg4 := (hn4.kp (fun _ => False)).blk (blk_drew hg3) (fun h => h)
  have hb4 := hn4.block
  have hn2 : w.heap.size ≤ n_2 := Nat.le_trans hw3.size hn4.ge
  refine ⟨fun vs w' => ∃ (g k : Nat), vs = [.slice (some ⟨g, 0, none⟩) (els.length + 1) (els.length + 1), .int .i64 k] ∧ k ≤ s.size ∧ w.heap.size ≤ g ∧ g ≠ n_2 ∧ w'.heap[g]? = some (.cells (bools (runF els s k) (els.length + 1)) 4 (0, 0)) ∧
      w'.heap[n_2]? = some (.cells (bytesRow s c1) 5 ((bytesRow s c1).size, (bytesRow s c1).size + 1)) ∧ K0 w w', fun vs _ => (match vs with | [_, .int _ x] => s.size - x.toNat | _ => 0),
    ⟨n_1, 0, rfl, by omega, hnew, fun e => by have h9 := block_lt hg3; have h8 := hn4.ge; have : w3.drew.heap.size = w3.heap.size := rfl; omega, hg4, hb4, hw4⟩, fun q nn cc x w' ⟨g, k, hv, hk, hg, hgn, hgw, hbw, hw'⟩ => ?_⟩
  simp only [List.cons.injEq, Value.int.injEq, true_and, Value.slice.injEq, and_true] at hv
  obtain ⟨⟨rfl, rfl, rfl⟩, rfl⟩ := hv
  have hpw := hp0.kp hw' (fun k hk _ h => h)
  have e0 : (k : Int).toNat = k := by omega
  have hpw' := hpw
  obtain ⟨p', n', c', hb', hDb', ho', hDo'⟩ := hpw'
  have hn' := ho'.1
  rw [List.length_map] at hn'
  have hn' : n' = els.length := by omega
  subst hn'
  refine bsp_intro (fun hlt => ⟨⟨by omega, by simpa using hlt⟩, ?_⟩) (fun hge => ?_)
  · have hlt : k < s.size := by simpa using hlt
    refine ⟨at8 s k, by rw [e0]; exact byte_cell hbw hlt, ⟨by omega, by omega, by omega, by omega⟩, fun n_3 w5 hn5 => ?_⟩
    rw [e2] at hn5 ⊢
    rw [bools_made] at hn5
    have hn3 : w.heap.size ≤ n_3 := Nat.le_trans hw'.size hn5.ge
    have hg3n : g < n_3 := Nat.lt_of_lt_of_le (block_lt hgw) hn5.ge
    have hn23 : n_2 < n_3 := Nat.lt_of_lt_of_le (block_lt hbw) hn5.ge
    have hw5 : K0 w w5 := hw'.trans (hn5.kp _)
    have hK5 := hn5.kp (fun _ => False)
    refine ⟨p', els.length, c', by rw [Nat.zero_add]; exact cell_at (hK5.blk hb' (fun h => h)) rfl, ?_⟩
    refine count1 els.length (by omega) (fun i w6 => w6.heap[n_3]? = some (.cells (bools (nxF els (at8 s k) (runF els s k) i) (els.length + 1)) 4 (0, 0)) ∧ Kp (· = n_3) w5 w6) ⟨?_, .refl _ _⟩ ?_
    · rw [hn5.block]
      congr 2
      apply bools_congr
      intro j _
      cases j <;> simp [nxF]
    · intro I m i w6 hi ⟨h6, hk6⟩ next
      have hw6 : K0 w w6 := hw5.fresh hk6 (fun i hi e => by omega)
      have ho6 : w6.ownsRow 0 167 1 (.slice p' els.length c') els.length (els.map El.val) := owns_kp (owns_kp ho' hK5 (fun _ _ h => h)) hk6 (fun k hk e => by have := hDo' k hk; omega)
      have hg6 := hk6.blk (hK5.blk hgw (fun h => h)) (fun e => by omega)
      have hb6 := hk6.blk (hK5.blk hbw (fun h => h)) (fun e => by omega)
      refine bsp_intro (fun hlt6 => ?_) (fun hge6 => ?_)
      · have hlt6 : i < els.length := by simpa using hlt6
        have f0 : (i : Int).toNat = i := by omega
        have f1 : IntKind.i64.wrap ((i : Int) + 1) = ((i + 1 : Nat) : Int) := by rw [wr64 (by omega) (by omega)]; omega
        have f2 : ((i + 1 : Nat) : Int).toNat = i + 1 := by omega
        refine ⟨fun _ w7 => w7.heap[n_3]? = some (.cells (bools (nxF els (at8 s k) (runF els s k) (i + 1)) (els.length + 1)) 4 (0, 0)) ∧ Kp (· = n_3) w5 w7, ?_, fun w7 h7 => next hlt6 w7 h7⟩
        obtain ⟨q6, v, hpq, hv, hc6⟩ := own_cell ho6 hlt6
        subst hpq
        obtain ⟨x, hx⟩ : ∃ x, els[i]? = some x := ⟨_, List.getElem?_eq_getElem hlt6⟩
        rw [List.getElem?_map, hx] at hv
        simp only [Option.map_some, Option.some.injEq] at hv
        subst hv
        have hst : elS els i = x.isStar := by simp [elS, hx]
        have hha : elH els i (at8 s k) = hasB x.chars (at8 s k) := by simp [elH, hx]
        have step : ∀ j, nxF els (at8 s k) (runF els s k) (i + 1) j = if (elS els i = true ∧ j = i ∨ elS els i = false ∧ j = i + 1) ∧ (runF els s k i && elH els i (at8 s k)) = true then true else nxF els (at8 s k) (runF els s k) i j := by
          exact fun j => nxF_succ _ _ _ _ _
        have keep : ∀ w7, Kp (· = n_3) w5 w7 → w7.heap[n_3]? = some (.cells (bools (nxF els (at8 s k) (runF els s k) i) (els.length + 1)) 4 (0, 0)) → (runF els s k i && elH els i (at8 s k)) = false →
            w7.heap[n_3]? = some (.cells (bools (nxF els (at8 s k) (runF els s k) (i + 1)) (els.length + 1)) 4 (0, 0)) ∧ Kp (· = n_3) w5 w7 := fun w7 h1 h2 h3 => by
          refine ⟨?_, h1⟩
          rw [h2]
          congr 2
          apply bools_congr
          intro j _
          rw [step j, if_neg (fun h => by rw [h3] at h; exact absurd h.2 (by decide))]
        show (0 ≤ (i : Int) ∧ (i : Int) < (els.length : Int)) ∧ _
        refine ⟨⟨by omega, by omega⟩, x.val, by rw [f0]; exact hc6, ?_⟩
        show (0 ≤ (i : Int) ∧ (i : Int) < ((els.length + 1 : Nat) : Int)) ∧ _
        refine ⟨⟨by omega, by omega⟩, _, by rw [f0, Nat.zero_add]; exact cell_at hg6 (bools_get _ _ _ (by omega)), ?_⟩
        rw [Bool.not_not]
        refine bsp_intro (fun hr => ⟨(stands_any x (at8 s k) w6).mono fun e w7 ⟨he, hk7⟩ => ⟨_, he, ?_⟩⟩) (fun hr => keep w6 hk6 h6 (by rw [hr]; rfl))
        have h7 := hk7.blk h6 (fun h => h)
        have hk7' : Kp (· = n_3) w5 w7 := hk6.trans (hk7.mono fun _ _ h => h.elim)
        refine bsp_intro (fun hh => keep w7 hk7' h7 (by rw [hr, hha]; simpa using hh)) (fun hh => ⟨(isStar_any x w7).mono fun e w8 ⟨he, hk8⟩ => ⟨_, he, ?_⟩⟩)
        have hh : hasB x.chars (at8 s k) = true := by simpa using hh
        have h8 := hk8.blk h7 (fun h => h)
        have hk8' : Kp (· = n_3) w5 w8 := hk7'.trans (hk8.mono fun _ _ h => h.elim)
        refine bsp_intro (fun hs8 => ⟨⟨by omega, by omega⟩, by rw [f0, Nat.zero_add]; exact cell_wr h8 (by rw [bools_size]; omega), fun w9 hp9 => ⟨?_, hk8'.trans hp9.kp⟩⟩)
          (fun hs8 => ⟨by rw [f1]; exact ⟨by omega, by omega⟩, by rw [f1, f2, Nat.zero_add]; exact cell_wr h8 (by rw [bools_size]; omega), fun w9 hp9 => ⟨?_, hk8'.trans hp9.kp⟩⟩)
        · have := hp9.block h8
          rw [f0, Nat.zero_add] at this
          rw [this]
          congr 2
          apply bools_put
          intro j _
          rw [step j]
          by_cases hj : j = i
          · rw [if_pos ⟨.inl ⟨by rw [hst]; exact hs8, hj⟩, by rw [hr, hha, hh]; rfl⟩, if_pos hj]
          · rw [if_neg (fun h => ?_), if_neg hj]
            rcases h.1 with h | h
            · exact hj h.2
            · rw [hst, hs8] at h; exact absurd h.1 (by decide)
        · have := hp9.block h8
          rw [f1, f2, Nat.zero_add] at this
          rw [this]
          congr 2
          apply bools_put
          intro j _
          rw [step j]
          by_cases hj : j = i + 1
          · rw [if_pos ⟨.inr ⟨by rw [hst]; exact hs8, hj⟩, by rw [hr, hha, hh]; rfl⟩, if_pos hj]
          · rw [if_neg (fun h => ?_), if_neg hj]
            rcases h.1 with h | h
            · rw [hst, hs8] at h; exact absurd h.1 (by decide)
            · exact hj h.2
      · have hge6 : ¬ i < els.length := by simpa using hge6
        obtain rfl : i = els.length := by omega
        have hp6 := hp0.kp hw6 (fun k hk _ h => h)
        refine ⟨(spread_any hp6 hl h6 (fun k hk e => by omega) _).mono fun e w7 ⟨he, hg7, hk7⟩ => ⟨he, ?_⟩⟩
        have hw7 : K0 w w7 := hw6.fresh hk7 (fun i hi e => by omega)
        have f1 : IntKind.i64.wrap ((k : Int) + 1) = ((k + 1 : Nat) : Int) := by rw [wr64 (by omega) (by omega)]; omega
        rw [f1]
        refine ⟨⟨n_3, k + 1, rfl, by omega, hn3, by omega, ?_, hk7.blk hb6 (fun e => by omega), hw7⟩, by simp; omega⟩
        rw [hg7]
        congr 2
        apply bools_congr
        intro j hj
        exact spF_congr j fun i hi => nxF_end els _ _ i (by omega)
  · have hge : ¬ k < s.size := by simpa using hge
    obtain rfl : k = s.size := by omega
    refine ⟨p', els.length, c', by rw [Nat.zero_add]; exact cell_at hb' rfl, ?_⟩
    show (0 ≤ (els.length : Int) ∧ (els.length : Int) < ((els.length + 1 : Nat) : Int)) ∧ _
    have f0 : (els.length : Int).toNat = els.length := by omega
    refine ⟨⟨by omega, by omega⟩, _, by rw [f0, Nat.zero_add]; exact cell_at hgw (bools_get _ _ _ (by omega)), rfl, hw'⟩

end Go.Proofs.YtkkfnlehlkiejaaGreatDoor

/- Compiled patterns are short, errors are not 0 (plain). No condition. -/
namespace Go.Proofs.YtkkfnlehlkiejaaGreatDoor

theorem compS_len (s : ByteArray) : ∀ (f k : Nat) (acc els : List El), compS s f k acc = .inl els → els.length ≤ acc.length + f
  | 0, k, acc, els, h => by simp [compS] at h; subst h; omega
  | f + 1, k, acc, els, h => by
    unfold compS at h
    have ih := compS_len s f
    repeat' split at h
    all_goals first
      | (have := ih _ _ _ h; simp at this; omega)
      | (cases h; omega)
      | (cases h)
theorem compileR_len {s : ByteArray} {els : List El} (h : compileR s = .inl els) : els.length ≤ 80 := by
  unfold compileR at h
  split at h
  · cases h
  · split at h
    · cases h
    · have := compS_len s _ _ _ _ h; simp at this; omega
theorem compileR_off (s : ByteArray) (o : Nat) (e : Int) (h : compileR s = .inr (o, e)) : o ≤ 80 ∧ e ≠ 0 := by
  have key : ∀ (f k : Nat) (acc : List El), s.size ≤ 80 → compS s f k acc = .inr (o, e) → o ≤ 80 ∧ e ≠ 0 := by
    intro f
    induction f with
    | zero => intro k acc _ h; simp [compS] at h
    | succ f ih =>
      intro k acc hs h
      unfold compS at h
      repeat' split at h
      all_goals first
        | exact ih _ _ hs h
        | (simp at h; obtain ⟨rfl, rfl⟩ := h; exact ⟨by omega, by decide⟩)
        | (cases h)
  unfold compileR at h
  split at h
  · cases h; exact ⟨by omega, by decide⟩
  · split at h
    · cases h; exact ⟨by omega, by decide⟩
    · exact key _ _ _ (by omega) h


end Go.Proofs.YtkkfnlehlkiejaaGreatDoor

/- The formulas of functions by the symbolic evaluator, and that each gives the call's contract. Written by a program (gen.py). No condition. -/
namespace Go.Proofs.YtkkfnlehlkiejaaGreatDoor
set_option maxRecDepth 100000
set_option linter.unusedVariables false

def VC_parseList (s : ByteArray) (w : World) (R : Ending → World → Prop) : Prop :=
 bsp (s.toList == [])
 (R (Ending.returned (Value.tuple #[Value.pointer none, Value.int IntKind.i64 0, Value.int IntKind.i64 4])) w)
 (∀ (n : Nat) (w1 : World),
 NewB w (Obj.cells #[Value.string s, Value.slice none 0 0] 116) n w1 →
 CallsS Tryz.prog 59 #[Value.string s, Value.string (ByteArray.mk #[44])] w1 fun (e : Ending) (w' : World) =>
 ∃ (p : Option Addr),
 ∃ (n_1 : Nat),
 ∃ (c : Nat),
 e = Ending.returned (Value.slice p n_1 c) ∧
 ∃ (I : List Value → World → Prop),
 ∃ (m : List Value → World → Nat),
 I [Value.int IntKind.i64 0, Value.int IntKind.i64 0] w' ∧
 ∀ (x x_1 : Int) (w' : World),
 I [Value.int IntKind.i64 x, Value.int IntKind.i64 x_1] w' →
 bsp (decide (x_1 < (↑n_1 : Int)))
 (nn true p fun (b o : Nat) =>
 (0 ≤ x_1 ∧ x_1 < (↑n_1 : Int)) ∧
 ∃ (x_2 : ByteArray),
 w'.cell? (Addr.mk b (o + x_1.toNat) none) = some (Value.string x_2) ∧
 ∃ (p : Option Addr),
 ∃ (n_2 : Nat),
 ∃ (c : Nat),
 w'.cell? (Addr.mk n (0 + 1) none) = some (Value.slice p n_2 c) ∧
 bsp ((↑n_2 : Int) == 64)
 (R
 (Ending.returned
 (Value.tuple #[Value.pointer none, Value.int IntKind.i64 x, Value.int IntKind.i64 9]))
 w')
 (∀ (n_3 : Nat) (w1 : World),
 NewB w' (Obj.cells #[Value.pointer none, Value.int IntKind.i64 0] 120) n_3 w1 →
 WrL w1 n_3 0 2 ∧
 ∀ (w1_1 : World),
 PutB w1 n_3 0 [Value.pointer none, Value.int IntKind.i64 1] w1_1 →
 ∃ (J : List Value → World → Prop),
 bsp (Lib.hasPrefix x_2.data.toList [33])
 (∃ (S : World → Prop),
 S w1_1.drew ∧
 ((0 : Int) ≤ 1 ∧ 1 ≤ (↑x_2.size : Int)) ∧
 ((∃ (u : Value), w1_1.drew.cell? (Addr.mk n_3 (0 + 1) none) = some u) ∧
 w1_1.drew.frozen? (Addr.mk n_3 (0 + 1) none) = false) ∧
 ∀ (w1 : World),
 PutB w1_1.drew n_3 (0 + 1) [Value.int IntKind.i64 2] w1 →
 J [Value.string (x_2.extract 1 x_2.size)] w1)
 (bsp (Lib.hasPrefix x_2.data.toList [64])
 (∃ (S : World → Prop),
 S w1_1.drew ∧
 ((0 : Int) ≤ 1 ∧ 1 ≤ (↑x_2.size : Int)) ∧
 ((∃ (u : Value), w1_1.drew.cell? (Addr.mk n_3 (0 + 1) none) = some u) ∧
 w1_1.drew.frozen? (Addr.mk n_3 (0 + 1) none) = false) ∧
 ∀ (w1 : World),
 PutB w1_1.drew n_3 (0 + 1) [Value.int IntKind.i64 3] w1 →
 J [Value.string (x_2.extract 1 x_2.size)] w1)
 (J [Value.string x_2] w1_1)) ∧
 ∀ (x_3 : ByteArray) (w'_1 : World),
 J [Value.string x_3] w'_1 →
 CallsS Tryz.prog 61 #[Value.string x_3] w'_1 fun (e : Ending) (w'_2 : World) =>
 ∃ (x_4 : Option Addr),
 ∃ (x_5 : Int),
 ∃ (x_6 : Int),
 e =
 Ending.returned
 (Value.tuple
 #[Value.pointer x_4, Value.int IntKind.i64 x_5, Value.int IntKind.i64 x_6]) ∧
 bsp (x_6 != 0)
 (R
 (Ending.returned
 (Value.tuple
 #[Value.pointer none,
 Value.int IntKind.i64
 (IntKind.i64.wrap
 (IntKind.i64.wrap
 (IntKind.i64.wrap (x + (↑x_2.size : Int)) - (↑x_3.size : Int)) +
 x_5)),
 Value.int IntKind.i64 x_6]))
 w'_2)
 (((∃ (u : Value), w'_2.cell? (Addr.mk n_3 0 none) = some u) ∧
 w'_2.frozen? (Addr.mk n_3 0 none) = false) ∧
 ∀ (w1 : World),
 PutB w'_2 n_3 0 [Value.pointer x_4] w1 →
 ∃ (S : World → Prop),
 S w1.drew ∧
 ∃ (p : Option Addr),
 ∃ (n_4 : Nat),
 ∃ (c : Nat),
 (∀ (w' : World),
 S w' → w'.cell? (Addr.mk n (0 + 1) none) = some (Value.slice p n_4 c)) ∧
 ∃ (x_7 : Option Addr),
 ∃ (x_8 : Int),
 (∀ (w' : World),
 S w' → AtL w' n_3 0 [Value.pointer x_7, Value.int IntKind.i64 x_8]) ∧
 ∀ (n_5 : Nat) (w1_2 : World),
 NewB w1.drew
 (Obj.cells #[Value.pointer x_7, Value.int IntKind.i64 x_8] 120) n_5
 w1_2 →
 S w1_2 ∧
 ∃ (base : Nat),
 ∃ (xs : List Value),
 ∃ (news : List Value),
 w1_2.ownsRow base 120 2 (Value.slice p n_4 c) n_4 xs ∧
 news.length = 2 ∧
 SrcP w1_2 (some (Addr.mk n_5 0 none)) news ∧
 n_4 + 1 ≤ 9223372036854775807 ∧
 (n_4 + 1) * 16 ≤ 140737488355328 ∧
 base ≤ w1_2.heap.size ∧
 ∀ (p' : Option Addr) (c' : Nat) (w'_3 : World),
 w'_3.ownsRow base 120 2 (Value.slice p' (n_4 + 1) c')
 (n_4 + 1) (xs ++ news) →
 w1_2.grownBy w'_3 (Value.slice p n_4 c).ownBlock →
 (n_4 + 1 ≤ c → p' = p ∧ c' = c) →
 ((∃ (u : Value),
 w'_3.cell? (Addr.mk n (0 + 1) none) = some u) ∧
 w'_3.frozen? (Addr.mk n (0 + 1) none) = false) ∧
 ∀ (w1 : World),
 PutB w'_3 n (0 + 1) [Value.slice p' (n_4 + 1) c']
 w1 →
 I
 [Value.int IntKind.i64
 (IntKind.i64.wrap
 (x +
 IntKind.i64.wrap ((↑x_2.size : Int) + 1))),
 Value.int IntKind.i64
 (IntKind.i64.wrap (x_1 + 1))]
 w1 ∧
 m
 [Value.int IntKind.i64
 (IntKind.i64.wrap
 (x +
 IntKind.i64.wrap ((↑x_2.size : Int) + 1))),
 Value.int IntKind.i64
 (IntKind.i64.wrap (x_1 + 1))]
 w1 <
 m
 [Value.int IntKind.i64 x,
 Value.int IntKind.i64 x_1]
 w')))
 (R
 (Ending.returned
 (Value.tuple
 #[Value.pointer (some (Addr.mk n 0 none)), Value.int IntKind.i64 0, Value.int IntKind.i64 0]))
 w'))
theorem vc_parseList (s : ByteArray) (w : World) (R : Ending → World → Prop) (h : VC_parseList s w R) : Calls Tryz.prog 35 ([Value.string
    s] : List Value).toArray w R := by
  have e : execR { P := Tryz.prog, loops := [(6, [(6, Ck.int IntKind.i64), (22, Ck.int IntKind.i64)])], pur := pur1, tails := [(12, 3), (14, 3), (19, 6)], joins := [(15, [(10, Ck.str)])], boxes := [] } Tryz.f35.results.toList R (Tryz.f35.body.getD .skip) (initF [Value.string
    s] (Tryz.f35.ntmps - ([Value.string s] : List Value).length)) w = VC_parseList s w R := by kernel_rfl
  have hb : Tryz.f35.body = some (Tryz.f35.body.getD .skip) := by kernel_rfl
  exact calls_of_exec' (P := Tryz.prog) (fn := Tryz.f35) (c := Tryz.f35.body.getD .skip) (args := [Value.string
    s]) (w := w) (R := R) pur1_ok Tryz.func35 hb e h

def VC_verdict (b : Nat) (o : Nat) (s : ByteArray) (w : World) (R : Ending → World → Prop) : Prop :=
 CallsS Tryz.prog 67 #[Value.pointer (some (Addr.mk b o none))] w fun (e : Ending) (w' : World) =>
 ∃ (x : Int),
 e = Ending.returned (Value.int IntKind.i64 x) ∧
 ∃ (I : List Value → World → Prop),
 ∃ (m : List Value → World → Nat),
 I [Value.int IntKind.i64 (IntKind.i64.wrap (x - 1))] w' ∧
 ∀ (x : Int) (w' : World),
 I [Value.int IntKind.i64 x] w' →
 bsp (decide (x ≥ 0))
 (∃ (p : Option Addr),
 ∃ (n : Nat),
 ∃ (c : Nat),
 w'.cell? (Addr.mk b (o + 1) none) = some (Value.slice p n c) ∧
 nn true p fun (b_1 o_1 : Nat) =>
 (0 ≤ x ∧ x < (↑n : Int)) ∧
 ∃ (x_1 : Option Addr),
 w'.cell? (Addr.mk b_1 (o_1 + x.toNat * 2) none) = some (Value.pointer x_1) ∧
 CallsS Tryz.prog 68 #[Value.pointer x_1, Value.string s] w' fun (e : Ending) (w'_1 : World) =>
 ∃ (x_2 : Bool),
 e = Ending.returned (Value.bool x_2) ∧
 bsp x_2
 (∃ (p : Option Addr),
 ∃ (n : Nat),
 ∃ (c : Nat),
 w'_1.cell? (Addr.mk b (o + 1) none) = some (Value.slice p n c) ∧
 nn true p fun (b o : Nat) =>
 (0 ≤ x ∧ x < (↑n : Int)) ∧
 ∃ (x_3 : Int),
 w'_1.cell? (Addr.mk b (o + x.toNat * 2 + 1) none) = some (Value.int IntKind.i64 x_3) ∧
 R (Ending.returned (Value.int IntKind.i64 x_3)) w'_1)
 (I [Value.int IntKind.i64 (IntKind.i64.wrap (x - 1))] w'_1 ∧
 m [Value.int IntKind.i64 (IntKind.i64.wrap (x - 1))] w'_1 < m [Value.int IntKind.i64 x] w'))
 (R (Ending.returned (Value.int IntKind.i64 0)) w')
theorem vc_verdict (b : Nat) (o : Nat) (s : ByteArray) (w : World) (R : Ending → World → Prop) (h : VC_verdict b o s w R) : Calls Tryz.prog 46 ([Value.pointer
    (some { block := b, off := o }),
  Value.string s] : List Value).toArray w R := by
  have e : execR { P := Tryz.prog, loops := [(2, [(5, Ck.int IntKind.i64)])], pur := pur1, tails := [], joins := [], boxes := [] } Tryz.f46.results.toList R (Tryz.f46.body.getD .skip) (initF [Value.pointer
    (some { block := b, off := o }),
  Value.string
    s] (Tryz.f46.ntmps - ([Value.pointer (some { block := b, off := o }),
  Value.string s] : List Value).length)) w = VC_verdict b o s w R := by kernel_rfl
  have hb : Tryz.f46.body = some (Tryz.f46.body.getD .skip) := by kernel_rfl
  exact calls_of_exec' (P := Tryz.prog) (fn := Tryz.f46) (c := Tryz.f46.body.getD .skip) (args := [Value.pointer
    (some { block := b, off := o }),
  Value.string s]) (w := w) (R := R) pur1_ok Tryz.func46 hb e h

end Go.Proofs.YtkkfnlehlkiejaaGreatDoor

/- The contracts of wildmat's ParseList, Len, Verdict and Selects, by plain functions. Texts have at most 2^30 bytes; the library's variable MaxLen holds a number. -/
namespace Go.Proofs.YtkkfnlehlkiejaaGreatDoor
open Go.RowKit

/-- The library's variable MaxLen holds a number. -/
def GW (w : World) : Prop := ∃ m, w.cell? ⟨0, 0, none⟩ = some (.int .i64 m)
theorem GW.kp {M : Nat → Prop} {w w' : World} (h : GW w) (hk : Kp M w w') (hm : ¬ M 0) : GW w' := by
  obtain ⟨m, h⟩ := h; exact ⟨m, hk.cell' h hm⟩

/-- An entry of a list. -/
structure Ent where
  t : ByteArray
  els : List El
  v : Int
def entC : List Nat → List Ent → List Value
  | b :: bs, e :: es => .pointer (some ⟨b, 0, none⟩) :: .int .i64 e.v :: entC bs es
  | _, _ => []
theorem entC_length : ∀ (bs : List Nat) (es : List Ent), bs.length = es.length → (entC bs es).length = es.length * 2
  | [], [], _ => rfl
  | b :: bs, e :: es, h => by simp only [entC, List.length_cons, entC_length bs es (by simpa using h)]; omega
  | [], _ :: _, h => by simp at h
  | _ :: _, [], h => by simp at h
theorem entC_append : ∀ (bs : List Nat) (es : List Ent) (b : Nat) (e : Ent), bs.length = es.length → entC (bs ++ [b]) (es ++ [e]) = entC bs es ++ [.pointer (some ⟨b, 0, none⟩), .int .i64 e.v]
  | [], [], _, _, _ => rfl
  | b :: bs, e :: es, b', e', h => by simp only [List.cons_append, entC, entC_append bs es b' e' (by simpa using h)]
  | [], _ :: _, _, _, h => by simp at h
  | _ :: _, [], _, _, h => by simp at h
theorem entC_get : ∀ (bs : List Nat) (es : List Ent) (k : Nat) (b : Nat) (e : Ent), bs[k]? = some b → es[k]? = some e → (entC bs es)[k * 2]? = some (.pointer (some ⟨b, 0, none⟩)) ∧ (entC bs es)[k * 2 + 1]? = some (.int .i64 e.v)
  | [], _, k, b, e, h, _ => by simp at h
  | _ :: _, [], k, b, e, _, h => by simp at h
  | b :: bs, e :: es, 0, b', e', h, h' => by simp at h h'; subst h; subst h'; exact ⟨rfl, rfl⟩
  | b :: bs, e :: es, k + 1, b', e', h, h' => by
    have := entC_get bs es k b' e' (by simpa using h) (by simpa using h')
    rw [show (k + 1) * 2 = k * 2 + 1 + 1 by omega]
    simpa [entC] using this
/-- A list of patterns in the memory. -/
def ListR (D : Nat → Prop) (w : World) (b : Nat) (s : ByteArray) (es : List Ent) : Prop :=
  ∃ (p : Option Addr) (n c : Nat) (bs : List Nat), w.heap[b]? = some (.cells #[.string s, .slice p n c] 116 (0, 0)) ∧ D b ∧ w.ownsRow 0 120 2 (.slice p n c) n (entC bs es) ∧ (∀ k, (Value.slice p n c).ownBlock = some k → D k) ∧
    bs.length = es.length ∧ ∀ (k b' : Nat) (e : Ent), bs[k]? = some b' → es[k]? = some e → PatR D w b' e.t e.els
theorem ListR.kp {D M : Nat → Prop} {w w' : World} {b : Nat} {s : ByteArray} {es : List Ent} (h : ListR D w b s es) (hk : Kp M w w') (hm : ∀ k, D k → k < w.heap.size → ¬ M k) : ListR D w' b s es := by
  obtain ⟨p, n, c, bs, h1, h2, h3, h4, h5, h6⟩ := h
  exact ⟨p, n, c, bs, hk.blk h1 (hm b h2 (block_lt h1)), h2, owns_kp h3 hk (fun k hk => hm k (h4 k hk) (own_lt h3 hk)), h4, h5, fun k b' e hb he => (h6 k b' e hb he).kp hk hm⟩
theorem ListR.mono {D D' : Nat → Prop} {w : World} {b : Nat} {s : ByteArray} {es : List Ent} (h : ListR D w b s es) (hd : ∀ k, D k → k < w.heap.size → D' k) : ListR D' w b s es := by
  obtain ⟨p, n, c, bs, h1, h2, h3, h4, h5, h6⟩ := h
  exact ⟨p, n, c, bs, h1, hd b h2 (block_lt h1), h3, fun k hk => hd k (h4 k hk) (own_lt h3 hk), h5, fun k b' e hb he => (h6 k b' e hb he).mono hd⟩

/-- The parts of a text between commas. -/
def partsS (s : ByteArray) : List ByteArray := Lib.splitB ⟨#[44]⟩ 0 (Lib.countB s ⟨#[44]⟩) s
def markI (x : ByteArray) : Int := if Lib.hasPrefix x.data.toList [33] = true then 2 else if Lib.hasPrefix x.data.toList [64] = true then 3 else 1
def bareS (x : ByteArray) : ByteArray := if markI x = 1 then x else x.extract 1 x.size
/-- The entries of a list, or the offset and the kind of the error. -/
def entsS : List ByteArray → Int → List Ent → List Ent ⊕ (Int × Int)
  | [], _, acc => .inl acc
  | x :: r, at_, acc => if acc.length = 64 then .inr (at_, 9) else
    match compileR (bareS x) with
    | .inr (o, e) => .inr (at_ + x.size - (bareS x).size + o, e)
    | .inl els => entsS r (at_ + x.size + 1) (acc ++ [⟨bareS x, els, markI x⟩])
def listR (s : ByteArray) : List Ent ⊕ (Int × Int) := if s.size = 0 then .inr (0, 4) else entsS (partsS s) 0 []

theorem splitB_le (sep : ByteArray) : ∀ (k : Nat) (s x : ByteArray), x ∈ Lib.splitB sep 0 k s → x.size ≤ s.size
  | 0, s, x, h => by simp [Lib.splitB] at h; subst h; exact Nat.le_refl _
  | k + 1, s, x, h => by
    unfold Lib.splitB at h
    split at h
    · simp at h; subst h; exact Nat.le_refl _
    · rcases List.mem_cons.1 h with rfl | h
      · rw [ByteArray.size_extract]; omega
      · have := splitB_le sep k _ x h
        rw [ByteArray.size_extract] at this
        omega
/-- A list that is being made. -/
def LstSt (w : World) (nb : Nat) (s : ByteArray) (es : List Ent) : Prop :=
  ∃ (p : Option Addr) (n c : Nat) (bs : List Nat), w.heap[nb]? = some (.cells #[.string s, .slice p n c] 116 (0, 0)) ∧ w.ownsRow (nb + 1) 120 2 (.slice p n c) n (entC bs es) ∧
    bs.length = es.length ∧ ∀ (k b' : Nat) (e : Ent), bs[k]? = some b' → es[k]? = some e → PatR (fun k => nb < k) w b' e.t e.els
theorem bareS_le (x : ByteArray) : (bareS x).size ≤ x.size := by
  unfold bareS
  split
  · exact Nat.le_refl _
  · rw [ByteArray.size_extract]; omega
theorem hasPrefix1 {x : ByteArray} {c : UInt8} (h : Lib.hasPrefix x.data.toList [c] = true) : 1 ≤ x.size := by
  have h1 : (x.data.toList).length = x.size := x.data.length_toList
  cases hx : x.data.toList with
  | nil => rw [hx] at h; simp [Lib.hasPrefix] at h
  | cons a r => rw [hx] at h1; simp at h1; omega

set_option maxHeartbeats 1000000 in
theorem parseList_any (s : ByteArray) (w : World) (hs : s.size ≤ 1073741824) (hG : GW w) : Calls Tryz.prog 35 #[.string s] w fun e w' => K0 w w' ∧
    match listR s with
    | .inl es => ∃ b, e = .returned (.tuple #[.pointer (some ⟨b, 0, none⟩), .int .i64 0, .int .i64 0]) ∧ ListR (fun k => w.heap.size ≤ k) w' b s es
    | .inr (o, x) => e = .returned (.tuple #[.pointer none, .int .i64 o, .int .i64 x]) := by
  refine vc_parseList s w _ ?_
  unfold VC_parseList
  rw [toList_nil]
  refine bsp_intro (fun h0 => ?_) (fun h0 => fun nb w1 hn => ?_)
  · have h0 : s.size = 0 := by simpa using h0
    refine ⟨.refl _ _, ?_⟩
    simp only [listR, h0, if_true]
  have h0 : ¬ s.size = 0 := by simpa using h0
  have hR : listR s = entsS (partsS s) 0 [] := by simp only [listR, h0, if_false]
  rw [hR]
  obtain ⟨mm, hG1⟩ := hG.kp (hn.kp (fun _ => False)) (fun h => h)
  refine ⟨(Tryz.strings_Split s ⟨#[44]⟩ mm w1 (by omega) hG1 (by decide)).mono fun e w2 ⟨he, hw2⟩ => ?_⟩
  have hlen : (partsS s).length = Lib.countB s ⟨#[44]⟩ + 1 := Lib.splitB_all ⟨#[44]⟩ (by decide) 0 _ s rfl
  have hle : ∀ x ∈ partsS s, x.size ≤ s.size := fun x hx => splitB_le _ _ _ _ hx
  have hn2 : NewB w1 (.cells ((partsS s).map .string).toArray 9) w1.heap.size w2 := ⟨rfl, hw2⟩
  rw [← hlen] at he
  generalize partsS s = ps at *
  clear hw2 hlen
  generalize w1.heap.size = np at he hn2
  refine ⟨_, _, _, he, ?_⟩
  clear he
  have hnb : nb = w.heap.size := hn.hn
  have hw2 : K0 w w2 := (hn.kp _).trans (hn2.kp _)
  have hnp : nb < np := Nat.lt_of_lt_of_le (block_lt hn.block) hn2.ge
  refine ⟨fun vs w' => ∃ (k : Nat) (at_ : Int) (es : List Ent), vs = [.int .i64 at_, .int .i64 k] ∧ k ≤ ps.length ∧ k ≤ 64 ∧ es.length = k ∧ 0 ≤ at_ ∧ at_ ≤ k * 2147483648 ∧ entsS (ps.drop k) at_ es = entsS ps 0 [] ∧
      w'.heap[np]? = some (.cells (ps.map .string).toArray 9 (0, 0)) ∧ LstSt w' nb s es ∧ K0 w w', fun vs _ => (match vs with | [_, .int _ x] => ps.length - x.toNat | _ => 0),
    ⟨0, 0, [], rfl, by omega, by omega, rfl, by omega, by omega, rfl, hn2.block, ⟨none, 0, 0, [], (hn2.kp (fun _ => False)).blk hn.block (fun h => h), World.ownsRow_nil _ _ _ _, rfl, fun k b' e h _ => by simp at h⟩, hw2⟩,
    fun a0 x_1 wA ⟨k, at_, es, hv, hk, hk64, hes, hat0, hat1, hS, hpA, hstA, hwA⟩ => ?_⟩
  simp only [List.cons.injEq, Value.int.injEq, true_and, and_true] at hv
  obtain ⟨rfl, rfl⟩ := hv
  refine bsp_intro (fun hlt => ?_) (fun hge => ?_)
  · have hlt : k < ps.length := by simpa using hlt
    obtain ⟨y, hy⟩ : ∃ y, ps[k]? = some y := ⟨_, List.getElem?_eq_getElem hlt⟩
    have hdr : ps.drop k = y :: ps.drop (k + 1) := by
      rw [List.drop_eq_getElem_cons hlt]
      congr 1
      rw [List.getElem?_eq_getElem hlt] at hy
      simpa using hy
    have hysz : y.size ≤ 1073741824 := by have := hle y (List.mem_of_getElem? hy); omega
    have hbsz := bareS_le y
    rw [hdr] at hS
    have e0 : (k : Int).toNat = k := by omega
    show (0 ≤ (k : Int) ∧ (k : Int) < (ps.length : Int)) ∧ _
    refine ⟨⟨by omega, by omega⟩, y, by rw [e0, Nat.zero_add]; exact cell_at hpA (by simp [hy]), ?_⟩
    obtain ⟨p, n, c, bs, hb, ho, hbl, hpat⟩ := hstA
    have hn' := ho.1
    rw [entC_length bs es hbl] at hn'
    have hn' : n = k := by omega
    subst hn'
    refine ⟨p, n, c, cell_at hb rfl, ?_⟩
    refine bsp_intro (fun h64 => ⟨hwA, ?_⟩) (fun h64 => fun n_3 w3 hn3 => ?_)
    · have h64 : n = 64 := by simp at h64; omega
      rw [← hS]
      simp [entsS, hes, h64]
    have h64 : ¬ n = 64 := by simp at h64; omega
    have h3n : wA.heap.size ≤ n_3 := hn3.ge
    refine ⟨WrL_block hn3.block (by simp), fun w4 hp4 => ?_⟩
    have hb4 : w4.heap[n_3]? = some (.cells #[.pointer none, .int .i64 1] 120 (0, 0)) := hp4.block hn3.block
    have hk4 : K0 wA w4 := (hn3.kp _).fresh hp4.kp (fun i hi e => by omega)
    refine ⟨fun vs w5 => vs = [.string (bareS y)] ∧ w5.heap[n_3]? = some (.cells #[.pointer none, .int .i64 (markI y)] 120 (0, 0)) ∧ K0 wA w5, ?_, fun x_3 w5 ⟨hx3, hb5, hk5⟩ => ?_⟩
    · refine bsp_intro (fun h1 => ?_) (fun h1 => bsp_intro (fun h2 => ?_) (fun h2 => ?_))
      · have hm : markI y = 2 := by unfold markI; rw [if_pos h1]
        have hb' : bareS y = y.extract 1 y.size := by unfold bareS; rw [hm, if_neg (by decide)]
        refine ⟨fun _ => True, trivial, ⟨by decide, by have := hasPrefix1 h1; omega⟩, cell_wr (blk_drew hb4) (by simp), fun w5 hp5 => ⟨by rw [hb'], ?_, hk4.drew.fresh hp5.kp (fun i hi e => by omega)⟩⟩
        rw [hm]; exact hp5.block (blk_drew hb4)
      · have hm : markI y = 3 := by unfold markI; rw [if_neg (by rw [h1]; decide), if_pos h2]
        have hb' : bareS y = y.extract 1 y.size := by unfold bareS; rw [hm, if_neg (by decide)]
        refine ⟨fun _ => True, trivial, ⟨by decide, by have := hasPrefix1 h2; omega⟩, cell_wr (blk_drew hb4) (by simp), fun w5 hp5 => ⟨by rw [hb'], ?_, hk4.drew.fresh hp5.kp (fun i hi e => by omega)⟩⟩
        rw [hm]; exact hp5.block (blk_drew hb4)
      · have hm : markI y = 1 := by unfold markI; rw [if_neg (by rw [h1]; decide), if_neg (by rw [h2]; decide)]
        have hb' : bareS y = y := by unfold bareS; rw [if_pos hm]
        exact ⟨by rw [hb'], by rw [hm]; exact hb4, hk4⟩
    simp only [List.cons.injEq, Value.string.injEq, and_true] at hx3
    subst hx3
    have hSy : entsS (y :: ps.drop (n + 1)) a0 es = match compileR (bareS y) with
        | .inr (o, e) => .inr (a0 + y.size - (bareS y).size + o, e)
        | .inl els => entsS (ps.drop (n + 1)) (a0 + y.size + 1) (es ++ [⟨bareS y, els, markI y⟩]) := by
      simp [entsS, hes, h64]
    rw [hSy] at hS
    refine ⟨(compile_any (bareS y) w5).mono fun e w6 ⟨hk6, hce⟩ => ?_⟩
    have hk6' : K0 wA w6 := hk5.trans hk6
    have hb6 := hk6.blk hb5 (fun h => h)
    cases hc : compileR (bareS y) with
    | inr oe =>
      obtain ⟨o, er⟩ := oe
      rw [hc] at hce hS
      obtain ⟨ho80, her⟩ := compileR_off _ _ _ hc
      refine ⟨none, o, er, hce, ?_⟩
      refine bsp_intro (fun _ => ⟨hwA.trans hk6', ?_⟩) (fun h => absurd h (by simpa using her))
      rw [← hS]
      simp only
      rw [wr64 (x := a0 + (y.size : Int)) (by omega) (by omega), wr64 (x := a0 + (y.size : Int) - ((bareS y).size : Int)) (by omega) (by omega), wr64 (by omega) (by omega)]
    | inl els =>
      rw [hc] at hce hS
      simp only at hce hS
      obtain ⟨b', he', hpatb⟩ := hce
      refine ⟨some ⟨b', 0, none⟩, 0, 0, he', ?_⟩
      refine bsp_intro (fun h => absurd h (by decide)) (fun _ => ⟨cell_wr hb6 (by simp), fun w7 hp7 => ?_⟩)
      have hb7 : w7.heap[n_3]? = some (.cells #[.pointer (some ⟨b', 0, none⟩), .int .i64 (markI y)] 120 (0, 0)) := hp7.block hb6
      have hk7 : K0 wA w7 := hk6'.fresh hp7.kp (fun i hi e => by omega)
      have hn35 : n_3 < w5.heap.size := block_lt hb5
      have hpat7 : PatR (fun k => w5.heap.size ≤ k) w7 b' (bareS y) els := hpatb.kp hp7.kp (fun k hk _ e => by omega)
      have hbA : w7.drew.heap[nb]? = some (.cells #[.string s, .slice p n c] 116 (0, 0)) := blk_drew (hk7.blk hb (fun h => h))
      have hoA : w7.drew.ownsRow (nb + 1) 120 2 (.slice p n c) n (entC bs es) := owns_kp ho hk7.drew (fun _ _ h => h)
      refine ⟨fun w' => w'.heap[nb]? = some (.cells #[.string s, .slice p n c] 116 (0, 0)) ∧ w'.heap[n_3]? = some (.cells #[.pointer (some ⟨b', 0, none⟩), .int .i64 (markI y)] 120 (0, 0)), ⟨hbA, blk_drew hb7⟩,
        p, n, c, fun w' h => cell_at h.1 rfl, some ⟨b', 0, none⟩, markI y, fun w' h => AtL_block h.2 rfl, fun n_5 w8 hn8 => ⟨⟨(hn8.kp (fun _ => False)).blk hbA (fun h => h), (hn8.kp (fun _ => False)).blk (blk_drew hb7) (fun h => h)⟩, ?_⟩⟩
      refine app1 hoA (block_lt hbA) hn8 rfl (fun u hu => by simp at hu; rcases hu with rfl | rfl <;> rfl) (by omega) (by omega) (fun p' c' w9 ho9 hk9 _ => ?_)
      have hne : ∀ k, (Value.slice p n c).ownBlock = some k → nb < k := fun k hk => own_ge hoA hk
      have hltA : ∀ k, (Value.slice p n c).ownBlock = some k → k < wA.heap.size := fun k hk => own_lt ho hk
      have hb9 := hk9.blk hbA (fun e => by have := hne _ e; omega)
      refine ⟨cell_wr hb9 (by simp), fun wB hpB => ?_⟩
      have hkB : Kp (fun k => (Value.slice p n c).ownBlock = some k ∨ k = nb) w7.drew wB := (hk9.mono fun _ _ h => .inl h).trans (hpB.kp.mono fun _ _ h => .inr h)
      have hwB : K0 w wB := (hwA.trans hk7.drew).fresh hkB (fun i hi h => by rcases h with h | h; have := hne i h; omega; omega)
      rw [wr64 (x := (y.size : Int) + 1) (by omega) (by omega), wr64 (x := a0 + ((y.size : Int) + 1)) (by omega) (by omega), wr64 (x := (n : Int) + 1) (by omega) (by omega)]
      refine ⟨⟨n + 1, a0 + (y.size + 1), es ++ [⟨bareS y, els, markI y⟩], by simp, by omega, by omega, by simp [hes], by omega, by omega, ?_, ?_, ?_, hwB⟩, by simp; omega⟩
      · rw [← hS, ← Int.add_assoc]
      · refine hkB.blk (blk_drew (hk7.blk hpA (fun h => h))) (fun h => ?_)
        rcases h with h | h
        · obtain ⟨cc, hcc⟩ := own_type hoA h
          rw [blk_drew (hk7.blk hpA (fun h => h))] at hcc
          simp at hcc
        · omega
      · have hTy : ∀ k c' t' f', ((Value.slice p n c).ownBlock = some k ∨ k = nb) → w7.drew.heap[k]? = some (.cells c' t' f') → t' ≠ 149 ∧ t' ≠ 167 := fun k c' t' f' hk hh => by
          rcases hk with hk | rfl
          · obtain ⟨cc, hcc⟩ := own_type hoA hk
            rw [hcc] at hh
            simp only [Option.some.injEq, Obj.cells.injEq] at hh
            rw [← hh.2.1]; decide
          · rw [hbA] at hh
            simp only [Option.some.injEq, Obj.cells.injEq] at hh
            rw [← hh.2.1]; decide
        refine ⟨p', n + 1, c', bs ++ [b'], hpB.block hb9, ?_, by simp [hbl], fun k b2 e2 h1 h2 => ?_⟩
        · rw [entC_append bs es b' _ hbl]
          exact owns_kp ho9 hpB.kp (fun k hk e => by have := own_ge ho9 hk; omega)
        · rcases Nat.lt_or_ge k es.length with hlt' | hge'
          · rw [List.getElem?_append_left (by omega)] at h1
            rw [List.getElem?_append_left (by omega)] at h2
            exact ((hpat k b2 e2 h1 h2).kp hk7.drew (fun _ _ _ h => h)).kpT hkB hTy
          · have hkk : k = es.length := by
              rcases Nat.lt_or_ge k (es.length + 1) with h' | h'
              · omega
              · rw [List.getElem?_eq_none (by simp; omega)] at h2; cases h2
            subst hkk
            rw [List.getElem?_append_right (by omega)] at h1 h2
            rw [hbl] at h1
            simp at h1 h2
            subst h1 h2
            have : PatR (fun k => w5.heap.size ≤ k) w7.drew b' (bareS y) els := hpat7
            have hnw5 : nb < w5.heap.size := Nat.lt_of_lt_of_le (block_lt hb) hk5.size
            exact (this.kpT hkB hTy).mono fun k hk _ => by omega
  · have hge : ¬ k < ps.length := by simpa using hge
    obtain rfl : k = ps.length := by omega
    refine ⟨hwA, ?_⟩
    rw [← hS, List.drop_length]
    obtain ⟨p, n, c, bs, hb, ho, hbl, hpat⟩ := hstA
    exact ⟨nb, rfl, p, n, c, bs, hb, by omega, ⟨ho.1, ho.2.imp id fun ⟨g, cap, cur, a1, a2, a3⟩ => ⟨g, cap, cur, a1, by omega, a3⟩⟩, fun k hk => (by have := own_ge ho hk; omega), hbl, fun k b' e h1 h2 => (hpat k b' e h1 h2).mono fun k hk _ => by omega⟩

end Go.Proofs.YtkkfnlehlkiejaaGreatDoor

/- From contracts on worlds to the given statements: the last step of a law, the listed variables' world. No condition. -/
namespace Go.Proofs.YtkkfnlehlkiejaaGreatDoor
open Go.ChangeShapes Go.WideShapes Go.ChangeAt Go.RowKit Go.Deep

theorem own : ownKnob Tryz.prog.godebug = none := by kernel_rfl
/-- The library's variable holds a number. -/
theorem gw_of {w : World} (h : w.ShapedOpen Tryz.prog) : GW w := cell_of_shapedOpen_int (zero := #[.int .i64 0]) (t := 3) h (of_decide_eq_true (by kernel_rfl)) (by kernel_rfl) rfl (by kernel_rfl) (by kernel_rfl) Tryz.underlying3
theorem trodAll_kept {H : Type} {enc : TypeId × Value → H} {P : Program} {w w' : World} (hk : K0 w w') {base : Nat} {sp : Nat → Bool} : ∀ (ts : List TypeId) (vs : List Value) (ds : List (DataW H)) (ps : List MemPlace),
    (∀ t ∈ ts, posT P 12 t = true) → DataW.TrodAll enc P w base (fun _ => true) true ts vs ds ps → (∀ p ∈ ps, sp p.block = true) → DataW.TrodAll enc P w' base sp true ts vs ds ps
  | [], [], [], ps, _, h, _ => h
  | t :: ts, v :: vs, d :: ds, ps, ht, ⟨p, q, ⟨fuel, h1⟩, h2, h3⟩, hsp => by
    subst h3
    exact ⟨p, q, ⟨fuel, trod_kept hk fuel t 12 _ _ (ht t (by simp)) h1 (fun x hx => hsp x (by simp [hx]))⟩, trodAll_kept hk ts vs ds q (fun u hu => ht u (by simp [hu])) h2 (fun x hx => hsp x (by simp [hx])), rfl⟩
  | [], [], _ :: _, _, _, h, _ => h.elim
  | [], _ :: _, _, _, _, h, _ => h.elim
  | _ :: _, [], _, _, _, h, _ => h.elim
  | _ :: _, _ :: _, [], _, _, h, _ => h.elim
section
variable {H : Type} {enc : TypeId × Value → H} {P : Program}
theorem post_of_k0 {f : Func} {s : ChangeSpec} {apart fresh handsOn again : Bool} {W W' : World} {args : Array Value} {ds gs : List (DataW H)} {before : List MemPlace} (hpos : f.params.toList.all (posT P 12) = true) {tb : TypeId} (htb : P.underlying tb = some .bool) (hrt : f.resultTypes = #[tb])
    (hW : DataW.Whole enc P f.params.toList s.vars apart W args.toList ds gs before) (hvars : s.vars = [])
    (hfn : (s.fn H (ds ++ gs)).results = [.lit (.bool true)] ∧ (s.fn H (ds ++ gs)).args = ds ∧ (s.fn H (ds ++ gs)).vars = []) (hk : K0 W W') :
    s.post enc P f apart fresh handsOn again W args (.bool true) W' := by
  have hb : Below W.heap.size W W' := hk.below
  have hW0 := hW
  obtain ⟨p, q, hA, hV, hps, hz, hn⟩ := hW
  rw [hvars] at hV
  have hq : gs = [] ∧ q = [] := by
    cases gs with
    | nil => exact ⟨rfl, hV⟩
    | cons g r => exact hV.elim
  obtain ⟨rfl, rfl⟩ := hq
  rw [List.append_nil] at hps
  subst hps
  have hlt : ∀ x ∈ before, x.block < W.heap.size := fun x hx => hW0.lt x hx
  have hold : ∀ x ∈ before, (fun b => decide (b < W.heap.size)) x.block = true := fun x hx => by simpa using hlt x hx
  have hargs : ∀ sp : Nat → Bool, (∀ x ∈ before, sp x.block = true) → DataW.TrodAll enc P W' 0 sp true f.params.toList args.toList (s.fn H (ds ++ [])).args before := fun sp hsp => by
    rw [hfn.2.1]; exact trodAll_kept hk _ _ _ _ (fun t ht => List.all_eq_true.1 hpos t ht) hA hsp
  have hvs : ∀ sp : Nat → Bool, DataW.TrodVars enc P W' sp s.vars (s.fn H (ds ++ [])).vars [] := fun sp => by rw [hvars, hfn.2.2]; exact rfl
  have hres : ∀ (b : Nat) (sp : Nat → Bool) (hd : Bool), DataW.TrodAll enc P W' b sp hd f.resultTypes.toList ((Value.bool true).resultList f.resultTypes.size) (s.fn H (ds ++ [])).results [] := fun b sp hd => by
    rw [hfn.1, hrt]; exact trodAll_cons_mk (shut_bool htb _) trodAll_mk0
  refine ⟨ds, [], before, [], before, [], hW0, hres _ _ _, hargs _ hold, hvs _, World.keptBut_mono (fun x hx => ⟨hx, Or.inr (by simpa using hx)⟩) (hb.frame (· ∈ before)), fun _ => ?_⟩
  refine ⟨?_, _, _, ([] ++ before) ++ [], ⟨[] ++ before, [], trodAll_append (hargs _ (fun _ _ => rfl)) (hres _ _ _), hvs _, rfl, ?_, ?_⟩, ?_⟩
  · intro j t r hj hr
    rw [hrt] at hj hr
    have : j = 0 := by
      rcases Nat.eq_zero_or_pos j with h | h
      · exact h
      · simp [Array.getElem?_eq_none (xs := #[tb]) (i := j) (by simp; omega)] at hj
    subst this
    simp at hj
    subst hj
    have : r = .bool true := by simpa [Value.resultList] using hr.symm
    subst this
    exact okWide_bool_mk htb _
  · intro b off hp
    have hin : MemPlace.cell b off ∈ before := by simpa using hp
    rw [hb.frozen (hlt _ hin)]
    exact hz b off hin
  · intro ha
    have := hn ha
    simpa using this
  · intro x hx _
    simpa using hx
end

/-! ### A world that holds the listed tables -/
def flatD {H : Type} : Nat → DataW H → List Value
  | 0, _ => []
  | _ + 1, .lit (.int k n) => [.int k n]
  | n + 1, .agg l => l.flatMap (flatD n)
  | _ + 1, _ => []
def setRow (cs : List Value) : Obj → Obj
  | .cells _ t frozen => .cells cs.toArray t frozen
  | o => o
noncomputable def laidWorld (os : Os) : World :=
  { World.holding Tryz.prog os ⟨#[], #[], []⟩ with heap := ((World.holding Tryz.prog os ⟨#[], #[], []⟩).heap.modify 1 (setRow (flatD 3 Rows.laid_unicode_utf8_first))).modify 2 (setRow (flatD 3 (Rows.laid_unicode_utf8_acceptRanges (H := Unit)))) }

end Go.Proofs.YtkkfnlehlkiejaaGreatDoor

/- The symbolic evaluator, sixth part: blocks of the function's own are kept in mind, so that a formula does not speak of them. Generic: no program, no condition. -/
namespace Go.Proofs.YtkkfnlehlkiejaaGreatDoor
open Go.RowKit

/-- A block of the function's own: its number, its type, its cells; since the world that is spoken of: 0 as it was, 1 written, 2 new. -/
structure Blk where
  n : Nat
  t : TypeId
  cs : List Value
  m : Nat
abbrev Bs := List (Nat × Blk)
/-- Blocks that are kept in mind; slots that point into them (block, offset); slots that hold a slice of a whole one; the next number; whether the world is another one by now. -/
structure Trk where
  bs : Bs
  tg : List (Nat × Nat × Nat)
  sg : List (Nat × Nat)
  nx : Nat
  d : Bool
/-- The world W is w, but for the blocks that are kept in mind. -/
structure Loc (z : Nat) (T : List Blk) (w W : World) : Prop where
  kp : Kp (fun k => ∃ x ∈ T, x.m = 1 ∧ x.n = k) w W
  blk : ∀ x ∈ T, W.heap[x.n]? = some (.cells x.cs.toArray x.t (0, 0))
  ge : ∀ x ∈ T, z ≤ x.n
  ne : (T.map (·.n)).Nodup
  nw : ∀ x ∈ T, x.m = 2 → w.heap.size ≤ x.n
  hz : z ≤ w.heap.size
/-- Blocks that are as they were. -/
structure KeptL (T : List Nat) (W w' : World) : Prop where
  size : W.heap.size ≤ w'.heap.size
  h : ∀ n ∈ T, n < W.heap.size → w'.heap[n]? = W.heap[n]?
def blksOf : Bs → List Blk
  | [] => []
  | x :: r => x.2 :: blksOf r
def allB (B : Bs) (T : Trk) : List Blk := blksOf (B ++ T.bs)
def numsOf : Bs → List Nat
  | [] => []
  | x :: r => x.2.n :: numsOf r
def keptF (l : List Nat) (W w' : World) (X : Prop) : Prop := KeptL l W w' ∧ X
def delN {α : Type} (d : Nat) : List (Nat × α) → List (Nat × α)
  | [] => []
  | x :: r => match x.1 == d with | true => delN d r | false => x :: delN d r
def memN (d : Nat) : List Nat → Bool
  | [] => false
  | x :: r => match x == d with | true => true | false => memN d r
def delAll {α : Type} (ds : List Nat) : List (Nat × α) → List (Nat × α)
  | [] => []
  | x :: r => match memN x.1 ds with | true => delAll ds r | false => x :: delAll ds r
def keepAll {α : Type} (ds : List Nat) : List (Nat × α) → List (Nat × α)
  | [] => []
  | x :: r => match memN x.1 ds with | true => x :: keepAll ds r | false => keepAll ds r
/-- The world that is spoken of is the world. -/
def calm : Bs → Bs
  | [] => []
  | x :: r => (x.1, ⟨x.2.n, x.2.t, x.2.cs, 0⟩) :: calm r
def Trk.untag (T : Trk) (dst : Option Nat) : Trk := match dst with
  | none => T
  | some d => ⟨T.bs, delN d T.tg, delN d T.sg, T.nx, T.d⟩
def Trk.untags (T : Trk) (ds : List Nat) : Trk := ⟨T.bs, delAll ds T.tg, delAll ds T.sg, T.nx, T.d⟩
/-- Some are let go; the world is the one that is spoken of. -/
def Trk.drop (T : Trk) (ids : List Nat) : Trk := ⟨calm (delAll ids T.bs), T.tg, T.sg, T.nx, false⟩
def Trk.soil (T : Trk) : Trk := ⟨T.bs, T.tg, T.sg, T.nx, true⟩
def wrM (m : Nat) : Nat := match m == 2 with | true => 2 | false => 1
def setB (id : Nat) (cs : List Value) : Bs → Bs
  | [] => []
  | x :: r => match x.1 == id with | true => (x.1, ⟨x.2.n, x.2.t, cs, wrM x.2.m⟩) :: r | false => x :: setB id cs r
def lookB (B : Bs) (T : Trk) (id : Nat) : Option Blk := match findN id T.bs with
  | some b => some b
  | none => findN id B
/-- The operands that are slots: what they point into. -/
def idsOf (T : Trk) : List Operand → List Nat
  | [] => []
  | .tmp s :: r => (match findN s T.tg, findN s T.sg with
    | some (id, _), _ => id :: idsOf T r
    | none, some id => id :: idsOf T r
    | none, none => idsOf T r)
  | _ :: r => idsOf T r
/-- What an operation lets out. -/
def escO (T : Trk) (o : Oper) : List Nat := match o.op with
  | .load _ _ => []
  | .move _ => []
  | .assign _ => []
  | .nilCheck _ => []
  | .fieldAddr _ _ _ => []
  | .indexAddr _ _ (.const _) => []
  | .slice _ _ none none none => []
  | .binOp _ _ _ _ _ => []
  | .store _ _ v => idsOf T [v]
  | op => idsOf T op.operands.toList
/-- The world as it is now. -/
def syncF (z : Nat) (B : Bs) (T : Trk) (w : World) (K : World → Prop) : Prop := match T.d with
  | false => K w
  | true => ∀ W, Loc z (allB B T) w W → K W
def dropF (z : Nat) (B : Bs) (T : Trk) (ids : List Nat) (w : World) (K : Trk → World → Prop) : Prop := match ids with
  | [] => K T w
  | i :: r => syncF z B T w fun W => K (T.drop (i :: r)) W
def repl (cs : List Value) (o n : Nat) (new : List Value) : List Value := cs.take o ++ (new ++ cs.drop (o + n))
/-- What lies in a block of the function's own. -/
def trkLoad (E : Env) (B : Bs) (T : Trk) (s : Nat) (t : TypeId) : Option (Option Value) := match findN s T.tg with
  | none => none
  | some (id, off) => match lookB B T id with
    | none => none
    | some b => match ldK E.P t with
      | some (agg, n) => (match ((b.cs.drop off).take n).length == n with
        | true => some (some (toV agg ((b.cs.drop off).take n)))
        | false => some none)
      | none => some none
def fieldOff (P : Program) (s : TypeId) (f : Nat) : Option Nat := match P.underlying s with
  | some (.struct fs) => (match fs[f]? with
    | some fd => (match szOf P fd.type with
      | some 0 => none
      | some (_ + 1) => some fd.offset
      | none => none)
    | none => none)
  | _ => none
def isNone' {α : Type} : Option α → Bool
  | none => true
  | some _ => false
/-- Addresses inside the blocks: the block's number in mind, the address. -/
def trkAddr (E : Env) (B : Bs) (T : Trk) (o : Oper) : Option (Nat × Nat × Nat) := match isNone' o.guard with
  | false => none
  | true => match o.op with
    | .fieldAddr st (.tmp s) f => (match findN s T.tg with
      | some (id, off) => (match lookB B T id, fieldOff E.P st f with
        | some b, some k => some (id, b.n, off + k)
        | _, _ => none)
      | none => none)
    | .indexAddr t (.tmp s) (.const (.int _ i)) => (match findN s T.tg with
      | some (id, off) => (match lookB B T id, E.P.underlying t with
        | some b, some (.array n e) => (match szOf E.P e, decide (0 ≤ i) && decide (i < (n : Int)) with
          | some sz, true => some (id, b.n, idx off i sz)
          | _, _ => none)
        | _, _ => none)
      | none => none)
    | .move (.tmp s) => (match findN s T.tg with | some (id, off) => (match lookB B T id with | some b => some (id, b.n, off) | none => none) | none => none)
    | .assign (.tmp s) => (match findN s T.tg with | some (id, off) => (match lookB B T id with | some b => some (id, b.n, off) | none => none) | none => none)
    | .nilCheck (.tmp s) => (match findN s T.tg with | some (id, off) => (match lookB B T id with | some b => some (id, b.n, off) | none => none) | none => none)
    | _ => none
/-- A slice of a whole block. -/
def trkSlice (E : Env) (B : Bs) (T : Trk) (o : Oper) : Option (Nat × Nat × Nat) := match isNone' o.guard with
  | false => none
  | true => match o.op with
    | .slice t (.tmp s) none none none => (match findN s T.tg with
      | some (id, 0) => (match lookB B T id, E.P.underlying t with
        | some b, some (.array n e) => (match szOf E.P e with
          | some _ => some (id, b.n, n)
          | none => none)
        | _, _ => none)
      | _ => none)
    | _ => none
def addTg (dst : Option Nat) (id off : Nat) (T : Trk) : Trk := match dst with
  | none => T
  | some d => ⟨T.bs, (d, id, off) :: delN d T.tg, delN d T.sg, T.nx, T.d⟩
def addSg (dst : Option Nat) (id : Nat) (T : Trk) : Trk := match dst with
  | none => T
  | some d => ⟨T.bs, delN d T.tg, (d, id) :: delN d T.sg, T.nx, T.d⟩
/-- A slot that is there. -/
def inB (dst : Option Nat) (l : Fr) : Bool := match dst with
  | none => true
  | some d => Nat.blt d l.length
/-- An operation that leaves the world as it is. -/
def still2 (E : Env) (z : Nat) (B : Bs) (o : Oper) (ctx : Option (Nat × Bool)) (l : Fr) (T : Trk) (w : World) (K : Fr → Trk → World → Prop) : Prop :=
  match (match o.op with | .load t (.tmp s) => trkLoad E B T s t | _ => none) with
  | some (some v) => (match deadB l 12 ctx with
    | true => K (putF l o.dst (.v undef)) (T.untag o.dst) w
    | false => (match gB l 12 ctx with
      | some _ => K (putF l o.dst (finS ctx o.dst v)) (T.untag o.dst) w
      | none => False))
  | some none => False
  | none => match trkAddr E B T o with
    | some (id, n, off) => (match inB o.dst l with
      | true => K (putF l o.dst (.v (.pointer (some ⟨n, off, none⟩)))) (addTg o.dst id off T) w
      | false => False)
    | none => match trkSlice E B T o with
      | some (id, n, m) => (match inB o.dst l with
        | true => K (putF l o.dst (.v (.slice (some ⟨n, 0, none⟩) m m))) (addSg o.dst id T) w
        | false => False)
      | none => dropF z B T (escO T o) w fun T w => stillO E o l (syncF z B T w) ctx fun l' => K l' (T.untag o.dst) w
/-- The operations of 'still2'. -/
def isStill2 (E : Env) (l : Fr) (ctx : Option (Nat × Bool)) (op : Op) : Bool := match op with
  | .store _ _ _ => false
  | .mapUpdate _ _ _ _ => false
  | .insert _ _ _ _ => false
  | .range _ _ => false
  | .next _ _ => false
  | .alloc _ => false
  | .box _ _ => false
  | .buildSlice _ _ _ => false
  | .makeMap _ _ => false
  | .makeSlice _ _ _ => false
  | .convert src dst _ => (match E.P.underlying dst, E.P.underlying src with
    | some (.slice _), some .string => false
    | some (.slice _), some (.slice _) => false
    | _, _ => true)
  | .call { callee := .builtin .append, .. } => false
  | .call { callee := .builtin .delete, .. } => false
  | .call { callee := .builtin .clear, .. } => false
  | .call { callee := .value (.func f), args, .. } => (match E.pur f (args.toList.map (rdV l (chain l 12 ctx))) with | some _ => true | none => false)
  | .call { callee := .value _, .. } => false
  | .call { callee := .invoke _ _, .. } => false
  | _ => true
def Trk.add (T : Trk) (b : Blk) (dst : Option Nat) : Trk := match dst with
  | none => ⟨(T.nx, b) :: T.bs, T.tg, T.sg, T.nx + 1, true⟩
  | some d => ⟨(T.nx, b) :: T.bs, (d, T.nx, 0) :: delN d T.tg, delN d T.sg, T.nx + 1, true⟩
def Trk.addS (T : Trk) (b : Blk) (dst : Option Nat) : Trk := match dst with
  | none => ⟨(T.nx, b) :: T.bs, T.tg, T.sg, T.nx + 1, true⟩
  | some d => ⟨(T.nx, b) :: T.bs, delN d T.tg, (d, T.nx) :: delN d T.sg, T.nx + 1, true⟩
/-- The cells of a new slice. -/
def rowS2 (t : TypeId) (len : Nat) (parts : Array (Nat × Value)) : Sem (TypeId × Array Value) := do
  let .slice elem ← underlying t | stuck "buildSlice: slice type expected"
  let size ← sizeOf elem
  if len * size > 2 ^ 24 then unsupported (.resourceLimit "buildSlice: more than 2^24 cells")
  let zero ← if len * size = 0 then pure #[] else do pure (← zeroValue elem).cells
  let some cells := Instr.fill (fun i => some (i * size, size)) ((Array.range (len * size)).map (zero[· % zero.size]!)) parts.toList
    | stuck "buildSlice: a part of the wrong size"
  pure (elem, cells)
/-- A new block. -/
def new2 (E : Env) (o : Oper) (l : Fr) (T : Trk) (w : World) (K : Fr → Trk → World → Prop) : Prop := match o.op with
  | .alloc t => (match Sem.ev E.P (zeroValue t) with
    | some v => ∀ n : Nat, K (putF l o.dst (.v (.pointer (some ⟨n, 0, none⟩)))) (T.add ⟨n, t, v.cells.toList, 2⟩ o.dst) w
    | none => False)
  | .box t x => (match rd l [] x with
    | some v => ∀ n : Nat, K (putF l o.dst (.v (.pointer (some ⟨n, 0, none⟩)))) (T.add ⟨n, t, v.cells.toList, 2⟩ o.dst) w
    | none => False)
  | .buildSlice t len parts => (match allRd l [] o.op.operands.toList, Sem.ev E.P (rowS2 t len (parts.map fun (i, x) => (i, rdV l [] x))) with
    | true, some (e, cells) => ∀ n : Nat, K (putF l o.dst (.v (.slice (some ⟨n, 0, none⟩) len len))) (T.addS ⟨n, e, cells.toList, 2⟩ o.dst) w
    | _, _ => False)
  | _ => False
def isNew2 : Op → Bool
  | .alloc _ => true
  | .box _ _ => true
  | .buildSlice _ _ _ => true
  | _ => false
/-- What an effect may let out: the blocks that its operands point into. -/
def escE (T : Trk) (o : Oper) : List Nat := idsOf T o.op.operands.toList
/-- An effect on the world. -/
def eff2 (E : Env) (z : Nat) (B : Bs) (ops : Array Oper) (o : Oper) (l : Fr) (T : Trk) (w : World) (K : Fr → Trk → World → Prop) : Prop :=
  syncF z B T w fun W => seqF E ops o l W fun l' w' => keptF (numsOf (B ++ ((T.drop (escE T o)).untag o.dst).bs)) W w' (K l' ((T.drop (escE T o)).untag o.dst) w')
/-- A store into a block of the function's own. -/
def trkStore (E : Env) (T : Trk) (l : Fr) (op : Op) : Option (Option Trk) := match op with
  | .store t (.tmp s) v => (match findN s T.tg with
    | some (id, off) => (match findN id T.bs with
      | some b => (match rd l [] v, szOf E.P t with
        | some y, some n => (match y.cells.size == n && (oneB y.cells.toList && Nat.ble (off + n) b.cs.length) with
          | true => some (some ⟨setB id (repl b.cs off n y.cells.toList) T.bs, T.tg, T.sg, T.nx, true⟩)
          | false => some none)
        | _, _ => some none)
      | none => none)
    | none => none)
  | _ => none
/-- An append of a block of the function's own. -/
def trkApp (E : Env) (B : Bs) (T : Trk) (l : Fr) (op : Op) : Option (TypeId × Operand × Option Addr × Nat × Nat × List Value × Nat × Nat) := match op with
  | .call { callee := .builtin .append, args, argTypes } => (match args.toList, argTypes.toList with
    | [x, .tmp s], [t, t'] => (match t == t', findN s T.sg with
      | true, some id => (match lookB B T id, rd l [] x, rd l [] (.tmp s), E.P.underlying t with
        | some b, some (.slice p n c), some (.slice _ m _), some (.slice e) => (match E.P.info? e with
          | some i => (match i.zero with
            | some zv => (match zv.cells.size == i.size && (Nat.blt 0 i.size && (b.cs.length == m * i.size && b.cs.all Value.oneCell')) with
              | true => some (e, x, p, n, c, b.cs, m, id)
              | false => none)
            | none => none)
          | none => none)
        | _, _, _, _ => none)
      | _, _ => none)
    | _, _ => none)
  | _ => none
def szB (P : Program) (e : TypeId) : Nat × Nat := match P.info? e with | some i => (i.size, i.bytes) | none => (0, 0)
def app2F (E : Env) (z : Nat) (B : Bs) (o : Oper) (l : Fr) (T : Trk) (w : World) (e : TypeId) (p : Option Addr) (n c : Nat) (news : List Value) (m id : Nat) (K : Fr → Trk → World → Prop) : Prop :=
  syncF z B T w fun W => ∃ (base : Nat) (xs : List Value), World.ownsRow W base e (szB E.P e).1 (.slice p n c) n xs ∧ n + m ≤ maxLen ∧ (n + m) * (szB E.P e).2 ≤ 140737488355328 ∧ base ≤ W.heap.size ∧
    ∀ (p' : Option Addr) (c' : Nat) (w' : World), World.ownsRow w' base e (szB E.P e).1 (.slice p' (n + m) c') (n + m) (xs ++ news) → World.grownBy W w' (Value.ownBlock (.slice p n c)) → (n + m ≤ c → p' = p ∧ c' = c) →
      keptF (numsOf (B ++ ((T.drop [id]).untag o.dst).bs)) W w' (K (putF l o.dst (.v (.slice p' (n + m) c'))) ((T.drop [id]).untag o.dst) w')
/-- An operation in its place. -/
def seqF2 (E : Env) (z : Nat) (B : Bs) (ops : Array Oper) (o : Oper) (l : Fr) (T : Trk) (w : World) (K : Fr → Trk → World → Prop) : Prop :=
  match ctxOf ops o with
  | none => False
  | some ctx => match isNew2 o.op with
    | true => splitG l (chain l 12 ctx).reverse (fun l' => match inB o.dst l' with
        | true => dropF z B T (escE T o) w fun T w => new2 E o l' T w K
        | false => False) (fun l' => K (putF l' o.dst (.v undef)) (T.untag o.dst) w)
    | false => match trkStore E T l o.op with
      | some _ => splitG l (chain l 12 ctx).reverse (fun l' => match trkStore E T l' o.op with
          | some (some T') => dropF z B T' (escO T' o) w fun T w => K (putF l' o.dst (.v undef)) (T.untag o.dst) w
          | _ => False) (fun l' => K (putF l' o.dst (.v undef)) (T.untag o.dst) w)
      | none => match isNone' ctx, trkApp E B T l o.op with
        | true, some (e, _, p, n, c, news, m, id) => app2F E z B o l T w e p n c news m id K
        | _, _ => match isStill2 E l ctx o.op with
          | true => still2 E z B o ctx l T w K
          | false => eff2 E z B ops o l T w K
def seqOps2 (E : Env) (z : Nat) (B : Bs) (ops : Array Oper) (K : Fr → Trk → World → Prop) : List Oper → Fr → Trk → World → Prop
  | [], l, T, w => K l T w
  | o :: r, l, T, w => seqF2 E z B ops o l T w (seqOps2 E z B ops K r)
def stillOps2 (E : Env) (z : Nat) (B : Bs) (ops : Array Oper) (K : Fr → Trk → World → Prop) : List Oper → Fr → Trk → World → Prop
  | [], l, T, w => K l T w
  | o :: r, l, T, w => match ctxOf ops o with
    | none => False
    | some ctx => still2 E z B o ctx l T w (stillOps2 E z B ops K r)
/-! ### Which blocks a code touches (a hint only) -/
def uniN : List Nat → List Nat → List Nat
  | [], l => l
  | x :: r, l => match memN x l with | true => uniN r l | false => x :: uniN r l
def slotIds (tg : List (Nat × Nat)) : List Operand → List Nat
  | [] => []
  | .tmp s :: r => (match findN s tg with | some id => id :: slotIds tg r | none => slotIds tg r)
  | _ :: r => slotIds tg r
def addT (dst : Option Nat) (x : Operand) (tg : List (Nat × Nat)) : List (Nat × Nat) := match dst, x with
  | some d, .tmp s => (match findN s tg with | some id => (d, id) :: delN d tg | none => delN d tg)
  | some d, _ => delN d tg
  | none, _ => tg
def delT (dst : Option Nat) (tg : List (Nat × Nat)) : List (Nat × Nat) := match dst with | some d => delN d tg | none => tg
def touchO (o : Oper) (tg : List (Nat × Nat)) (acc : List Nat) : List (Nat × Nat) × List Nat := match o.op with
  | .load _ _ => (delT o.dst tg, acc)
  | .move x => (addT o.dst x tg, acc)
  | .assign x => (addT o.dst x tg, acc)
  | .nilCheck x => (addT o.dst x tg, acc)
  | .fieldAddr _ x _ => (addT o.dst x tg, acc)
  | .indexAddr _ x (.const _) => (addT o.dst x tg, acc)
  | .slice _ x none none none => (addT o.dst x tg, acc)
  | .binOp _ _ _ _ _ => (delT o.dst tg, acc)
  | op => (delT o.dst tg, uniN (slotIds tg op.operands.toList) acc)
def touchOs : List Oper → List (Nat × Nat) → List Nat → List (Nat × Nat) × List Nat
  | [], tg, acc => (tg, acc)
  | o :: r, tg, acc => match touchO o tg acc with | (tg', acc') => touchOs r tg' acc'
def touch : Code → List (Nat × Nat) → List Nat → List (Nat × Nat) × List Nat
  | .region _ ops _, tg, acc => touchOs ops.toList tg acc
  | .seq a b, tg, acc => (match touch a tg acc with | (tg', acc') => touch b tg' acc')
  | .cond _ a b, tg, acc => (match touch a tg acc with | (_, acc') => (match touch b tg acc' with | (_, acc'') => (tg, acc'')))
  | .block _ c, tg, acc => touch c tg acc
  | .loop c, tg, acc => touch c tg acc
  | _, tg, acc => (tg, acc)
def tagIds : List (Nat × Nat × Nat) → List (Nat × Nat) → List (Nat × Nat)
  | [], l => l
  | x :: r, l => (x.1, x.2.1) :: tagIds r l
def touched (c : Code) (T : Trk) : List Nat := (touch c (tagIds T.tg T.sg) []).2
def locF (z : Nat) (L : List Blk) (w : World) (X : Prop) : Prop := match L with
  | [] => X
  | b :: r => Loc z (b :: r) w w → X
def carriedS : List (Nat × Ck) → List Nat
  | [] => []
  | x :: r => x.1 :: carriedS r
def exec2 (E : Env) (z : Nat) : Code → Bs → (Exit → Fr → Trk → World → Prop) → Fr → Trk → World → Prop
  | .skip, _, Q, l, T, w => Q .normal l T w
  | .region _ ops false, B, Q, l, T, w => seqOps2 E z B ops (Q .normal) ops.toList l T w
  | .region id ops true, B, Q, l, T, w => (match E.P.follows .mixedOrders, findN id E.tails with
    | true, none => (match Region.lexB .any ops with
      | true => stillOps2 E z B ops (Q .normal) ops.toList l T.soil w
      | false => False)
    | true, some n => (match Region.lexTailB .any ops n with
      | true => stillOps2 E z B ops (seqOps2 E z B ops (Q .normal) (ops.toList.drop n)) (ops.toList.take n) l T.soil w
      | false => (match Region.noSelect ops, findN id E.boxes with
        | true, some _ => syncF z B T.soil w fun W => boxF E ops W (fun l' w1 => keptF (numsOf (B ++ ((T.drop (touched (.region id ops true) T)).untags (dsts (.region id ops true))).bs)) W w1 (Q .normal l' ((T.drop (touched (.region id ops true) T)).untags (dsts (.region id ops true))) w1)) (boxDs E.P ops.toList) (ops.size + 1) (Array.replicate ops.size false) (forget (boxDs E.P ops.toList) l)
        | true, none => syncF z B T.soil w fun W => ∃ S : World → Prop, S W ∧ heldF E ops S (fun l' w1 => keptF (numsOf (B ++ ((T.drop (touched (.region id ops true) T)).untags (dsts (.region id ops true))).bs)) W w1 (Q .normal l' ((T.drop (touched (.region id ops true) T)).untags (dsts (.region id ops true))) w1)) ops.size true (Array.replicate ops.size false) l W
        | false, _ => False))
    | false, _ => False)
  | .seq a b, B, Q, l, T, w => (match (firstR b).bind fun i => findN i E.joins with
    | none => exec2 E z a B (fun e l' T' w' => match e with | .normal => exec2 E z b B Q l' T' w' | e => Q e l' T' w') l T w
    | some carried => syncF z B T w fun W => ∃ J : List Value → World → Prop,
      exec2 E z a (B ++ calm (delAll (touched a T) T.bs)) (fun e l' T' w' => match e with
        | .normal => syncF z (B ++ calm (delAll (touched a T) T.bs)) T' w' fun W => (match readAll l' carried with | some vs => J vs W | none => False)
        | e => Q e l' ⟨calm (delAll (touched a T) T.bs) ++ T'.bs, T'.tg, T'.sg, T'.nx, T'.d⟩ w') l ⟨calm (keepAll (touched a T) T.bs), T.tg, T.sg, T.nx, false⟩ W ∧
      allT (carried.map (·.2)) fun vs => ∀ w', J vs w' → locF z (blksOf (B ++ calm (delAll (touched a T) T.bs))) w' (exec2 E z b B Q (setAll carried vs (forget (dsts a) l)) ((⟨calm (delAll (touched a T) T.bs), T.tg, T.sg, T.nx, false⟩ : Trk).untags (dsts a ++ carriedS carried)) w'))
  | .cond c a b, B, Q, l, T, w => (match rd l [] c with
    | some (.bool t) => bsp t (exec2 E z a B Q l T w) (exec2 E z b B Q l T w)
    | _ => False)
  | .block id c, B, Q, l, T, w => exec2 E z c B (fun e l' T' w' => match e with | .exit i => (match i == id with | true => Q .normal l' T' w' | false => Q (.exit i) l' T' w') | e => Q e l' T' w') l T w
  | .loop c, B, Q, l, T, w => (match (firstR c).bind fun i => findN i E.loops with
    | none => False
    | some carried => syncF z B T w fun W => ∃ (I : List Value → World → Prop) (m : List Value → World → Nat),
      (match readAll l carried with | some vs => I vs W | none => False) ∧
      allT (carried.map (·.2)) fun vs => ∀ w', I vs w' → locF z (blksOf (B ++ calm (delAll (touched c T) T.bs))) w' (exec2 E z c (B ++ calm (delAll (touched c T) T.bs)) (fun e l' T' w'' => match e with
        | .normal => syncF z (B ++ calm (delAll (touched c T) T.bs)) T' w'' fun W' => (match readAll l' carried with | some vs' => I vs' W' ∧ m vs' W' < m vs w' | none => False)
        | e => Q e l' ⟨calm (delAll (touched c T) T.bs) ++ T'.bs, T'.tg, T'.sg, T'.nx, T'.d⟩ w'') (setAll carried vs (forget (dsts c) l)) ((⟨[], T.tg, T.sg, T.nx, false⟩ : Trk).untags (dsts c ++ carriedS carried)) w'))
  | .exit id, _, Q, l, T, w => Q (.exit id) l T w
  | .ret, _, Q, l, T, w => Q .ret l T w
  | _, _, _, _, _, _ => False
def resF2 (E : Env) (z : Nat) (T : Trk) (l : Fr) (w : World) : List ResultVar → (List Value → Prop) → Prop
  | [], F => F []
  | .tmp t :: r, F => (match rd l [] (.tmp t) with | some v => resF2 E z T l w r fun vs => F (v :: vs) | none => False)
  | .cell a t :: r, F => (match trkLoad E [] T a t with
    | some (some v) => resF2 E z T l w r fun vs => F (v :: vs)
    | some none => False
    | none => (match rd l [] (.tmp a) with
      | some (.pointer p) => loadF E true t p (syncF z [] T w) fun v => resF2 E z T l w r fun vs => F (v :: vs)
      | _ => False))
def retQ2 (E : Env) (z : Nat) (rs : List ResultVar) (R : Ending → World → Prop) : Exit → Fr → Trk → World → Prop
  | .normal, l, T, w => resF2 E z T l w rs fun vs => syncF z [] T w fun W => R (.returned (retV vs)) W
  | .ret, l, T, w => resF2 E z T l w rs fun vs => syncF z [] T w fun W => R (.returned (retV vs)) W
  | _, _, _, _ => False
def execR2 (E : Env) (rs : List ResultVar) (R : Ending → World → Prop) (c : Code) (l : Fr) (w : World) : Prop :=
  match findN 999999 E.joins with
  | none => exec2 E w.heap.size c [] (retQ2 E w.heap.size rs R) l ⟨[], [], [], 0, false⟩ w
  | some carried => ∃ J : List Value → World → Prop,
    exec2 E w.heap.size c [] (fun e l' T' w' => match e with
      | .normal => syncF w.heap.size [] T' w' fun W => (match readAll l' carried with | some vs => J vs W | none => False)
      | .ret => syncF w.heap.size [] T' w' fun W => (match readAll l' carried with | some vs => J vs W | none => False)
      | _ => False) l ⟨[], [], [], 0, false⟩ w ∧
    allT (carried.map (·.2)) fun vs => ∀ w', J vs w' → resF E (setAll carried vs (l.map fun _ => .u)) w' rs fun vs => R (.returned (retV vs)) w'

end Go.Proofs.YtkkfnlehlkiejaaGreatDoor

/- The symbolic evaluator, seventh part: soundness of the sixth. Generic: no program, no condition. -/
namespace Go.Proofs.YtkkfnlehlkiejaaGreatDoor
open Go.RowKit

theorem blksOf_eq : ∀ l : Bs, blksOf l = l.map (·.2)
  | [] => rfl
  | x :: r => by simp [blksOf, blksOf_eq r]
theorem numsOf_eq : ∀ l : Bs, numsOf l = l.map (·.2.n)
  | [] => rfl
  | x :: r => by simp [numsOf, numsOf_eq r]
theorem mem_blks {l : Bs} {b : Blk} : b ∈ blksOf l ↔ ∃ i, (i, b) ∈ l := by
  rw [blksOf_eq, List.mem_map]
  constructor
  · rintro ⟨x, hx, rfl⟩; exact ⟨x.1, hx⟩
  · rintro ⟨i, hi⟩; exact ⟨(i, b), hi, rfl⟩
theorem findN_mem {α : Type} {i : Nat} : ∀ {l : List (Nat × α)} {x : α}, findN i l = some x → (i, x) ∈ l
  | [], x, h => by simp [findN] at h
  | (j, y) :: r, x, h => by
    simp only [findN] at h
    cases hj : i == j with
    | true =>
      rw [hj] at h
      have : i = j := by simpa using hj
      simp at h; subst h; subst this; simp
    | false => rw [hj] at h; exact List.mem_cons_of_mem _ (findN_mem h)
theorem lookB_mem {B : Bs} {T : Trk} {id : Nat} {b : Blk} (h : lookB B T id = some b) : (id, b) ∈ B ++ T.bs := by
  unfold lookB at h
  split at h
  · rename_i x hx
    simp at h; subst h
    exact List.mem_append.2 (.inr (findN_mem hx))
  · exact List.mem_append.2 (.inl (findN_mem h))
theorem delN_mem {α : Type} {d : Nat} : ∀ {l : List (Nat × α)} {x : Nat × α}, x ∈ delN d l → x ∈ l ∧ x.1 ≠ d
  | [], x, h => by simp [delN] at h
  | y :: r, x, h => by
    simp only [delN] at h
    cases hj : y.1 == d with
    | true =>
      rw [hj] at h
      obtain ⟨h1, h2⟩ := delN_mem h
      exact ⟨List.mem_cons_of_mem _ h1, h2⟩
    | false =>
      rw [hj] at h
      rcases List.mem_cons.1 h with h | h
      · subst h; exact ⟨List.mem_cons_self, by simpa using hj⟩
      · obtain ⟨h1, h2⟩ := delN_mem h
        exact ⟨List.mem_cons_of_mem _ h1, h2⟩
theorem memN_iff {d : Nat} : ∀ {l : List Nat}, memN d l = true ↔ d ∈ l
  | [] => by simp [memN]
  | x :: r => by
    simp only [memN]
    cases hx : x == d with
    | true => have : x = d := by simpa using hx
              subst this; simp
    | false =>
      have : ¬ d = x := fun e => by subst e; simp at hx
      simp [memN_iff, this]
theorem delAll_mem {α : Type} {ds : List Nat} : ∀ {l : List (Nat × α)} {x : Nat × α}, x ∈ delAll ds l → x ∈ l ∧ x.1 ∉ ds
  | [], x, h => by simp [delAll] at h
  | y :: r, x, h => by
    simp only [delAll] at h
    cases hj : memN y.1 ds with
    | true =>
      rw [hj] at h
      obtain ⟨h1, h2⟩ := delAll_mem h
      exact ⟨List.mem_cons_of_mem _ h1, h2⟩
    | false =>
      rw [hj] at h
      rcases List.mem_cons.1 h with h | h
      · subst h; exact ⟨List.mem_cons_self, fun hm => by rw [memN_iff.2 hm] at hj; cases hj⟩
      · obtain ⟨h1, h2⟩ := delAll_mem h
        exact ⟨List.mem_cons_of_mem _ h1, h2⟩
theorem delAll_sub {α : Type} {ds : List Nat} : ∀ (l : List (Nat × α)), (delAll ds l).Sublist l
  | [] => .slnil
  | y :: r => by
    simp only [delAll]
    cases memN y.1 ds with
    | true => exact (delAll_sub r).cons _
    | false => exact (delAll_sub r).cons_cons _
theorem delKeep_perm {α : Type} {ds : List Nat} : ∀ (l : List (Nat × α)), (delAll ds l ++ keepAll ds l).Perm l
  | [] => .refl _
  | y :: r => by
    simp only [delAll, keepAll]
    cases memN y.1 ds with
    | true => exact List.perm_middle.trans (.cons _ (delKeep_perm r))
    | false => exact .cons _ (delKeep_perm r)
theorem calm_mem {l : Bs} {x : Nat × Blk} (h : x ∈ calm l) : x.2.m = 0 ∧ ∃ y ∈ l, y.1 = x.1 ∧ y.2.n = x.2.n := by
  induction l with
  | nil => cases h
  | cons a r ih =>
    rcases List.mem_cons.1 h with h | h
    · subst h; exact ⟨rfl, a, List.mem_cons_self, rfl, rfl⟩
    · obtain ⟨h1, y, hy, h2⟩ := ih h
      exact ⟨h1, y, List.mem_cons_of_mem _ hy, h2⟩
/-- What does not change when the world is spoken of anew. -/
def Blk.key (x : Blk) : Nat × TypeId × List Value := (x.n, x.t, x.cs)
theorem calm_key : ∀ l : Bs, (blksOf (calm l)).map Blk.key = (blksOf l).map Blk.key
  | [] => rfl
  | x :: r => by simp only [calm, blksOf, List.map_cons, calm_key r]; rfl
theorem drop_tg (T : Trk) (ids : List Nat) : (T.drop ids).tg = T.tg ∧ (T.drop ids).sg = T.sg ∧ (T.drop ids).nx = T.nx := ⟨rfl, rfl, rfl⟩
theorem untag_bs (T : Trk) (dst : Option Nat) : (T.untag dst).bs = T.bs := by unfold Trk.untag; split <;> rfl

/-! ### The worlds -/
theorem loc_zero {z : Nat} {L L' L'' : List Blk} {w W : World} (h : Loc z L w W) (hs : L'.Sublist L) (hk : L''.map Blk.key = L'.map Blk.key) (hm : ∀ x ∈ L'', x.m = 0) : Loc z L'' W W := by
  have old : ∀ x ∈ L'', ∃ y ∈ L, y.key = x.key := fun x hx => by
    have : x.key ∈ L'.map Blk.key := by rw [← hk]; exact List.mem_map.2 ⟨x, hx, rfl⟩
    obtain ⟨y, hy, e⟩ := List.mem_map.1 this
    exact ⟨y, hs.subset hy, e⟩
  refine ⟨.refl _ _, fun x hx => ?_, fun x hx => ?_, ?_, (fun x hx h2 => by rw [hm x hx] at h2; cases h2), Nat.le_trans h.hz h.kp.size⟩
  · obtain ⟨y, hy, e⟩ := old x hx
    have := h.blk y hy
    simp only [Blk.key, Prod.mk.injEq] at e
    rw [← e.1, ← e.2.1, ← e.2.2]; exact this
  · obtain ⟨y, hy, e⟩ := old x hx
    have := h.ge y hy
    simp only [Blk.key, Prod.mk.injEq] at e
    rw [← e.1]; exact this
  · have e : ∀ l : List Blk, l.map (·.n) = (l.map Blk.key).map (·.1) := fun l => by rw [List.map_map]; rfl
    rw [e, hk, ← e]
    exact h.ne.sublist (hs.map _)
theorem Loc.perm {z : Nat} {T T' : List Blk} {w W : World} (h : Loc z T w W) (hs : T.Perm T') : Loc z T' w W :=
  ⟨h.kp.mono fun _ _ ⟨x, hx, e⟩ => ⟨x, hs.mem_iff.1 hx, e⟩, fun x hx => h.blk x (hs.mem_iff.2 hx), fun x hx => h.ge x (hs.mem_iff.2 hx), (hs.map _).nodup_iff.1 h.ne, fun x hx => h.nw x (hs.mem_iff.2 hx), h.hz⟩
theorem Loc.drew {z : Nat} {T : List Blk} {w W : World} (h : Loc z T w W) : Loc z T w W.drew := ⟨h.kp.drew, h.blk, h.ge, h.ne, h.nw, h.hz⟩
/-- What was kept is kept. -/
theorem Loc.k0 {w0 : World} {T : List Blk} {w W : World} (h : Loc w0.heap.size T w W) (hk : K0 w0 w) : K0 w0 W :=
  hk.fresh h.kp (fun i hi ⟨x, hx, _, e⟩ => by have := h.ge x hx; omega)
/-- No old block is written. -/
theorem Loc.kk {z : Nat} {T : List Blk} {w W : World} (h : Loc z T w W) (hm : (T.all fun x => !(x.m == 1)) = true) : K0 w W := h.kp.mono fun _ _ ⟨x, hx, e, _⟩ => by
  have := List.all_eq_true.1 hm x hx
  simp [e] at this
theorem Loc.fresh {z : Nat} {T : List Blk} {w W : World} (h : Loc z T w W) (i : Nat) {b : Blk} (hb : T[i]? = some b) (hm : b.m = 2) : w.heap.size ≤ b.n := h.nw b (List.mem_of_getElem? hb) hm
theorem Loc.apart {z : Nat} {T : List Blk} {w W : World} (h : Loc z T w W) (i j : Nat) {a b : Blk} (ha : T[i]? = some a) (hb : T[j]? = some b) (hij : i ≠ j) : a.n ≠ b.n := fun e => by
  have h1 : (T.map (·.n))[i]? = some a.n := by rw [List.getElem?_map, ha]; rfl
  have h2 : (T.map (·.n))[j]? = some b.n := by rw [List.getElem?_map, hb]; rfl
  obtain ⟨hi, e1⟩ := List.getElem?_eq_some_iff.1 h1
  obtain ⟨hj, e2⟩ := List.getElem?_eq_some_iff.1 h2
  have key := List.pairwise_iff_getElem.1 h.ne
  rcases Nat.lt_or_gt_of_ne hij with hlt | hlt
  · exact key i j hi hj hlt (e1.trans (e.trans e2.symm))
  · exact key j i hj hi hlt (e2.trans (e.symm.trans e1.symm))
theorem Loc.cells {z : Nat} {T : List Blk} {w W : World} (h : Loc z T w W) (i : Nat) {b : Blk} (hb : T[i]? = some b) : W.heap[b.n]? = some (.cells b.cs.toArray b.t (0, 0)) := h.blk b (List.mem_of_getElem? hb)
theorem Loc.le {z : Nat} {T : List Blk} {w W : World} (h : Loc z T w W) (i : Nat) {b : Blk} (hb : T[i]? = some b) : z ≤ b.n := h.ge b (List.mem_of_getElem? hb)
theorem KeptL.of_kp {l : List Nat} {W w' : World} {M : Nat → Prop} (h : Kp M W w') (hl : ∀ n ∈ l, ¬ M n) : KeptL l W w' := ⟨h.size, fun n hn hlt => h.block n hlt (hl n hn)⟩
theorem KeptL.of_k0 {l : List Nat} {W w' : World} (h : K0 W w') : KeptL l W w' := .of_kp h (fun _ _ h => h)
theorem KeptL.refl (l : List Nat) (W : World) : KeptL l W W := ⟨Nat.le_refl _, fun _ _ _ => rfl⟩
theorem keptF_ok {L : Bs} {W w' : World} {X : Prop} (h : keptF (numsOf L) W w' X) : W.heap.size ≤ w'.heap.size ∧ (∀ x ∈ L, x.2.n < W.heap.size → w'.heap[x.2.n]? = W.heap[x.2.n]?) ∧ X :=
  ⟨h.1.size, fun x hx => h.1.h _ (by rw [numsOf_eq]; exact List.mem_map.2 ⟨x, hx, rfl⟩), h.2⟩
/-- The world that is spoken of, and the world. -/
structure LocD (z : Nat) (B : Bs) (T : Trk) (w W : World) : Prop where
  l : Loc z (allB B T) w W
  d : T.d = false → W = w
  b0 : ∀ x ∈ B, x.2.m = 0
theorem syncF_use {z : Nat} {B : Bs} {T : Trk} {w W : World} {K : World → Prop} (h : syncF z B T w K) (hL : LocD z B T w W) : K W := by
  unfold syncF at h
  split at h
  · rename_i hd; rw [hL.d hd]; exact h
  · exact h W hL.l
theorem blks_sub {l l' : Bs} (h : l.Sublist l') : (blksOf l).Sublist (blksOf l') := by rw [blksOf_eq, blksOf_eq]; exact h.map _
theorem blks_app (l l' : Bs) : blksOf (l ++ l') = blksOf l ++ blksOf l' := by simp [blksOf_eq]
/-- The world is spoken of anew. -/
theorem LocD.anew {z : Nat} {B : Bs} {T T' : Trk} {w W : World} (h : LocD z B T w W) {ids : List Nat} (hs : T'.bs = calm (delAll ids T.bs)) : LocD z B T' W W := by
  refine ⟨loc_zero (L' := blksOf (B ++ delAll ids T.bs)) h.l (blks_sub ((List.Sublist.refl B).append (delAll_sub _))) ?_ ?_, fun _ => rfl, h.b0⟩
  · unfold allB; rw [hs, blks_app, blks_app, List.map_append, List.map_append, calm_key]
  · intro x hx
    obtain ⟨i, hi⟩ := mem_blks.1 hx
    rcases List.mem_append.1 hi with hi | hi
    · exact h.b0 _ hi
    · rw [hs] at hi; exact (calm_mem hi).1
theorem LocD.eff {z : Nat} {B : Bs} {T T' : Trk} {w W w' : World} (h : LocD z B T w W) {ids : List Nat} (hs : T'.bs = calm (delAll ids T.bs)) (hsz : W.heap.size ≤ w'.heap.size) (hk : ∀ x ∈ B ++ T'.bs, x.2.n < W.heap.size → w'.heap[x.2.n]? = W.heap[x.2.n]?) : LocD z B T' w' w' := by
  obtain ⟨h1, _, h3⟩ := h.anew hs
  refine ⟨⟨.refl _ _, fun x hx => ?_, h1.ge, h1.ne, fun x hx h2 => ?_, Nat.le_trans h1.hz hsz⟩, fun _ => rfl, h3⟩
  · obtain ⟨i, hi⟩ := mem_blks.1 hx
    rw [hk _ hi (block_lt (h1.blk x hx))]
    exact h1.blk x hx
  · exfalso
    obtain ⟨i, hi⟩ := mem_blks.1 hx
    have : x.m = 0 := by
      rcases List.mem_append.1 hi with hi | hi
      · exact h.b0 _ hi
      · rw [hs] at hi; exact (calm_mem hi).1
    omega

/-! ### The slots that point into the blocks -/
structure TagOK (B : Bs) (T : Trk) (t : Array Value) : Prop where
  p : ∀ s id off, (s, id, off) ∈ T.tg → id < T.nx ∧ ∀ b, (id, b) ∈ B ++ T.bs → t.getD s undef = .pointer (some ⟨b.n, off, none⟩)
  s : ∀ s id, (s, id) ∈ T.sg → id < T.nx ∧ ∀ b, (id, b) ∈ B ++ T.bs → ∃ m c, t.getD s undef = .slice (some ⟨b.n, 0, none⟩) m c
  lt : ∀ x ∈ B ++ T.bs, x.1 < T.nx
theorem TagOK.of {B B' : Bs} {T T' : Trk} {t t' : Array Value} (h : TagOK B T t) (h1 : ∀ x ∈ T'.tg, x ∈ T.tg ∧ t'.getD x.1 undef = t.getD x.1 undef) (h2 : ∀ x ∈ T'.sg, x ∈ T.sg ∧ t'.getD x.1 undef = t.getD x.1 undef)
    (h3 : ∀ x ∈ B' ++ T'.bs, ∃ y ∈ B ++ T.bs, y.1 = x.1 ∧ y.2.n = x.2.n) (h4 : T.nx ≤ T'.nx) : TagOK B' T' t' := by
  refine ⟨fun s id off hx => ?_, fun s id hx => ?_, fun x hx => by obtain ⟨y, hy, e, _⟩ := h3 x hx; have := h.lt y hy; omega⟩
  · obtain ⟨a, b⟩ := h1 _ hx
    obtain ⟨c, d⟩ := h.p s id off a
    refine ⟨by omega, fun bb hb => ?_⟩
    obtain ⟨⟨i, y⟩, hy, rfl, e2⟩ := h3 _ hb
    have := d y hy
    simp only at b e2
    rw [b, this, e2]
  · obtain ⟨a, b⟩ := h2 _ hx
    obtain ⟨c, d⟩ := h.s s id a
    refine ⟨by omega, fun bb hb => ?_⟩
    obtain ⟨⟨i, y⟩, hy, rfl, e2⟩ := h3 _ hb
    obtain ⟨m, k, e⟩ := d y hy
    simp only at b e2
    exact ⟨m, k, by rw [b, e, e2]⟩
theorem TagOK.put {B : Bs} {T : Trk} {t : Array Value} (h : TagOK B T t) {dst : Option Nat} {t' : Array Value} (hs : Same dst.toList t t') : TagOK B (T.untag dst) t' := by
  cases dst with
  | none => exact h.of (fun x hx => ⟨hx, hs.at_ _ (by simp)⟩) (fun x hx => ⟨hx, hs.at_ _ (by simp)⟩) (fun x hx => ⟨x, hx, rfl, rfl⟩) (Nat.le_refl _)
  | some d =>
    refine h.of (fun x hx => ?_) (fun x hx => ?_) (fun x hx => ⟨x, hx, rfl, rfl⟩) (Nat.le_refl _)
    · obtain ⟨h1, h2⟩ := delN_mem hx; exact ⟨h1, hs.at_ _ (by simpa using h2)⟩
    · obtain ⟨h1, h2⟩ := delN_mem hx; exact ⟨h1, hs.at_ _ (by simpa using h2)⟩
theorem TagOK.drop {B : Bs} {T : Trk} {t : Array Value} (h : TagOK B T t) (ids : List Nat) : TagOK B (T.drop ids) t := by
  obtain ⟨e1, e2, e3⟩ := drop_tg T ids
  refine h.of (fun x hx => ⟨by rw [e1] at hx; exact hx, rfl⟩) (fun x hx => ⟨by rw [e2] at hx; exact hx, rfl⟩) (fun x hx => ?_) (by omega)
  rcases List.mem_append.1 hx with hx | hx
  · exact ⟨x, List.mem_append.2 (.inl hx), rfl, rfl⟩
  · obtain ⟨_, y, hy, h2⟩ := calm_mem hx
    exact ⟨y, List.mem_append.2 (.inr (delAll_mem hy).1), h2⟩
theorem dropF_ok {z : Nat} {B : Bs} {T : Trk} {ids : List Nat} {w W : World} {K : Trk → World → Prop} {t : Array Value} (hf : dropF z B T ids w K) (hT : TagOK B T t) (hL : LocD z B T w W) : ∃ T' w', K T' w' ∧ TagOK B T' t ∧ LocD z B T' w' W := by
  unfold dropF at hf
  split at hf
  · exact ⟨T, w, hf, hT, hL⟩
  · exact ⟨_, W, syncF_use hf hL, hT.drop _, hL.anew rfl⟩
theorem trkLoad_ok {E : Env} {z : Nat} {B : Bs} {T : Trk} {s : Nat} {ty : TypeId} {v : Value} {t : Array Value} {w W : World} (h : trkLoad E B T s ty = some (some v)) (hT : TagOK B T t) (hL : Loc z (allB B T) w W) :
    ∃ b off agg n cs, t.getD s undef = .pointer (some ⟨b, off, none⟩) ∧ ldK E.P ty = some (agg, n) ∧ (cs.length == n) = true ∧ At W b off cs ∧ v = toV agg cs := by
  unfold trkLoad at h
  split at h
  · cases h
  · rename_i id off hid
    split at h
    · cases h
    · rename_i b hb
      split at h
      · rename_i agg n hk
        split at h
        · rename_i hn
          simp at h; subst h
          have hm := lookB_mem hb
          refine ⟨b.n, off, agg, n, (b.cs.drop off).take n, (hT.p s id off (findN_mem hid)).2 b hm, hk, hn, ?_, rfl⟩
          have hbk := hL.blk b (mem_blks.2 ⟨id, hm⟩)
          refine (AtL_block hbk ?_).h
          have : ((b.cs.drop off).take n).length = n := by simpa using hn
          rw [this]
        · cases h
      · cases h
theorem Same.dst {t t' : Array Value} {dst : Option Nat} {v : Value} (h : t' = (({ tmps := t, defers := [] } : Act).put dst v).tmps) : Same dst.toList t t' := by rw [h]; exact .put t dst v
theorem run_fieldAt {P : Program} {st : TypeId} {f k b o : Nat} {w : World} (h : fieldOff P st f = some k) : (Instr.fieldAt st (.pointer (some ⟨b, o, none⟩)) f).run P w = .ok (.pointer (some ⟨b, o + k, none⟩)) w := by
  unfold fieldOff at h
  split at h
  · rename_i fs hu
    split at h
    · rename_i fd hfd
      split at h
      · cases h
      · rename_i m hsz
        simp at h; subst h
        have hU := run_underlying' (w := w) hu
        have hS := run_sizeOf' (w := w) hsz
        simp [Instr.fieldAt, hU, hfd, Instr.sureAddr, fieldPlace, hS, add_plain]
      · cases h
    · cases h
  · cases h
end Go.Proofs.YtkkfnlehlkiejaaGreatDoor

/- The symbolic evaluator, eighth part: soundness of the sixth, operations. Generic: no program, no condition. -/
namespace Go.Proofs.YtkkfnlehlkiejaaGreatDoor
open Go.RowKit

theorem inB_get {l : Fr} {t : Array Value} (h : Rel l t) {d : Nat} (hb : inB (some d) l = true) (v : Value) : (({ tmps := t, defers := [] } : Act).put (some d) v).tmps.getD d undef = v := by
  have hd : d < l.length := by simpa [inB] using hb
  have : d < t.size := by rw [h.size]; exact hd
  show (t.setIfInBounds d v).getD d undef = v
  exact getD_set_eq v this
theorem tag_addTg {B : Bs} {T : Trk} {t : Array Value} {l : Fr} {dst : Option Nat} {id off : Nat} {b : Blk} (hR : Rel l t) (hi : inB dst l = true) (h : TagOK B T t) {s o' : Nat} (hs : (s, id, o') ∈ T.tg) (hsame : ∀ b', (id, b') ∈ B ++ T.bs → b'.n = b.n) :
    TagOK B (addTg dst id off T) (({ tmps := t, defers := [] } : Act).put dst (.pointer (some ⟨b.n, off, none⟩))).tmps := by
  have hS := Same.put t dst (.pointer (some ⟨b.n, off, none⟩))
  cases dst with
  | none => exact h.of (fun x hx => ⟨hx, hS.at_ _ (by simp)⟩) (fun x hx => ⟨hx, hS.at_ _ (by simp)⟩) (fun x hx => ⟨x, hx, rfl, rfl⟩) (Nat.le_refl _)
  | some d =>
    have h0 := h.put hS
    refine ⟨fun s i o hx => ?_, fun s i hx => h0.s s i hx, h0.lt⟩
    rcases List.mem_cons.1 hx with hx | hx
    · cases hx
      refine ⟨(h.p _ _ _ hs).1, fun b' hb' => ?_⟩
      rw [inB_get hR hi, hsame b' hb']
    · exact h0.p s i o hx
theorem tag_addSg {B : Bs} {T : Trk} {t : Array Value} {l : Fr} {dst : Option Nat} {id m : Nat} {b : Blk} (hR : Rel l t) (hi : inB dst l = true) (h : TagOK B T t) {s o' : Nat} (hs : (s, id, o') ∈ T.tg) (hsame : ∀ b', (id, b') ∈ B ++ T.bs → b'.n = b.n) :
    TagOK B (addSg dst id T) (({ tmps := t, defers := [] } : Act).put dst (.slice (some ⟨b.n, 0, none⟩) m m)).tmps := by
  have hS := Same.put t dst (.slice (some ⟨b.n, 0, none⟩) m m)
  cases dst with
  | none => exact h.of (fun x hx => ⟨hx, hS.at_ _ (by simp)⟩) (fun x hx => ⟨hx, hS.at_ _ (by simp)⟩) (fun x hx => ⟨x, hx, rfl, rfl⟩) (Nat.le_refl _)
  | some d =>
    have h0 := h.put hS
    refine ⟨fun s i o hx => h0.p s i o hx, fun s i hx => ?_, h0.lt⟩
    rcases List.mem_cons.1 hx with hx | hx
    · cases hx
      refine ⟨(h.p _ _ _ hs).1, fun b' hb' => ⟨m, m, ?_⟩⟩
      rw [inB_get hR hi, hsame b' hb']
    · exact h0.s s i hx
/-- All blocks of one number in mind are one. -/
theorem TagOK.same {B : Bs} {T : Trk} {t : Array Value} (h : TagOK B T t) {s id off : Nat} (hs : (s, id, off) ∈ T.tg) {b : Blk} (hb : (id, b) ∈ B ++ T.bs) : ∀ b', (id, b') ∈ B ++ T.bs → b'.n = b.n := fun b' hb' => by
  have h1 := (h.p _ _ _ hs).2 b hb
  have h2 := (h.p _ _ _ hs).2 b' hb'
  rw [h1] at h2
  simp at h2
  exact h2.symm
theorem isNone_eq {α : Type} {x : Option α} (h : isNone' x = true) : x = none := by cases x with | none => rfl | some _ => cases h

section
variable {E : Env} (hp : PurOK E) {ops : Array Oper} {z : Nat} {B : Bs}
omit hp in
theorem trkAddr_ok {T : Trk} {o : Oper} {t : Array Value} {w : World} {id n off : Nat} (h : trkAddr E B T o = some (id, n, off)) (hT : TagOK B T t) :
    o.guard = none ∧ (∃ b s o', (id, b) ∈ B ++ T.bs ∧ b.n = n ∧ (s, id, o') ∈ T.tg) ∧ YieldsV E.P o { tmps := t, defers := [] } w (.pointer (some ⟨n, off, none⟩)) := by
  obtain ⟨dst, op, ty, pos, aft, gd⟩ := o
  unfold trkAddr at h
  split at h
  · cases h
  rename_i hg
  refine ⟨isNone_eq hg, ?_⟩
  simp only at h
  have cpy : ∀ {s : Nat} {id' off' : Nat} {b : Blk}, findN s T.tg = some (id', off') → lookB B T id' = some b → (∃ b' s o', (id', b') ∈ B ++ T.bs ∧ b'.n = b.n ∧ (s, id', o') ∈ T.tg) ∧ t.getD s undef = .pointer (some ⟨b.n, off', none⟩) := fun h1 h2 =>
    ⟨⟨_, _, _, lookB_mem h2, rfl, findN_mem h1⟩, (hT.p _ _ _ (findN_mem h1)).2 _ (lookB_mem h2)⟩
  split at h
  · rename_i st s f
    split at h
    · rename_i id' off' hf
      split at h
      · rename_i b k hb hk
        simp at h
        obtain ⟨rfl, rfl, rfl⟩ := h
        obtain ⟨h1, h2⟩ := cpy hf hb
        refine ⟨h1, .inl ?_⟩
        have := run_fieldAt (w := w) (b := b.n) (o := off') hk
        simp only [execOp, Act.eval, h2]
        simp [this]
      · cases h
    · cases h
  · rename_i tt s k i
    split at h
    · rename_i id' off' hf
      split at h
      · rename_i b m e hb hu
        split at h
        · rename_i sz hsz hi
          simp at h
          obtain ⟨rfl, rfl, rfl⟩ := h
          obtain ⟨h1, h2⟩ := cpy hf hb
          refine ⟨h1, .inl ?_⟩
          have hU := run_underlying' (w := w) hu
          have hS := run_sizeOf' (w := w) hsz
          simp only [Bool.and_eq_true, decide_eq_true_eq] at hi
          simp only [execOp, Act.eval, h2]
          simp [Instr.indexAt, asIntOf, hU, hi.1, hi.2, hS, add_plain, idx_eq, Instr.sureAddr]
        · cases h
      · cases h
    · cases h
  · rename_i s
    split at h
    · rename_i id' off' hf
      split at h
      · rename_i b hb
        simp at h
        obtain ⟨rfl, rfl, rfl⟩ := h
        obtain ⟨h1, h2⟩ := cpy hf hb
        refine ⟨h1, .inl ?_⟩
        simp only [execOp, Act.eval, h2]
        rfl
      · cases h
    · cases h
  · rename_i s
    split at h
    · rename_i id' off' hf
      split at h
      · rename_i b hb
        simp at h
        obtain ⟨rfl, rfl, rfl⟩ := h
        obtain ⟨h1, h2⟩ := cpy hf hb
        refine ⟨h1, .inl ?_⟩
        simp only [execOp, Act.eval, h2]
        rfl
      · cases h
    · cases h
  · rename_i s
    split at h
    · rename_i id' off' hf
      split at h
      · rename_i b hb
        simp at h
        obtain ⟨rfl, rfl, rfl⟩ := h
        obtain ⟨h1, h2⟩ := cpy hf hb
        refine ⟨h1, .inl ?_⟩
        simp only [execOp, Act.eval, h2]
        rfl
      · cases h
    · cases h
  · cases h
omit hp in
theorem trkSlice_ok {T : Trk} {o : Oper} {t : Array Value} {w : World} {id n m : Nat} (h : trkSlice E B T o = some (id, n, m)) (hT : TagOK B T t) :
    o.guard = none ∧ (∃ b s o', (id, b) ∈ B ++ T.bs ∧ b.n = n ∧ (s, id, o') ∈ T.tg) ∧ YieldsV E.P o { tmps := t, defers := [] } w (.slice (some ⟨n, 0, none⟩) m m) := by
  obtain ⟨dst, op, ty, pos, aft, gd⟩ := o
  unfold trkSlice at h
  split at h
  · cases h
  rename_i hg
  refine ⟨isNone_eq hg, ?_⟩
  simp only at h
  split at h
  · rename_i tt s
    split at h
    · rename_i id' hf
      split at h
      · rename_i b k e hb hu
        split at h
        · rename_i sz hsz
          simp at h
          obtain ⟨rfl, rfl, rfl⟩ := h
          have h2 := (hT.p _ _ _ (findN_mem hf)).2 _ (lookB_mem hb)
          refine ⟨⟨_, _, _, lookB_mem hb, rfl, findN_mem hf⟩, .inl ?_⟩
          have hU := run_underlying' (w := w) hu
          have hS := run_sizeOf' (w := w) hsz
          simp only [execOp, Act.eval, h2]
          simp [Instr.sliceAt, hU, Instr.sureAddr, Instr.sliceBounds, hS, Addr.add]
        · cases h
      · cases h
    · cases h
  · cases h
include hp
theorem still2_ok {o : Oper} {l : Fr} {T : Trk} {w W : World} {tmps : Array Value} {ctx : Option (Nat × Bool)} {K : Fr → Trk → World → Prop} (h : Rel l tmps) (hT : TagOK B T tmps) (hL : LocD z B T w W)
    (hwo : Region.wanted o (yielded ops tmps) = true ↔ Wants tmps ctx) (hg0 : o.guard = none → ctx = none) (hf : still2 E z B o ctx l T w K) :
    ∃ v l' T' w', K l' T' w' ∧ Rel l' (({ tmps, defers := [] } : Act).put o.dst v).tmps ∧ TagOK B T' (({ tmps, defers := [] } : Act).put o.dst v).tmps ∧ LocD z B T' w' W ∧
      ((Region.wanted o (yielded ops tmps) = true ∧ YieldsV E.P o { tmps, defers := [] } W v) ∨ (Region.wanted o (yielded ops tmps) = false ∧ v = undef)) := by
  have hLu : ∀ {T : Trk} {w : World}, LocD z B T w W → LocD z B (T.untag o.dst) w W := fun {T w} hL => ⟨by unfold allB; rw [untag_bs]; exact hL.l, by unfold Trk.untag; split <;> exact hL.d, hL.b0⟩
  unfold still2 at hf
  split at hf
  · rename_i v hl
    obtain ⟨tt, s, hop, hl⟩ : ∃ tt s, o.op = .load tt (.tmp s) ∧ trkLoad E B T s tt = some (some v) := by
      split at hl
      · rename_i tt s hop; exact ⟨tt, s, hop, hl⟩
      · cases hl
    split at hf
    · rename_i hd
      have hW := deadB_ok h 12 ctx hd
      refine ⟨undef, _, _, _, hf, h.fin (ctx := none) (fun _ => rfl) (fun hn => absurd trivial hn), hT.put (.put _ _ _), hLu hL, .inr ⟨?_, rfl⟩⟩
      cases hw : Region.wanted o (yielded ops tmps) with
      | true => exact absurd (hwo.1 hw) hW
      | false => rfl
    · split at hf
      · obtain ⟨b, off, agg, n, cs, h1, h2, h3, h4, rfl⟩ := trkLoad_ok hl hT hL.l
        cases hw : Region.wanted o (yielded ops tmps) with
        | true =>
          have hW := hwo.1 hw
          refine ⟨_, _, _, _, hf, h.fin (fun _ => rfl) (fun hn => absurd hW hn), hT.put (.put _ _ _), hLu hL, .inl ⟨rfl, .inl ?_⟩⟩
          obtain ⟨dst, op, ty, pos, aft, gd⟩ := o
          simp only at hop; subst hop
          have := run_loadAt h2 h3 h4
          simp only [execOp, Act.eval, h1]
          simp [this]
        | false =>
          have hW : ¬ Wants tmps ctx := fun hW => by rw [hwo.2 hW] at hw; cases hw
          exact ⟨undef, _, _, _, hf, h.fin (fun hy => absurd hy hW) (fun _ => rfl), hT.put (.put _ _ _), hLu hL, .inr ⟨rfl, rfl⟩⟩
      · exact hf.elim
  · exact hf.elim
  · split at hf
    · rename_i id n off ha
      obtain ⟨h1, ⟨b, s, o', h2, rfl, h3⟩, h4⟩ := trkAddr_ok (w := W) ha hT
      split at hf
      · rename_i hi
        have hc := hg0 h1
        subst hc
        refine ⟨_, _, _, _, hf, h.fin (ctx := none) (fun _ => rfl) (fun hn => absurd trivial hn), tag_addTg h hi hT h3 (hT.same h3 h2), ?_, .inl ⟨hwo.2 trivial, h4⟩⟩
        unfold addTg
        split
        · exact hL
        · exact ⟨hL.l, hL.d, hL.b0⟩
      · exact hf.elim
    · split at hf
      · rename_i id n m ha
        obtain ⟨h1, ⟨b, s, o', h2, rfl, h3⟩, h4⟩ := trkSlice_ok (w := W) ha hT
        split at hf
        · rename_i hi
          have hc := hg0 h1
          subst hc
          refine ⟨_, _, _, _, hf, h.fin (ctx := none) (fun _ => rfl) (fun hn => absurd trivial hn), tag_addSg h hi hT h3 (hT.same h3 h2), ?_, .inl ⟨hwo.2 trivial, h4⟩⟩
          unfold addSg
          split
          · exact hL
          · exact ⟨hL.l, hL.d, hL.b0⟩
        · exact hf.elim
      · obtain ⟨T', w', hs, hT', hL'⟩ := dropF_ok hf hT hL
        obtain ⟨v, l', h1, h2, h3⟩ := still_ok0 hp h hwo hs
        refine ⟨v, l', _, _, h1, h2, hT'.put (.put _ _ _), hLu hL', ?_⟩
        rcases h3 with ⟨hw, hy⟩ | hw
        · exact .inl ⟨hw, hy W (fun φ hφ => syncF_use hφ hL')⟩
        · exact .inr hw
omit hp in
theorem ctx_guard {o : Oper} {ctx : Option (Nat × Bool)} (hc : ctxOf ops o = some ctx) (hg : o.guard = none) : ctx = none := by
  unfold ctxOf at hc
  rw [hg] at hc
  simp at hc; exact hc.symm
theorem stillOps2_ok {W : World} {K : Fr → Trk → World → Prop} {Q : Act → Prop} : ∀ (r : List Oper) (l : Fr) (T : Trk) (w : World) (tmps : Array Value), Rel l tmps → TagOK B T tmps → LocD z B T w W → stillOps2 E z B ops K r l T w →
    (∀ l' tmps' T' w', Rel l' tmps' → Same (r.filterMap (·.dst)) tmps tmps' → TagOK B T' tmps' → LocD z B T' w' W → K l' T' w' → Q { tmps := tmps', defers := [] }) → wpStill E.P ops W Q r { tmps, defers := [] }
  | [], l, T, w, tmps, h, hT, hL, hf, hQ => hQ l tmps T w h (.refl _ _) hT hL hf
  | o :: r, l, T, w, tmps, h, hT, hL, hf, hQ => by
    simp only [stillOps2] at hf
    cases hc : ctxOf ops o with
    | none => rw [hc] at hf; exact hf.elim
    | some ctx =>
      rw [hc] at hf
      simp only at hf
      obtain ⟨v, l', T', w', h1, h2, hT', hL', h3⟩ := still2_ok hp h hT hL (wanted_ok (tmps := tmps) hc) (ctx_guard hc) hf
      have next : wpStill E.P ops W Q r (({ tmps, defers := [] } : Act).put o.dst v) := by
        rw [put_act]
        refine stillOps2_ok r l' T' w' _ h2 hT' hL' h1 (fun l'' t'' T'' w'' hr hs hT2 hL2 hk => hQ l'' t'' T'' w'' hr ?_ hT2 hL2 hk)
        have := (Same.put tmps o.dst v).trans hs
        refine this.mono fun i hi => ?_
        rcases List.mem_append.1 hi with hi | hi
        · cases hd : o.dst with
          | none => simp [hd] at hi
          | some d => simp [hd] at hi; simp [hd, hi]
        · cases hd : o.dst with
          | none => simpa [hd] using hi
          | some d => simp only [List.filterMap_cons, hd, List.mem_cons]; exact .inr hi
      unfold wpStill
      rcases h3 with ⟨hw, hy⟩ | ⟨hw, rfl⟩
      · rw [if_pos hw]
        unfold Oper.still
        rcases hy with hy | ⟨_, f, args, hy, hcall⟩
        · rw [hy]; exact ⟨rfl, next⟩
        · rw [hy]; exact ⟨rfl, v, hcall, next⟩
      · rw [if_neg (by simp [hw])]
        exact next
end

end Go.Proofs.YtkkfnlehlkiejaaGreatDoor

/- The symbolic evaluator, ninth part: soundness of the sixth, effects. Generic: no program, no condition. -/
namespace Go.Proofs.YtkkfnlehlkiejaaGreatDoor
open Go.RowKit

theorem putL_repl : ∀ (vs c : List Value) (o : Nat), o + vs.length ≤ c.length → putL c o vs = repl c o vs.length vs
  | [], c, o, _ => by simp [putL, repl]
  | v :: r, c, o, h => by
    have hl : o < c.length := by simp at h; omega
    simp only [putL]
    rw [putL_repl r (c.set o v) (o + 1) (by simp at h ⊢; omega)]
    unfold repl
    rw [List.set_eq_take_append_cons_drop, if_pos hl]
    have e1 : (c.take o).length = o := by rw [List.length_take]; omega
    rw [show c.take o ++ v :: c.drop (o + 1) = (c.take o ++ [v]) ++ c.drop (o + 1) by simp]
    rw [List.take_append_of_le_length (by simp; omega), List.take_of_length_le (by simp; omega)]
    rw [List.drop_append]
    have e2 : (c.take o ++ [v]).length = o + 1 := by simp [e1]
    rw [List.drop_eq_nil_of_le (by omega), e2, List.drop_drop]
    simp only [List.length_cons, List.append_assoc, List.cons_append, List.nil_append]
    rw [show o + 1 + (o + 1 + r.length - (o + 1)) = o + (r.length + 1) by omega]
theorem WrF_at {w : World} {b o n : Nat} {c : Array Value} {t : TypeId} (h : w.heap[b]? = some (.cells c t (0, 0))) (hn : o + n ≤ c.size) : WrF w b o n := by
  match n, hn with
  | 0, _ => trivial
  | 1, hn =>
    refine ⟨⟨c[o], ?_⟩, frozen_block h _⟩
    rw [cell_block h]
    simp
  | n + 2, hn => exact WrL_block h hn
theorem setB_mem {id : Nat} {cs : List Value} : ∀ {l : Bs} {x : Nat × Blk}, x ∈ setB id cs l → ∃ y ∈ l, y.1 = x.1 ∧ y.2.n = x.2.n
  | [], x, h => by simp [setB] at h
  | y :: r, x, h => by
    simp only [setB] at h
    cases hj : y.1 == id with
    | true =>
      rw [hj] at h
      rcases List.mem_cons.1 h with h | h
      · subst h; exact ⟨y, List.mem_cons_self, rfl, rfl⟩
      · exact ⟨x, List.mem_cons_of_mem _ h, rfl, rfl⟩
    | false =>
      rw [hj] at h
      rcases List.mem_cons.1 h with h | h
      · subst h; exact ⟨x, List.mem_cons_self, rfl, rfl⟩
      · obtain ⟨y', h1, h2⟩ := setB_mem h
        exact ⟨y', List.mem_cons_of_mem _ h1, h2⟩
/-- One block of the list is written. -/
theorem setB_split {id : Nat} {cs : List Value} : ∀ {l : Bs} {b : Blk}, findN id l = some b → ∃ l1 l2, l = l1 ++ (id, b) :: l2 ∧ setB id cs l = l1 ++ (id, ⟨b.n, b.t, cs, wrM b.m⟩) :: l2
  | [], b, h => by simp [findN] at h
  | (j, y) :: r, b, h => by
    simp only [findN] at h
    cases hj : id == j with
    | true =>
      have e : id = j := by simpa using hj
      subst e
      rw [hj] at h
      simp at h; subst h
      exact ⟨[], r, rfl, by simp [setB]⟩
    | false =>
      rw [hj] at h
      obtain ⟨l1, l2, h1, h2⟩ := setB_split (cs := cs) h
      have hj' : (j == id) = false := by
        cases hx : j == id with
        | false => rfl
        | true => have : j = id := by simpa using hx
                  subst this; simp at hj
      refine ⟨(j, y) :: l1, l2, by rw [h1]; rfl, ?_⟩
      simp only [setB, hj', h2]
      rfl
theorem loc_store {z : Nat} {T T' : List Blk} {l1 l2 : List Blk} {b : Blk} {cs : List Value} {w W w1 : World} (h : Loc z T w W) (e : T = l1 ++ b :: l2) (e' : T' = l1 ++ ⟨b.n, b.t, cs, wrM b.m⟩ :: l2) (hk : Kp (· = b.n) W w1) (hb : w1.heap[b.n]? = some (.cells cs.toArray b.t (0, 0))) : Loc z T' w w1 := by
  subst e; subst e'
  generalize hm : wrM b.m = m
  unfold wrM at hm
  have hnd := h.ne
  rw [List.map_append, List.map_cons] at hnd
  have hne : ∀ x ∈ l1 ++ l2, x.n ≠ b.n := fun x hx => by
    have hp : (l1.map (·.n) ++ b.n :: l2.map (·.n)).Perm (b.n :: (l1.map (·.n) ++ l2.map (·.n))) := List.perm_middle
    have := hp.nodup_iff.1 hnd
    intro e
    refine (List.nodup_cons.1 this).1 ?_
    rw [← List.map_append, ← e]
    exact List.mem_map.2 ⟨x, hx, rfl⟩
  have mem : ∀ {x : Blk} {y : Blk}, x ∈ l1 ++ y :: l2 → x ∈ l1 ++ l2 ∨ x = y := fun {x y} hx => by
    rcases List.mem_append.1 hx with h1 | h1
    · exact .inl (List.mem_append.2 (.inl h1))
    · rcases List.mem_cons.1 h1 with h1 | h1
      · exact .inr h1
      · exact .inl (List.mem_append.2 (.inr h1))
  have mem' : ∀ {x y : Blk}, x ∈ l1 ++ l2 → x ∈ l1 ++ y :: l2 := fun {x y} hx => by
    rcases List.mem_append.1 hx with h1 | h1
    · exact List.mem_append.2 (.inl h1)
    · exact List.mem_append.2 (.inr (List.mem_cons_of_mem _ h1))
  have self : ∀ {y : Blk}, y ∈ l1 ++ y :: l2 := List.mem_append.2 (.inr List.mem_cons_self)
  refine ⟨⟨hk.os.trans h.kp.os, hk.tape.trans h.kp.tape, hk.output.trans h.kp.output, Nat.le_trans h.kp.size hk.size, fun k hlt hn => ?_⟩, fun x hx => ?_, fun x hx => ?_, ?_, fun x hx h2 => ?_, h.hz⟩
  · by_cases hkb : k = b.n
    · exfalso
      cases hb2 : b.m == 2 with
      | true =>
        have hb2 : b.m = 2 := by simpa using hb2
        have := h.nw b self hb2
        omega
      | false =>
        rw [hb2] at hm
        simp at hm
        exact hn ⟨_, self, hm.symm, hkb.symm⟩
    · rw [hk.block k (Nat.lt_of_lt_of_le hlt h.kp.size) hkb]
      refine h.kp.block k hlt (fun ⟨x, hx, h1, h2⟩ => ?_)
      rcases mem hx with hx | hx
      · exact hn ⟨x, mem' hx, h1, h2⟩
      · subst hx; exact hkb h2.symm
  · rcases mem hx with hx | hx
    · exact hk.blk (h.blk x (mem' hx)) (hne x hx)
    · subst hx; exact hb
  · rcases mem hx with hx | hx
    · exact h.ge x (mem' hx)
    · subst hx; exact h.ge b self
  · rw [List.map_append, List.map_cons]; exact hnd
  · rcases mem hx with hx | hx
    · exact h.nw x (mem' hx) h2
    · subst hx
      simp only at h2
      subst h2
      cases hb2 : b.m == 2 with
      | true => exact h.nw b self (by simpa using hb2)
      | false => rw [hb2] at hm; simp at hm
theorem loc_new {z : Nat} {T : List Blk} {w W : World} (h : Loc z T w W) (t : TypeId) (cs : Array Value) : Loc z (⟨W.heap.size, t, cs.toList, 2⟩ :: T) w (W.alloc (.cells cs t)) := by
  have hn : NewB W (.cells cs t) W.heap.size (W.alloc (.cells cs t)) := ⟨rfl, rfl⟩
  have hk := hn.kp (fun _ => False)
  refine ⟨(h.kp.mono (fun i _ ⟨x, hx, e⟩ => ⟨x, List.mem_cons_of_mem _ hx, e⟩)).trans (hk.mono (fun _ _ h => h.elim)), fun x hx => ?_, fun x hx => ?_, ?_, fun x hx h2 => ?_, h.hz⟩
  · rcases List.mem_cons.1 hx with h1 | h1
    · subst h1; simpa using hn.block
    · exact hk.blk (h.blk x h1) (fun h => h)
  · rcases List.mem_cons.1 hx with h1 | h1
    · subst h1; exact Nat.le_trans h.hz h.kp.size
    · exact h.ge x h1
  · rw [List.map_cons]
    refine List.nodup_cons.2 ⟨fun hx => ?_, h.ne⟩
    obtain ⟨x, hx, e⟩ := List.mem_map.1 hx
    have := block_lt (h.blk x hx)
    simp only at e
    omega
  · rcases List.mem_cons.1 hx with h1 | h1
    · subst h1; exact h.kp.size
    · exact h.nw x h1 h2
/-- A new block in mind. -/
theorem tag_new {B : Bs} {T : Trk} {t t' : Array Value} {dst : Option Nat} {b : Blk} (hS : Same dst.toList t t') (h : TagOK B T t) : TagOK B ⟨(T.nx, b) :: (T.untag dst).bs, (T.untag dst).tg, (T.untag dst).sg, T.nx + 1, true⟩ t' := by
  have h0 := h.put hS
  have hn : (T.untag dst).nx = T.nx := by unfold Trk.untag; split <;> rfl
  have mem : ∀ (i : Nat) (b' : Blk), i < T.nx → (i, b') ∈ B ++ (T.nx, b) :: (T.untag dst).bs → (i, b') ∈ B ++ (T.untag dst).bs := fun i b' hi hb' => by
    rcases List.mem_append.1 hb' with hb' | hb'
    · exact List.mem_append.2 (.inl hb')
    · rcases List.mem_cons.1 hb' with hb' | hb'
      · cases hb'; omega
      · exact List.mem_append.2 (.inr hb')
  refine ⟨fun s i o hx => ?_, fun s i hx => ?_, fun x hx => ?_⟩
  · obtain ⟨h1, h2⟩ := h0.p s i o hx
    rw [hn] at h1
    exact ⟨by show i < T.nx + 1; omega, fun b' hb' => h2 b' (mem i b' h1 hb')⟩
  · obtain ⟨h1, h2⟩ := h0.s s i hx
    rw [hn] at h1
    exact ⟨by show i < T.nx + 1; omega, fun b' hb' => h2 b' (mem i b' h1 hb')⟩
  · show x.1 < T.nx + 1
    have key : x ∈ B ++ (T.untag dst).bs → x.1 < T.nx + 1 := fun hx => by have := h0.lt x hx; omega
    rcases List.mem_append.1 hx with hx | hx
    · exact key (List.mem_append.2 (.inl hx))
    · rcases List.mem_cons.1 hx with hx | hx
      · subst hx; show T.nx < T.nx + 1; omega
      · exact key (List.mem_append.2 (.inr hx))
theorem new_one {B : Bs} {T : Trk} {dst : Option Nat} {t : Array Value} (h : TagOK B T t) {b b' : Blk} (hb : (T.nx, b') ∈ B ++ (T.nx, b) :: (T.untag dst).bs) : b' = b := by
  have no : ∀ x ∈ B ++ T.bs, x.1 = T.nx → False := fun x hx e => by have := h.lt x hx; omega
  rcases List.mem_append.1 hb with hb | hb
  · exact (no _ (List.mem_append.2 (.inl hb)) rfl).elim
  · rcases List.mem_cons.1 hb with hb | hb
    · cases hb; rfl
    · rw [untag_bs] at hb
      exact (no _ (List.mem_append.2 (.inr hb)) rfl).elim
theorem tag_add {B : Bs} {T : Trk} {t : Array Value} {l : Fr} {dst : Option Nat} {b : Blk} (hR : Rel l t) (hi : inB dst l = true) (h : TagOK B T t) : TagOK B (T.add b dst) (({ tmps := t, defers := [] } : Act).put dst (.pointer (some ⟨b.n, 0, none⟩))).tmps := by
  have base := tag_new (b := b) (Same.put t dst (.pointer (some ⟨b.n, 0, none⟩))) h
  cases dst with
  | none => exact base
  | some d =>
    refine ⟨fun s i o hx => ?_, fun s i hx => base.s s i hx, base.lt⟩
    rcases List.mem_cons.1 hx with hx | hx
    · cases hx
      refine ⟨by show T.nx < T.nx + 1; omega, fun b' hb' => ?_⟩
      rw [inB_get hR hi, new_one (dst := some d) h hb']
    · exact base.p s i o hx
theorem tag_addS {B : Bs} {T : Trk} {t : Array Value} {l : Fr} {dst : Option Nat} {b : Blk} {m : Nat} (hR : Rel l t) (hi : inB dst l = true) (h : TagOK B T t) : TagOK B (T.addS b dst) (({ tmps := t, defers := [] } : Act).put dst (.slice (some ⟨b.n, 0, none⟩) m m)).tmps := by
  have base := tag_new (b := b) (Same.put t dst (.slice (some ⟨b.n, 0, none⟩) m m)) h
  cases dst with
  | none => exact base
  | some d =>
    refine ⟨fun s i o hx => base.p s i o hx, fun s i hx => ?_, base.lt⟩
    rcases List.mem_cons.1 hx with hx | hx
    · cases hx
      refine ⟨by show T.nx < T.nx + 1; omega, fun b' hb' => ⟨m, m, ?_⟩⟩
      rw [inB_get hR hi, new_one (dst := some d) h hb']
    · exact base.s s i hx
/-! ### New blocks -/
theorem run_alloc2 {P : Program} {w : World} {t : TypeId} {v : Value} (h : Sem.ev P (zeroValue t) = some v) : (Instr.alloc t true (.tuple #[])).run P w = .ok (.pointer (some ⟨w.heap.size, 0, none⟩)) (w.alloc (.cells v.cells t)) := by
  have hz := ev_run h w
  simp [Instr.alloc, hz, newVar, newRow, newObj, Sem.run]
theorem run_box2 {P : Program} {w : World} {t : TypeId} {v : Value} : (Instr.box t v).run P w = .ok (.pointer (some ⟨w.heap.size, 0, none⟩)) (w.alloc (.cells v.cells t)) := by
  simp [Instr.box, newVar, newRow, newObj, Sem.run]
theorem bind_assoc2 {α β γ : Type} (s : Sem α) (f : α → Sem β) (g : β → Sem γ) : (s.bind f).bind g = s.bind fun a => (f a).bind g := by
  induction s with
  | pure a => rfl
  | halt h => rfl
  | mark m k ih => simp only [Sem.bind, ih]
  | _ => first | (simp only [Sem.bind]; congr 1; funext x; rename_i ih; exact ih x) | (simp only [Sem.bind]; rename_i ih; rw [ih]) | (simp only [Sem.bind]; congr 1; funext x y; rename_i ih; exact ih x y)
theorem buildSlice_eq (t : TypeId) (len : Nat) (parts : Array (Nat × Value)) : Instr.buildSlice t len parts = Sem.bind (rowS2 t len parts) fun x => Sem.bind (newRow x.1 x.2) fun a => Sem.pure (.slice (some a) len len) := by
  unfold Instr.buildSlice rowS2
  simp only [bind, pure]
  rw [bind_assoc2]
  congr 1; funext d
  cases d with
  | slice e =>
    simp only
    rw [bind_assoc2]
    congr 1; funext size
    split
    · rfl
    · simp only [Sem.bind]
      have key : ∀ r : Option (Array Value), (match r with | some cells => (newRow e cells).bind fun a => Sem.pure (Value.slice (some a) len len) | _ => stuck "buildSlice: a part of the wrong size") = (match r with | some cells => Sem.pure (e, cells) | _ => stuck "buildSlice: a part of the wrong size").bind fun x => (newRow x.1 x.2).bind fun a => Sem.pure (Value.slice (some a) len len) := fun r => by cases r <;> rfl
      split
      · exact key _
      · rw [bind_assoc2]
        congr 1; funext zero
        exact key _
  | _ => rfl
theorem run_slice2 {P : Program} {w : World} {t : TypeId} {len : Nat} {parts : Array (Nat × Value)} {e : TypeId} {cells : Array Value} (h : Sem.ev P (rowS2 t len parts) = some (e, cells)) : (Instr.buildSlice t len parts).run P w = .ok (.slice (some ⟨w.heap.size, 0, none⟩) len len) (w.alloc (.cells cells e)) := by
  have hr := ev_run h w
  rw [buildSlice_eq]
  show (rowS2 t len parts >>= _).run P w = _
  rw [Sem.run_bind, hr]
  simp [newRow, newObj, Sem.run, Sem.bind, bind, pure]

section
variable {E : Env} (hp : PurOK E) {ops : Array Oper} {z : Nat} {B : Bs}
theorem trkStore_ok {T T' : Trk} {l : Fr} {o : Oper} {t : Array Value} {w W : World} (hs : trkStore E T l o.op = some (some T')) (h : Rel l t) (hT : TagOK B T t) (hL : LocD z B T w W) :
    ∃ W', (execOp ({ tmps := t, defers := [] } : Act).eval o).run E.P W = .ok .skip W' ∧ TagOK B T' t ∧ LocD z B T' w W' := by
  obtain ⟨dst, op, ty, pos, aft, gd⟩ := o
  unfold trkStore at hs
  simp only at hs
  split at hs
  · rename_i tt s v
    split at hs
    · rename_i id off hid
      split at hs
      · rename_i b hb
        split at hs
        · rename_i y n hv hsz
          split at hs
          · rename_i hc
            simp only [Bool.and_eq_true] at hc
            obtain ⟨h1, h2, h3⟩ := hc
            simp at hs; subst hs
            have hm : (id, b) ∈ B ++ T.bs := List.mem_append.2 (.inr (findN_mem hb))
            have hx := (hT.p s id off (findN_mem hid)).2 b hm
            have ey := rd_ok (ds := []) h (fun _ _ hm => by simp at hm) hv
            have hbk := hL.l.blk b (mem_blks.2 ⟨id, hm⟩)
            have hn : y.cells.size = n := by simpa using h1
            have hle : off + n ≤ b.cs.length := by simpa using Nat.le_of_ble_eq_true h3
            have hS : storeF E tt (.pointer (some ⟨b.n, off, none⟩)) y W (fun w1 => PutB W b.n off y.cells.toList w1) := by
              unfold storeF
              rw [hsz, h2]
              simp only [h1]
              exact ⟨WrF_at hbk (by simpa using hle), fun w1 h => h⟩
            obtain ⟨W', hr, hput⟩ := storeF_ok hS
            refine ⟨W', ?_, ?_, ?_⟩
            · have hx' : ({ tmps := t, defers := [] } : Act).eval (.tmp s) = .pointer (some ⟨b.n, off, none⟩) := hx
              simp only [execOp, hx', ey]
              simp [hr]
            · refine hT.of (fun x hx => ⟨hx, rfl⟩) (fun x hx => ⟨hx, rfl⟩) (fun x hx => ?_) (Nat.le_refl _)
              rcases List.mem_append.1 hx with hx | hx
              · exact ⟨x, List.mem_append.2 (.inl hx), rfl, rfl⟩
              · obtain ⟨y, h1, h2⟩ := setB_mem hx
                exact ⟨y, List.mem_append.2 (.inr h1), h2⟩
            · obtain ⟨l1, l2, e1, e2⟩ := setB_split (cs := repl b.cs off n y.cells.toList) hb
              refine ⟨?_, (fun h => by cases h), hL.b0⟩
              refine loc_store (l1 := blksOf (B ++ l1)) (l2 := blksOf l2) (b := b) (cs := repl b.cs off n y.cells.toList) hL.l ?_ ?_ hput.kp ?_
              · unfold allB; rw [e1]; simp [blksOf_eq]
              · unfold allB; rw [e2]; simp [blksOf_eq]
              · have := hput.block hbk
                rw [this]
                rw [show (b.cs.toArray).toList = b.cs by simp, putL_repl _ _ _ (by simpa [hn] using hle)]
                simp [hn]
          · cases hs
        · cases hs
      · cases hs
    · cases hs
  · cases hs
end

end Go.Proofs.YtkkfnlehlkiejaaGreatDoor
