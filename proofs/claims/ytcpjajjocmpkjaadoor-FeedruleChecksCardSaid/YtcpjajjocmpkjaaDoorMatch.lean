/- The contracts of wildmat's spread and Match, by plain functions. The pattern lies in the memory; at most 2^20 elements. -/
import Derived.Test.YtcpjajjocmpkjaaDoorPat
import Derived.Test.YtcpjajjocmpkjaaDoorVcMatch
namespace Go.Proofs.YtcpjajjocmpkjaaDoor
open Go.RowKit

/-! ### Rows of bools -/
def bools (f : Nat → Bool) (n : Nat) : Array Value := ((List.range n).map fun j => Value.bool (f j)).toArray
theorem bools_size (f : Nat → Bool) (n : Nat) : (bools f n).size = n := by simp [bools]
theorem bools_get (f : Nat → Bool) (n k : Nat) (h : k < n) : (bools f n)[k]? = some (.bool (f k)) := by
  simp [bools, h]
theorem bools_congr {f g : Nat → Bool} {n : Nat} (h : ∀ j, j < n → f j = g j) : bools f n = bools g n := by
  unfold bools
  congr 1
  exact List.map_congr_left fun j hj => by rw [h j (List.mem_range.1 hj)]
theorem bools_put {f g : Nat → Bool} {n k : Nat} {b : Bool} (h : ∀ j, j < n → g j = if j = k then b else f j) : (putL (bools f n).toList k [.bool b]).toArray = bools g n := by
  simp only [putL]
  apply Array.ext'
  apply List.ext_getElem?
  intro i
  simp only [bools, List.getElem?_set, List.getElem?_map]
  rcases Nat.lt_or_ge i n with hi | hi
  · by_cases e : k = i
    · subst e
      simp [hi, h k hi]
    · have : ¬ i = k := fun x => e x.symm
      simp [hi, e, h i hi, this]
  · simp [hi]; omega
theorem bools_made (n : Nat) : madeCells #[Value.bool false] (n * 1) = bools (fun _ => false) n := by
  apply Array.ext'
  rw [toList_madeCells_one]
  simp only [bools, Nat.mul_one]
  apply List.ext_getElem?
  intro i
  rcases Nat.lt_or_ge i n with hi | hi <;> simp [hi]

def elS (els : List El) (j : Nat) : Bool := match els[j]? with | some e => e.isStar | none => false
def elH (els : List El) (j : Nat) (c : Int) : Bool := match els[j]? with | some e => hasB e.chars c | none => false
/-- What is reached because a star stands for nothing. -/
def spF (st : Nat → Bool) (m : Nat → Bool) : Nat → Bool
  | 0 => m 0
  | i + 1 => m (i + 1) || (st i && spF st m i)

theorem spread_any {D : Nat → Prop} {w : World} {b : Nat} {s : ByteArray} {els : List El} {g : Nat} {f : Nat → Bool} (hp : PatR D w b s els) (hl : els.length ≤ 1048576) (hg : w.heap[g]? = some (.cells (bools f (els.length + 1)) 4 (0, 0))) (hD : ∀ k, D k → k ≠ g) (c : Nat) :
    Calls Tryd.prog 93 #[.pointer (some ⟨b, 0, none⟩), .slice (some ⟨g, 0, none⟩) (els.length + 1) c] w fun e w' =>
      e = .returned (.tuple #[]) ∧ w'.heap[g]? = some (.cells (bools (spF (elS els) f) (els.length + 1)) 4 (0, 0)) ∧ Kp (· = g) w w' := by
  refine vc_spread b 0 _ _ c w _ ?_
  unfold VC_spread
  obtain ⟨p, n, c', hb, hDb, ho, hDo⟩ := hp
  have hn := ho.1
  rw [List.length_map] at hn
  have hn : n = els.length := by omega
  subst hn
  refine ⟨p, els.length, c', by rw [Nat.zero_add]; exact cell_at hb rfl, ?_⟩
  refine count1 els.length (by omega) (fun k w' => w'.heap[g]? = some (.cells (bools (fun j => if j ≤ k then spF (elS els) f j else f j) (els.length + 1)) 4 (0, 0)) ∧ Kp (· = g) w w') ⟨?_, .refl _ _⟩ ?_
  · rw [hg]
    congr 2
    apply bools_congr
    intro j _
    by_cases h : j ≤ 0
    · obtain rfl : j = 0 := by omega
      rfl
    · rw [if_neg h]
  · intro I m k w' hk ⟨hg', hw⟩ next
    refine bsp_intro (fun hlt => ?_) (fun hge => ?_)
    · have hlt : k < els.length := by simpa using hlt
      have ho' : w'.ownsRow 0 174 1 (.slice p els.length c') els.length (els.map El.val) := owns_kp ho hw (fun k hk e => hD k (hDo k hk) e)
      obtain ⟨q, v, hp, hv, hc⟩ := own_cell ho' hlt
      subst hp
      obtain ⟨x, hx⟩ : ∃ x, els[k]? = some x := ⟨_, List.getElem?_eq_getElem hlt⟩
      rw [List.getElem?_map, hx] at hv
      simp only [Option.map_some, Option.some.injEq] at hv
      subst hv
      have e0 : (k : Int).toNat = k := by omega
      have e1 : (IntKind.i64.wrap ((k : Int) + 1)).toNat = k + 1 := by rw [wr64 (by omega) (by omega)]; omega
      have e2 : IntKind.i64.wrap ((k : Int) + 1) = ((k + 1 : Nat) : Int) := by rw [wr64 (by omega) (by omega)]; omega
      show (0 ≤ (k : Int) ∧ (k : Int) < (els.length : Int)) ∧ _
      refine ⟨⟨by omega, by omega⟩, x.val, by rw [e0]; exact hc, ?_⟩
      show (0 ≤ (k : Int) ∧ (k : Int) < ((els.length + 1 : Nat) : Int)) ∧ _
      refine ⟨⟨by omega, by omega⟩, _, by rw [e0, Nat.zero_add]; exact cell_at hg' (bools_get _ _ _ (by omega)), ?_⟩
      rw [if_pos (Nat.le_refl k)]
      have keep : ∀ w2, Kp (· = g) w w2 → w2.heap[g]? = some (.cells (bools (fun j => if j ≤ k then spF (elS els) f j else f j) (els.length + 1)) 4 (0, 0)) → (elS els k && spF (elS els) f k) = false → w2.heap[g]? = some (.cells (bools (fun j => if j ≤ k + 1 then spF (elS els) f j else f j) (els.length + 1)) 4 (0, 0)) ∧ Kp (· = g) w w2 := fun w2 h1 h2 h3 => by
        refine ⟨?_, h1⟩
        rw [h2]
        congr 2
        apply bools_congr
        intro j _
        by_cases hj : j ≤ k
        · rw [if_pos hj, if_pos (by omega)]
        · rw [if_neg hj]
          by_cases hj1 : j ≤ k + 1
          · obtain rfl : j = k + 1 := by omega
            rw [if_pos hj1]
            simp [spF, h3]
          · rw [if_neg hj1]
      refine bsp_intro (fun hm => ⟨(isStar_any x w').mono fun e w2 ⟨he, hk2⟩ => ⟨_, he, ?_⟩⟩) (fun hm => ?_)
      · have hg2 := hk2.blk hg' (fun h => h)
        have hw2 : Kp (· = g) w w2 := hw.trans (hk2.mono fun _ _ h => h.elim)
        have hst : elS els k = x.isStar := by simp [elS, hx]
        refine bsp_intro (fun h4 => ?_) (fun h4 => ?_)
        · have h4 : x.isStar = true := by simpa using h4
          show (0 ≤ IntKind.i64.wrap ((k : Int) + 1) ∧ IntKind.i64.wrap ((k : Int) + 1) < ((els.length + 1 : Nat) : Int)) ∧ _
          rw [e1, e2]
          refine ⟨⟨by omega, by omega⟩, by rw [Nat.zero_add]; exact cell_wr hg2 (by rw [bools_size]; omega), fun w3 hp3 => ?_⟩
          have hg3 := hp3.block hg2
          rw [Nat.zero_add] at hg3
          rw [← e2]
          refine next (by omega) w3 ⟨?_, hw2.trans hp3.kp⟩
          rw [hg3]
          congr 2
          apply bools_put
          intro j _
          by_cases hj : j = k + 1
          · subst hj
            simp [spF, hst, h4, hm]
          · rw [if_neg hj]
            by_cases hj1 : j ≤ k
            · rw [if_pos hj1, if_pos (by omega)]
            · rw [if_neg hj1, if_neg (by omega)]
        · have h4 : x.isStar = false := by simpa using h4
          exact next (by omega) w2 (keep w2 hw2 hg2 (by simp [hst, h4]))
      · exact next (by omega) w' (keep w' hw hg' (by rw [hm]; simp))
    · have hge : ¬ k < els.length := by simpa using hge
      obtain rfl : k = els.length := by omega
      refine ⟨rfl, ?_, hw⟩
      rw [hg']
      congr 2
      apply bools_congr
      intro j hj
      rw [if_pos (by omega)]

/-! ### Match -/
/-- What is reached behind a character. -/
def stpF (els : List El) (c : Int) (f : Nat → Bool) (j : Nat) : Bool :=
  (elS els j && f j && elH els j c) || (match j with | 0 => false | i + 1 => !elS els i && f i && elH els i c)
/-- What is reached behind k characters. -/
def runF (els : List El) (s : ByteArray) : Nat → Nat → Bool
  | 0 => spF (elS els) (fun j => j == 0)
  | k + 1 => spF (elS els) (stpF els (at8 s k) (runF els s k))
def matchB (els : List El) (s : ByteArray) : Bool := runF els s s.size els.length
/-- The marks of the next row behind k elements. -/
def nxF (els : List El) (c : Int) (f : Nat → Bool) (k j : Nat) : Bool :=
  (decide (j < k) && (elS els j && f j && elH els j c)) || (match j with | 0 => false | i + 1 => decide (i < k) && (!elS els i && f i && elH els i c))
theorem nxF_end (els : List El) (c : Int) (f : Nat → Bool) (j : Nat) (hj : j < els.length + 1) : nxF els c f els.length j = stpF els c f j := by
  unfold nxF stpF
  have h0 : ∀ j, ¬ j < els.length → elS els j = false := fun j h => by simp [elS, List.getElem?_eq_none (Nat.le_of_not_lt h)]
  cases j with
  | zero =>
    by_cases h : 0 < els.length
    · simp [h]
    · simp [h, h0 0 h]
  | succ i =>
    have hi : i < els.length := by omega
    by_cases h : i + 1 < els.length
    · simp [h, hi]
    · simp [h, hi, h0 _ h]
theorem nxF_succ (els : List El) (c : Int) (f : Nat → Bool) (i j : Nat) : nxF els c f (i + 1) j = if (elS els i = true ∧ j = i ∨ elS els i = false ∧ j = i + 1) ∧ (f i && elH els i c) = true then true else nxF els c f i j := by
  have d1 : ∀ a : Nat, decide (a < i + 1) = (decide (a < i) || decide (a = i)) := fun a => by rw [Bool.eq_iff_iff]; simp; omega
  unfold nxF
  by_cases e1 : j = i
  · subst e1
    have e3 : ¬ j = j + 1 := by omega
    simp only [d1, e3, Nat.lt_irrefl, and_false, or_false, and_true, decide_true, decide_false]
    cases j with
    | zero => cases elS els 0 <;> cases f 0 <;> cases elH els 0 c <;> simp
    | succ j =>
      have : ¬ j = j + 1 := by omega
      have h2 : decide (j < j + 1) = true := by simp
      simp only [h2, this, decide_false]
      cases elS els (j + 1) <;> cases f (j + 1) <;> cases elH els (j + 1) c <;> simp
  · by_cases e2 : j = i + 1
    · subst e2
      have e3 : ¬ i + 1 < i := by omega
      simp only [d1, e1, e3, Nat.lt_irrefl, and_false, false_or, and_true, decide_true, decide_false]
      cases elS els i <;> cases f i <;> cases elH els i c <;> simp
    · simp only [d1, e1, e2, and_false, or_false, false_and, if_false, decide_false]
      cases j with
      | zero => simp
      | succ j =>
        have : ¬ j = i := by omega
        simp [this]
theorem spF_congr {st m m' : Nat → Bool} : ∀ (j : Nat), (∀ i, i ≤ j → m i = m' i) → spF st m j = spF st m' j
  | 0, h => h 0 (Nat.le_refl _)
  | j + 1, h => by simp only [spF]; rw [h (j + 1) (Nat.le_refl _), spF_congr j (fun i hi => h i (by omega))]
theorem byte_cell {w : World} {g : Nat} {s : ByteArray} {c : Nat} {t : TypeId} {fz : Nat × Nat} (h : w.heap[g]? = some (.cells (bytesRow s c) t fz)) {k : Nat} (hk : k < s.size) : w.cell? ⟨g, 0 + k, none⟩ = some (.int .u8 (at8 s k)) := by
  rw [cell_block h, Nat.zero_add, bytesRow_at s c k hk, at8_lt s k hk]
  rfl

set_option maxHeartbeats 400000 in
theorem match_any {D : Nat → Prop} {w : World} {b : Nat} {t : ByteArray} {els : List El} (hp : PatR D w b t els) (hl : els.length ≤ 1048576) (s : ByteArray) (hs : s.size ≤ 9223372036854775807) :
    Calls Tryd.prog 75 #[.pointer (some ⟨b, 0, none⟩), .string s] w fun e w' => e = .returned (.bool (matchB els s)) ∧ K0 w w' := by
  refine vc_match b 0 s w _ ?_
  unfold VC_match
  have hp0 : PatR (fun k => k < w.heap.size) w b t els := hp.mono fun k _ h => h
  obtain ⟨p, n, c, hb, hDb, ho, hDo⟩ := hp
  have hn := ho.1
  rw [List.length_map] at hn
  have hn : n = els.length := by omega
  subst hn
  have e1 : IntKind.i64.wrap ((els.length : Int) + 1) = ((els.length + 1 : Nat) : Int) := by rw [wr64 (by omega) (by omega)]; omega
  refine ⟨p, els.length, c, by rw [Nat.zero_add]; exact cell_at hb rfl, ?_⟩
  rw [e1]
  have e2 : ((els.length + 1 : Nat) : Int).toNat = els.length + 1 := by omega
  rw [e2]
  refine ⟨⟨by omega, by omega, by omega, by omega⟩, fun n_1 w1 hn1 => ⟨⟨by omega, by omega⟩, ?_⟩⟩
  rw [bools_made] at hn1
  have hg1 := hn1.block
  refine ⟨cell_wr hg1 (by rw [bools_size]; omega), fun w2 hp2 => ?_⟩
  have hg2 := hp2.block hg1
  rw [bools_put (g := fun j => j == 0) (fun j _ => by by_cases h : j = 0 <;> simp [h])] at hg2
  have hnew : w.heap.size ≤ n_1 := hn1.ge
  have hw2 : K0 w w2 := (hn1.kp _).fresh hp2.kp (fun i hi e => by omega)
  have hp2' := hp0.kp hw2 (fun k hk _ h => h)
  refine ⟨(spread_any hp2' hl hg2 (fun k hk e => by omega) _).mono fun e w3 ⟨he, hg3, hk3⟩ => ⟨he, fun c1 n_2 w4 hc1 hn4 => ?_⟩⟩
  have hw3 : K0 w w3 := hw2.fresh hk3 (fun i hi e => by omega)
  have hw4 : K0 w w4 := hw3.trans ((hn4.kp _).of_drew)
  have hg4 := (hn4.kp (fun _ => False)).blk (blk_drew hg3) (fun h => h)
  have hb4 := hn4.block
  have hn2 : w.heap.size ≤ n_2 := Nat.le_trans hw3.size hn4.ge
  refine ⟨fun vs w' => ∃ (g k : Nat), vs = [.slice (some ⟨g, 0, none⟩) (els.length + 1) (els.length + 1), .int .i64 k] ∧ k ≤ s.size ∧ w.heap.size ≤ g ∧ g ≠ n_2 ∧ w'.heap[g]? = some (.cells (bools (runF els s k) (els.length + 1)) 4 (0, 0)) ∧
      w'.heap[n_2]? = some (.cells (bytesRow s c1) 5 ((bytesRow s c1).size, (bytesRow s c1).size + 1)) ∧ K0 w w', fun vs _ => (match vs with | [_, .int _ x] => s.size - x.toNat | _ => 0),
    ⟨n_1, 0, rfl, by omega, hnew, fun e => by have h9 := block_lt hg3; have h8 := hn4.ge; have : w3.drew.heap.size = w3.heap.size := rfl; omega, hg4, hb4, hw4⟩, fun q nn cc x w' ⟨g, k, hv, hk, hg, hgn, hgw, hbw, hw'⟩ => ?_⟩
  simp only [List.cons.injEq, Value.int.injEq, true_and, Value.slice.injEq, and_true] at hv
  obtain ⟨⟨rfl, rfl, rfl⟩, rfl⟩ := hv
  have hpw := hp0.kp hw' (fun k hk _ h => h)
  have e0 : (k : Int).toNat = k := by omega
  have hpw' := hpw
  obtain ⟨p', n', c', hb', hDb', ho', hDo'⟩ := hpw'
  have hn' := ho'.1
  rw [List.length_map] at hn'
  have hn' : n' = els.length := by omega
  subst hn'
  refine bsp_intro (fun hlt => ⟨⟨by omega, by simpa using hlt⟩, ?_⟩) (fun hge => ?_)
  · have hlt : k < s.size := by simpa using hlt
    refine ⟨at8 s k, by rw [e0]; exact byte_cell hbw hlt, ⟨by omega, by omega, by omega, by omega⟩, fun n_3 w5 hn5 => ?_⟩
    rw [e2] at hn5 ⊢
    rw [bools_made] at hn5
    have hn3 : w.heap.size ≤ n_3 := Nat.le_trans hw'.size hn5.ge
    have hg3n : g < n_3 := Nat.lt_of_lt_of_le (block_lt hgw) hn5.ge
    have hn23 : n_2 < n_3 := Nat.lt_of_lt_of_le (block_lt hbw) hn5.ge
    have hw5 : K0 w w5 := hw'.trans (hn5.kp _)
    have hK5 := hn5.kp (fun _ => False)
    refine ⟨p', els.length, c', by rw [Nat.zero_add]; exact cell_at (hK5.blk hb' (fun h => h)) rfl, ?_⟩
    refine count1 els.length (by omega) (fun i w6 => w6.heap[n_3]? = some (.cells (bools (nxF els (at8 s k) (runF els s k) i) (els.length + 1)) 4 (0, 0)) ∧ Kp (· = n_3) w5 w6) ⟨?_, .refl _ _⟩ ?_
    · rw [hn5.block]
      congr 2
      apply bools_congr
      intro j _
      cases j <;> simp [nxF]
    · intro I m i w6 hi ⟨h6, hk6⟩ next
      have hw6 : K0 w w6 := hw5.fresh hk6 (fun i hi e => by omega)
      have ho6 : w6.ownsRow 0 174 1 (.slice p' els.length c') els.length (els.map El.val) := owns_kp (owns_kp ho' hK5 (fun _ _ h => h)) hk6 (fun k hk e => by have := hDo' k hk; omega)
      have hg6 := hk6.blk (hK5.blk hgw (fun h => h)) (fun e => by omega)
      have hb6 := hk6.blk (hK5.blk hbw (fun h => h)) (fun e => by omega)
      refine bsp_intro (fun hlt6 => ?_) (fun hge6 => ?_)
      · have hlt6 : i < els.length := by simpa using hlt6
        have f0 : (i : Int).toNat = i := by omega
        have f1 : IntKind.i64.wrap ((i : Int) + 1) = ((i + 1 : Nat) : Int) := by rw [wr64 (by omega) (by omega)]; omega
        have f2 : ((i + 1 : Nat) : Int).toNat = i + 1 := by omega
        refine ⟨fun _ w7 => w7.heap[n_3]? = some (.cells (bools (nxF els (at8 s k) (runF els s k) (i + 1)) (els.length + 1)) 4 (0, 0)) ∧ Kp (· = n_3) w5 w7, ?_, fun w7 h7 => next hlt6 w7 h7⟩
        obtain ⟨q6, v, hpq, hv, hc6⟩ := own_cell ho6 hlt6
        subst hpq
        obtain ⟨x, hx⟩ : ∃ x, els[i]? = some x := ⟨_, List.getElem?_eq_getElem hlt6⟩
        rw [List.getElem?_map, hx] at hv
        simp only [Option.map_some, Option.some.injEq] at hv
        subst hv
        have hst : elS els i = x.isStar := by simp [elS, hx]
        have hha : elH els i (at8 s k) = hasB x.chars (at8 s k) := by simp [elH, hx]
        have step : ∀ j, nxF els (at8 s k) (runF els s k) (i + 1) j = if (elS els i = true ∧ j = i ∨ elS els i = false ∧ j = i + 1) ∧ (runF els s k i && elH els i (at8 s k)) = true then true else nxF els (at8 s k) (runF els s k) i j := by
          exact fun j => nxF_succ _ _ _ _ _
        have keep : ∀ w7, Kp (· = n_3) w5 w7 → w7.heap[n_3]? = some (.cells (bools (nxF els (at8 s k) (runF els s k) i) (els.length + 1)) 4 (0, 0)) → (runF els s k i && elH els i (at8 s k)) = false →
            w7.heap[n_3]? = some (.cells (bools (nxF els (at8 s k) (runF els s k) (i + 1)) (els.length + 1)) 4 (0, 0)) ∧ Kp (· = n_3) w5 w7 := fun w7 h1 h2 h3 => by
          refine ⟨?_, h1⟩
          rw [h2]
          congr 2
          apply bools_congr
          intro j _
          rw [step j, if_neg (fun h => by rw [h3] at h; exact absurd h.2 (by decide))]
        show (0 ≤ (i : Int) ∧ (i : Int) < (els.length : Int)) ∧ _
        refine ⟨⟨by omega, by omega⟩, x.val, by rw [f0]; exact hc6, ?_⟩
        show (0 ≤ (i : Int) ∧ (i : Int) < ((els.length + 1 : Nat) : Int)) ∧ _
        refine ⟨⟨by omega, by omega⟩, _, by rw [f0, Nat.zero_add]; exact cell_at hg6 (bools_get _ _ _ (by omega)), ?_⟩
        rw [Bool.not_not]
        refine bsp_intro (fun hr => ⟨(stands_any x (at8 s k) w6).mono fun e w7 ⟨he, hk7⟩ => ⟨_, he, ?_⟩⟩) (fun hr => keep w6 hk6 h6 (by rw [hr]; rfl))
        have h7 := hk7.blk h6 (fun h => h)
        have hk7' : Kp (· = n_3) w5 w7 := hk6.trans (hk7.mono fun _ _ h => h.elim)
        refine bsp_intro (fun hh => keep w7 hk7' h7 (by rw [hr, hha]; simpa using hh)) (fun hh => ⟨(isStar_any x w7).mono fun e w8 ⟨he, hk8⟩ => ⟨_, he, ?_⟩⟩)
        have hh : hasB x.chars (at8 s k) = true := by simpa using hh
        have h8 := hk8.blk h7 (fun h => h)
        have hk8' : Kp (· = n_3) w5 w8 := hk7'.trans (hk8.mono fun _ _ h => h.elim)
        refine bsp_intro (fun hs8 => ⟨⟨by omega, by omega⟩, by rw [f0, Nat.zero_add]; exact cell_wr h8 (by rw [bools_size]; omega), fun w9 hp9 => ⟨?_, hk8'.trans hp9.kp⟩⟩)
          (fun hs8 => ⟨by rw [f1]; exact ⟨by omega, by omega⟩, by rw [f1, f2, Nat.zero_add]; exact cell_wr h8 (by rw [bools_size]; omega), fun w9 hp9 => ⟨?_, hk8'.trans hp9.kp⟩⟩)
        · have := hp9.block h8
          rw [f0, Nat.zero_add] at this
          rw [this]
          congr 2
          apply bools_put
          intro j _
          rw [step j]
          by_cases hj : j = i
          · rw [if_pos ⟨.inl ⟨by rw [hst]; exact hs8, hj⟩, by rw [hr, hha, hh]; rfl⟩, if_pos hj]
          · rw [if_neg (fun h => ?_), if_neg hj]
            rcases h.1 with h | h
            · exact hj h.2
            · rw [hst, hs8] at h; exact absurd h.1 (by decide)
        · have := hp9.block h8
          rw [f1, f2, Nat.zero_add] at this
          rw [this]
          congr 2
          apply bools_put
          intro j _
          rw [step j]
          by_cases hj : j = i + 1
          · rw [if_pos ⟨.inr ⟨by rw [hst]; exact hs8, hj⟩, by rw [hr, hha, hh]; rfl⟩, if_pos hj]
          · rw [if_neg (fun h => ?_), if_neg hj]
            rcases h.1 with h | h
            · rw [hst, hs8] at h; exact absurd h.1 (by decide)
            · exact hj h.2
      · have hge6 : ¬ i < els.length := by simpa using hge6
        obtain rfl : i = els.length := by omega
        have hp6 := hp0.kp hw6 (fun k hk _ h => h)
        refine ⟨(spread_any hp6 hl h6 (fun k hk e => by omega) _).mono fun e w7 ⟨he, hg7, hk7⟩ => ⟨he, ?_⟩⟩
        have hw7 : K0 w w7 := hw6.fresh hk7 (fun i hi e => by omega)
        have f1 : IntKind.i64.wrap ((k : Int) + 1) = ((k + 1 : Nat) : Int) := by rw [wr64 (by omega) (by omega)]; omega
        rw [f1]
        refine ⟨⟨n_3, k + 1, rfl, by omega, hn3, by omega, ?_, hk7.blk hb6 (fun e => by omega), hw7⟩, by simp; omega⟩
        rw [hg7]
        congr 2
        apply bools_congr
        intro j hj
        exact spF_congr j fun i hi => nxF_end els _ _ i (by omega)
  · have hge : ¬ k < s.size := by simpa using hge
    obtain rfl : k = s.size := by omega
    refine ⟨p', els.length, c', by rw [Nat.zero_add]; exact cell_at hb' rfl, ?_⟩
    show (0 ≤ (els.length : Int) ∧ (els.length : Int) < ((els.length + 1 : Nat) : Int)) ∧ _
    have f0 : (els.length : Int).toNat = els.length := by omega
    refine ⟨⟨by omega, by omega⟩, _, by rw [f0, Nat.zero_add]; exact cell_at hgw (bools_get _ _ _ (by omega)), rfl, hw'⟩

end Go.Proofs.YtcpjajjocmpkjaaDoor
