/- The contracts of the reference's Match, Verdict and Selects. Names have at most 2^47 bytes. -/
import Derived.Test.YtcpjajjocmpkjaaDoorRlist
import Derived.Test.YtcpjajjocmpkjaaDoorVcRef
namespace Go.Proofs.YtcpjajjocmpkjaaDoor
open Go.RowKit

/-- A cell of a row. -/
theorem own_cellL {w : World} {base : Nat} {e : TypeId} {L n c : Nat} {p : Option Addr} {xs : List Value} (h : w.ownsRow base e L (.slice p n c) n xs) {i : Nat} {v : Value} (hv : xs[i]? = some v) : ∃ g, p = some ⟨g, 0, none⟩ ∧ w.cell? ⟨g, i, none⟩ = some v := by
  have hl := h.1
  have hi : i < xs.length := (List.getElem?_eq_some_iff.1 hv).1
  rcases h.2 with ⟨_, hn⟩ | ⟨g, cap, cur, he, _, hg, _, _, _, ht⟩
  · rw [hn, Nat.zero_mul] at hl; omega
  · simp only [Value.slice.injEq] at he
    refine ⟨g, he.1, ?_⟩
    rw [cell_block hg]
    rw [← ht, List.getElem?_take] at hv
    split at hv
    · rw [Array.getElem?_toList] at hv; exact hv
    · cases hv
theorem flat_get {α : Type} (f : α → List Value) (L : Nat) : ∀ (l : List α) (k : Nat) (x : α) (j : Nat), (∀ y ∈ l, (f y).length = L) → l[k]? = some x → j < L → (l.flatMap f)[k * L + j]? = (f x)[j]?
  | [], k, x, j, _, h, _ => by simp at h
  | y :: l, 0, x, j, hl, h, hj => by
    simp at h
    subst h
    rw [List.flatMap_cons, Nat.zero_mul, Nat.zero_add, List.getElem?_append_left (by rw [hl y (by simp)]; exact hj)]
  | y :: l, k + 1, x, j, hl, h, hj => by
    have hy := hl y (by simp)
    rw [List.flatMap_cons, List.getElem?_append_right (by rw [hy, Nat.succ_mul]; omega), hy]
    rw [show (k + 1) * L + j - L = k * L + j by rw [Nat.succ_mul]; omega]
    exact flat_get f L l k x j (fun z hz => hl z (by simp [hz])) (by simpa using h) hj
theorem rows_star {rs : List RE} {k : Nat} {r : RE} (h : rs[k]? = some r) : (rows rs)[k * 129]? = some (.bool r.star) := by
  have := flat_get (fun r : RE => reL r.star r.set) 129 rs k r 0 (fun y _ => reL_length _ _) h (by decide)
  exact this
theorem rows_set {rs : List RE} {k : Nat} {r : RE} (h : rs[k]? = some r) {c : Nat} (hc : c < 128) : (rows rs)[k * 129 + 1 + c]? = some (.bool (r.set c)) := by
  have := flat_get (fun r : RE => reL r.star r.set) 129 rs k r (1 + c) (fun y _ => reL_length _ _) h (by omega)
  rw [← Nat.add_assoc] at this
  unfold rows
  rw [this]
  show (Value.bool r.star :: arrBo r.set 128 0)[1 + c]? = _
  rw [Nat.add_comm 1 c, List.getElem?_cons_succ, arrBo_get _ _ _ _ hc, Nat.zero_add]

set_option maxHeartbeats 1000000 in
theorem rmatch_any (t : ByteArray) (p : Option Addr) (c : Nat) (rs : List RE) (s : ByteArray) (w : World) {base : Nat} (ho : w.ownsRow base 150 129 (.slice p rs.length c) rs.length (rows rs)) (hs : s.size ≤ 140737488355328) (hl : rs.length ≤ 1048576) :
    Calls Tryd.prog 73 #[.agg #[.string t, .slice p rs.length c], .string s] w fun e w' => e = .returned (.bool (rmatchB rs s)) ∧ K0 w w' := by
  refine vc_rmatch t p rs.length c s w _ ?_
  have eW : IntKind.i64.wrap ((s.size : Int) + 1) = ((s.size + 1 : Nat) : Int) := by rw [wr64 (by omega) (by omega)]; omega
  unfold VC_rmatch
  simp only [eW, Int.toNat_natCast]
  intro n1 w1 hn
  have k1 : K0 w w1 := hn.kp _
  refine count1 s.size (by omega) (fun k w' => (∀ j, j < k → charB (at8 s j) = true) ∧ w' = w1) ⟨fun j hj => by omega, rfl⟩ ?_
  rintro I m k w' hk ⟨hch, rfl⟩ next
  refine bsp_intro (fun hlt => ?_) (fun hge => ?_)
  · have hlt : k < s.size := by simpa using hlt
    rw [Int.toNat_natCast]
    refine ⟨by omega, bsp_intro (fun hc => ?_) (fun hc => next hlt w' ⟨fun j hj => ?_, rfl⟩)⟩
    · refine ⟨?_, k1⟩
      have : (List.range s.size).all (fun i => charB (at8 s i)) = false := by
        rw [List.all_eq_false]
        exact ⟨k, List.mem_range.2 hlt, by simpa using hc⟩
      unfold rmatchB
      rw [this]; rfl
    · by_cases e : j = k
      · subst e; simpa using hc
      · exact hch j (by omega)
  have hge : k = s.size := by simp at hge; omega
  subst hge
  have hall : (List.range s.size).all (fun i => charB (at8 s i)) = true := by
    rw [List.all_eq_true]
    exact fun j hj => hch j (List.mem_range.1 hj)
  have hR : rmatchB rs s = pmF (rS rs) (fun i k => rS rs i || rH rs i (at8 s k).toNat) rs.length s.size := by unfold rmatchB; rw [hall, Bool.true_and]
  rw [hR]
  generalize hh : (fun i k => rS rs i || rH rs i (at8 s k).toNat) = h
  generalize hst : rS rs = st
  refine ⟨by omega, fun g0 w2 hn2 => ⟨⟨by omega, by omega⟩, ?_⟩⟩
  have b2 := hn2.block
  rw [bools_made] at b2
  refine ⟨cell_wr b2 (by rw [bools_size]; omega), fun w3 hp3 => ?_⟩
  have b3 : w3.heap[g0]? = some (.cells (bools (pmF st h 0) (s.size + 1)) 4 (0, 0)) := by
    rw [hp3.block b2]
    congr 2
    apply bools_put
    intro j _
    by_cases e : j = 0
    · subst e; rfl
    · rw [if_neg e]; simp [pmF, e]
  have g0n : n1 < g0 := by have := hn.size; have := hn2.ge; omega
  have k3 : K0 w' w3 := (hn2.kp (fun _ => False)).fresh hp3.kp (fun i hi e => by have := hn2.ge; omega)
  have c1 : ∀ wx, K0 w' wx → wx.cell? ⟨n1, 0 + 1, none⟩ = some (.slice p rs.length c) := fun wx hk => cell_at (hk.blk hn.block (fun h => h)) rfl
  refine ⟨fun vs wx => ∃ (g k : Nat), vs = [.slice (some ⟨g, 0, none⟩) (s.size + 1) (s.size + 1), .int .i64 (k : Int)] ∧ k ≤ rs.length ∧ wx.heap[g]? = some (.cells (bools (pmF st h k) (s.size + 1)) 4 (0, 0)) ∧ K0 w' wx,
    fun vs _ => (match vs with | [_, .int _ x] => rs.length - x.toNat | _ => 0), ⟨g0, 0, rfl, by omega, b3, k3⟩, ?_⟩
  rintro p1 n_ c_ x w4 ⟨g, k, hv, hk, b4, k4⟩
  simp only [List.cons.injEq, Value.int.injEq, Value.slice.injEq, true_and, and_true] at hv
  obtain ⟨⟨rfl, rfl, rfl⟩, rfl⟩ := hv
  refine ⟨p, rs.length, c, c1 w4 k4, bsp_intro (fun hlt => ?_) (fun hge => ?_)⟩
  · have hlt : k < rs.length := by simpa using hlt
    obtain ⟨r, hr⟩ : ∃ r, rs[k]? = some r := ⟨_, List.getElem?_eq_getElem hlt⟩
    have hstk : st k = r.star := by rw [← hst]; simp [rS, hr]
    have hhk : ∀ i, h k i = (r.star || r.set (at8 s i).toNat) := fun i => by rw [← hh]; simp [rS, rH, hr]
    refine ⟨by omega, fun n3 w5 hn5 => ?_⟩
    have b5 := hn5.block
    rw [bools_made] at b5
    have g3 : w4.heap.size ≤ n3 := hn5.ge
    have glt : g < w4.heap.size := block_lt b4
    have b45 := (hn5.kp (fun _ => False)).blk b4 (fun h => h)
    have k5 : K0 w' w5 := k4.trans (hn5.kp _)
    refine count1 (s.size + 1) (by omega) (fun i wx => wx.heap[n3]? = some (.cells (bools (fun j => decide (j < i) && pmF st h (k + 1) j) (s.size + 1)) 4 (0, 0)) ∧ Kp (· = n3) w5 wx) ⟨?_, .refl _ _⟩ ?_
    · rw [b5]
      congr 2
      first | done | (apply bools_congr; intro j _; simp)
    rintro I1 m1 i w6 hi ⟨b6, k6⟩ next
    have b46 := k6.blk b45 (fun e => by omega)
    have k6' : K0 w' w6 := k5.fresh k6 (fun i hi e => by have := k4.size; omega)
    refine bsp_intro (fun hle => ?_) (fun hgt => ?_)
    · have hle : i < s.size + 1 := by simp at hle; omega
      have ho6 := owns_kp (owns_kp ho k1 (fun _ _ h => h)) k6' (fun _ _ h => h)
      obtain ⟨ge, rfl, hcs⟩ := own_cellL ho6 (rows_star hr)
      refine ⟨_, rs.length, c, c1 w6 k6', ?_⟩
      show (0 ≤ (k : Int) ∧ (k : Int) < (rs.length : Int)) ∧ _
      rw [Int.toNat_natCast]
      refine ⟨by omega, r.star, by rw [Nat.zero_add]; exact hcs, ?_⟩
      have fin : ∀ (wz : World) (v : Bool), Kp (· = n3) w5 wz → wz.heap[n3]? = some (.cells (bools (fun j => decide (j < i) && pmF st h (k + 1) j) (s.size + 1)) 4 (0, 0)) → v = pmF st h (k + 1) i → ∀ wy, PutB wz n3 (0 + i) [.bool v] wy → wy.heap[n3]? = some (.cells (bools (fun j => decide (j < i + 1) && pmF st h (k + 1) j) (s.size + 1)) 4 (0, 0)) ∧ Kp (· = n3) w5 wy := fun wz v hkz hbz hv wy hp => by
        refine ⟨?_, hkz.trans hp.kp⟩
        have := hp.block hbz
        rw [Nat.zero_add] at this
        rw [this]
        congr 2
        apply bools_put
        intro j _
        by_cases e : j = i
        · subst e; rw [if_pos rfl, hv]; simp
        · rw [if_neg e]
          have : decide (j < i + 1) = decide (j < i) := by rw [decide_eq_decide]; omega
          rw [this]
      have e1 : 0 < i → IntKind.i64.wrap ((i : Int) - 1) = ((i - 1 : Nat) : Int) := fun h0 => by rw [wr64 (by omega) (by omega)]; omega
      refine bsp_intro (fun hs1 => ?_) (fun hs0 => bsp_intro (fun h0 => ?_) (fun h0 => ?_))
      · show (0 ≤ (i : Int) ∧ (i : Int) < ((s.size + 1 : Nat) : Int)) ∧ _
        rw [Int.toNat_natCast]
        refine ⟨by omega, pmF st h k i, by rw [Nat.zero_add]; exact cell_at b46 (bools_get _ _ _ (by omega)), gimp_intro fun hg => ?_, ?_⟩
        · have h0 : 0 < i := by simp at hg; omega
          rw [e1 h0]; omega
        refine ⟨pmF st h (k + 1) (i - 1), gimp_intro fun hg => ?_, by omega, cell_wr b6 (by rw [bools_size]; omega), fun wy hp => next hle wy (fin w6 _ k6 b6 ?_ wy hp)⟩
        · have h0 : 0 < i := by simp at hg; omega
          rw [e1 h0, Int.toNat_natCast, Nat.zero_add]
          refine cell_at b6 ?_
          rw [bools_get _ _ _ (by omega)]
          have : decide (i - 1 < i) = true := by simp; omega
          rw [this, Bool.true_and]
        · cases i with
          | zero => rw [pmF_zero, hstk, hs1]; simp
          | succ i =>
            rw [pmF_succ, hstk, if_pos hs1, hhk, hs1]
            have : decide (((i + 1 : Nat) : Int) > 0) = true := decide_eq_true (by omega)
            rw [this]
            simp
      · have h0 : 0 < i := by simp at h0; omega
        rw [e1 h0, Int.toNat_natCast, Int.toNat_natCast]
        obtain ⟨j, rfl⟩ : ∃ j, i = j + 1 := ⟨i - 1, by omega⟩
        rw [Nat.add_sub_cancel]
        have hcb := charB_lt (hch j (by omega))
        obtain ⟨ge', hge', hcc⟩ := own_cellL ho6 (rows_set hr (c := (at8 s j).toNat) (by omega))
        simp only [Option.some.injEq, Addr.mk.injEq, and_true] at hge'
        subst hge'
        show (0 ≤ (j : Int) ∧ (j : Int) < ((s.size + 1 : Nat) : Int)) ∧ _
        refine ⟨by omega, pmF st h k j, by rw [Nat.zero_add]; exact cell_at (blk_drew b46) (bools_get _ _ _ (by omega)), some ⟨ge, 0, none⟩, rs.length, c, gimp_intro fun _ => c1 w6.drew k6'.drew, gimp_intro fun _ => by omega, ?_⟩
        show gimp _ _ ∧ _
        refine ⟨gimp_intro fun _ => by omega, gimp_intro fun _ => by omega, r.set (at8 s j).toNat, gimp_intro fun _ => by rw [Nat.zero_add]; exact hcc, by omega, cell_wr (blk_drew b6) (by rw [bools_size]; omega), fun wy hp => next hle wy (fin w6.drew _ k6.drew (blk_drew b6) ?_ wy hp)⟩
        rw [pmF_succ, hstk, if_neg (by rw [hs0]; decide), hhk, hs0, Bool.false_or, Bool.and_comm]
      · have h0 : i = 0 := by simp at h0; omega
        subst h0
        refine next hle w6 ⟨?_, k6⟩
        rw [b6]
        congr 2
        apply bools_congr
        intro j _
        by_cases e : j = 0
        · subst e
          rw [pmF_zero, hstk, hs0]; simp
        · have h1 : decide (j < 0 + 1) = false := decide_eq_false (by omega)
          have h2 : decide (j < 0) = false := decide_eq_false (by omega)
          rw [h1, h2]
    · have hgt : i = s.size + 1 := by simp at hgt; omega
      subst hgt
      have f1 : IntKind.i64.wrap ((k : Int) + 1) = ((k + 1 : Nat) : Int) := by rw [wr64 (by omega) (by omega)]; omega
      rw [f1]
      refine ⟨⟨n3, k + 1, rfl, by omega, ?_, k6'⟩, by simp only [Int.toNat_natCast]; omega⟩
      rw [b6]
      congr 2
      apply bools_congr
      intro j hj
      simp [hj]
  · have hge : k = rs.length := by simp at hge; omega
    subst hge
    show (0 ≤ (s.size : Int) ∧ (s.size : Int) < ((s.size + 1 : Nat) : Int)) ∧ _
    refine ⟨by omega, _, by rw [Nat.zero_add]; exact cell_at b4 (bools_get _ _ _ (by omega)), rfl, k1.trans k4⟩

theorem ritC_length (x : RItA) : (ritC x).length = 3 := rfl
theorem RLst.cell {base : Nat} {w : World} {p : Option Addr} {n c : Nat} {L : List RItA} (h : RLst base w p n c L) {k : Nat} {x : RItA} (hk : L[k]? = some x) {j : Nat} {v : Value} (hj : (ritC x)[j]? = some v) : ∃ g, p = some ⟨g, 0, none⟩ ∧ w.cell? ⟨g, k * 3 + j, none⟩ = some v := by
  refine own_cellL h.row ?_
  have : j < 3 := by rw [← ritC_length x]; exact (List.getElem?_eq_some_iff.1 hj).1
  rw [flat_get ritC 3 L k x j (fun y _ => ritC_length y) hk this]
  exact hj
set_option maxHeartbeats 1000000 in
theorem rverdict_any {base : Nat} {w : World} {p : Option Addr} {n c : Nat} {L : List RItA} (h : RLst base w p n c L) (s : ByteArray) (hs : s.size ≤ 140737488355328) (hl : L.length ≤ 64) (hr : ∀ x ∈ L, x.1.rs.length ≤ 80) :
    Calls Tryd.prog 57 #[.slice p n c, .string s] w fun e w' => e = .returned (.int .i64 (rverd (L.map (·.1)) s)) ∧ K0 w w' := by
  refine vc_rverdict p n c s w _ ?_
  refine ⟨fun vs w' => ∃ k : Nat, vs = [.int .i64 (k : Int), .int .i64 (rverd ((L.take k).map (·.1)) s)] ∧ k ≤ L.length ∧ K0 w w', fun vs _ => (match vs with | .int _ x :: _ => L.length - x.toNat | _ => 0), ⟨0, rfl, by omega, .refl _ _⟩, ?_⟩
  rintro x x1 w2 ⟨k, hv, hk, hk2⟩
  simp only [List.cons.injEq, Value.int.injEq, true_and, and_true] at hv
  obtain ⟨rfl, rfl⟩ := hv
  have hn := h.len
  refine bsp_intro (fun hlt => ?_) (fun hge => ?_)
  · have hlt : k < L.length := by simp at hlt; omega
    obtain ⟨y, hy⟩ : ∃ y, L[k]? = some y := ⟨_, List.getElem?_eq_getElem hlt⟩
    have htk : (L.take (k + 1)).map (·.1) = (L.take k).map (·.1) ++ [y.1] := by rw [List.take_add_one, hy, List.map_append]; rfl
    have h2 := h.kp hk2
    obtain ⟨g, rfl, c1⟩ := h2.cell hy (j := 1) rfl
    obtain ⟨g', e', c2⟩ := h2.cell hy (j := 2) rfl
    simp only [Option.some.injEq, Addr.mk.injEq, and_true] at e'
    subst e'
    show (0 ≤ (k : Int) ∧ (k : Int) < (n : Int)) ∧ _
    rw [Int.toNat_natCast]
    refine ⟨by omega, y.1.t, y.2.1, y.1.rs.length, y.2.2, ⟨At_of _ _ fun j v hj => ?_⟩, ⟨(rmatch_any y.1.t y.2.1 y.2.2 y.1.rs s w2 (h2.els y (List.mem_of_getElem? hy)) hs (by have := hr y (List.mem_of_getElem? hy); omega)).mono fun e w3 ⟨he, hk3⟩ => ⟨_, he, ?_⟩⟩⟩
    · match j, hj with
      | 0, hj => simp at hj; subst hj; rw [Nat.zero_add, Nat.add_zero]; exact c1
      | 1, hj => simp at hj; subst hj; rw [Nat.zero_add]; exact c2
    have h3 := h2.kp hk3
    have f1 : IntKind.i64.wrap ((k : Int) + 1) = ((k + 1 : Nat) : Int) := by rw [wr64 (by omega) (by omega)]; omega
    rw [f1]
    have hsn : rverd ((L.take (k + 1)).map (·.1)) s = if rmatchB y.1.rs s = true then y.1.v else rverd ((L.take k).map (·.1)) s := by rw [htk]; simp [rverd]
    refine bsp_intro (fun hm => ?_) (fun hm => ⟨⟨k + 1, ?_, by omega, hk2.trans hk3⟩, by simp only [Int.toNat_natCast]; omega⟩)
    · obtain ⟨g', e', c0⟩ := h3.cell hy (j := 0) rfl
      simp only [Option.some.injEq, Addr.mk.injEq, and_true] at e'
      subst e'
      show (0 ≤ (k : Int) ∧ (k : Int) < (n : Int)) ∧ _
      refine ⟨by omega, y.1.v, by rw [Nat.zero_add]; exact c0, ⟨k + 1, ?_, by omega, hk2.trans hk3⟩, by simp only [Int.toNat_natCast]; omega⟩
      rw [hsn, if_pos hm]
    · rw [hsn, if_neg (by rw [hm]; decide)]
  · have : k = L.length := by simp at hge; omega
    subst this
    rw [List.take_length]
    exact ⟨rfl, hk2⟩
set_option maxHeartbeats 1000000 in
theorem rselects_any {base : Nat} {w : World} {p : Option Addr} {n c : Nat} {L : List RItA} (h : RLst base w p n c L) (hl : L.length ≤ 64) (hr : ∀ x ∈ L, x.1.rs.length ≤ 80) (q : Option Addr) (d : Nat) (zs : List ByteArray) (hz : StrP w q zs) (hn : zs.length ≤ 1073741824) (hs : ∀ z ∈ zs, z.size ≤ 140737488355328) :
    Calls Tryd.prog 36 #[.slice p n c, .slice q zs.length d] w fun e w' => e = .returned (.bool (rselB (L.map (·.1)) zs)) ∧ K0 w w' := by
  refine vc_rselects p n c q zs.length d w _ ?_
  refine ⟨fun vs w2 => ∃ (k : Nat), vs = [.int .i64 k, .bool ((zs.take k).any fun z => rverd (L.map (·.1)) z == 1)] ∧ k ≤ zs.length ∧ (zs.take k).all (fun z => !(rverd (L.map (·.1)) z == 3)) = true ∧ K0 w w2, fun vs _ => (match vs with | .int _ x :: _ => zs.length - x.toNat | _ => 0),
    ⟨0, rfl, by omega, rfl, .refl _ _⟩, fun x x_1 w2 ⟨k, hv, hk, hall, hw2⟩ => ?_⟩
  simp only [List.cons.injEq, Value.int.injEq, true_and, and_true, Value.bool.injEq] at hv
  obtain ⟨rfl, rfl⟩ := hv
  refine bsp_intro (fun hlt => ?_) (fun hge => ?_)
  · have hlt : k < zs.length := by simpa using hlt
    obtain ⟨z, hzk⟩ : ∃ z, zs[k]? = some z := ⟨_, List.getElem?_eq_getElem hlt⟩
    have htk : zs.take (k + 1) = zs.take k ++ [z] := by rw [List.take_add_one, hzk]; rfl
    obtain ⟨b1, o1, rfl, hc⟩ := hz.kp hw2 (fun _ _ _ h => h) k z hzk
    have e0 : (k : Int).toNat = k := by omega
    show (0 ≤ (k : Int) ∧ (k : Int) < (zs.length : Int)) ∧ _
    refine ⟨⟨by omega, by omega⟩, z, by rw [e0]; exact hc, ?_⟩
    refine ⟨(rverdict_any (h.kp hw2) z (hs z (List.mem_of_getElem? hzk)) hl hr).mono fun e w3 ⟨he, hk3⟩ => ⟨_, he, ?_⟩⟩
    have f1 : IntKind.i64.wrap ((k : Int) + 1) = ((k + 1 : Nat) : Int) := by rw [wr64 (by omega) (by omega)]; omega
    rw [f1]
    refine bsp_intro (fun h3 => ⟨?_, hw2.trans hk3⟩) (fun h3 => ⟨⟨k + 1, ?_, by omega, ?_, hw2.trans hk3⟩, by simp only [Int.toNat_natCast]; omega⟩)
    · have : zs.all (fun z => !(rverd (L.map (·.1)) z == 3)) = false := by
        rw [List.all_eq_false]
        exact ⟨z, List.mem_of_getElem? hzk, by simp [h3]⟩
      unfold rselB
      rw [this]; rfl
    · rw [htk, List.any_append]; simp
    · rw [htk, List.all_append, hall]; simp [h3]
  · have hge : ¬ k < zs.length := by simpa using hge
    obtain rfl : k = zs.length := by omega
    rw [List.take_length] at hall ⊢
    exact ⟨by unfold rselB; rw [hall]; rfl, hw2⟩

end Go.Proofs.YtcpjajjocmpkjaaDoor
