/- The contracts of the reference's Match, Verdict and Selects. Names have at most 2^47 bytes. -/
import Derived.Test.YtcpjajjocmpkjaaGreatDoorZ08
import Derived.Test.YtcpjajjocmpkjaaGreatDoorZ06
import Derived.Test.YtcpjajjocmpkjaaGreatDoorZ03
import Derived.Maps.Keyed
import Derived.DeepKeys3
import Derived.Test.YtcpjajjocmpkjaaGreatDoorProg
import Derived.Test.YtcpjajjocmpkjaaGreatDoorZ02
import Derived.Test.YtcpjajjocmpkjaaGreatDoorZ04
import Derived.KernelRfl
namespace Go.Proofs.YtcpjajjocmpkjaaGreatDoor
open Go.RowKit

/-- A cell of a row. -/
theorem own_cellL {w : World} {base : Nat} {e : TypeId} {L n c : Nat} {p : Option Addr} {xs : List Value} (h : w.ownsRow base e L (.slice p n c) n xs) {i : Nat} {v : Value} (hv : xs[i]? = some v) : ∃ g, p = some ⟨g, 0, none⟩ ∧ w.cell? ⟨g, i, none⟩ = some v := by
  have hl := h.1
  have hi : i < xs.length := (List.getElem?_eq_some_iff.1 hv).1
  rcases h.2 with ⟨_, hn⟩ | ⟨g, cap, cur, he, _, hg, _, _, _, ht⟩
  · rw [hn, Nat.zero_mul] at hl; omega
  · simp only [Value.slice.injEq] at he
    refine ⟨g, he.1, ?_⟩
    rw [cell_block hg]
    rw [← ht, List.getElem?_take] at hv
    split at hv
    · rw [Array.getElem?_toList] at hv; exact hv
    · cases hv
theorem flat_get {α : Type} (f : α → List Value) (L : Nat) : ∀ (l : List α) (k : Nat) (x : α) (j : Nat), (∀ y ∈ l, (f y).length = L) → l[k]? = some x → j < L → (l.flatMap f)[k * L + j]? = (f x)[j]?
  | [], k, x, j, _, h, _ => by simp at h
  | y :: l, 0, x, j, hl, h, hj => by
    simp at h
    subst h
    rw [List.flatMap_cons, Nat.zero_mul, Nat.zero_add, List.getElem?_append_left (by rw [hl y (by simp)]; exact hj)]
  | y :: l, k + 1, x, j, hl, h, hj => by
    have hy := hl y (by simp)
    rw [List.flatMap_cons, List.getElem?_append_right (by rw [hy, Nat.succ_mul]; omega), hy]
    rw [show (k + 1) * L + j - L = k * L + j by rw [Nat.succ_mul]; omega]
    exact flat_get f L l k x j (fun z hz => hl z (by simp [hz])) (by simpa using h) hj
theorem rows_star {rs : List RE} {k : Nat} {r : RE} (h : rs[k]? = some r) : (rows rs)[k * 129]? = some (.bool r.star) := by
  have := flat_get (fun r : RE => reL r.star r.set) 129 rs k r 0 (fun y _ => reL_length _ _) h (by decide)
  exact this
theorem rows_set {rs : List RE} {k : Nat} {r : RE} (h : rs[k]? = some r) {c : Nat} (hc : c < 128) : (rows rs)[k * 129 + 1 + c]? = some (.bool (r.set c)) := by
  have := flat_get (fun r : RE => reL r.star r.set) 129 rs k r (1 + c) (fun y _ => reL_length _ _) h (by omega)
  rw [← Nat.add_assoc] at this
  unfold rows
  rw [this]
  show (Value.bool r.star :: arrBo r.set 128 0)[1 + c]? = _
  rw [Nat.add_comm 1 c, List.getElem?_cons_succ, arrBo_get _ _ _ _ hc, Nat.zero_add]

set_option maxHeartbeats 1000000 in
theorem rmatch_any (t : ByteArray) (p : Option Addr) (c : Nat) (rs : List RE) (s : ByteArray) (w : World) {base : Nat} (ho : w.ownsRow base 134 129 (.slice p rs.length c) rs.length (rows rs)) (hs : s.size ≤ 140737488355328) (hl : rs.length ≤ 1048576) :
    Calls Tryz.prog 86 #[.agg #[.string t, .slice p rs.length c], .string s] w fun e w' => e = .returned (.bool (rmatchB rs s)) ∧ K0 w w' := by
  refine vc_rmatch t p rs.length c s w _ ?_
  have eW : IntKind.i64.wrap ((s.size : Int) + 1) = ((s.size + 1 : Nat) : Int) := by rw [wr64 (by omega) (by omega)]; omega
  unfold VC_rmatch
  simp only [eW, Int.toNat_natCast]
  intro n1 w1 hn
  have k1 : K0 w w1 := hn.kp _
  refine count1 s.size (by omega) (fun k w' => (∀ j, j < k → charB (at8 s j) = true) ∧ w' = w1) ⟨fun j hj => by omega, rfl⟩ ?_
  rintro I m k w' hk ⟨hch, rfl⟩ next
  refine bsp_intro (fun hlt => ?_) (fun hge => ?_)
  · have hlt : k < s.size := by simpa using hlt
    rw [Int.toNat_natCast]
    refine ⟨by omega, bsp_intro (fun hc => ?_) (fun hc => next hlt w' ⟨fun j hj => ?_, rfl⟩)⟩
    · refine ⟨?_, k1⟩
      have : (List.range s.size).all (fun i => charB (at8 s i)) = false := by
        rw [List.all_eq_false]
        exact ⟨k, List.mem_range.2 hlt, by simpa using hc⟩
      unfold rmatchB
      rw [this]; rfl
    · by_cases e : j = k
      · subst e; simpa using hc
      · exact hch j (by omega)
  have hge : k = s.size := by simp at hge; omega
  subst hge
  have hall : (List.range s.size).all (fun i => charB (at8 s i)) = true := by
    rw [List.all_eq_true]
    exact fun j hj => hch j (List.mem_range.1 hj)
  have hR : rmatchB rs s = pmF (rS rs) (fun i k => rS rs i || rH rs i (at8 s k).toNat) rs.length s.size := by unfold rmatchB; rw [hall, Bool.true_and]
  rw [hR]
  generalize hh : (fun i k => rS rs i || rH rs i (at8 s k).toNat) = h
  generalize hst : rS rs = st
  refine ⟨by omega, fun g0 w2 hn2 => ⟨⟨by omega, by omega⟩, ?_⟩⟩
  have b2 := hn2.block
  rw [bools_made] at b2
  refine ⟨cell_wr b2 (by rw [bools_size]; omega), fun w3 hp3 => ?_⟩
  have b3 : w3.heap[g0]? = some (.cells (bools (pmF st h 0) (s.size + 1)) 4 (0, 0)) := by
    rw [hp3.block b2]
    congr 2
    apply bools_put
    intro j _
    by_cases e : j = 0
    · subst e; rfl
    · rw [if_neg e]; simp [pmF, e]
  have g0n : n1 < g0 := by have := hn.size; have := hn2.ge; omega
  have k3 : K0 w' w3 := (hn2.kp (fun _ => False)).fresh hp3.kp (fun i hi e => by have := hn2.ge; omega)
  have c1 : ∀ wx, K0 w' wx → wx.cell? ⟨n1, 0 + 1, none⟩ = some (.slice p rs.length c) := fun wx hk => cell_at (hk.blk hn.block (fun h => h)) rfl
  refine ⟨fun vs wx => ∃ (g k : Nat), vs = [.slice (some ⟨g, 0, none⟩) (s.size + 1) (s.size + 1), .int .i64 (k : Int)] ∧ k ≤ rs.length ∧ wx.heap[g]? = some (.cells (bools (pmF st h k) (s.size + 1)) 4 (0, 0)) ∧ K0 w' wx,
    fun vs _ => (match vs with | [_, .int _ x] => rs.length - x.toNat | _ => 0), ⟨g0, 0, rfl, by omega, b3, k3⟩, ?_⟩
  rintro p1 n_ c_ x w4 ⟨g, k, hv, hk, b4, k4⟩
  simp only [List.cons.injEq, Value.int.injEq, Value.slice.injEq, true_and, and_true] at hv
  obtain ⟨⟨rfl, rfl, rfl⟩, rfl⟩ := hv
  refine ⟨p, rs.length, c, c1 w4 k4, bsp_intro (fun hlt => ?_) (fun hge => ?_)⟩
  · have hlt : k < rs.length := by simpa using hlt
    obtain ⟨r, hr⟩ : ∃ r, rs[k]? = some r := ⟨_, List.getElem?_eq_getElem hlt⟩
    have hstk : st k = r.star := by rw [← hst]; simp [rS, hr]
    have hhk : ∀ i, h k i = (r.star || r.set (at8 s i).toNat) := fun i => by rw [← hh]; simp [rS, rH, hr]
    refine ⟨by omega, fun n3 w5 hn5 => ?_⟩
    have b5 := hn5.block
    rw [bools_made] at b5
    have g3 : w4.heap.size ≤ n3 := hn5.ge
    have glt : g < w4.heap.size := block_lt b4
    have b45 := (hn5.kp (fun _ => False)).blk b4 (fun h => h)
    have k5 : K0 w' w5 := k4.trans (hn5.kp _)
    refine count1 (s.size + 1) (by omega) (fun i wx => wx.heap[n3]? = some (.cells (bools (fun j => decide (j < i) && pmF st h (k + 1) j) (s.size + 1)) 4 (0, 0)) ∧ Kp (· = n3) w5 wx) ⟨?_, .refl _ _⟩ ?_
    · rw [b5]
      congr 2
      first | done | (apply bools_congr; intro j _; simp)
    rintro I1 m1 i w6 hi ⟨b6, k6⟩ next
    have b46 := k6.blk b45 (fun e => by omega)
    have k6' : K0 w' w6 := k5.fresh k6 (fun i hi e => by have := k4.size; omega)
    refine bsp_intro (fun hle => ?_) (fun hgt => ?_)
    · have hle : i < s.size + 1 := by simp at hle; omega
      have ho6 := owns_kp (owns_kp ho k1 (fun _ _ h => h)) k6' (fun _ _ h => h)
      obtain ⟨ge, rfl, hcs⟩ := own_cellL ho6 (rows_star hr)
      refine ⟨_, rs.length, c, c1 w6 k6', ?_⟩
      show (0 ≤ (k : Int) ∧ (k : Int) < (rs.length : Int)) ∧ _
      rw [Int.toNat_natCast]
      refine ⟨by omega, r.star, by rw [Nat.zero_add]; exact hcs, ?_⟩
      have fin : ∀ (wz : World) (v : Bool), Kp (· = n3) w5 wz → wz.heap[n3]? = some (.cells (bools (fun j => decide (j < i) && pmF st h (k + 1) j) (s.size + 1)) 4 (0, 0)) → v = pmF st h (k + 1) i → ∀ wy, PutB wz n3 (0 + i) [.bool v] wy → wy.heap[n3]? = some (.cells (bools (fun j => decide (j < i + 1) && pmF st h (k + 1) j) (s.size + 1)) 4 (0, 0)) ∧ Kp (· = n3) w5 wy := fun wz v hkz hbz hv wy hp => by
        refine ⟨?_, hkz.trans hp.kp⟩
        have := hp.block hbz
        rw [Nat.zero_add] at this
        rw [this]
        congr 2
        apply bools_put
        intro j _
        by_cases e : j = i
        · subst e; rw [if_pos rfl, hv]; simp
        · rw [if_neg e]
          have : decide (j < i + 1) = decide (j < i) := by rw [decide_eq_decide]; omega
          rw [this]
      have e1 : 0 < i → IntKind.i64.wrap ((i : Int) - 1) = ((i - 1 : Nat) : Int) := fun h0 => by rw [wr64 (by omega) (by omega)]; omega
      refine bsp_intro (fun hs1 => ?_) (fun hs0 => bsp_intro (fun h0 => ?_) (fun h0 => ?_))
      · show (0 ≤ (i : Int) ∧ (i : Int) < ((s.size + 1 : Nat) : Int)) ∧ _
        rw [Int.toNat_natCast]
        refine ⟨by omega, pmF st h k i, by rw [Nat.zero_add]; exact cell_at b46 (bools_get _ _ _ (by omega)), gimp_intro fun hg => ?_, ?_⟩
        · have h0 : 0 < i := by simp at hg; omega
          rw [e1 h0]; omega
        refine ⟨pmF st h (k + 1) (i - 1), gimp_intro fun hg => ?_, by omega, cell_wr b6 (by rw [bools_size]; omega), fun wy hp => next hle wy (fin w6 _ k6 b6 ?_ wy hp)⟩
        · have h0 : 0 < i := by simp at hg; omega
          rw [e1 h0, Int.toNat_natCast, Nat.zero_add]
          refine cell_at b6 ?_
          rw [bools_get _ _ _ (by omega)]
          have : decide (i - 1 < i) = true := by simp; omega
          rw [this, Bool.true_and]
        · cases i with
          | zero => rw [pmF_zero, hstk, hs1]; simp
          | succ i =>
            rw [pmF_succ, hstk, if_pos hs1, hhk, hs1]
            have : decide (((i + 1 : Nat) : Int) > 0) = true := decide_eq_true (by omega)
            rw [this]
            simp
      · have h0 : 0 < i := by simp at h0; omega
        rw [e1 h0, Int.toNat_natCast, Int.toNat_natCast]
        obtain ⟨j, rfl⟩ : ∃ j, i = j + 1 := ⟨i - 1, by omega⟩
        rw [Nat.add_sub_cancel]
        have hcb := charB_lt (hch j (by omega))
        obtain ⟨ge', hge', hcc⟩ := own_cellL ho6 (rows_set hr (c := (at8 s j).toNat) (by omega))
        simp only [Option.some.injEq, Addr.mk.injEq, and_true] at hge'
        subst hge'
        show (0 ≤ (j : Int) ∧ (j : Int) < ((s.size + 1 : Nat) : Int)) ∧ _
        refine ⟨by omega, pmF st h k j, by rw [Nat.zero_add]; exact cell_at (blk_drew b46) (bools_get _ _ _ (by omega)), some ⟨ge, 0, none⟩, rs.length, c, gimp_intro fun _ => c1 w6.drew k6'.drew, gimp_intro fun _ => by omega, ?_⟩
        show gimp _ _ ∧ _
        refine ⟨gimp_intro fun _ => by omega, gimp_intro fun _ => by omega, r.set (at8 s j).toNat, gimp_intro fun _ => by rw [Nat.zero_add]; exact hcc, by omega, cell_wr (blk_drew b6) (by rw [bools_size]; omega), fun wy hp => next hle wy (fin w6.drew _ k6.drew (blk_drew b6) ?_ wy hp)⟩
        rw [pmF_succ, hstk, if_neg (by rw [hs0]; decide), hhk, hs0, Bool.false_or, Bool.and_comm]
      · have h0 : i = 0 := by simp at h0; omega
        subst h0
        refine next hle w6 ⟨?_, k6⟩
        rw [b6]
        congr 2
        apply bools_congr
        intro j _
        by_cases e : j = 0
        · subst e
          rw [pmF_zero, hstk, hs0]; simp
        · have h1 : decide (j < 0 + 1) = false := decide_eq_false (by omega)
          have h2 : decide (j < 0) = false := decide_eq_false (by omega)
          rw [h1, h2]
    · have hgt : i = s.size + 1 := by simp at hgt; omega
      subst hgt
      have f1 : IntKind.i64.wrap ((k : Int) + 1) = ((k + 1 : Nat) : Int) := by rw [wr64 (by omega) (by omega)]; omega
      rw [f1]
      refine ⟨⟨n3, k + 1, rfl, by omega, ?_, k6'⟩, by simp only [Int.toNat_natCast]; omega⟩
      rw [b6]
      congr 2
      apply bools_congr
      intro j hj
      simp [hj]
  · have hge : k = rs.length := by simp at hge; omega
    subst hge
    show (0 ≤ (s.size : Int) ∧ (s.size : Int) < ((s.size + 1 : Nat) : Int)) ∧ _
    refine ⟨by omega, _, by rw [Nat.zero_add]; exact cell_at b4 (bools_get _ _ _ (by omega)), rfl, k1.trans k4⟩

theorem ritC_length (x : RItA) : (ritC x).length = 3 := rfl
theorem RLst.cell {base : Nat} {w : World} {p : Option Addr} {n c : Nat} {L : List RItA} (h : RLst base w p n c L) {k : Nat} {x : RItA} (hk : L[k]? = some x) {j : Nat} {v : Value} (hj : (ritC x)[j]? = some v) : ∃ g, p = some ⟨g, 0, none⟩ ∧ w.cell? ⟨g, k * 3 + j, none⟩ = some v := by
  refine own_cellL h.row ?_
  have : j < 3 := by rw [← ritC_length x]; exact (List.getElem?_eq_some_iff.1 hj).1
  rw [flat_get ritC 3 L k x j (fun y _ => ritC_length y) hk this]
  exact hj
set_option maxHeartbeats 1000000 in
theorem rverdict_any {base : Nat} {w : World} {p : Option Addr} {n c : Nat} {L : List RItA} (h : RLst base w p n c L) (s : ByteArray) (hs : s.size ≤ 140737488355328) (hl : L.length ≤ 64) (hr : ∀ x ∈ L, x.1.rs.length ≤ 80) :
    Calls Tryz.prog 72 #[.slice p n c, .string s] w fun e w' => e = .returned (.int .i64 (rverd (L.map (·.1)) s)) ∧ K0 w w' := by
  refine vc_rverdict p n c s w _ ?_
  refine ⟨fun vs w' => ∃ k : Nat, vs = [.int .i64 (k : Int), .int .i64 (rverd ((L.take k).map (·.1)) s)] ∧ k ≤ L.length ∧ K0 w w', fun vs _ => (match vs with | .int _ x :: _ => L.length - x.toNat | _ => 0), ⟨0, rfl, by omega, .refl _ _⟩, ?_⟩
  rintro x x1 w2 ⟨k, hv, hk, hk2⟩
  simp only [List.cons.injEq, Value.int.injEq, true_and, and_true] at hv
  obtain ⟨rfl, rfl⟩ := hv
  have hn := h.len
  refine bsp_intro (fun hlt => ?_) (fun hge => ?_)
  · have hlt : k < L.length := by simp at hlt; omega
    obtain ⟨y, hy⟩ : ∃ y, L[k]? = some y := ⟨_, List.getElem?_eq_getElem hlt⟩
    have htk : (L.take (k + 1)).map (·.1) = (L.take k).map (·.1) ++ [y.1] := by rw [List.take_add_one, hy, List.map_append]; rfl
    have h2 := h.kp hk2
    obtain ⟨g, rfl, c1⟩ := h2.cell hy (j := 1) rfl
    obtain ⟨g', e', c2⟩ := h2.cell hy (j := 2) rfl
    simp only [Option.some.injEq, Addr.mk.injEq, and_true] at e'
    subst e'
    show (0 ≤ (k : Int) ∧ (k : Int) < (n : Int)) ∧ _
    rw [Int.toNat_natCast]
    refine ⟨by omega, y.1.t, y.2.1, y.1.rs.length, y.2.2, ⟨At_of _ _ fun j v hj => ?_⟩, ⟨(rmatch_any y.1.t y.2.1 y.2.2 y.1.rs s w2 (h2.els y (List.mem_of_getElem? hy)) hs (by have := hr y (List.mem_of_getElem? hy); omega)).mono fun e w3 ⟨he, hk3⟩ => ⟨_, he, ?_⟩⟩⟩
    · match j, hj with
      | 0, hj => simp at hj; subst hj; rw [Nat.zero_add, Nat.add_zero]; exact c1
      | 1, hj => simp at hj; subst hj; rw [Nat.zero_add]; exact c2
    have h3 := h2.kp hk3
    have f1 : IntKind.i64.wrap ((k : Int) + 1) = ((k + 1 : Nat) : Int) := by rw [wr64 (by omega) (by omega)]; omega
    rw [f1]
    have hsn : rverd ((L.take (k + 1)).map (·.1)) s = if rmatchB y.1.rs s = true then y.1.v else rverd ((L.take k).map (·.1)) s := by rw [htk]; simp [rverd]
    refine bsp_intro (fun hm => ?_) (fun hm => ⟨⟨k + 1, ?_, by omega, hk2.trans hk3⟩, by simp only [Int.toNat_natCast]; omega⟩)
    · obtain ⟨g', e', c0⟩ := h3.cell hy (j := 0) rfl
      simp only [Option.some.injEq, Addr.mk.injEq, and_true] at e'
      subst e'
      show (0 ≤ (k : Int) ∧ (k : Int) < (n : Int)) ∧ _
      refine ⟨by omega, y.1.v, by rw [Nat.zero_add]; exact c0, ⟨k + 1, ?_, by omega, hk2.trans hk3⟩, by simp only [Int.toNat_natCast]; omega⟩
      rw [hsn, if_pos hm]
    · rw [hsn, if_neg (by rw [hm]; decide)]
  · have : k = L.length := by simp at hge; omega
    subst this
    rw [List.take_length]
    exact ⟨rfl, hk2⟩
set_option maxHeartbeats 1000000 in
theorem rselects_any {base : Nat} {w : World} {p : Option Addr} {n c : Nat} {L : List RItA} (h : RLst base w p n c L) (hl : L.length ≤ 64) (hr : ∀ x ∈ L, x.1.rs.length ≤ 80) (q : Option Addr) (d : Nat) (zs : List ByteArray) (hz : StrP w q zs) (hn : zs.length ≤ 1073741824) (hs : ∀ z ∈ zs, z.size ≤ 140737488355328) :
    Calls Tryz.prog 49 #[.slice p n c, .slice q zs.length d] w fun e w' => e = .returned (.bool (rselB (L.map (·.1)) zs)) ∧ K0 w w' := by
  refine vc_rselects p n c q zs.length d w _ ?_
  refine ⟨fun vs w2 => ∃ (k : Nat), vs = [.int .i64 k, .bool ((zs.take k).any fun z => rverd (L.map (·.1)) z == 1)] ∧ k ≤ zs.length ∧ (zs.take k).all (fun z => !(rverd (L.map (·.1)) z == 3)) = true ∧ K0 w w2, fun vs _ => (match vs with | .int _ x :: _ => zs.length - x.toNat | _ => 0),
    ⟨0, rfl, by omega, rfl, .refl _ _⟩, fun x x_1 w2 ⟨k, hv, hk, hall, hw2⟩ => ?_⟩
  simp only [List.cons.injEq, Value.int.injEq, true_and, and_true, Value.bool.injEq] at hv
  obtain ⟨rfl, rfl⟩ := hv
  refine bsp_intro (fun hlt => ?_) (fun hge => ?_)
  · have hlt : k < zs.length := by simpa using hlt
    obtain ⟨z, hzk⟩ : ∃ z, zs[k]? = some z := ⟨_, List.getElem?_eq_getElem hlt⟩
    have htk : zs.take (k + 1) = zs.take k ++ [z] := by rw [List.take_add_one, hzk]; rfl
    obtain ⟨b1, o1, rfl, hc⟩ := hz.kp hw2 (fun _ _ _ h => h) k z hzk
    have e0 : (k : Int).toNat = k := by omega
    show (0 ≤ (k : Int) ∧ (k : Int) < (zs.length : Int)) ∧ _
    refine ⟨⟨by omega, by omega⟩, z, by rw [e0]; exact hc, ?_⟩
    refine ⟨(rverdict_any (h.kp hw2) z (hs z (List.mem_of_getElem? hzk)) hl hr).mono fun e w3 ⟨he, hk3⟩ => ⟨_, he, ?_⟩⟩
    have f1 : IntKind.i64.wrap ((k : Int) + 1) = ((k + 1 : Nat) : Int) := by rw [wr64 (by omega) (by omega)]; omega
    rw [f1]
    refine bsp_intro (fun h3 => ⟨?_, hw2.trans hk3⟩) (fun h3 => ⟨⟨k + 1, ?_, by omega, ?_, hw2.trans hk3⟩, by simp only [Int.toNat_natCast]; omega⟩)
    · have : zs.all (fun z => !(rverd (L.map (·.1)) z == 3)) = false := by
        rw [List.all_eq_false]
        exact ⟨z, List.mem_of_getElem? hzk, by simp [h3]⟩
      unfold rselB
      rw [this]; rfl
    · rw [htk, List.any_append]; simp
    · rw [htk, List.all_append, hall]; simp [h3]
  · have hge : ¬ k < zs.length := by simpa using hge
    obtain rfl : k = zs.length := by omega
    rw [List.take_length] at hall ⊢
    exact ⟨by unfold rselB; rw [hall]; rfl, hw2⟩

end Go.Proofs.YtcpjajjocmpkjaaGreatDoor

/- Sorting of candidates: the library's contract of slices.SortFunc at the closure of Select. -/
namespace Go.Proofs.YtcpjajjocmpkjaaGreatDoor
open Go.RowKit Go.Sort

theorem candL_length (x : Cand) : (candL x).length = 33 := rfl
theorem candL_one (x : Cand) : ∀ v ∈ candL x, v.oneCell' = true := by
  intro v hv
  rcases List.mem_append.1 hv with h | h
  · simp at h; subst h; rfl
  · obtain ⟨j, hj, e⟩ := List.getElem_of_mem h
    have hj' : j < 32 := hj
    have := arrI_get .u8 x.2 32 0 j hj'
    rw [List.getElem?_eq_getElem hj] at this
    simp at this
    rw [← e, this]; rfl
theorem sortW_kp {α : Type} [Inhabited α] (enc : α → List Value) (k : Nat) (w : World) (blk off m : Nat) (dk : Array α) (os : Array Obj) : Kp (· = blk) w (sortWorldK enc k w blk off m dk os) := by
  refine ⟨rfl, rfl, rfl, size_sortWorldK_c enc k w blk off m dk os, fun i hi hne => ?_⟩
  show (((Sort.ahead w m).heap.modify blk _) ++ os)[i]? = _
  rw [Array.getElem?_append_left (by simpa [Sort.ahead] using hi), Array.getElem?_modify, if_neg (fun e => hne e.symm)]
  rfl
set_option maxHeartbeats 1000000 in
theorem sort_any (cs : List Cand) (p : Option Addr) (n c : Nat) (w : World) {base : Nat} (ho : w.ownsRow base 75 33 (.slice p n c) n (cs.flatMap candL)) (hl : n ≤ 1000000) :
    Calls Tryz.prog 24 #[.slice p n c, .func (.func 25) #[] #[]] w fun e w' => e = .returned (.tuple #[]) ∧
      ∃ cs' : List Cand, cs'.Perm cs ∧ (∀ (i j : Nat) (x y : Cand), i < j → cs'[i]? = some x → cs'[j]? = some y → ¬ cfC y x < 0) ∧
        (∀ (k : Nat) (x : Cand), cs'[k]? = some x → ∃ g, p = some ⟨g, 0, none⟩ ∧ ∀ (j : Nat) (v : Value), (candL x)[j]? = some v → w'.cell? ⟨g, k * 33 + j, none⟩ = some v) ∧ Kp (fun i => (Value.slice p n c).ownBlock = some i) w w' := by
  have hn : n = cs.length := by
    have h1 := ho.1
    have h2 : ∀ l : List Cand, (l.flatMap candL).length = l.length * 33 := fun l => by
      induction l with
      | nil => rfl
      | cons x l ih => rw [List.flatMap_cons, List.length_append, ih, candL_length, List.length_cons]; omega
    rw [h2] at h1
    omega
  rcases Nat.eq_zero_or_pos n with h0 | h0
  · subst h0
    have : cs = [] := List.eq_nil_of_length_eq_zero hn.symm
    subst this
    exact (Tryz.slices_SortFunc_none p c _ w).mono fun e w' ⟨he, hw⟩ => ⟨he, [], .refl _, (fun i j x y _ h _ => by simp at h), (fun k x h => by simp at h), by rw [hw]; exact .refl _ _⟩
  rcases ho.2 with ⟨_, hz⟩ | ⟨g, cap, cur, he, _, hg, _, _, hcs, _⟩
  · omega
  simp only [Value.slice.injEq, true_and] at he
  obtain ⟨rfl, rfl⟩ := he
  have hcell : ∀ k x, cs[k]? = some x → ∀ j v, (candL x)[j]? = some v → w.cell? ⟨g, k * 33 + j, none⟩ = some v := fun k x hk j v hv => by
    have hj : j < 33 := by rw [← candL_length x]; exact (List.getElem?_eq_some_iff.1 hv).1
    obtain ⟨g', e', hc⟩ := own_cellL ho (i := k * 33 + j) (v := v) (by rw [flat_get candL 33 cs k x j (fun y _ => candL_length y) hk hj]; exact hv)
    simp only [Option.some.injEq, Addr.mk.injEq, and_true] at e'
    subst e'
    exact hc
  have key : ∀ (d : Array Cand) (t : Nat), t < d.size * 33 → ∃ x v, d[t / 33]? = some x ∧ (candL x)[t % 33]? = some v ∧ (flatK candL 33 d)[t]! = v := fun d t ht => by
    have h1 : t / 33 < d.size := by omega
    have h2 : t % 33 < (candL d[t / 33]!).length := by rw [candL_length]; omega
    refine ⟨d[t / 33]!, (candL d[t / 33]!)[t % 33], ?_, List.getElem?_eq_getElem h2, ?_⟩
    · rw [Array.getElem?_eq_getElem h1, getElem!_pos d _ h1]
    · rw [get_flatK candL 33 d t ht, getElem!_pos (candL d[t / 33]!) (t % 33) h2]
  have hH : HoldsK candL 33 w g 0 cs.toArray := by
    intro t ht
    rw [size_flatK] at ht
    obtain ⟨x, v, h1, h2, h3⟩ := key cs.toArray t ht
    refine ⟨?_, frozen_block hg _⟩
    rw [h3, Nat.zero_add]
    have := hcell (t / 33) x (by simpa using h1) (t % 33) v h2
    rw [show t / 33 * 33 + t % 33 = t by omega] at this
    exact this
  have eg : ∀ args w, (callFunc 25 args).run Tryz.prog w = .ok (.enter 25 args) w := enters_of Tryz.func25 (by kernel_rfl) rfl
  have hcmp : CmpLays Tryz.prog 25 #[] candL 33 cfC g 0 cs.toArray.size w := fun m os dk _ x y => (scmp_any x y _).mono fun e w' ⟨he, hk, hd⟩ => ⟨he, grow_of hk hd⟩
  have hS := AnyQ.slices_SortFunc (α := Cand) Tryz.laysSlF06_f24 33 Tryz.isAgg75 Tryz.sizeOf75 candL candL_length candL_one cfC cfC_ord.swo 25 #[] g 0 c cs.toArray w eg hcmp hH (block_lt hg) (by simp; omega)
  change Calls Tryz.prog 24 #[.slice (some ⟨g, 0, none⟩) cs.length c, .func (.func 25) #[] #[]] w _ at hS
  rw [← hn] at hS
  refine hS.mono fun e w' ⟨he, d', m, os, hperm, hsort, hw⟩ => ⟨he, d'.toList, ?_, ?_, ?_, ?_⟩
  · have h1 := hperm.1
    have h2 := hperm.2.2
    rw [show d'.extract 0 cs.toArray.size = d' from by rw [← h1]; exact Array.extract_size] at h2
    rw [show cs.toArray.extract 0 cs.toArray.size = cs.toArray from Array.extract_size] at h2
    exact h2
  · intro i j x y hij hx hy
    have hj : j < d'.toList.length := (List.getElem?_eq_some_iff.1 hy).1
    have hs1 := hperm.1
    have := hsort i j (by omega) hij (by rw [Array.length_toList] at hj; omega)
    have e1 : d'[i]! = x := by
      have hi : i < d'.size := by rw [Array.length_toList] at hj; omega
      rw [getElem!_pos d' i hi]
      rw [Array.getElem?_toList, Array.getElem?_eq_getElem hi] at hx
      simpa using hx
    have e2 : d'[j]! = y := by
      have hi : j < d'.size := by rw [Array.length_toList] at hj; omega
      rw [getElem!_pos d' j hi]
      rw [Array.getElem?_toList, Array.getElem?_eq_getElem hi] at hy
      simpa using hy
    rw [e1, e2] at this
    intro hc
    have h3 : decide (cfC y x < 0) = true := decide_eq_true hc
    rw [show ltOf cfC y x = decide (cfC y x < 0) from rfl, h3] at this
    cases this
  · intro k x hk
    refine ⟨g, rfl, fun j v hv => ?_⟩
    have hj : j < 33 := by rw [← candL_length x]; exact (List.getElem?_eq_some_iff.1 hv).1
    have hk' : k < d'.size := by have := (List.getElem?_eq_some_iff.1 hk).1; simpa using this
    have hHo := holdsK_sortWorldK_c candL 33 w g 0 cs.toArray d' m os hH (block_lt hg) hperm.1
    have hlt : k * 33 + j < d'.size * 33 := by omega
    have := (hHo (k * 33 + j) (by rw [size_flatK]; exact hlt)).1
    obtain ⟨x', v', h1, h2, h3⟩ := key d' (k * 33 + j) hlt
    rw [show (k * 33 + j) / 33 = k by omega] at h1
    rw [show (k * 33 + j) % 33 = j by omega] at h2
    rw [Array.getElem?_toList, h1] at hk
    simp at hk
    subst hk
    rw [hv] at h2
    simp at h2
    subst h2
    rw [hw]
    rw [h3, Nat.zero_add] at this
    exact this
  · rw [hw]
    exact (sortW_kp candL 33 w g 0 m d' os).mono fun i _ e => by rw [e]; rfl

end Go.Proofs.YtcpjajjocmpkjaaGreatDoor

/- Maps in the program's memory: their entries as a list, looked up, written, struck. Generic: no program, no condition. -/
namespace Go.Proofs.YtcpjajjocmpkjaaGreatDoor
open Go.RowKit Go.Maps

section
variable {α : Type} [DecidableEq α]
def aget {β : Type} : List (α × β) → α → Option β
  | [], _ => none
  | (b, v) :: r, a => if b = a then some v else aget r a
def aset {β : Type} : List (α × β) → α → β → List (α × β)
  | [], a, v => [(a, v)]
  | (b, u) :: r, a, v => if b = a then (a, v) :: r else (b, u) :: aset r a v
def adel {β : Type} (l : List (α × β)) (a : α) : List (α × β) := l.filter fun p => !decide (p.1 = a)
variable {β : Type}
theorem aget_aset (l : List (α × β)) (a c : α) (v : β) : aget (aset l a v) c = if a = c then some v else aget l c := by
  induction l with
  | nil => simp [aset, aget]
  | cons p r ih =>
    obtain ⟨b, u⟩ := p
    unfold aset
    by_cases h : b = a
    · subst h
      simp only [if_pos]
      unfold aget
      split <;> rfl
    · rw [if_neg h]
      simp only [aget]
      rw [ih]
      by_cases h1 : b = c
      · subst h1
        rw [if_pos rfl, if_neg (fun e => h e.symm), if_pos rfl]
      · rw [if_neg h1, if_neg h1]
theorem aget_none {l : List (α × β)} {a : α} : aget l a = none ↔ ∀ p ∈ l, p.1 ≠ a := by
  induction l with
  | nil => simp [aget]
  | cons p r ih =>
    obtain ⟨b, u⟩ := p
    unfold aget
    by_cases h : b = a
    · simp [h]
    · rw [if_neg h, ih]
      simp [h]
theorem aget_mem {l : List (α × β)} {a : α} {v : β} (h : aget l a = some v) : (a, v) ∈ l := by
  induction l with
  | nil => simp [aget] at h
  | cons p r ih =>
    obtain ⟨b, u⟩ := p
    unfold aget at h
    by_cases h' : b = a
    · rw [if_pos h'] at h
      simp at h; subst h; subst h'; simp
    · rw [if_neg h'] at h
      exact List.mem_cons_of_mem _ (ih h)
theorem aget_at {l : List (α × β)} (hd : l.Pairwise fun p q => p.1 ≠ q.1) {a : α} {v : β} (h : (a, v) ∈ l) : aget l a = some v := by
  induction l with
  | nil => cases h
  | cons p r ih =>
    obtain ⟨b, u⟩ := p
    obtain ⟨h1, h2⟩ := List.pairwise_cons.1 hd
    unfold aget
    rcases List.mem_cons.1 h with e | e
    · cases e; rw [if_pos rfl]
    · rw [if_neg (h1 _ e)]; exact ih h2 e
theorem aset_new {l : List (α × β)} {a : α} {v : β} (h : ∀ p ∈ l, p.1 ≠ a) : aset l a v = l ++ [(a, v)] := by
  induction l with
  | nil => rfl
  | cons p r ih =>
    obtain ⟨b, u⟩ := p
    unfold aset
    rw [if_neg (h (b, u) (by simp)), ih fun q hq => h q (by simp [hq])]
    rfl
theorem aset_old {l : List (α × β)} (hd : l.Pairwise fun p q => p.1 ≠ q.1) {a : α} {v u : β} {j : Nat} (hj : l[j]? = some (a, u)) : aset l a v = l.set j (a, v) := by
  induction l generalizing j with
  | nil => simp at hj
  | cons p r ih =>
    obtain ⟨b, x⟩ := p
    obtain ⟨h1, h2⟩ := List.pairwise_cons.1 hd
    unfold aset
    cases j with
    | zero =>
      simp at hj
      rw [if_pos hj.1]; rfl
    | succ j =>
      have hj' : r[j]? = some (a, u) := by simpa using hj
      rw [if_neg (h1 _ (List.mem_of_getElem? hj')), ih h2 hj']
      rfl
theorem aset_keys {l : List (α × β)} (a : α) (v : β) : ∀ p ∈ aset l a v, p = (a, v) ∨ (p ∈ l ∧ p.1 ≠ a) ∨ (p ∈ l) := by
  induction l with
  | nil => intro p hp; simp [aset] at hp; exact .inl hp
  | cons q r ih =>
    obtain ⟨b, u⟩ := q
    intro p hp
    unfold aset at hp
    split at hp
    · rcases List.mem_cons.1 hp with h | h
      · exact .inl h
      · exact .inr (.inr (by simp [h]))
    · rcases List.mem_cons.1 hp with h | h
      · exact .inr (.inr (by simp [h]))
      · rcases ih p h with h | h | h
        · exact .inl h
        · exact .inr (.inr (by simp [h.1]))
        · exact .inr (.inr (by simp [h]))
theorem aset_dis {l : List (α × β)} (hd : l.Pairwise fun p q => p.1 ≠ q.1) (a : α) (v : β) : (aset l a v).Pairwise fun p q => p.1 ≠ q.1 := by
  induction l with
  | nil => simp [aset]
  | cons q r ih =>
    obtain ⟨b, u⟩ := q
    obtain ⟨h1, h2⟩ := List.pairwise_cons.1 hd
    unfold aset
    split
    · rename_i h
      subst h
      exact List.pairwise_cons.2 ⟨h1, h2⟩
    · rename_i h
      refine List.pairwise_cons.2 ⟨fun p hp => ?_, ih h2⟩
      rcases aset_keys a v p hp with e | e | e
      · rw [e]; exact h
      · exact h1 _ e.1
      · exact h1 _ e
theorem aset_length (l : List (α × β)) (a : α) (v : β) : (aset l a v).length ≤ l.length + 1 := by
  induction l with
  | nil => simp [aset]
  | cons q r ih => obtain ⟨b, u⟩ := q; unfold aset; split <;> simp; exact ih
end

/-- The entries with their values as they lie. -/
def amap {α β γ : Type} (f : β → γ) (l : List (α × β)) : List (α × γ) := l.map fun p => (p.1, f p.2)
theorem aset_amap {α β γ : Type} [DecidableEq α] (f : β → γ) (l : List (α × β)) (a : α) (v : β) : aset (amap f l) a (f v) = amap f (aset l a v) := by
  induction l with
  | nil => rfl
  | cons p r ih =>
    obtain ⟨b, u⟩ := p
    show aset ((b, f u) :: amap f r) a (f v) = _
    unfold aset
    split
    · rfl
    · rw [ih]; rfl
theorem aget_amap {α β γ : Type} [DecidableEq α] (f : β → γ) (l : List (α × β)) (a : α) : aget (amap f l) a = (aget l a).map f := by
  induction l with
  | nil => rfl
  | cons p r ih =>
    obtain ⟨b, u⟩ := p
    show aget ((b, f u) :: amap f r) a = _
    unfold aget
    split
    · rfl
    · rw [ih]

/-- Block b is a map with these entries, in the order of their making; a key lies as enc says. -/
structure MapB {α : Type} (P : Program) (k : TypeId) (enc : α → Value) (w : World) (b : Nat) (l : List (α × Value)) : Prop where
  blk : ∃ es clock, w.heap[b]? = some (.map es clock) ∧ es.toList.map (fun e => (e.key, e.val)) = l.map (fun p => (enc p.1, p.2))
  key : ∀ p ∈ l, ∃ kl, keyOf P k (enc p.1) = some kl
  dis : l.Pairwise fun p q => p.1 ≠ q.1

section
variable {α : Type} {P : Program} {k t e : TypeId} {enc : α → Value} {w w1 : World} {b : Nat} {l : List (α × Value)}
theorem MapB.lt (h : MapB P k enc w b l) : b < w.heap.size := by obtain ⟨es, c, hb, _⟩ := h.blk; exact block_lt hb
theorem MapB.kp {M : Nat → Prop} {w' : World} (h : MapB P k enc w b l) (hk : Kp M w w') (hm : ¬ M b) : MapB P k enc w' b l := by
  obtain ⟨es, c, hb, he⟩ := h.blk
  exact ⟨⟨es, c, hk.blk hb hm, he⟩, h.key, h.dis⟩
theorem MapB.drew (h : MapB P k enc w b l) : MapB P k enc w.drew b l := ⟨h.blk, h.key, h.dis⟩
theorem NewB.map {c : Nat} (h : NewB w (.map #[] c) b w1) : MapB P k enc w1 b ([] : List (α × Value)) :=
  ⟨⟨#[], c, h.block, rfl⟩, (fun p hp => by cases hp), .nil⟩

variable [DecidableEq α] (hinj : ∀ x y, enc x = enc y → x = y)
include hinj
theorem map_find (K : Keyed P k) {es : List MapEntry} (he : es.map (fun e => (e.key, e.val)) = l.map (fun p => (enc p.1, p.2))) (hkey : ∀ p ∈ l, ∃ kl, keyOf P k (enc p.1) = some kl) (hdis : l.Pairwise fun p q => p.1 ≠ q.1)
    {a : α} {kl : Lit} (ha : keyOf P k (enc a) = some kl) :
    (aget l a = none ∧ (Instr.findKey k (enc a) es).run P w = .ok none w) ∨
    (∃ j v u, aget l a = some v ∧ (Instr.findKey k (enc a) es).run P w = .ok (some (j, v)) w ∧ l[j]? = some (a, v) ∧ es[j]? = some u ∧ u.key = enc a) := by
  have hm : ∀ x ∈ es, ∃ p ∈ l, x.key = enc p.1 ∧ x.val = p.2 := fun x hx => by
    have : (x.key, x.val) ∈ es.map (fun e => (e.key, e.val)) := List.mem_map.2 ⟨x, hx, rfl⟩
    rw [he] at this
    obtain ⟨p, hp, e⟩ := List.mem_map.1 this
    simp at e
    exact ⟨p, hp, e.1.symm, e.2.symm⟩
  rcases K.find w ha es (fun x hx => by
    obtain ⟨p, hp, h1, _⟩ := hm x hx
    rw [h1]; exact hkey p hp) with ⟨h1, h2⟩ | ⟨j, u, h1, h2, h3⟩
  · refine .inl ⟨aget_none.2 fun p hp hpa => ?_, h1⟩
    have : (enc p.1, p.2) ∈ l.map (fun p => (enc p.1, p.2)) := List.mem_map.2 ⟨p, hp, rfl⟩
    rw [← he] at this
    obtain ⟨x, hx, e⟩ := List.mem_map.1 this
    simp at e
    exact h2 x hx (by rw [e.1, hpa])
  · have h4 : (es.map (fun e => (e.key, e.val)))[j]? = some (u.key, u.val) := by simp [h2]
    rw [he] at h4
    simp only [List.getElem?_map, Option.map_eq_some_iff] at h4
    obtain ⟨p, hp, e⟩ := h4
    simp at e
    obtain ⟨pa, pv⟩ := p
    have ea : pa = a := hinj _ _ (e.1.trans h3)
    subst ea
    have ev : pv = u.val := e.2
    subst ev
    exact .inr ⟨j, _, u, aget_at hdis (List.mem_of_getElem? hp), h1, hp, h2, h3⟩
/-- A look into a map. -/
theorem MapB.look (h : MapB P k enc w b l) (K : Keyed P k) (ht : P.underlying t = some (.map k e)) {z : Value} (hz : (zeroValue e).run P w = .ok z w) {a : α} {kl : Lit} (ha : keyOf P k (enc a) = some kl) (ok : Bool) :
    LookP P t (.map (some b)) (enc a) ok (match ok with | true => .tuple #[(aget l a).getD z, .bool (aget l a).isSome] | false => (aget l a).getD z) w := by
  obtain ⟨es, c, hb, he⟩ := h.blk
  constructor
  rcases map_find hinj K he h.key h.dis ha (w := w) with ⟨h1, h2⟩ | ⟨j, v, u, h1, h2, _⟩
  · rw [h1]
    cases ok <;> simp [Instr.lookup, run_underlying ht, MapKept.run_getObj_map hb, K.check w _ ha, h2, hz, Result.andThen]
  · rw [h1]
    cases ok <;> simp [Instr.lookup, run_underlying ht, MapKept.run_getObj_map hb, K.check w _ ha, h2, Result.andThen]
/-- An entry of a map is written. -/
theorem MapB.upd (h : MapB P k enc w b l) (K : Keyed P k) (ht : P.underlying t = some (.map k e)) {a : α} {kl : Lit} (ha : keyOf P k (enc a) = some kl) (v : Value) :
    ∃ w1, UpdP P t (.map (some b)) (enc a) v w w1 ∧ MapB P k enc w1 b (aset l a v) ∧ Kp (· = b) w w1 := by
  obtain ⟨es, c, hb, he⟩ := h.blk
  have hkp : ∀ o, Kp (· = b) w (ChangeMaps.setBlock w b o) := fun o => ⟨rfl, rfl, rfl, by simp [ChangeMaps.setBlock], fun i _ hi => ChangeMaps.heap_setBlock_other hb _ (fun e => hi (by rw [e]))⟩
  have hkeys : ∀ p ∈ aset l a v, ∃ kl, keyOf P k (enc p.1) = some kl := fun p hp => by
    rcases aset_keys a v p hp with e | e | e
    · rw [e]; exact ⟨_, ha⟩
    · exact h.key p e.1
    · exact h.key p e
  rcases map_find hinj K he h.key h.dis ha (w := w) with ⟨h1, h2⟩ | ⟨j, x, u, h1, h2, h3, h4, h5⟩
  · refine ⟨ChangeMaps.setBlock w b (.map (es.push ⟨enc a, v, c⟩) (c + 1)), ⟨?_⟩, ⟨⟨_, _, ChangeMaps.heap_setBlock_same hb _, ?_⟩, hkeys, aset_dis h.dis a v⟩, hkp _⟩
    · simp [Instr.mapUpdate, run_underlying ht, MapKept.run_getObj_map hb, K.check w _ ha, h2, MapKept.run_setObj_map _ hb, Result.andThen, ChangeMaps.setBlock]
    · rw [aset_new (aget_none.1 h1)]
      simp [he]
  · refine ⟨ChangeMaps.setBlock w b (.map (es.modify j fun e' => { e' with key := enc a, val := v }) c), ⟨?_⟩, ⟨⟨_, _, ChangeMaps.heap_setBlock_same hb _, ?_⟩, hkeys, aset_dis h.dis a v⟩, hkp _⟩
    · have hj : es[j]? = some u := by simpa using h4
      simp [Instr.mapUpdate, run_underlying ht, MapKept.run_getObj_map hb, K.check w _ ha, h2, hj, h5, K.stays w ha, MapKept.run_setObj_map _ hb, Result.andThen, ChangeMaps.setBlock]
    · rw [aset_old h.dis h3, List.map_set, ← he, Array.toList_modify, ChangeMaps.modify_eq_set _ _ _ _ h4, List.map_set]
end

end Go.Proofs.YtcpjajjocmpkjaaGreatDoor

/- Arrays of bytes as keys of maps, and their comparison. Generic: no program. -/
namespace Go.Proofs.YtcpjajjocmpkjaaGreatDoor
open Go.RowKit Go.Maps

theorem mapM_some {α β : Type} {f : α → Option β} {g : α → β} : ∀ (l : List α), (∀ x ∈ l, f x = some (g x)) → l.mapM f = some (l.map g)
  | [], _ => by simp
  | x :: l, h => by
    rw [List.mapM_cons, h x (by simp), mapM_some l fun y hy => h y (by simp [hy])]
    rfl
section
variable {P : Program} {t e : TypeId} {n : Nat}
/-- An array of bytes. -/
def byA (l : List Int) : Value := .agg (l.map (Value.int .u8)).toArray
theorem byA_inj (x y : List Int) (h : byA x = byA y) : x = y := by
  unfold byA at h
  simp only [Value.agg.injEq] at h
  have h : x.map (Value.int .u8) = y.map (Value.int .u8) := congrArg Array.toList h
  exact (List.map_inj_right (fun a b h => by cases h; rfl)).1 h
theorem keyLits_bytes (ht : P.underlying t = some (.array n e)) (he : P.underlying e = some (.int .u8)) (hc : P.cellsOf e = 1) (hct : P.cellsOf t = n) {l : List Int} (hl : l.length = n) (hb : ∀ x ∈ l, 0 ≤ x ∧ x ≤ 255) (D : Nat) :
    P.keyLits (D + 2) t (l.map (Value.int .u8)) = some (l.map (Lit.int .u8)) := by
  unfold Program.keyLits
  rw [ht]
  simp only
  rw [if_pos (by rw [List.length_map, hl, hct]), mapM_some (g := fun i => [Lit.int .u8 (l.getD i 0)]) _ (fun i hi => ?_)]
  · simp only [Option.map_some, Option.some.injEq]
    have h1 : ∀ r : List Nat, (r.map fun i => [Lit.int .u8 (l.getD i 0)]).flatten = r.map fun i => Lit.int .u8 (l.getD i 0) := fun r => by
      induction r with
      | nil => rfl
      | cons a r ih => rw [List.map_cons, List.map_cons, List.flatten_cons, ih]; rfl
    rw [h1]
    apply List.ext_getElem?
    intro j
    rw [List.getElem?_map, List.getElem?_map]
    rcases Nat.lt_or_ge j n with h | h
    · rw [List.getElem?_range h, List.getElem?_eq_getElem (by omega)]
      simp [List.getD_eq_getElem?_getD, hl, h]
    · rw [List.getElem?_eq_none (by simpa using h), List.getElem?_eq_none (by omega)]
      rfl
  · have hi : i < n := List.mem_range.1 hi
    have : ((l.map (Value.int .u8)).drop (i * P.cellsOf e)).take (P.cellsOf e) = [.int .u8 (l.getD i 0)] := by
      rw [hc, Nat.mul_one, List.drop_eq_getElem_cons (by rw [List.length_map]; omega)]
      simp [List.getD_eq_getElem?_getD, hl, hi]
    rw [this]
    unfold Program.keyLits
    rw [he]
    simp only
    have hx := hb (l.getD i 0) (by
      rw [List.getD_eq_getElem?_getD, List.getElem?_eq_getElem (by omega)]
      simp)
    generalize l.getD i 0 = v at hx
    have hw : (Lit.int .u8 v).wf = true := by simp [Lit.wf, IntKind.min, IntKind.max, IntKind.bits, IntKind.signed]; omega
    simp [hw]
theorem keyOf_bytes (ht : P.underlying t = some (.array n e)) (he : P.underlying e = some (.int .u8)) (hc : P.cellsOf e = 1) (hct : P.cellsOf t = n) (hkt : P.keyType t = true) (hD : 1 ≤ P.types.size) {l : List Int} (hl : l.length = n) (hb : ∀ x ∈ l, 0 ≤ x ∧ x ≤ 255) :
    keyOf P t (byA l) = some (.string (keyBytes (l.map (Lit.int .u8)))) := by
  unfold keyOf
  rw [ht]
  simp only
  have hf : (byA l).formed P t = true := by
    unfold byA Value.formed
    rw [ht]
    simp [hl, hct]
  rw [hkt, hf]
  have hk := keyLits_bytes ht he hc hct hl hb (P.types.size - 1)
  rw [show P.types.size - 1 + 2 = P.types.size + 1 by omega] at hk
  have : (byA l).cells.toList = l.map (Value.int .u8) := by simp [byA, Value.cells]
  rw [this, hk]
  rfl
theorem eq_bytes (ht : P.underlying t = some (.array n e)) (he : P.underlying e = some (.int .u8)) (hc : P.cellsOf e = 1) (hct : P.cellsOf t = n) (hkt : P.keyType t = true) (hD : 1 ≤ P.types.size) (hkm : P.keyTypeAt 3 t = true) (hg : P.eqGuardType P.depth t = false) {l l' : List Int} (hl : l.length = n) (hb : ∀ x ∈ l, 0 ≤ x ∧ x ≤ 255) (hl' : l'.length = n) (hb' : ∀ x ∈ l', 0 ≤ x ∧ x ≤ 255) :
    EqP P t (byA l) (byA l') (decide (l = l')) := by
  refine ⟨fun w => ?_, hg, _, _, rfl, rfl⟩
  obtain ⟨r, hr, hi⟩ := run_equal_deep w (m := 3) (by omega) hkm (by rw [ht]) (keyOf_bytes ht he hc hct hkt hD hl hb) (keyOf_bytes ht he hc hct hkt hD hl' hb')
  rw [hr]
  congr 1
  rw [Bool.eq_iff_iff, hi, decide_eq_true_eq]
  constructor
  · intro h
    have h : keyBytes (l.map (Lit.int .u8)) = keyBytes (l'.map (Lit.int .u8)) := by simpa using h
    have := keyLits_inj (keyLits_bytes ht he hc hct hl hb 0) (keyLits_bytes ht he hc hct hl' hb' 0) h
    exact (List.map_inj_right (fun a b h => by cases h; rfl)).1 this
  · rintro rfl; rfl
end
end Go.Proofs.YtcpjajjocmpkjaaGreatDoor

/- The formulas of functions by the symbolic evaluator, and that each gives the call's contract. Written by a program (gen.py). No condition. -/
namespace Go.Proofs.YtcpjajjocmpkjaaGreatDoor
set_option maxRecDepth 100000
set_option linter.unusedVariables false

def VC_fcompile (nb : ByteArray) (ps : ByteArray) (mb : Int) (dl : Int) (p : Option Addr) (n : Nat) (c : Nat) (w : World) (R : Ending → World → Prop) : Prop :=
 ∀ (n_1 : Nat) (w1 : World),
 NewB w
 (Obj.cells #[Value.string nb, Value.string ps, Value.int IntKind.i64 mb, Value.int IntKind.i64 dl, Value.slice p n c]
 26)
 n_1 w1 →
 ∃ (x : ByteArray),
 ∃ (x_1 : ByteArray),
 ∃ (x_2 : Int),
 ∃ (x_3 : Int),
 ∃ (p : Option Addr),
 ∃ (n : Nat),
 ∃ (c : Nat),
 AtL w1 n_1 0
 [Value.string x, Value.string x_1, Value.int IntKind.i64 x_2, Value.int IntKind.i64 x_3, Value.slice p n c] ∧
 CallsS Tryz.prog 11
 #[Value.agg
 #[Value.string x, Value.string x_1, Value.int IntKind.i64 x_2, Value.int IntKind.i64 x_3,
 Value.slice p n c]]
 w1 fun (e : Ending) (w' : World) =>
 ∃ (x : Int),
 e = Ending.returned (Value.int IntKind.i64 x) ∧
 bsp (x != 0) (R (Ending.returned (Value.tuple #[Value.pointer none, Value.int IntKind.i64 x])) w')
 (∃ (x : ByteArray),
 w'.cell? (Addr.mk n_1 (0 + 1) none) = some (Value.string x) ∧
 CallsS Tryz.prog 12 #[Value.string x] w' fun (e : Ending) (w' : World) =>
 ∃ (x : Option Addr),
 ∃ (x_4 : Int),
 ∃ (x_5 : Int),
 e =
 Ending.returned
 (Value.tuple #[Value.pointer x, Value.int IntKind.i64 x_4, Value.int IntKind.i64 x_5]) ∧
 bsp (x_5 != 0)
 (R (Ending.returned (Value.tuple #[Value.pointer none, Value.int IntKind.i64 x_5])) w')
 (∃ (p : Option Addr),
 ∃ (n : Nat),
 ∃ (c : Nat),
 w'.cell? (Addr.mk n_1 (0 + 4) none) = some (Value.slice p n c) ∧
 CallsS Tryz.prog 13 #[Value.slice p n c] w' fun (e : Ending) (w' : World) =>
 ∃ (p : Option Addr),
 ∃ (n : Nat),
 ∃ (c : Nat),
 e = Ending.returned (Value.slice p n c) ∧
 ((∃ (u : Value), w'.cell? (Addr.mk n_1 (0 + 4) none) = some u) ∧
 w'.frozen? (Addr.mk n_1 (0 + 4) none) = false) ∧
 ∀ (w1 : World),
 PutB w' n_1 (0 + 4) [Value.slice p n c] w1 →
 ∃ (x_6 : ByteArray),
 ∃ (x_7 : ByteArray),
 ∃ (x_8 : Int),
 ∃ (x_9 : Int),
 ∃ (p : Option Addr),
 ∃ (n : Nat),
 ∃ (c : Nat),
 AtL w1 n_1 0
 [Value.string x_6, Value.string x_7, Value.int IntKind.i64 x_8,
 Value.int IntKind.i64 x_9, Value.slice p n c] ∧
 ∀ (n_2 : Nat) (w1_1 : World),
 NewB w1
 (Obj.cells
 #[Value.string x_6, Value.string x_7, Value.int IntKind.i64 x_8,
 Value.int IntKind.i64 x_9, Value.slice p n c, Value.pointer x]
 51)
 n_2 w1_1 →
 R
 (Ending.returned
 (Value.tuple
 #[Value.pointer (some (Addr.mk n_2 0 none)), Value.int IntKind.i64 0]))
 w1_1))
theorem vc_fcompile (nb : ByteArray) (ps : ByteArray) (mb : Int) (dl : Int) (p : Option Addr) (n : Nat) (c : Nat) (w : World) (R : Ending → World → Prop) (h : VC_fcompile nb ps mb dl p n c w R) : Calls Tryz.prog 5 ([Value.agg
    #[Value.string nb, Value.string ps, Value.int IntKind.i64 mb, Value.int IntKind.i64 dl,
      Value.slice p n c]] : List Value).toArray w R := by
  have e : execR { P := Tryz.prog, loops := [], pur := pur1, tails := [], joins := [], boxes := [] } Tryz.f5.results.toList R (Tryz.f5.body.getD .skip) (initF [Value.agg
    #[Value.string nb, Value.string ps, Value.int IntKind.i64 mb, Value.int IntKind.i64 dl,
      Value.slice p n
        c]] (Tryz.f5.ntmps - ([Value.agg
    #[Value.string nb, Value.string ps, Value.int IntKind.i64 mb, Value.int IntKind.i64 dl,
      Value.slice p n c]] : List Value).length)) w = VC_fcompile nb ps mb dl p n c w R := by kernel_rfl
  have hb : Tryz.f5.body = some (Tryz.f5.body.getD .skip) := by kernel_rfl
  exact calls_of_exec' (P := Tryz.prog) (fn := Tryz.f5) (c := Tryz.f5.body.getD .skip) (args := [Value.agg
    #[Value.string nb, Value.string ps, Value.int IntKind.i64 mb, Value.int IntKind.i64 dl,
      Value.slice p n c]]) (w := w) (R := R) pur1_ok Tryz.func5 hb e h

end Go.Proofs.YtcpjajjocmpkjaaGreatDoor

/- The contracts of feedrule's Rule.Check, Compile and Feed.Rule, by plain functions. Texts have at most 2^30 bytes. -/
namespace Go.Proofs.YtcpjajjocmpkjaaGreatDoor
open Go.RowKit

/-- The first error among distributions. -/
def dstS : List ByteArray → List ByteArray → Int
  | _, [] => 0
  | pre, d :: r => if distB d = false then 12 else if Lib.containsS pre d = true then 7 else dstS (pre ++ [d]) r
/-- The first error of a rule. -/
def chkS (nb ps : ByteArray) (mb dl : Int) (ds : List ByteArray) : Int :=
  if (siteS nb).2 ≠ 0 then (siteS nb).2 else
  match listR ps with
  | .inr (_, e) => e
  | .inl _ => if mb < 0 ∨ 65536 < mb ∨ dl < 0 ∨ 20160 < dl then 2 else if 8 < ds.length then 9 else dstS [] ds
theorem entsS_err : ∀ (ps : List ByteArray) (a : Int) (acc : List Ent) (o e : Int), entsS ps a acc = .inr (o, e) → e ≠ 0
  | [], a, acc, o, e, h => by simp [entsS] at h
  | x :: r, a, acc, o, e, h => by
    unfold entsS at h
    split at h
    · simp at h; omega
    · split at h
      · rename_i o' e' hc
        simp at h
        have := (compileR_off _ _ _ hc).2
        rw [← h.2]; exact this
      · exact entsS_err r _ _ o e h
theorem listR_err {s : ByteArray} {o e : Int} (h : listR s = .inr (o, e)) : e ≠ 0 := by
  unfold listR at h
  split at h
  · simp at h; omega
  · exact entsS_err _ _ _ _ _ h
theorem strP_cells {w : World} {b o : Nat} {zs : List ByteArray} (h : StrP w (some ⟨b, o, none⟩) zs) : ∀ j, j < zs.length → w.cell? ⟨b, o + j, none⟩ = some (.string (zs.getD j ByteArray.empty)) := fun j hj => by
  obtain ⟨b', o', he, hc⟩ := h j zs[j] (List.getElem?_eq_getElem hj)
  simp only [Option.some.injEq, Addr.mk.injEq] at he
  obtain ⟨rfl, rfl, _⟩ := he
  rw [hc]
  simp [List.getD_eq_getElem?_getD, hj]

set_option maxHeartbeats 400000 in
theorem check_any (nb ps : ByteArray) (mb dl : Int) (p : Option Addr) (c : Nat) (ds : List ByteArray) (w : World) (hps : ps.size ≤ 1073741824) (hG : GW w) (hds : StrP w p ds) (hc : ds.length ≤ c) (hl : ds.length ≤ 1073741824) :
    Calls Tryz.prog 11 #[.agg #[.string nb, .string ps, .int .i64 mb, .int .i64 dl, .slice p ds.length c]] w fun e w' => e = .returned (.int .i64 (chkS nb ps mb dl ds)) ∧ K0 w w' := by
  refine vc_check nb ps mb dl p ds.length c w _ ?_
  intro n w1 hn
  have hk1 : K0 w w1 := hn.kp _
  refine ⟨nb, cell_at hn.block rfl, ⟨(site_any nb w1).mono fun e w2 ⟨he, hw⟩ => ⟨_, _, he, ?_⟩⟩⟩
  subst hw
  generalize hsi : (siteS nb).2 = si
  generalize (siteS nb).1 = si1
  refine bsp_intro (fun h => ⟨?_, hk1⟩) (fun h => ?_)
  · have h : si ≠ 0 := by simpa using h
    simp [chkS, hsi, h]
  have h : si = 0 := by simpa using h
  refine ⟨ps, cell_at hn.block rfl, ⟨(parseList_any ps w2 hps (hG.kp hk1 (fun h => h))).mono fun e w3 ⟨hk3, he⟩ => ?_⟩⟩
  have hk13 : K0 w w3 := hk1.trans hk3
  have hb3 := hk3.blk hn.block (fun h => h)
  cases hL : listR ps with
  | inr oe =>
    obtain ⟨o, er⟩ := oe
    rw [hL] at he
    refine ⟨none, o, er, he, ?_⟩
    have := listR_err hL
    refine bsp_intro (fun _ => ⟨?_, hk13⟩) (fun h => absurd h (by simpa using this))
    simp [chkS, hsi, h, hL]
  | inl es =>
    rw [hL] at he
    obtain ⟨lb, he, _⟩ := he
    refine ⟨_, _, _, he, ?_⟩
    refine bsp_intro (fun h => absurd h (by decide)) (fun _ => ?_)
    have c2 : w3.cell? ⟨n, 0 + 2, none⟩ = some (.int .i64 mb) := cell_at hb3 rfl
    have c3 : w3.cell? ⟨n, 0 + 3, none⟩ = some (.int .i64 dl) := cell_at hb3 rfl
    have c4 : w3.cell? ⟨n, 0 + 4, none⟩ = some (.slice p ds.length c) := cell_at hb3 rfl
    refine ⟨mb, c2, mb, gimp_intro fun _ => c2, dl, gimp_intro fun _ => c3, dl, gimp_intro fun _ => c3, ?_⟩
    refine bsp_intro (fun hr => ⟨?_, hk13⟩) (fun hr => ?_)
    · have hr : mb < 0 ∨ 65536 < mb ∨ dl < 0 ∨ 20160 < dl := by simp at hr; omega
      simp [chkS, hsi, h, hL, hr]
    have hr : ¬ (mb < 0 ∨ 65536 < mb ∨ dl < 0 ∨ 20160 < dl) := by simp at hr; omega
    refine ⟨p, ds.length, c, c4, ?_⟩
    refine bsp_intro (fun h8 => ⟨?_, hk13⟩) (fun h8 => ?_)
    · have h8 : 8 < ds.length := by simp at h8; omega
      simp [chkS, hsi, h, hL, hr, h8]
    have h8 : ¬ 8 < ds.length := by simp at h8; omega
    have hR : chkS nb ps mb dl ds = dstS [] ds := by simp [chkS, hsi, h, hL, hr, h8]
    rw [hR]
    refine ⟨p, ds.length, c, c4, ?_⟩
    refine count1 ds.length (by omega) (fun k w4 => dstS [] ds = dstS (ds.take k) (ds.drop k) ∧ K0 w3 w4) ⟨rfl, .refl _ _⟩ ?_
    intro I m k w4 hk ⟨hS, hk4⟩ next
    refine bsp_intro (fun hlt => ?_) (fun hge => ?_)
    · have hlt : k < ds.length := by simpa using hlt
      obtain ⟨z, hz⟩ : ∃ z, ds[k]? = some z := ⟨_, List.getElem?_eq_getElem hlt⟩
      have hdr : ds.drop k = z :: ds.drop (k + 1) := by
        rw [List.drop_eq_getElem_cons hlt]
        rw [List.getElem?_eq_getElem hlt] at hz
        simp at hz
        rw [hz]
      have htk : ds.take (k + 1) = ds.take k ++ [z] := by rw [List.take_add_one, hz]; rfl
      rw [hdr] at hS
      have hd4 := hds.kp (hk13.trans hk4) (fun _ _ _ h => h)
      obtain ⟨b1, o1, rfl, hcz⟩ := hd4 k z hz
      have e0 : (k : Int).toNat = k := by omega
      show (0 ≤ (k : Int) ∧ (k : Int) < (ds.length : Int)) ∧ _
      refine ⟨⟨by omega, by omega⟩, z, by rw [e0]; exact hcz, ⟨(isDist_any z w4).mono fun e w5 ⟨he, hw⟩ => ⟨_, he, ?_⟩⟩⟩
      subst hw
      refine bsp_intro (fun hd => ⟨?_, hk13.trans hk4⟩) (fun hd => ?_)
      · have hd : distB z = false := by simpa using hd
        rw [hS]; simp [dstS, hd]
      have hd : distB z = true := by simpa using hd
      refine ⟨some ⟨b1, o1, none⟩, ds.length, c, cell_at (hk4.blk hb3 (fun h => h)) rfl, ⟨by omega, by omega⟩, ?_⟩
      rw [e0]
      refine ⟨(Tryz.slices_Contains_string b1 o1 k c ds z w5 (by omega) (by omega) (strP_cells hd4)).mono fun e w6 ⟨he, hw⟩ => ⟨_, he, ?_⟩⟩
      subst hw
      refine bsp_intro (fun hcn => ⟨?_, hk13.trans hk4⟩) (fun hcn => ?_)
      · rw [hS]; simp [dstS, hd, hcn]
      · refine next hlt w6 ⟨?_, hk4⟩
        rw [hS, htk]; simp [dstS, hd, hcn]
    · have hge : ¬ k < ds.length := by simpa using hge
      obtain rfl : k = ds.length := by omega
      refine ⟨?_, hk13.trans hk4⟩
      rw [hS, List.drop_length]; rfl

/-- A feed in the memory. -/
def FeedR (D : Nat → Prop) (w : World) (b : Nat) (nb ps : ByteArray) (mb dl : Int) (ds : List ByteArray) (es : List Ent) : Prop :=
  ∃ (p : Option Addr) (n c lb : Nat), w.heap[b]? = some (.cells #[.string nb, .string ps, .int .i64 mb, .int .i64 dl, .slice p n c, .pointer (some ⟨lb, 0, none⟩)] 51 (0, 0)) ∧ D b ∧ n = ds.length ∧ StrP w p ds ∧ (∀ k o, p = some ⟨k, o, none⟩ → D k ∧ k < w.heap.size) ∧ (p = none → ds = []) ∧ ListR D w lb ps es
theorem FeedR.kp {D M : Nat → Prop} {w w' : World} {b : Nat} {nb ps : ByteArray} {mb dl : Int} {ds : List ByteArray} {es : List Ent} (h : FeedR D w b nb ps mb dl ds es) (hk : Kp M w w') (hm : ∀ k, D k → k < w.heap.size → ¬ M k) : FeedR D w' b nb ps mb dl ds es := by
  obtain ⟨p, n, c, lb, h1, h2, h3, h4, h5, h6, h7⟩ := h
  exact ⟨p, n, c, lb, hk.blk h1 (hm b h2 (block_lt h1)), h2, h3, h4.kp hk (fun k o e => hm k (h5 k o e).1 (h5 k o e).2), fun k o e => ⟨(h5 k o e).1, Nat.lt_of_lt_of_le (h5 k o e).2 hk.size⟩, h6, h7.kp hk hm⟩
theorem own_strP {w : World} {base : Nat} {p : Option Addr} {n c : Nat} {zs : List ByteArray} {t : TypeId} (h : w.ownsRow base t 1 (.slice p n c) n (zs.map Value.string)) : n = zs.length ∧ n ≤ c ∧ StrP w p zs ∧ (∀ k o, p = some ⟨k, o, none⟩ → base ≤ k ∧ k < w.heap.size) ∧ (p = none → zs = []) := by
  have hl := h.1
  rw [List.length_map] at hl
  refine ⟨by omega, ?_, fun j z hj => ?_, fun k o e => ?_, fun e => ?_⟩
  · rcases h.2 with ⟨_, h0⟩ | ⟨g, cap, cur, hv, _, _, h9, _⟩
    · omega
    · simp at hv; omega
  · obtain ⟨g, v, hp, hv, hc⟩ := own_cell h (k := j) (by have := (List.getElem?_eq_some_iff.1 hj).1; omega)
    rw [List.getElem?_map, hj] at hv
    simp at hv
    subst hv
    exact ⟨g, 0, hp, hc⟩
  · subst e
    exact ⟨own_ge h rfl, own_lt h rfl⟩
  · subst e
    rcases h.2 with ⟨_, h0⟩ | ⟨g, cap, cur, hv, _⟩
    · exact List.eq_nil_of_length_eq_zero (by omega)
    · simp at hv
theorem clone_any (p : Option Addr) (c : Nat) (zs : List ByteArray) (w : World) (h : StrP w p zs) (hl : zs.length ≤ 1073741824) : Calls Tryz.prog 13 #[.slice p zs.length c] w fun e w' =>
    ∃ p' c', e = .returned (.slice p' zs.length c') ∧ w'.ownsRow w.heap.size 9 1 (.slice p' zs.length c') zs.length (zs.map Value.string) ∧ K0 w w' := by
  have fin : ∀ (v' : Value) (w' : World), w'.ownsRow w.heap.size 9 1 v' zs.length (zs.map Value.string) → K0 w w' → ∃ p' c', Ending.returned v' = .returned (.slice p' zs.length c') ∧ w'.ownsRow w.heap.size 9 1 (.slice p' zs.length c') zs.length (zs.map Value.string) ∧ K0 w w' := fun v' w' ho hk => by
    rcases ho.2 with ⟨rfl, h0⟩ | ⟨g, cap, cur, rfl, _⟩
    · exact ⟨none, 0, by rw [h0], by rw [h0] at ho ⊢; exact ho, hk⟩
    · exact ⟨_, _, rfl, ho, hk⟩
  cases p with
  | none =>
    have : zs = [] := by
      cases zs with
      | nil => rfl
      | cons z r => obtain ⟨b, o, he, _⟩ := h 0 z rfl; simp at he
    subst this
    exact (Tryz.slices_Clone_string_nil 0 c w).mono fun e w' ⟨he, hw⟩ => ⟨none, 0, he, World.ownsRow_nil _ _ _ _, by rw [hw]; exact .refl _ _⟩
  | some a =>
    rcases Nat.eq_zero_or_pos zs.length with h0 | h0
    · have : zs = [] := List.eq_nil_of_length_eq_zero h0
      subst this
      exact (Tryz.slices_Clone_string_zero a c w).mono fun e w' ⟨v', he, ho, _, hb⟩ => by rw [he]; exact fin v' w' ho (K0.of_below hb)
    · obtain ⟨b, o, he, hc⟩ := h 0 zs[0] (List.getElem?_eq_getElem h0)
      rw [he] at h ⊢
      exact (Tryz.slices_Clone_string b o zs.length c zs w (Nat.le_refl _) (by omega) (strP_cells h)).mono fun e w' ⟨v', he, ho, _, hb⟩ => by
        rw [he]
        rw [List.take_length] at ho
        exact fin v' w' ho (K0.of_below hb)

set_option maxHeartbeats 400000 in
theorem fcompile_any (nb ps : ByteArray) (mb dl : Int) (p : Option Addr) (c : Nat) (ds : List ByteArray) (w : World) (hps : ps.size ≤ 1073741824) (hG : GW w) (hds : StrP w p ds) (hc : ds.length ≤ c) (hl : ds.length ≤ 1073741824) :
    Calls Tryz.prog 5 #[.agg #[.string nb, .string ps, .int .i64 mb, .int .i64 dl, .slice p ds.length c]] w fun e w' => K0 w w' ∧
      (chkS nb ps mb dl ds ≠ 0 ∧ e = .returned (.tuple #[.pointer none, .int .i64 (chkS nb ps mb dl ds)]) ∨
       chkS nb ps mb dl ds = 0 ∧ ∃ b es, listR ps = .inl es ∧ e = .returned (.tuple #[.pointer (some ⟨b, 0, none⟩), .int .i64 0]) ∧ FeedR (fun k => w.heap.size ≤ k) w' b nb ps mb dl ds es) := by
  refine vc_fcompile nb ps mb dl p ds.length c w _ ?_
  intro n w1 hn
  have hk1 : K0 w w1 := hn.kp _
  have hn0 : w.heap.size ≤ n := hn.ge
  refine ⟨nb, ps, mb, dl, p, ds.length, c, AtL_block hn.block rfl, ⟨(check_any nb ps mb dl p c ds w1 hps (hG.kp hk1 (fun h => h)) (hds.kp hk1 (fun _ _ _ h => h)) hc hl).mono fun e w2 ⟨he, hk2⟩ => ⟨_, he, ?_⟩⟩⟩
  have hk12 : K0 w w2 := hk1.trans hk2
  generalize hch : chkS nb ps mb dl ds = ch
  refine bsp_intro (fun h => ⟨hk12, .inl ⟨by simpa using h, rfl⟩⟩) (fun h => ?_)
  have h : ch = 0 := by simpa using h
  subst h
  have hb2 := hk2.blk hn.block (fun h => h)
  refine ⟨ps, cell_at hb2 rfl, ⟨(parseList_any ps w2 hps (hG.kp hk12 (fun h => h))).mono fun e w3 ⟨hk3, he⟩ => ?_⟩⟩
  have hk13 : K0 w w3 := hk12.trans hk3
  have hb3 := hk3.blk hb2 (fun h => h)
  cases hL : listR ps with
  | inr oe =>
    obtain ⟨o, er⟩ := oe
    exfalso
    have h1 := listR_err hL
    unfold chkS at hch
    rw [hL] at hch
    split at hch
    · rename_i h2; exact h2 hch
    · exact h1 hch
  | inl es =>
    rw [hL] at he
    obtain ⟨lb, he, hlr⟩ := he
    refine ⟨_, _, _, he, ?_⟩
    refine bsp_intro (fun h => absurd h (by decide)) (fun _ => ?_)
    refine ⟨p, ds.length, c, cell_at hb3 rfl, ⟨(clone_any p c ds w3 (hds.kp hk13 (fun _ _ _ h => h)) hl).mono fun e w4 ⟨p', c', he, ho, hk4⟩ => ⟨_, _, _, he, ?_⟩⟩⟩
    have hb4 := hk4.blk hb3 (fun h => h)
    have hk14 : K0 w w4 := hk13.trans hk4
    refine ⟨cell_wr hb4 (by simp), fun w5 hp5 => ?_⟩
    have hb5 : w5.heap[n]? = some (.cells #[.string nb, .string ps, .int .i64 mb, .int .i64 dl, .slice p' ds.length c'] 26 (0, 0)) := hp5.block hb4
    refine ⟨nb, ps, mb, dl, p', ds.length, c', AtL_block hb5 rfl, fun n2 w6 hn6 => ?_⟩
    have hn3 : n < w3.heap.size := block_lt hb3
    have ho5 := owns_kp ho hp5.kp (fun k hk e => by have := own_ge ho hk; omega)
    have hk15 : K0 w w5 := hk14.fresh hp5.kp (fun i hi e => by omega)
    have hl5 : ListR (fun k => w2.heap.size ≤ k) w5 lb ps es := (hlr.kp hk4 (fun _ _ _ h => h)).kp hp5.kp (fun k hk _ e => by have := block_lt hb2; omega)
    obtain ⟨_, _, hs5, hd5, hz5⟩ := own_strP ho5
    have hk6 := hn6.kp (fun _ => False)
    refine ⟨hk15.trans hk6, .inr ⟨rfl, n2, es, rfl, rfl, p', ds.length, c', lb, hn6.block, ?_, rfl, hs5.kp hk6 (fun _ _ _ h => h), fun k o e => ?_, hz5, ?_⟩⟩
    · have := hn6.ge; have := hk15.size; omega
    · have h1 := hd5 k o e; have h2 := hk13.size; have h3 := hk6.size; omega
    · exact (hl5.kp hk6 (fun _ _ _ h => h)).mono fun k hk _ => by have := hk12.size; omega

end Go.Proofs.YtcpjajjocmpkjaaGreatDoor

/- The formulas of functions by the symbolic evaluator, and that each gives the call's contract. Written by a program (gen.py). No condition. -/
namespace Go.Proofs.YtcpjajjocmpkjaaGreatDoor
set_option maxRecDepth 100000
set_option linter.unusedVariables false

def VC_reasA (b : Nat) (o : Nat) (b1 : Nat) (o1 : Nat) (w : World) (R : Ending → World → Prop) : Prop :=
 ∃ (x : ByteArray),
 w.drew.cell? (Addr.mk b (o + 36) none) = some (Value.string x) ∧
 ∃ (x_1 : Option Addr),
 w.drew.cell? (Addr.mk b1 o1 none) = some (Value.pointer x_1) ∧
 nn true x_1 fun (b o : Nat) =>
 ∃ (x_2 : ByteArray),
 w.drew.cell? (Addr.mk b o none) = some (Value.string x_2) ∧
 R (Ending.returned (Value.bool (x.toList == x_2.toList))) w.drew
theorem vc_reasA (b : Nat) (o : Nat) (b1 : Nat) (o1 : Nat) (w : World) (R : Ending → World → Prop) (h : VC_reasA b o b1 o1 w R) : Calls Tryz.prog 39 ([Value.pointer
    (some { block := b, off := o }),
  Value.pointer (some { block := b1, off := o1 })] : List Value).toArray w R := by
  have e : execR { P := Tryz.prog, loops := [], pur := pur1, tails := [], joins := [], boxes := [] } Tryz.f39.results.toList R (Tryz.f39.body.getD .skip) (initF [Value.pointer
    (some { block := b, off := o }),
  Value.pointer
    (some
      { block := b1,
        off :=
          o1 })] (Tryz.f39.ntmps - ([Value.pointer (some { block := b, off := o }),
  Value.pointer (some { block := b1, off := o1 })] : List Value).length)) w = VC_reasA b o b1 o1 w R := by kernel_rfl
  have hb : Tryz.f39.body = some (Tryz.f39.body.getD .skip) := by kernel_rfl
  exact calls_of_exec' (P := Tryz.prog) (fn := Tryz.f39) (c := Tryz.f39.body.getD .skip) (args := [Value.pointer
    (some { block := b, off := o }),
  Value.pointer (some { block := b1, off := o1 })]) (w := w) (R := R) pur1_ok Tryz.func39 hb e h

def VC_reasB (b : Nat) (o : Nat) (b1 : Nat) (o1 : Nat) (w : World) (R : Ending → World → Prop) : Prop :=
 ∃ (x : Bool),
 w.drew.cell? (Addr.mk b (o + 35) none) = some (Value.bool x) ∧
 ∃ (x_1 : Option Addr),
 gimp (!x) (w.drew.cell? (Addr.mk b1 o1 none) = some (Value.pointer x_1)) ∧
 nn (!x) x_1 fun (b_1 o_1 : Nat) =>
 ∃ (x_2 : Option Addr),
 gimp (!x) (w.drew.cell? (Addr.mk b_1 (o_1 + 5) none) = some (Value.pointer x_2)) ∧
 ∃ (p : Option Addr),
 ∃ (n : Nat),
 ∃ (c : Nat),
 gimp (!x) (w.drew.cell? (Addr.mk b (o + 32) none) = some (Value.slice p n c)) ∧
 bsp (!x)
 (CallsS Tryz.prog 41 #[Value.pointer x_2, Value.slice p n c] w.drew fun (e : Ending) (w' : World) =>
 ∃ (x : Bool), e = Ending.returned (Value.bool x) ∧ R (Ending.returned (Value.bool (true && !x))) w')
 (R (Ending.returned (Value.bool false)) w.drew)
theorem vc_reasB (b : Nat) (o : Nat) (b1 : Nat) (o1 : Nat) (w : World) (R : Ending → World → Prop) (h : VC_reasB b o b1 o1 w R) : Calls Tryz.prog 40 ([Value.pointer
    (some { block := b, off := o }),
  Value.pointer (some { block := b1, off := o1 })] : List Value).toArray w R := by
  have e : execR { P := Tryz.prog, loops := [], pur := pur1, tails := [(1, 10)], joins := [], boxes := [] } Tryz.f40.results.toList R (Tryz.f40.body.getD .skip) (initF [Value.pointer
    (some { block := b, off := o }),
  Value.pointer
    (some
      { block := b1,
        off :=
          o1 })] (Tryz.f40.ntmps - ([Value.pointer (some { block := b, off := o }),
  Value.pointer (some { block := b1, off := o1 })] : List Value).length)) w = VC_reasB b o b1 o1 w R := by kernel_rfl
  have hb : Tryz.f40.body = some (Tryz.f40.body.getD .skip) := by kernel_rfl
  exact calls_of_exec' (P := Tryz.prog) (fn := Tryz.f40) (c := Tryz.f40.body.getD .skip) (args := [Value.pointer
    (some { block := b, off := o }),
  Value.pointer (some { block := b1, off := o1 })]) (w := w) (R := R) pur1_ok Tryz.func40 hb e h

def VC_reasC (b : Nat) (o : Nat) (b1 : Nat) (o1 : Nat) (w : World) (R : Ending → World → Prop) : Prop :=
 ∃ (x : Bool),
 w.drew.cell? (Addr.mk b (o + 35) none) = some (Value.bool x) ∧
 ∃ (x_1 : Option Addr),
 gimp (!x) (w.drew.cell? (Addr.mk b1 o1 none) = some (Value.pointer x_1)) ∧
 nn (!x) x_1 fun (b_1 o_1 : Nat) =>
 ∃ (x_2 : Int),
 gimp (!x) (w.drew.cell? (Addr.mk b_1 (o_1 + 2) none) = some (Value.int IntKind.i64 x_2)) ∧
 ∃ (x_3 : Option Addr),
 gimp (!x && x_2 != 0) (w.drew.cell? (Addr.mk b1 o1 none) = some (Value.pointer x_3)) ∧
 nn (!x && x_2 != 0) x_3 fun (b_2 o_2 : Nat) =>
 ∃ (x_4 : Int),
 gimp (!x && x_2 != 0) (w.drew.cell? (Addr.mk b_2 (o_2 + 2) none) = some (Value.int IntKind.i64 x_4)) ∧
 ∃ (x_5 : Int),
 gimp (!x && x_2 != 0) (w.drew.cell? (Addr.mk b (o + 34) none) = some (Value.int IntKind.i64 x_5)) ∧
 R (Ending.returned (Value.bool (!x && x_2 != 0 && decide (x_4 < x_5)))) w.drew
theorem vc_reasC (b : Nat) (o : Nat) (b1 : Nat) (o1 : Nat) (w : World) (R : Ending → World → Prop) (h : VC_reasC b o b1 o1 w R) : Calls Tryz.prog 42 ([Value.pointer
    (some { block := b, off := o }),
  Value.pointer (some { block := b1, off := o1 })] : List Value).toArray w R := by
  have e : execR { P := Tryz.prog, loops := [], pur := pur1, tails := [], joins := [], boxes := [] } Tryz.f42.results.toList R (Tryz.f42.body.getD .skip) (initF [Value.pointer
    (some { block := b, off := o }),
  Value.pointer
    (some
      { block := b1,
        off :=
          o1 })] (Tryz.f42.ntmps - ([Value.pointer (some { block := b, off := o }),
  Value.pointer (some { block := b1, off := o1 })] : List Value).length)) w = VC_reasC b o b1 o1 w R := by kernel_rfl
  have hb : Tryz.f42.body = some (Tryz.f42.body.getD .skip) := by kernel_rfl
  exact calls_of_exec' (P := Tryz.prog) (fn := Tryz.f42) (c := Tryz.f42.body.getD .skip) (args := [Value.pointer
    (some { block := b, off := o }),
  Value.pointer (some { block := b1, off := o1 })]) (w := w) (R := R) pur1_ok Tryz.func42 hb e h

def VC_reasD (b : Nat) (o : Nat) (b1 : Nat) (o1 : Nat) (w : World) (R : Ending → World → Prop) : Prop :=
 ∃ (x : Bool),
 w.drew.cell? (Addr.mk b (o + 35) none) = some (Value.bool x) ∧
 ∃ (x_1 : Option Addr),
 gimp (!x) (w.drew.cell? (Addr.mk b1 o1 none) = some (Value.pointer x_1)) ∧
 nn (!x) x_1 fun (b_1 o_1 : Nat) =>
 ∃ (p : Option Addr),
 ∃ (n : Nat),
 ∃ (c : Nat),
 gimp (!x) (w.drew.cell? (Addr.mk b_1 (o_1 + 4) none) = some (Value.slice p n c)) ∧
 ∃ (x_2 : ByteArray),
 gimp (!x && decide ((↑n : Int) > 0)) (w.drew.cell? (Addr.mk b (o + 33) none) = some (Value.string x_2)) ∧
 ∃ (x_3 : Option Addr),
 gimp (!x && decide ((↑n : Int) > 0) && !x_2.toList == [])
 (w.drew.cell? (Addr.mk b1 o1 none) = some (Value.pointer x_3)) ∧
 nn (!x && decide ((↑n : Int) > 0) && !x_2.toList == []) x_3 fun (b_2 o_2 : Nat) =>
 ∃ (p : Option Addr),
 ∃ (n_1 : Nat),
 ∃ (c : Nat),
 gimp (!x && decide ((↑n : Int) > 0) && !x_2.toList == [])
 (w.drew.cell? (Addr.mk b_2 (o_2 + 4) none) = some (Value.slice p n_1 c)) ∧
 ∃ (x_4 : ByteArray),
 gimp (!x && decide ((↑n : Int) > 0) && !x_2.toList == [])
 (w.drew.cell? (Addr.mk b (o + 33) none) = some (Value.string x_4)) ∧
 bsp (!x && decide ((↑n : Int) > 0) && !x_2.toList == [])
 (CallsS Tryz.prog 34 #[Value.slice p n_1 c, Value.string x_4] w.drew
 fun (e : Ending) (w' : World) =>
 ∃ (x : Bool),
 e = Ending.returned (Value.bool x) ∧ R (Ending.returned (Value.bool (true && !x))) w')
 (R (Ending.returned (Value.bool false)) w.drew)
theorem vc_reasD (b : Nat) (o : Nat) (b1 : Nat) (o1 : Nat) (w : World) (R : Ending → World → Prop) (h : VC_reasD b o b1 o1 w R) : Calls Tryz.prog 43 ([Value.pointer
    (some { block := b, off := o }),
  Value.pointer (some { block := b1, off := o1 })] : List Value).toArray w R := by
  have e : execR { P := Tryz.prog, loops := [], pur := pur1, tails := [(1, 25)], joins := [], boxes := [] } Tryz.f43.results.toList R (Tryz.f43.body.getD .skip) (initF [Value.pointer
    (some { block := b, off := o }),
  Value.pointer
    (some
      { block := b1,
        off :=
          o1 })] (Tryz.f43.ntmps - ([Value.pointer (some { block := b, off := o }),
  Value.pointer (some { block := b1, off := o1 })] : List Value).length)) w = VC_reasD b o b1 o1 w R := by kernel_rfl
  have hb : Tryz.f43.body = some (Tryz.f43.body.getD .skip) := by kernel_rfl
  exact calls_of_exec' (P := Tryz.prog) (fn := Tryz.f43) (c := Tryz.f43.body.getD .skip) (args := [Value.pointer
    (some { block := b, off := o }),
  Value.pointer (some { block := b1, off := o1 })]) (w := w) (R := R) pur1_ok Tryz.func43 hb e h

def VC_reason (q : Option Addr) (a : Array Value) (w : World) (R : Ending → World → Prop) : Prop :=
 ∀ (n : Nat) (w1 : World),
 NewB w (Obj.cells #[Value.pointer q] 29) n w1 →
 ∀ (n_1 : Nat) (w1_1 : World),
 NewB w1 (Obj.cells a 53) n_1 w1_1 →
 ∃ (x : Option Addr),
 w1_1.cell? (Addr.mk n 0 none) = some (Value.pointer x) ∧
 bsp x.isNone (R (Ending.returned (Value.int IntKind.i64 1)) w1_1)
 (∀ (n_2 : Nat) (w1 : World),
 NewB w1_1
 (Obj.cells
 #[Value.nilFunc,
 Value.func (Fn.func 39) #[]
 #[Value.pointer (some (Addr.mk n_1 0 none)), Value.pointer (some (Addr.mk n 0 none))],
 Value.func (Fn.func 40) #[]
 #[Value.pointer (some (Addr.mk n_1 0 none)), Value.pointer (some (Addr.mk n 0 none))],
 Value.func (Fn.func 42) #[]
 #[Value.pointer (some (Addr.mk n_1 0 none)), Value.pointer (some (Addr.mk n 0 none))],
 Value.func (Fn.func 43) #[]
 #[Value.pointer (some (Addr.mk n_1 0 none)), Value.pointer (some (Addr.mk n 0 none))]]
 33)
 n_2 w1 →
 ∃ (I : List Value → World → Prop),
 ∃ (m : List Value → World → Nat),
 I [Value.int IntKind.i64 0] w1 ∧
 ∀ (x : Int) (w' : World),
 I [Value.int IntKind.i64 x] w' →
 bsp (decide (x < (↑5 : Int)))
 ((0 ≤ x ∧ x < (↑5 : Int)) ∧
 ∃ (x_1 : Value),
 w'.cell? (Addr.mk n_2 (0 + x.toNat) none) = some x_1 ∧
 bsp (x != 0)
 (∃ (f : Nat),
 ∃ (a : Array Value),
 ∃ (b : Array Value),
 x_1 = Value.func (Fn.func f) a b ∧
 okFn Tryz.prog f = true ∧
 CallsS Tryz.prog f (appA a [] b) w' fun (e : Ending) (w'_1 : World) =>
 ∃ (x_2 : Bool),
 e = Ending.returned (Value.bool x_2) ∧
 bsp (true && x_2) (R (Ending.returned (Value.int IntKind.i64 x)) w'_1)
 (I [Value.int IntKind.i64 (IntKind.i64.wrap (x + 1))] w'_1 ∧
 m [Value.int IntKind.i64 (IntKind.i64.wrap (x + 1))] w'_1 <
 m [Value.int IntKind.i64 x] w'))
 (I [Value.int IntKind.i64 (IntKind.i64.wrap (x + 1))] w' ∧
 m [Value.int IntKind.i64 (IntKind.i64.wrap (x + 1))] w' < m [Value.int IntKind.i64 x] w'))
 (R (Ending.returned (Value.int IntKind.i64 0)) w'))
theorem vc_reason (q : Option Addr) (a : Array Value) (w : World) (R : Ending → World → Prop) (h : VC_reason q a w R) : Calls Tryz.prog 17 ([Value.pointer
    q,
  Value.agg a] : List Value).toArray w R := by
  have e : execR { P := Tryz.prog, loops := [(5, [(17, Ck.int IntKind.i64)])], pur := pur1, tails := [], joins := [], boxes := [] } Tryz.f17.results.toList R (Tryz.f17.body.getD .skip) (initF [Value.pointer
    q,
  Value.agg
    a] (Tryz.f17.ntmps - ([Value.pointer q, Value.agg a] : List Value).length)) w = VC_reason q a w R := by kernel_rfl
  have hb : Tryz.f17.body = some (Tryz.f17.body.getD .skip) := by kernel_rfl
  exact calls_of_exec' (P := Tryz.prog) (fn := Tryz.f17) (c := Tryz.f17.body.getD .skip) (args := [Value.pointer q,
  Value.agg a]) (w := w) (R := R) pur1_ok Tryz.func17 hb e h

def VC_due (q : Option Addr) (a : Array Value) (w : World) (R : Ending → World → Prop) : Prop :=
 ∀ (n : Nat) (w1 : World),
 NewB w (Obj.cells a 53) n w1 →
 ∃ (f : Nat → Int),
 ∃ (p : Option Addr),
 ∃ (n_1 : Nat),
 ∃ (c : Nat),
 ∃ (x : ByteArray),
 ∃ (x_1 : Int),
 ∃ (x_2 : Bool),
 ∃ (x_3 : ByteArray),
 ∃ (x_4 : Int),
 AtL w1 n 0
 (arrI IntKind.u8 f 32 0 ++ [Value.slice p n_1 c, Value.string x,
 Value.int IntKind.i64 x_1, Value.bool x_2, Value.string x_3, Value.int IntKind.i64 x_4]) ∧
 CallsS Tryz.prog 17
 #[Value.pointer q,
 Value.agg
 (arrI IntKind.u8 f 32 0 ++ [Value.slice p n_1 c, Value.string x,
 Value.int IntKind.i64 x_1, Value.bool x_2, Value.string x_3, Value.int IntKind.i64 x_4]).toArray]
 w1 fun (e : Ending) (w' : World) =>
 ∃ (x : Int),
 e = Ending.returned (Value.int IntKind.i64 x) ∧
 bsp (x != 0) (R (Ending.returned (Value.tuple #[Value.int IntKind.i64 0, Value.bool false])) w')
 (∃ (x : Int),
 w'.drew.cell? (Addr.mk n (0 + 37) none) = some (Value.int IntKind.i64 x) ∧
 nn true q fun (b o : Nat) =>
 ∃ (x_5 : Int),
 w'.drew.cell? (Addr.mk b (o + 3) none) = some (Value.int IntKind.i64 x_5) ∧
 bsp (decide (x > IntKind.i64.wrap (9223372036854775807 - x_5)))
 (R (Ending.returned (Value.tuple #[Value.int IntKind.i64 9223372036854775807, Value.bool true]))
 w'.drew)
 (∃ (x : Int),
 w'.drew.drew.cell? (Addr.mk n (0 + 37) none) = some (Value.int IntKind.i64 x) ∧
 nn true q fun (b o : Nat) =>
 ∃ (x_6 : Int),
 w'.drew.drew.cell? (Addr.mk b (o + 3) none) = some (Value.int IntKind.i64 x_6) ∧
 R
 (Ending.returned
 (Value.tuple #[Value.int IntKind.i64 (IntKind.i64.wrap (x + x_6)), Value.bool true]))
 w'.drew.drew))
theorem vc_due (q : Option Addr) (a : Array Value) (w : World) (R : Ending → World → Prop) (h : VC_due q a w R) : Calls Tryz.prog 14 ([Value.pointer
    q,
  Value.agg a] : List Value).toArray w R := by
  have e : execR { P := Tryz.prog, loops := [], pur := pur1, tails := [], joins := [], boxes := [] } Tryz.f14.results.toList R (Tryz.f14.body.getD .skip) (initF [Value.pointer
    q,
  Value.agg
    a] (Tryz.f14.ntmps - ([Value.pointer q, Value.agg a] : List Value).length)) w = VC_due q a w R := by kernel_rfl
  have hb : Tryz.f14.body = some (Tryz.f14.body.getD .skip) := by kernel_rfl
  exact calls_of_exec' (P := Tryz.prog) (fn := Tryz.f14) (c := Tryz.f14.body.getD .skip) (args := [Value.pointer q,
  Value.agg a]) (w := w) (R := R) pur1_ok Tryz.func14 hb e h

end Go.Proofs.YtcpjajjocmpkjaaGreatDoor

/- The contracts of feedrule's Feed.Reason and Feed.Due, by plain functions. Texts have at most 2^30 bytes. -/
namespace Go.Proofs.YtcpjajjocmpkjaaGreatDoor
open Go.RowKit

/-- An item. -/
structure It where
  id : Nat → Int
  gs : List ByteArray
  d : ByteArray
  by_ : Int
  ct : Bool
  fr : ByteArray
  ar : Int
def It.cells (x : It) (p : Option Addr) (c : Nat) : Array Value := (arrI .u8 x.id 32 0 ++ [Value.slice p x.gs.length c, Value.string x.d, Value.int .i64 x.by_, Value.bool x.ct, Value.string x.fr, Value.int .i64 x.ar]).toArray
def It.ok (x : It) : Prop := x.gs.length ≤ 9223372036854775807 ∧ ∀ z ∈ x.gs, z.size ≤ 9223372036854775807
/-- The reasons. -/
def rsnB (nb : ByteArray) (mb : Int) (ds : List ByteArray) (es : List Ent) (x : It) : Nat → Bool
  | 1 => x.fr.toList == nb.toList
  | 2 => !x.ct && !selB es x.gs
  | 3 => !x.ct && mb != 0 && decide (mb < x.by_)
  | 4 => !x.ct && decide ((ds.length : Int) > 0) && !x.d.toList == [] && !Lib.containsS ds x.d
  | _ => false
def rsnS (nb : ByteArray) (mb : Int) (ds : List ByteArray) (es : List Ent) (x : It) : Int :=
  if rsnB nb mb ds es x 1 = true then 1 else if rsnB nb mb ds es x 2 = true then 2 else if rsnB nb mb ds es x 3 = true then 3 else if rsnB nb mb ds es x 4 = true then 4 else 0
/-- What a closure of Reason finds. -/
structure RsSt (D : Nat → Prop) (w : World) (n1 n b : Nat) (x : It) (p : Option Addr) (c : Nat) (nb ps : ByteArray) (mb dl : Int) (ds : List ByteArray) (es : List Ent) : Prop where
  it : w.heap[n1]? = some (.cells (x.cells p c) 53 (0, 0))
  fp : w.heap[n]? = some (.cells #[.pointer (some ⟨b, 0, none⟩)] 29 (0, 0))
  feed : FeedR D w b nb ps mb dl ds es
  gs : StrP w p x.gs
theorem RsSt.kp {D : Nat → Prop} {w w' : World} {n1 n b : Nat} {x : It} {p : Option Addr} {c : Nat} {nb ps : ByteArray} {mb dl : Int} {ds : List ByteArray} {es : List Ent} (h : RsSt D w n1 n b x p c nb ps mb dl ds es) (hk : K0 w w') : RsSt D w' n1 n b x p c nb ps mb dl ds es :=
  ⟨hk.blk h.it (fun h => h), hk.blk h.fp (fun h => h), h.feed.kp hk (fun _ _ _ h => h), h.gs.kp hk (fun _ _ _ h => h)⟩
section
variable {D : Nat → Prop} {w : World} {n1 n b : Nat} {x : It} {p : Option Addr} {c : Nat} {nb ps : ByteArray} {mb dl : Int} {ds : List ByteArray} {es : List Ent} (h : RsSt D w n1 n b x p c nb ps mb dl ds es) include h
theorem reasA_any : Calls Tryz.prog 39 #[.pointer (some ⟨n1, 0, none⟩), .pointer (some ⟨n, 0, none⟩)] w fun e w' => e = .returned (.bool (rsnB nb mb ds es x 1)) ∧ K0 w w' := by
  obtain ⟨p', n', c', lb, h1, h2, h3, h4, h5, h6, h7⟩ := h.feed
  exact vc_reasA n1 0 n 0 w _ ⟨x.fr, cell_at (blk_drew h.it) rfl, some ⟨b, 0, none⟩, cell_at (blk_drew h.fp) rfl, nb, cell_at (blk_drew h1) rfl, rfl, (Kp.refl _ _).drew⟩
theorem reasB_any (h64 : es.length ≤ 64) (h80 : ∀ e ∈ es, e.els.length ≤ 80) (hx : x.ok) : Calls Tryz.prog 40 #[.pointer (some ⟨n1, 0, none⟩), .pointer (some ⟨n, 0, none⟩)] w fun e w' => e = .returned (.bool (rsnB nb mb ds es x 2)) ∧ K0 w w' := by
  obtain ⟨p', n', c', lb, h1, h2, h3, h4, h5, h6, h7⟩ := h.feed
  refine vc_reasB n1 0 n 0 w _ ⟨x.ct, cell_at (blk_drew h.it) rfl, some ⟨b, 0, none⟩, gimp_intro fun _ => cell_at (blk_drew h.fp) rfl, some ⟨lb, 0, none⟩, gimp_intro fun _ => cell_at (blk_drew h1) rfl, p, x.gs.length, c, gimp_intro fun _ => cell_at (blk_drew h.it) rfl, ?_⟩
  refine bsp_intro (fun hc => ?_) (fun hc => ⟨by simp only [rsnB, hc, Bool.false_and], (Kp.refl _ _).drew⟩)
  have hd : K0 w w.drew := (Kp.refl _ _).drew
  refine ⟨(selects_any (h7.kp hd (fun _ _ _ h => h)) h64 h80 p c x.gs (h.gs.kp hd (fun _ _ _ h => h)) hx.1 hx.2).mono fun e w' ⟨he, hk⟩ => ⟨_, he, ?_, hd.trans hk⟩⟩
  simp only [rsnB, hc]
theorem reasC_any : Calls Tryz.prog 42 #[.pointer (some ⟨n1, 0, none⟩), .pointer (some ⟨n, 0, none⟩)] w fun e w' => e = .returned (.bool (rsnB nb mb ds es x 3)) ∧ K0 w w' := by
  obtain ⟨p', n', c', lb, h1, h2, h3, h4, h5, h6, h7⟩ := h.feed
  exact vc_reasC n1 0 n 0 w _ ⟨x.ct, cell_at (blk_drew h.it) rfl, some ⟨b, 0, none⟩, gimp_intro fun _ => cell_at (blk_drew h.fp) rfl, mb, gimp_intro fun _ => cell_at (blk_drew h1) rfl, some ⟨b, 0, none⟩, gimp_intro fun _ => cell_at (blk_drew h.fp) rfl,
    mb, gimp_intro fun _ => cell_at (blk_drew h1) rfl, x.by_, gimp_intro fun _ => cell_at (blk_drew h.it) rfl, rfl, (Kp.refl _ _).drew⟩
theorem reasD_any (hl : ds.length ≤ 1073741824) : Calls Tryz.prog 43 #[.pointer (some ⟨n1, 0, none⟩), .pointer (some ⟨n, 0, none⟩)] w fun e w' => e = .returned (.bool (rsnB nb mb ds es x 4)) ∧ K0 w w' := by
  obtain ⟨p', n', c', lb, h1, h2, h3, h4, h5, h6, h7⟩ := h.feed
  subst h3
  refine vc_reasD n1 0 n 0 w _ ⟨x.ct, cell_at (blk_drew h.it) rfl, some ⟨b, 0, none⟩, gimp_intro fun _ => cell_at (blk_drew h.fp) rfl, p', ds.length, c', gimp_intro fun _ => cell_at (blk_drew h1) rfl, x.d, gimp_intro fun _ => cell_at (blk_drew h.it) rfl,
    some ⟨b, 0, none⟩, gimp_intro fun _ => cell_at (blk_drew h.fp) rfl, p', ds.length, c', gimp_intro fun _ => cell_at (blk_drew h1) rfl, x.d, gimp_intro fun _ => cell_at (blk_drew h.it) rfl, ?_⟩
  have hd : K0 w w.drew := (Kp.refl _ _).drew
  refine bsp_intro (fun hc => ?_) (fun hc => ⟨by simp only [rsnB, hc, Bool.false_and], hd⟩)
  have hpos : 0 < ds.length := by
    simp only [Bool.and_eq_true, decide_eq_true_eq] at hc
    omega
  obtain ⟨b1, o1, rfl, _⟩ := h4 0 ds[0] (List.getElem?_eq_getElem hpos)
  refine ⟨(Tryz.slices_Contains_string b1 o1 ds.length c' ds x.d w.drew (Nat.le_refl _) (by omega) (strP_cells (h4.kp hd (fun _ _ _ h => h)))).mono fun e w' ⟨he, hw⟩ => ⟨_, he, ?_, by rw [hw]; exact hd⟩⟩
  rw [List.take_length]
  simp only [rsnB, hc]
end
theorem okFn_of {P : Program} {f : FuncId} {fn : Func} (h : P.funcs[f]? = some fn) (h1 : (fn.name == "runtime.NumGoroutine") = false) (h2 : fn.body.isNone = false) : okFn P f = true := by simp only [okFn, h, h1, h2]; rfl
theorem appA_two (a b : Value) : appA #[] [] #[a, b] = #[a, b] := by simp [appA]

theorem reason_any {D : Nat → Prop} {w : World} {b : Nat} {x : It} {p : Option Addr} {c : Nat} {nb ps : ByteArray} {mb dl : Int} {ds : List ByteArray} {es : List Ent} (hf : FeedR D w b nb ps mb dl ds es) (hg : StrP w p x.gs) (h64 : es.length ≤ 64) (h80 : ∀ e ∈ es, e.els.length ≤ 80) (hl : ds.length ≤ 1073741824) (hx : x.ok) :
    Calls Tryz.prog 17 #[.pointer (some ⟨b, 0, none⟩), .agg (x.cells p c)] w fun e w' => e = .returned (.int .i64 (rsnS nb mb ds es x)) ∧ K0 w w' := by
  refine vc_reason (some ⟨b, 0, none⟩) (x.cells p c) w _ ?_
  intro n w1 hn n1 w2 hn1
  have hk2 : K0 w w2 := (hn.kp _).trans (hn1.kp _)
  have hb2 := (hn1.kp (fun _ => False)).blk hn.block (fun h => h)
  refine ⟨some ⟨b, 0, none⟩, cell_at hb2 rfl, ?_⟩
  refine bsp_intro (fun h => absurd h (by simp)) (fun _ => fun n2 w3 hn3 => ?_)
  have hk3 : K0 w w3 := hk2.trans (hn3.kp _)
  have hst : RsSt D w3 n1 n b x p c nb ps mb dl ds es := ⟨(hn3.kp (fun _ => False)).blk hn1.block (fun h => h), (hn3.kp (fun _ => False)).blk hb2 (fun h => h), hf.kp hk3 (fun _ _ _ h => h), hg.kp hk3 (fun _ _ _ h => h)⟩
  refine count1 5 (by decide) (fun k w' => (∀ j, j < k → rsnB nb mb ds es x j = false) ∧ K0 w3 w') ⟨fun j hj => by omega, .refl _ _⟩ ?_
  intro I m k w' hk ⟨hno, hkw⟩ next
  have hst' := hst.kp hkw
  have hb' := hkw.blk hn3.block (fun h => h)
  refine bsp_intro (fun hlt => ?_) (fun hge => ?_)
  · have hlt : k < 5 := by simp at hlt; omega
    have e0 : (k : Int).toNat = k := by omega
    refine ⟨⟨by omega, by omega⟩, ?_⟩
    rw [e0]
    -- what follows a closure's answer
    have fin : ∀ (w'' : World), K0 w' w'' → bsp (true && rsnB nb mb ds es x k) (Ending.returned (.int .i64 (k : Int)) = .returned (.int .i64 (rsnS nb mb ds es x)) ∧ K0 w w'') (I [.int .i64 (IntKind.i64.wrap ((k : Int) + 1))] w'' ∧ m [.int .i64 (IntKind.i64.wrap ((k : Int) + 1))] w'' < m [.int .i64 (k : Int)] w') := fun w'' hk'' => by
      refine bsp_intro (fun hr => ⟨?_, hk3.trans (hkw.trans hk'')⟩) (fun hr => next hlt w'' ⟨fun j hj => ?_, hkw.trans hk''⟩)
      · have hr : rsnB nb mb ds es x k = true := by simpa using hr
        congr 2
        obtain rfl | rfl | rfl | rfl | rfl : k = 0 ∨ k = 1 ∨ k = 2 ∨ k = 3 ∨ k = 4 := by omega
        · simp [rsnB] at hr
        · unfold rsnS; rw [if_pos hr]; rfl
        · unfold rsnS; rw [if_neg (by rw [hno 1 (by omega)]; decide), if_pos hr]; rfl
        · unfold rsnS; rw [if_neg (by rw [hno 1 (by omega)]; decide), if_neg (by rw [hno 2 (by omega)]; decide), if_pos hr]; rfl
        · unfold rsnS; rw [if_neg (by rw [hno 1 (by omega)]; decide), if_neg (by rw [hno 2 (by omega)]; decide), if_neg (by rw [hno 3 (by omega)]; decide), if_pos hr]; rfl
      · have hr : rsnB nb mb ds es x k = false := by simpa using hr
        by_cases e : j = k
        · rw [e]; exact hr
        · exact hno j (by omega)
    obtain rfl | rfl | rfl | rfl | rfl : k = 0 ∨ k = 1 ∨ k = 2 ∨ k = 3 ∨ k = 4 := by omega
    · refine ⟨_, cell_at hb' rfl, ?_⟩
      refine bsp_intro (fun h => absurd h (by decide)) (fun _ => next hlt w' ⟨fun j hj => ?_, hkw⟩)
      obtain rfl : j = 0 := by omega
      rfl
    · refine ⟨_, cell_at hb' rfl, bsp_intro (fun _ => ⟨_, _, _, rfl, okFn_of Tryz.func39 (by decide) (by decide), ?_⟩) (fun h => absurd h (by decide))⟩
      rw [appA_two]
      exact ⟨(reasA_any hst').mono fun e w'' ⟨he, hk''⟩ => ⟨_, he, fin w'' hk''⟩⟩
    · refine ⟨_, cell_at hb' rfl, bsp_intro (fun _ => ⟨_, _, _, rfl, okFn_of Tryz.func40 (by decide) (by decide), ?_⟩) (fun h => absurd h (by decide))⟩
      rw [appA_two]
      exact ⟨(reasB_any hst' h64 h80 hx).mono fun e w'' ⟨he, hk''⟩ => ⟨_, he, fin w'' hk''⟩⟩
    · refine ⟨_, cell_at hb' rfl, bsp_intro (fun _ => ⟨_, _, _, rfl, okFn_of Tryz.func42 (by decide) (by decide), ?_⟩) (fun h => absurd h (by decide))⟩
      rw [appA_two]
      exact ⟨(reasC_any hst').mono fun e w'' ⟨he, hk''⟩ => ⟨_, he, fin w'' hk''⟩⟩
    · refine ⟨_, cell_at hb' rfl, bsp_intro (fun _ => ⟨_, _, _, rfl, okFn_of Tryz.func43 (by decide) (by decide), ?_⟩) (fun h => absurd h (by decide))⟩
      rw [appA_two]
      exact ⟨(reasD_any hst' hl).mono fun e w'' ⟨he, hk''⟩ => ⟨_, he, fin w'' hk''⟩⟩
  · have hge : ¬ k < 5 := by simp at hge; omega
    obtain rfl : k = 5 := by omega
    refine ⟨?_, hk3.trans hkw⟩
    unfold rsnS
    rw [if_neg (by rw [hno 1 (by omega)]; decide), if_neg (by rw [hno 2 (by omega)]; decide), if_neg (by rw [hno 3 (by omega)]; decide), if_neg (by rw [hno 4 (by omega)]; decide)]
theorem reasonNil_any (a : Array Value) (w : World) : Calls Tryz.prog 17 #[.pointer none, .agg a] w fun e w' => e = .returned (.int .i64 1) ∧ K0 w w' := by
  refine vc_reason none a w _ ?_
  intro n w1 hn n1 w2 hn1
  have hb2 := (hn1.kp (fun _ => False)).blk hn.block (fun h => h)
  exact ⟨none, cell_at hb2 rfl, rfl, (hn.kp _).trans (hn1.kp _)⟩

/-- When an item is due. -/
def dueS (dl ar : Int) : Int := if 9223372036854775807 - dl < ar then 9223372036854775807 else ar + dl
theorem due_any {D : Nat → Prop} {w : World} {b : Nat} {x : It} {p : Option Addr} {c : Nat} {nb ps : ByteArray} {mb dl : Int} {ds : List ByteArray} {es : List Ent} (hf : FeedR D w b nb ps mb dl ds es) (hg : StrP w p x.gs) (h64 : es.length ≤ 64) (h80 : ∀ e ∈ es, e.els.length ≤ 80) (hl : ds.length ≤ 1073741824) (hx : x.ok)
    (hdl : 0 ≤ dl ∧ dl ≤ 20160) (har : -9223372036854775808 ≤ x.ar ∧ x.ar ≤ 9223372036854775807) :
    Calls Tryz.prog 14 #[.pointer (some ⟨b, 0, none⟩), .agg (x.cells p c)] w fun e w' =>
      e = .returned (if rsnS nb mb ds es x = 0 then .tuple #[.int .i64 (dueS dl x.ar), .bool true] else .tuple #[.int .i64 0, .bool false]) ∧ K0 w w' := by
  refine vc_due (some ⟨b, 0, none⟩) (x.cells p c) w _ ?_
  intro n w1 hn
  have hk1 : K0 w w1 := hn.kp _
  refine ⟨x.id, p, x.gs.length, c, x.d, x.by_, x.ct, x.fr, x.ar, AtL_block hn.block rfl, ?_⟩
  refine ⟨(reason_any (x := x) (p := p) (c := c) (hf.kp hk1 (fun _ _ _ h => h)) (hg.kp hk1 (fun _ _ _ h => h)) h64 h80 hl hx).mono fun e w2 ⟨he, hk2⟩ => ⟨_, he, ?_⟩⟩
  have hk12 : K0 w w2 := hk1.trans hk2
  refine bsp_intro (fun h => ?_) (fun h => ?_)
  · have h : rsnS nb mb ds es x ≠ 0 := by simpa using h
    exact ⟨by rw [if_neg h], hk12⟩
  have h : rsnS nb mb ds es x = 0 := by simpa using h
  have hb2 := hk2.blk hn.block (fun h => h)
  obtain ⟨p', n', c', lb, h1, h2, h3, h4, h5, h6, h7⟩ := hf.kp hk12 (fun _ _ _ h => h)
  refine ⟨x.ar, cell_at (blk_drew hb2) rfl, dl, cell_at (blk_drew h1) rfl, ?_⟩
  rw [wr64 (x := 9223372036854775807 - dl) (by omega) (by omega)]
  refine bsp_intro (fun hd => ⟨?_, hk12.drew⟩) (fun hd => ⟨x.ar, cell_at (blk_drew (blk_drew hb2)) rfl, dl, cell_at (blk_drew (blk_drew h1)) rfl, ?_, hk12.drew.drew⟩)
  · have hd : 9223372036854775807 - dl < x.ar := by simpa using hd
    rw [if_pos h]; unfold dueS; rw [if_pos hd]
  · have hd : ¬ 9223372036854775807 - dl < x.ar := by simpa using hd
    rw [wr64 (by omega) (by omega), if_pos h]; unfold dueS; rw [if_neg hd]

end Go.Proofs.YtcpjajjocmpkjaaGreatDoor
