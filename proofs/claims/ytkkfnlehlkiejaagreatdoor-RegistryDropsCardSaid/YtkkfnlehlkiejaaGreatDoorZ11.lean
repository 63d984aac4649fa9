/- Chapter 21: the contracts of the law's authorities, To, Of. No condition but sizes. -/
import Derived.Test.YtkkfnlehlkiejaaGreatDoorZ10
import Derived.Test.YtkkfnlehlkiejaaGreatDoorProg
import Derived.Test.YtkkfnlehlkiejaaGreatDoorZ02
import Derived.Test.YtkkfnlehlkiejaaGreatDoorZ03
import Derived.Test.YtkkfnlehlkiejaaGreatDoorZ05
import Derived.KernelRfl
import Derived.Test.YtkkfnlehlkiejaaGreatDoorZ07
namespace Go.Proofs.YtkkfnlehlkiejaaGreatDoor
open Go.RowKit Go.Maps

def cutA (x : Au) : Au := ⟨x.pt.extract 0 (if (200 : Int) < (x.pt.size : Int) then (200 : Int) else (x.pt.size : Int)).toNat, x.au⟩
def autL (l : List Au) : List Au := (l.take 70).map cutA
theorem cutA_sz (x : Au) : (cutA x).pt.size ≤ 200 := by
  show (x.pt.extract 0 _).size ≤ 200
  rw [ByteArray.size_extract]
  split <;> omega
set_option maxHeartbeats 2000000 in
theorem lauths_any (l : List Au) (p : Option Addr) (c : Nat) (w : World) (hR : RowA atC 17 w p l) :
    Calls Tryz.prog 12 #[.slice p l.length c] w fun e w' => (∃ (p1 : Option Addr) (c1 : Nat) (p2 : Option Addr) (c2 : Nat), e = .returned (.tuple #[.slice p1 (autL l).length c1, .slice p2 (autL l).length c2]) ∧ RowA atC 17 w' p1 (autL l) ∧ RowA atC 17 w' p2 (autL l)) ∧ K0 w w' := by
  refine vc_lauths p l.length c w _ ?_
  refine ⟨fun vs w' => ∃ (k : Nat) (p1 : Option Addr) (c1 : Nat) (p2 : Option Addr) (c2 : Nat), vs = [.int .i64 (k : Int), .slice p2 k c2, .slice p1 k c1] ∧ k ≤ l.length ∧ k ≤ 70 ∧
      w'.ownsRow w.heap.size 94 17 (.slice p1 k c1) k (((l.take k).map cutA).flatMap atC) ∧ w'.ownsRow w.heap.size 92 17 (.slice p2 k c2) k (((l.take k).map cutA).flatMap atC) ∧ K0 w w',
    fun vs _ => (match vs with | .int _ x :: _ => l.length - x.toNat | _ => 0), ⟨0, none, 0, none, 0, rfl, by omega, by omega, World.ownsRow_nil _ _ _ _, World.ownsRow_nil _ _ _ _, .refl _ _⟩, ?_⟩
  rintro x p2' n2' c2' p1' n1' c1' w1 ⟨k, p1, c1, p2, c2, hv, hk, hk7, ho1, ho2, k1⟩
  simp only [List.cons.injEq, Value.int.injEq, Value.slice.injEq, true_and, and_true] at hv
  obtain ⟨rfl, ⟨rfl, rfl, rfl⟩, rfl, rfl, rfl⟩ := hv
  refine bsp_intro (fun hlt => fun W hW => ?_) (fun hge => ?_)
  · have hlt : n1' < l.length ∧ n1' < 70 := by simp at hlt; omega
    have kW : K0 w1 W := hW.kk rfl
    obtain ⟨x, b, o, hx, hp, hat⟩ := (hR.k0 (k1.trans kW)).get hlt.1
    rw [Int.toNat_natCast]
    have hc0 := hat.cell (j := 0) (v := .string x.pt) rfl
    rw [Nat.add_zero] at hc0
    have hau : ∀ wx, K0 W wx → AtL wx b (o + n1' * 17 + 1) (arrI .u8 x.au 16 0) := fun wx k => ⟨At_of _ _ fun j v hv => by
      have := (hat.k0 k).cell (j := j + 1) (v := v) (by simpa [atC] using hv)
      rw [show o + n1' * 17 + (j + 1) = o + n1' * 17 + 1 + j by omega] at this
      exact this⟩
    refine ⟨fun wx => K0 W wx, .refl _ _, nn_is hp ⟨⟨by omega, by omega⟩, x.pt, fun wx k => k.cell' hc0 (fun h => h), nn_is hp ⟨⟨by omega, by omega⟩, x.pt, fun wx k => k.cell' hc0 (fun h => h), ⟨by split <;> omega, by split <;> omega⟩, nn_is hp ⟨⟨by omega, by omega⟩, x.au, hau, fun n w2 hn => ⟨hn.kp _, WrL_block hn.block (by show 0 + 17 ≤ 17; omega), fun w3 p3 => ?_⟩⟩⟩⟩⟩
    have k3 : K0 W w3 := put_k0 (hn.kp _) p3 hn.ge
    have hb3 : w3.heap[n]? = some (.cells (atC (cutA x)).toArray 92 (0, 0)) := p3.full hn.block rfl
    have hnl3 := block_lt hb3
    refine ⟨.of_k0 k3, (cutA x).pt, cell_at hb3 rfl, x.au, AtL_block hb3 rfl, fun n4 W4 hW4 => ?_⟩
    have k4 : K0 w3 W4 := hW4.kk rfl
    have k04 := (kW.trans k3).trans k4
    have ho14 := owns_kp ho1 k04 (fun _ _ h => h)
    have ho24 := owns_kp ho2 k04 (fun _ _ h => h)
    have hb4 := k4.blk hb3 (fun h => h)
    have et : (l.take (n1' + 1)).map cutA = (l.take n1').map cutA ++ [cutA x] := by rw [take_snoc hx, List.map_append]; rfl
    have kw4 := k1.trans k04
    refine ⟨w.heap.size, _, ho14, by omega, by omega, kw4.size, fun q1 d1 w5 ho5 hg5 _ => ?_⟩
    have kg5 := kp_grown hg5
    have hb5 := kg5.blk hb4 (fun e => by
      obtain ⟨ct, hct⟩ := own_type ho14 e
      rw [hb4] at hct
      simp only [Option.some.injEq, Obj.cells.injEq] at hct
      exact absurd hct.2.1 (by decide))
    have k5 : K0 w w5 := kw4.fresh kg5 (fun j hj e => by have := own_ge ho14 e; omega)
    have ho25 := owns_kp ho24 kg5 (fun j h1 h2 => own_types ho24 ho14 (by decide) h1 h2)
    refine ⟨⟨kg5.size, fun _ hx => by cases hx⟩, (cutA x).pt, x.au, AtL_block hb5 rfl, fun n6 W6 hW6 => ?_⟩
    have k6 : K0 w5 W6 := hW6.kk rfl
    have ho26 := owns_kp ho25 k6 (fun _ _ h => h)
    have ho16 := owns_kp ho5 k6 (fun _ _ h => h)
    refine ⟨w.heap.size, _, ho26, by omega, by omega, (k5.trans k6).size, fun q2 d2 w7 ho7 hg7 _ => ?_⟩
    have kg7 := kp_grown hg7
    have ho17 := owns_kp ho16 kg7 (fun j h1 h2 => own_types ho16 ho26 (by decide) h1 h2)
    refine ⟨⟨kg7.size, fun _ hx => by cases hx⟩, ⟨n1' + 1, q1, d1, q2, d2, by rw [inc64 (by omega)], hlt.1, hlt.2, ?_, ?_, (k5.trans k6).fresh kg7 (fun j hj e => by have := own_ge ho26 e; omega)⟩, by rw [inc64 (by omega)]; simp only [Int.toNat_natCast]; omega⟩
    · rw [et, List.flatMap_append, List.flatMap_singleton]; exact ho17
    · rw [et, List.flatMap_append, List.flatMap_singleton]; exact ho7
  · have hk2 : l.take n1' = l.take 70 := by
      have : n1' = l.length ∨ n1' = 70 := by
        simp only [Bool.and_eq_false_iff, decide_eq_false_iff_not] at hge
        omega
      rcases this with h | h
      · rw [h, List.take_length, List.take_of_length_le (by omega)]
      · rw [h]
    have el : (autL l).length = n1' := by
      unfold autL
      rw [← hk2, List.length_map, List.length_take]; omega
    rw [hk2] at ho1 ho2
    rw [el]
    exact ⟨⟨p1', c1', p2', c2', rfl, RowA.own ho1 atC_length (by decide), RowA.own ho2 atC_length (by decide)⟩, k1⟩

/-! ### Definitions turned -/
def toD (d : Df) : Df := ⟨d.id, d.au, d.g.extract 0 (if (100 : Int) < (d.g.size : Int) then (100 : Int) else (d.g.size : Int)).toNat, d.v, d.rm, d.md, d.ms.take 10, d.tx.extract 0 (if (220 : Int) < (d.tx.size : Int) then (220 : Int) else (d.tx.size : Int)).toNat⟩
theorem toD_OK {d : Df} (h : d.OK) : (toD d).OK := ⟨h.id, h.au, fun m hm => h.ms m (List.mem_of_mem_take hm)⟩
def withMs (d : Df) (ms : List (Nat → Int)) : Df := ⟨d.id, d.au, d.g, d.v, d.rm, d.md, ms, d.tx⟩
set_option maxRecDepth 100000 in
set_option maxHeartbeats 4000000 in
theorem lto_any (x : DX) (w : World) (hR : RowA auC 16 w x.p x.d.ms) :
    Calls Tryz.prog 23 #[dfV x] w fun e w' => (∃ (q : Option Addr) (c : Nat), e = .returned (dfV ⟨toD x.d, q, c⟩) ∧ MO w' w.heap.size ⟨toD x.d, q, c⟩) ∧ K0 w w' := by
  obtain ⟨d, p, c⟩ := x
  refine vc_lto d.id d.au d.g d.v d.rm d.md p d.ms.length c d.tx w _ (fun n1 n2 W hW => ?_)
  have kW : K0 w W := hW.kk rfl
  have b1 := hW.cells 1 rfl
  have b2 := hW.cells 0 rfl
  have l1 := block_lt b1
  have l2 := block_lt b2
  simp only at l1 l2
  have b1x : ∀ wx, K0 W wx → wx.heap[n1]? = _ := fun wx k => k.blk b1 (fun h => h)
  simp only at hR
  refine ⟨fun wx => K0 W wx, .refl _ _, d.id, fun wx k => AtL_block (b1x wx k) rfl, d.au, fun wx k => AtL_block (b1x wx k) rfl, d.g, fun wx k => cell_at (b1x wx k) rfl, d.g, fun wx k => cell_at (b1x wx k) rfl, ⟨by split <;> omega, by split <;> omega⟩, d.v, fun wx k => cell_at (b1x wx k) rfl, d.rm, fun wx k => cell_at (b1x wx k) rfl, d.md, fun wx k => cell_at (b1x wx k) rfl, d.tx, fun wx k => cell_at (b1x wx k) rfl, d.tx, fun wx k => cell_at (b1x wx k) rfl, ⟨by split <;> omega, by split <;> omega⟩, fun n3 w2 hn3 => ⟨hn3.kp _, WrL_block hn3.block (by show 0 + 54 ≤ 54; omega), fun w3 p3 => ?_⟩⟩
  have k3 : K0 W w3 := put_k0 (hn3.kp _) p3 hn3.ge
  have g3 : W.heap.size ≤ n3 := hn3.ge
  have hb3 : w3.heap[n3]? = some (.cells (dfC ⟨withMs (toD d) [], none, 0⟩).toArray 56 (0, 0)) := p3.full hn3.block rfl
  refine ⟨.of_k0 k3, fun vs w' => ∃ (k : Nat) (q : Option Addr) (cq : Nat), vs = [.int .i64 (k : Int)] ∧ k ≤ d.ms.length ∧ k ≤ 10 ∧ w'.heap[n3]? = some (.cells (dfC ⟨withMs (toD d) (d.ms.take k), q, cq⟩).toArray 56 (0, 0)) ∧
      w'.ownsRow W.heap.size 53 16 (.slice q k cq) k ((d.ms.take k).flatMap auC) ∧ K0 W w',
    fun vs _ => (match vs with | .int _ x :: _ => d.ms.length - x.toNat | _ => 0), ⟨0, none, 0, rfl, by omega, by omega, hb3, World.ownsRow_nil _ _ _ _, k3⟩, ?_⟩
  rintro x w4 ⟨k, q, cq, hv, hk, hk10, hb4, ho4, k4⟩ _
  simp only [List.cons.injEq, Value.int.injEq, true_and, and_true] at hv
  subst hv
  have hlk : (d.ms.take k).length = k := by rw [List.length_take]; omega
  refine bsp_intro (fun hlt => fun W5 hW5 => ?_) (fun hge => ?_)
  · have hlt : k < d.ms.length ∧ k < 10 := by simp at hlt; omega
    have k5 : K0 w4 W5 := hW5.kk rfl
    have k05 := k4.trans k5
    have hb5 := k5.blk hb4 (fun h => h)
    obtain ⟨z, b, o, hz, hp, hat⟩ := (hR.k0 (kW.trans k05)).get hlt.1
    rw [Int.toNat_natCast]
    have hs52 : ∀ wx, K0 W5 wx → wx.cell? ⟨n3, 0 + 52, none⟩ = some (.slice q k cq) := fun wx k' => by
      have := cell_at (o := 0 + 52) (v := .slice q (d.ms.take k).length cq) (k'.blk hb5 (fun h => h)) rfl
      rw [hlk] at this
      exact this
    refine ⟨fun wx => K0 W5 wx, .refl _ _, q, k, cq, hs52, p, d.ms.length, c, fun wx k' => cell_at (b1x wx (k05.trans k')) rfl, nn_is hp ⟨⟨by omega, by omega⟩, z, fun wx k' => hat.k0 k', fun n6 w6 hn6 => ⟨hn6.kp _, ?_⟩⟩⟩
    have k6 : K0 W5 w6 := hn6.kp _
    have ho6 := owns_kp ho4 (k5.trans k6) (fun _ _ h => h)
    have hb6 := k6.blk hb5 (fun h => h)
    refine ⟨W.heap.size, (d.ms.take k).flatMap auC, auC z, ho6, auC_length z, src_block hn6.block (fun u hu => arr_one z 16 u hu), by omega, by omega, (k05.trans k6).size, fun q7 c7 w7 ho7 hg7 _ => ?_⟩
    have kg := kp_grown hg7
    have hb7 := kg.blk hb6 (fun e => by
      obtain ⟨ct, hct⟩ := own_type ho6 e
      rw [hb6] at hct
      simp only [Option.some.injEq, Obj.cells.injEq] at hct
      exact absurd hct.2.1 (by decide))
    refine ⟨cell_wr hb7 (by show 0 + 52 < 54; omega), fun w8 p8 => ?_⟩
    have et : d.ms.take (k + 1) = d.ms.take k ++ [z] := take_snoc hz
    have hb8 : w8.heap[n3]? = some (.cells (dfC ⟨withMs (toD d) (d.ms.take (k + 1)), q7, c7⟩).toArray 56 (0, 0)) := by
      rw [p8.block hb7]
      have el : (d.ms.take (k + 1)).length = k + 1 := by rw [List.length_take]; omega
      show some (Obj.cells (putL (dfC ⟨withMs (toD d) (d.ms.take k), q, cq⟩) 52 [.slice q7 (k + 1) c7]).toArray _ _) = some (Obj.cells (arrI .u8 d.id 32 0 ++ (arrI .u8 d.au 16 0 ++ ([.string (toD d).g, .int .i64 d.v, .bool d.rm, .bool d.md, .slice q7 (d.ms.take (k + 1)).length c7, .string (toD d).tx] : List Value))).toArray _ _)
      rw [el]; rfl
    have k8 : K0 W w8 := (k05.trans k6).fresh ((kg.mono fun _ _ h => Or.inl h).trans (p8.kp.mono fun _ _ h => Or.inr h) : Kp (fun j => (Value.slice q k cq).ownBlock = some j ∨ j = n3) w6 w8) (fun j hj e => by
      rcases e with e | e
      · have := own_ge ho6 e; omega
      · omega)
    refine ⟨.of_kp ((k6.mono fun _ _ h => h.elim).trans ((kg.mono fun _ _ h => Or.inl h).trans (p8.kp.mono fun _ _ h => Or.inr h) : Kp (fun j => (Value.slice q k cq).ownBlock = some j ∨ j = n3) w6 w8)) (fun y hy e => ?_), ⟨k + 1, q7, c7, by rw [inc64 (by omega)], hlt.1, hlt.2, hb8, ?_, k8⟩, by rw [inc64 (by omega)]; simp only [Int.toNat_natCast]; omega⟩
    · simp only [List.mem_cons, List.not_mem_nil, or_false] at hy
      rcases e with e | e
      · have := own_ge ho6 e; rcases hy with hy | hy <;> omega
      · rcases hy with hy | hy <;> omega
    · rw [et, List.flatMap_append, List.flatMap_singleton]
      refine owns_kp ho7 p8.kp (fun j hj e => ?_)
      have e : j = n3 := e
      subst e
      obtain ⟨ct, hct⟩ := own_type ho7 hj
      rw [hb7] at hct
      simp only [Option.some.injEq, Obj.cells.injEq] at hct
      exact absurd hct.2.1 (by decide)
  · have hk2 : d.ms.take k = d.ms.take 10 := by
      have : k = d.ms.length ∨ k = 10 := by
        simp only [Bool.and_eq_false_iff, decide_eq_false_iff_not] at hge
        omega
      rcases this with h | h
      · rw [h, List.take_length, List.take_of_length_le (by omega)]
      · rw [h]
    have hlk2 : (d.ms.take 10).length = k := by rw [← hk2]; exact hlk
    rw [hk2] at hb4 ho4
    refine ⟨_, _, _, _, _, _, _, _, _, _, AtL_block hb4 rfl, fun W5 hW5 => ⟨⟨q, cq, rfl, ?_⟩, hW5.k0 (kW.trans k4)⟩⟩
    have : MO w4 W.heap.size ⟨toD d, q, cq⟩ := by
      show w4.ownsRow _ _ _ (.slice q (d.ms.take 10).length cq) (d.ms.take 10).length _
      rw [hlk2]; exact ho4
    refine own_base (this.kp hW5.kp (fun j hj ⟨y, hy, hm, e⟩ => ?_)) kW.size
    have := own_ge this hj
    simp only [List.mem_cons, List.not_mem_nil, or_false] at hy
    rcases hy with rfl | rfl
    · have e : n2 = j := e
      omega
    · cases hm
/-- The moderators of a definition of the reference, in memory of their own. -/
def MOr (w : World) (B : Nat) (x : DX) : Prop := w.ownsRow B 23 16 (.slice x.p x.d.ms.length x.c) x.d.ms.length (x.d.ms.flatMap auC)
theorem MOr.row {w : World} {B : Nat} {x : DX} (h : MOr w B x) : RowA auC 16 w x.p x.d.ms := RowA.own h auC_length (by decide)
set_option maxRecDepth 100000 in
set_option maxHeartbeats 4000000 in
theorem lof_any (x : DX) (w : World) (hR : RowA auC 16 w x.p x.d.ms) (hl : x.d.ms.length ≤ 1000000) :
    Calls Tryz.prog 26 #[dfV x] w fun e w' => (∃ (q : Option Addr) (c : Nat), e = .returned (dfV ⟨x.d, q, c⟩) ∧ MOr w' w.heap.size ⟨x.d, q, c⟩) ∧ K0 w w' := by
  obtain ⟨d, p, c⟩ := x
  simp only at hR hl
  refine vc_lof d.id d.au d.g d.v d.rm d.md p d.ms.length c d.tx w _ (fun n1 n2 n3 W hW => ?_)
  have kW : K0 w W := hW.kk rfl
  have b1 := hW.cells 2 rfl
  have b2 := hW.cells 1 rfl
  have l1 := block_lt b1
  have l2 := block_lt b2
  have hb3 : W.heap[n3]? = some (.cells (dfC ⟨withMs d [], none, 0⟩).toArray 50 (0, 0)) := hW.cells 0 rfl
  have l3 := block_lt hb3
  have g3 : w.heap.size ≤ n3 := hW.le 0 rfl
  have a13 : n3 ≠ n1 := hW.apart 0 2 rfl rfl (by decide)
  have a23 : n3 ≠ n2 := hW.apart 0 1 rfl rfl (by decide)
  simp only at l1 l2
  refine ⟨fun vs w' => ∃ (k : Nat) (q : Option Addr) (cq : Nat), vs = [.int .i64 (k : Int)] ∧ k ≤ d.ms.length ∧ w'.heap[n3]? = some (.cells (dfC ⟨withMs d (d.ms.take k), q, cq⟩).toArray 50 (0, 0)) ∧
      w'.ownsRow W.heap.size 23 16 (.slice q k cq) k ((d.ms.take k).flatMap auC) ∧ Kp (fun j => j = n3 ∨ W.heap.size ≤ j) W w',
    fun vs _ => (match vs with | .int _ x :: _ => d.ms.length - x.toNat | _ => 0), ⟨0, none, 0, rfl, by omega, hb3, World.ownsRow_nil _ _ _ _, .refl _ _⟩, ?_⟩
  rintro x w4 ⟨k, q, cq, hv, hk, hb4, ho4, k4⟩ _
  simp only [List.cons.injEq, Value.int.injEq, true_and, and_true] at hv
  subst hv
  have kw4 : K0 w w4 := kW.fresh k4 (fun j hj e => by have := kW.size; rcases e with e | e <;> omega)
  have hlk : (d.ms.take k).length = k := by rw [List.length_take]; omega
  refine bsp_intro (fun hlt => fun W5 hW5 => ?_) (fun hge => ?_)
  · have hlt : k < d.ms.length := by simp at hlt; omega
    have k5 : K0 w4 W5 := hW5.kk rfl
    have b5 := hW5.cells 1 rfl
    have hb5 := k5.blk hb4 (fun h => h)
    obtain ⟨z, b, o, hz, hp, hat⟩ := (hR.k0 (kw4.trans k5)).get hlt
    rw [Int.toNat_natCast]
    have hs52 : ∀ wx, K0 W5 wx → wx.cell? ⟨n3, 0 + 52, none⟩ = some (.slice q k cq) := fun wx k' => by
      have := cell_at (o := 0 + 52) (v := .slice q (d.ms.take k).length cq) (k'.blk hb5 (fun h => h)) rfl
      rw [hlk] at this
      exact this
    refine ⟨fun wx => K0 W5 wx, .refl _ _, q, k, cq, hs52, p, d.ms.length, c, fun wx k' => cell_at (k'.blk b5 (fun h => h)) rfl, nn_is hp ⟨⟨by omega, by omega⟩, z, fun wx k' => hat.k0 k', fun n6 w6 hn6 => ⟨hn6.kp _, ?_⟩⟩⟩
    have k6 : K0 W5 w6 := hn6.kp _
    have ho6 := owns_kp ho4 (k5.trans k6) (fun _ _ h => h)
    have hb6 := k6.blk hb5 (fun h => h)
    refine ⟨W.heap.size, (d.ms.take k).flatMap auC, auC z, ho6, auC_length z, src_block hn6.block (fun u hu => arr_one z 16 u hu), by omega, by omega, Nat.le_trans k4.size (k5.trans k6).size, fun q7 c7 w7 ho7 hg7 _ => ?_⟩
    have kg := kp_grown hg7
    have hb7 := kg.blk hb6 (fun e => by have := own_ge ho6 e; omega)
    refine ⟨cell_wr hb7 (by show 0 + 52 < 54; omega), fun w8 p8 => ?_⟩
    have et : d.ms.take (k + 1) = d.ms.take k ++ [z] := take_snoc hz
    have hb8 : w8.heap[n3]? = some (.cells (dfC ⟨withMs d (d.ms.take (k + 1)), q7, c7⟩).toArray 50 (0, 0)) := by
      rw [p8.block hb7]
      have el : (d.ms.take (k + 1)).length = k + 1 := by rw [List.length_take]; omega
      show some (Obj.cells (putL (dfC ⟨withMs d (d.ms.take k), q, cq⟩) 52 [.slice q7 (k + 1) c7]).toArray _ _) = some (Obj.cells (arrI .u8 d.id 32 0 ++ (arrI .u8 d.au 16 0 ++ ([.string d.g, .int .i64 d.v, .bool d.rm, .bool d.md, .slice q7 (d.ms.take (k + 1)).length c7, .string d.tx] : List Value))).toArray _ _)
      rw [el]; rfl
    have k68 : Kp (fun j => (Value.slice q k cq).ownBlock = some j ∨ j = n3) w6 w8 := (kg.mono fun _ _ h => Or.inl h).trans (p8.kp.mono fun _ _ h => Or.inr h)
    refine ⟨.of_kp ((k6.mono fun _ _ h => h.elim).trans k68) (fun y hy e => ?_), ⟨k + 1, q7, c7, by rw [inc64 (by omega)], hlt, hb8, ?_, (k4.trans ((k5.trans k6).mono fun _ _ h => h.elim)).trans (k68.mono fun j hj e => ?_)⟩, by rw [inc64 (by omega)]; simp only [Int.toNat_natCast]; omega⟩
    · simp only [List.mem_cons, List.not_mem_nil, or_false] at hy
      rcases e with e | e
      · have := own_ge ho6 e; rcases hy with hy | hy <;> omega
      · rcases hy with hy | hy
        · exact a23 (by omega)
        · exact a13 (by omega)
    · rw [et, List.flatMap_append, List.flatMap_singleton]
      exact owns_kp ho7 p8.kp (fun j hj e => by have := own_ge ho7 hj; have e : j = n3 := e; omega)
    · rcases e with e | e
      · exact .inr (own_ge ho6 e)
      · exact .inl e
  · have hk2 : k = d.ms.length := by simp at hge; omega
    subst hk2
    rw [List.take_length] at hb4 ho4
    refine ⟨_, _, _, _, _, _, _, _, _, _, AtL_block hb4 rfl, fun W5 hW5 => ⟨⟨q, cq, rfl, ?_⟩, hW5.k0 kw4⟩⟩
    have : MOr w4 W.heap.size ⟨d, q, cq⟩ := ho4
    refine own_base (owns_kp this hW5.kp (fun j hj ⟨y, hy, hm, e⟩ => ?_)) kW.size
    have := own_ge this hj
    simp only [List.mem_cons, List.not_mem_nil, or_false] at hy
    rcases hy with rfl | rfl
    · have e : n2 = j := e
      omega
    · cases hm

end Go.Proofs.YtkkfnlehlkiejaaGreatDoor

/- The formulas of functions by the symbolic evaluator, and that each gives the call's contract. Written by a program (gen.py). No condition. -/
namespace Go.Proofs.YtkkfnlehlkiejaaGreatDoor
set_option maxRecDepth 100000
set_option linter.unusedVariables false

def VC_lrauth (p : Option Addr) (n : Nat) (c : Nat) (s : ByteArray) (a : Nat → Int) (w : World) (R : Ending → World → Prop) : Prop :=
 ∀ (n_1 : Nat) (W : World),
 Loc w.heap.size
 [Blk.mk n_1 23
 (arrI IntKind.u8 a 16 0)
 2]
 w W →
 CallsS Tryz.prog 12 #[Value.slice p n c] W fun (e : Ending) (w' : World) =>
 ∃ (p : Option Addr),
 ∃ (n : Nat),
 ∃ (c : Nat),
 ∃ (p_1 : Option Addr),
 ∃ (n_2 : Nat),
 ∃ (c_1 : Nat),
 e = Ending.returned (Value.tuple #[Value.slice p n c, Value.slice p_1 n_2 c_1]) ∧
 KeptL [n_1] W w' ∧
 ((0 ≤ if 100 < (↑s.size : Int) then 100 else (↑s.size : Int)) ∧
 (if 100 < (↑s.size : Int) then 100 else (↑s.size : Int)) ≤ (↑s.size : Int)) ∧
 CallsS Tryz.prog 13 #[Value.slice p n c] w' fun (e : Ending) (w'_1 : World) =>
 ∃ (x : Option Addr),
 ∃ (x_1 : Int),
 ∃ (x_2 : Int),
 e =
 Ending.returned
 (Value.tuple #[Value.pointer x, Value.int IntKind.i64 x_1, Value.int IntKind.i64 x_2]) ∧
 KeptL [n_1] w' w'_1 ∧
 CallsS Tryz.prog 14 #[Value.slice p_1 n_2 c_1] w'_1 fun (e : Ending) (w' : World) =>
 ∃ (p : Option Addr),
 ∃ (n : Nat),
 ∃ (c : Nat),
 ∃ (p_2 : Option Addr),
 ∃ (n_3 : Nat),
 ∃ (c_2 : Nat),
 ∃ (x_3 : Int),
 ∃ (x_4 : Int),
 e =
 Ending.returned
 (Value.tuple
 #[Value.agg #[Value.slice p n c, Value.slice p_2 n_3 c_2], Value.int IntKind.i64 x_3,
 Value.int IntKind.i64 x_4]) ∧
 KeptL [n_1] w'_1 w' ∧
 ∀ (n_4 : Nat),
 bsp (x_2 != 0 || x_4 != 0)
 (∀ (W : World),
 Loc w.heap.size
 [Blk.mk n_4 33 [Value.slice p n c, Value.slice p_2 n_3 c_2] (wrM 2),
 Blk.mk n_1 23
 (arrI IntKind.u8 a 16 0)
 0]
 w' W →
 CallsS Tryz.prog 15 #[] W fun (e : Ending) (w' : World) =>
 ∃ (x : Bool),
 e = Ending.returned (Value.bool x) ∧
 KeptL [n_4, n_1] W w' ∧ R (Ending.returned (Value.bool (x && x_2 == x_4))) w')
 (∀ (W : World),
 Loc w.heap.size
 [Blk.mk n_4 33 [Value.slice p n c, Value.slice p_2 n_3 c_2] (wrM 2),
 Blk.mk n_1 23
 (arrI IntKind.u8 a 16 0)
 0]
 w' W →
 ∃ (S : World → Prop),
 S W ∧
 CallsS Tryz.prog 15 #[] W fun (e : Ending) (w' : World) =>
 ∃ (x_5 : Bool),
 e = Ending.returned (Value.bool x_5) ∧
 S w' ∧
 ∃ (f : Nat → Int),
 gimp x_5
 (∀ (w' : World),
 S w' →
 AtL w' n_1 0
 (arrI IntKind.u8 f 16 0)) ∧
 ∃ (p : Option Addr),
 ∃ (n : Nat),
 ∃ (c : Nat),
 ∃ (p_3 : Option Addr),
 ∃ (n_5 : Nat),
 ∃ (c_3 : Nat),
 gimp x_5
 (∀ (w' : World),
 S w' → AtL w' n_4 0 [Value.slice p n c, Value.slice p_3 n_5 c_3]) ∧
 ∃ (f_1 : Nat → Int),
 gimp x_5
 (∀ (w' : World),
 S w' →
 AtL w' n_1 0
 (arrI IntKind.u8 f_1 16 0)) ∧
 bsp x_5
 (CallsS Tryz.prog 16
 #[Value.pointer x,
 Value.string
 (s.extract 0
 (if 100 < (↑s.size : Int) then 100 else (↑s.size : Int)).toNat),
 Value.agg
 (arrI IntKind.u8 f 16 0).toArray]
 w' fun (e : Ending) (w' : World) =>
 ∃ (x : Bool),
 e = Ending.returned (Value.bool x) ∧
 S w' ∧
 CallsS Tryz.prog 17
 #[Value.agg #[Value.slice p n c, Value.slice p_3 n_5 c_3],
 Value.string
 (s.extract 0
 (if 100 < (↑s.size : Int) then 100
 else (↑s.size : Int)).toNat),
 Value.agg
 (arrI IntKind.u8 f_1 16 0).toArray]
 w' fun (e : Ending) (w' : World) =>
 ∃ (x_6 : Bool),
 e = Ending.returned (Value.bool x_6) ∧
 KeptL [n_4, n_1] W w' ∧
 R (Ending.returned (Value.bool (true && x == x_6))) w')
 (S w' ∧
 KeptL [n_4, n_1] W w' ∧ R (Ending.returned (Value.bool false)) w'))
theorem vc_lrauth (p : Option Addr) (n : Nat) (c : Nat) (s : ByteArray) (a : Nat → Int) (w : World) (R : Ending → World → Prop) (h : VC_lrauth p n c s a w R) : Calls Tryz.prog 3 ([Value.slice
    p n c,
  Value.string s, Value.agg (arrI IntKind.u8 a 16 0).toArray] : List Value).toArray w R := by
  have e : execR2 { P := Tryz.prog, loops := [], pur := pur1, tails := [(7, 0)], joins := [], boxes := [] } Tryz.f3.results.toList R (Tryz.f3.body.getD .skip) (initF [Value.slice
    p n c,
  Value.string s,
  Value.agg
    (arrI IntKind.u8 a 16
        0).toArray] (Tryz.f3.ntmps - ([Value.slice p n c, Value.string s,
  Value.agg (arrI IntKind.u8 a 16 0).toArray] : List Value).length)) w = VC_lrauth p n c s a w R := by kernel_rfl
  have hb : Tryz.f3.body = some (Tryz.f3.body.getD .skip) := by kernel_rfl
  exact calls_of_exec2' (P := Tryz.prog) (fn := Tryz.f3) (c := Tryz.f3.body.getD .skip) (args := [Value.slice p n c,
  Value.string s, Value.agg (arrI IntKind.u8 a 16 0).toArray]) (w := w) (R := R) pur1_ok Tryz.func3 hb e h

end Go.Proofs.YtkkfnlehlkiejaaGreatDoor

/- Chapter 21: RegistryAuthorities always returns true. The library's variable MaxLen holds a number. -/
namespace Go.Proofs.YtkkfnlehlkiejaaGreatDoor
open Go.RowKit Go.Maps

theorem autL_BY {l : List Au} (h : ∀ x ∈ l, BY x.au) : ∀ x ∈ autL l, BY x.au := fun x hx => by
  obtain ⟨y, hy, rfl⟩ := List.mem_map.1 hx
  exact h y (List.mem_of_mem_take hy)
theorem autL_sz {l : List Au} : ∀ x ∈ autL l, x.pt.size ≤ 1073741824 := fun x hx => by
  obtain ⟨y, _, rfl⟩ := List.mem_map.1 hx
  have := cutA_sz y
  omega
set_option maxHeartbeats 2000000 in
theorem lrauth_any (l : List Au) (p : Option Addr) (c : Nat) (s : ByteArray) (a : Nat → Int) (w : World) (hR : RowA atC 17 w p l) (hb : ∀ x ∈ l, BY x.au) (ha : BY a) (hG : GW w) :
    Calls Tryz.prog 3 #[.slice p l.length c, .string s, .agg (arrI .u8 a 16 0).toArray] w fun e w' => e = .returned (.bool true) ∧ K0 w w' := by
  refine vc_lrauth p l.length c s a w _ (fun n1 W hW => ?_)
  have kW : K0 w W := hW.kk rfl
  have b1 := hW.cells 0 rfl
  refine ⟨(lauths_any l p c W (hR.k0 kW)).mono fun e w1 ⟨⟨p1, c1, p2, c2, he, hr1, hr2⟩, k1⟩ => ⟨_, _, _, _, _, _, he, .of_k0 k1, ⟨by split <;> omega, by split <;> omega⟩, ?_⟩⟩
  have hsz : (s.extract 0 (if (100 : Int) < (s.size : Int) then (100 : Int) else (s.size : Int)).toNat).size ≤ 100 := by rw [ByteArray.size_extract]; split <;> omega
  generalize s.extract 0 _ = s' at *
  have hB := autL_BY hb
  have hS := @autL_sz l
  generalize autL l = A at *
  have k01 := kW.trans k1
  have hG' : ∀ {wa : World}, K0 w wa → GW wa := fun k => hG.kp k (fun h => h)
  refine ⟨(rnew_any A p1 c1 w1 hr1 hB hS (hG' k01)).mono fun e w2 ⟨hQ, k2⟩ => ?_⟩
  have k02 := k01.trans k2
  rcases hQ with ⟨h64, he⟩ | ⟨h64, hne, he⟩ | ⟨h64, hz, b, mb, he, hReg, _, _⟩
  · refine ⟨_, _, _, he, .of_k0 k2, ⟨(xnew_any A p2 c2 w2 (hr2.k0 k2) hS).mono fun e w3 ⟨hQ, k3⟩ => ?_⟩⟩
    rcases hQ with ⟨_, he⟩ | ⟨h, _⟩ | ⟨h, _⟩
    · refine ⟨_, _, _, _, _, _, _, _, he, .of_k0 k3, fun n4 => bsp_intro (fun _ => fun W4 hW4 => ?_) (fun h => by cases h)⟩
      have k4 : K0 w3 W4 := hW4.kk rfl
      have k04 := (k02.trans k3).trans k4
      exact ⟨(known_any W4 (hG' k04)).mono fun e w5 ⟨he, k5⟩ => ⟨_, he, .of_k0 k5, rfl, k04.trans k5⟩⟩
    · omega
    · omega
  · refine ⟨_, _, _, he, .of_k0 k2, ⟨(xnew_any A p2 c2 w2 (hr2.k0 k2) hS).mono fun e w3 ⟨hQ, k3⟩ => ?_⟩⟩
    rcases hQ with ⟨h, _⟩ | ⟨_, _, he⟩ | ⟨_, h, _⟩
    · omega
    · have hc : ((newE A 0).2 != 0) = true := by simpa using hne
      refine ⟨_, _, _, _, _, _, _, _, he, .of_k0 k3, fun n4 => bsp_intro (fun _ => fun W4 hW4 => ?_) (fun h => by rw [hc] at h; cases h)⟩
      have k4 : K0 w3 W4 := hW4.kk rfl
      have k04 := (k02.trans k3).trans k4
      exact ⟨(known_any W4 (hG' k04)).mono fun e w5 ⟨he, k5⟩ => ⟨_, he, .of_k0 k5, by simp, k04.trans k5⟩⟩
    · rw [h] at hne; exact absurd rfl hne
  · refine ⟨_, _, _, he, .of_k0 k2, ⟨(xnew_any A p2 c2 w2 (hr2.k0 k2) hS).mono fun e w3 ⟨hQ, k3⟩ => ?_⟩⟩
    rcases hQ with ⟨h, _⟩ | ⟨_, h, _⟩ | ⟨_, _, ap, ac, he, hra⟩
    · omega
    · rw [hz] at h; exact absurd rfl h
    · refine ⟨_, _, _, _, _, _, _, _, he, .of_k0 k3, fun n4 => bsp_intro (fun h => by cases h) (fun _ => fun W4 hW4 => ?_)⟩
      have k4 : K0 w3 W4 := hW4.kk rfl
      have k04 := (k02.trans k3).trans k4
      have b4 := hW4.cells 0 rfl
      have b14 := hW4.cells 1 rfl
      refine ⟨fun wx => K0 W4 wx, .refl _ _, ⟨(known_any W4 (hG' k04)).mono fun e w5 ⟨he, k5⟩ => ⟨_, he, k5, a, gimp_intro fun _ wx k => AtL_block (k.blk b14 (fun h => h)) rfl, ap, A.length, ac, none, 0, 0, gimp_intro fun _ wx k => AtL_block (k.blk b4 (fun h => h)) rfl, a, gimp_intro fun _ wx k => AtL_block (k.blk b14 (fun h => h)) rfl, bsp_intro (fun _ => ?_) (fun h => by cases h)⟩⟩⟩
      have hall := newE_all A 0 (by rw [hz])
      have k25 := (k3.trans k4).trans k5
      refine ⟨(risauth_any (hReg.st.k0 k25) hB h64 s' a ha (by omega)).mono fun e w6 ⟨he, k6⟩ => ⟨_, he, k5.trans k6, ?_⟩⟩
      refine ⟨(xauth_any A ap ac none 0 0 s' a w6 (hra.k0 ((k4.trans k5).trans k6)) hB h64 hall hS ha (by omega)).mono fun e w7 ⟨he, k7⟩ => ⟨_, he, .of_k0 ((k5.trans k6).trans k7), by simp, ((k04.trans k5).trans k6).trans k7⟩⟩

end Go.Proofs.YtkkfnlehlkiejaaGreatDoor

/- Rows and blocks of different types are apart. Generic: no program, no condition. -/
namespace Go.Proofs.YtkkfnlehlkiejaaGreatDoor
open Go.RowKit

theorem own_not {w : World} {base : Nat} {e t : TypeId} {size : Nat} {v : Value} {n : Nat} {xs : List Value} (h : w.ownsRow base e size v n xs) {k : Nat} {c : Array Value} {f : Nat × Nat} (hk : w.heap[k]? = some (.cells c t f)) (hne : (t == e) = false) : ¬ v.ownBlock = some k := fun he => by
  obtain ⟨c', h1⟩ := own_type h he
  rw [hk] at h1
  simp at h1
  rw [h1.2.1] at hne
  simp at hne
theorem own_loc {z : Nat} {T : List Blk} {w W : World} {base : Nat} {e : TypeId} {size : Nat} {v : Value} {n : Nat} {xs : List Value} (ho : w.ownsRow base e size v n xs) (hL : Loc z T w W) (hT : ∀ b ∈ T, ¬ v.ownBlock = some b.n) : W.ownsRow base e size v n xs :=
  owns_kp ho hL.kp (fun k hk ⟨x, hx, h3, h4⟩ => hT x hx (by rw [hk]; first | rw [h4] | rw [← h4]))
theorem src_str {w : World} {p : Option Addr} {l : List ByteArray} (h : StrP w p l) : SrcP w p (l.map .string) := by
  refine ⟨fun j u hj => ?_, fun u hu => ?_⟩
  · rw [List.getElem?_map] at hj
    cases hz : l[j]? with
    | none => rw [hz] at hj; cases hj
    | some z => rw [hz] at hj; cases hj; exact h j z hz
  · obtain ⟨z, _, rfl⟩ := List.mem_map.1 hu; rfl
theorem blk_ne {w : World} {a b : Nat} {c c' : Array Value} {t t' : TypeId} {f f' : Nat × Nat} (h : w.heap[a]? = some (.cells c t f)) (h' : w.heap[b]? = some (.cells c' t' f')) (hne : (t == t') = false) : a ≠ b := fun e => by
  subst e
  rw [h] at h'
  simp at h'
  rw [h'.2.1] at hne
  simp at hne

end Go.Proofs.YtkkfnlehlkiejaaGreatDoor

/- The formulas of functions by the symbolic evaluator, and that each gives the call's contract. Written by a program (gen.py). No condition. -/
namespace Go.Proofs.YtkkfnlehlkiejaaGreatDoor
set_option maxRecDepth 100000
set_option linter.unusedVariables false

def VC_xadd (ap : Option Addr) (an : Nat) (ac : Nat) (dp : Option Addr) (dn : Nat) (dc : Nat) (id : Nat → Int) (au : Nat → Int) (g : ByteArray) (v : Int) (rm : Bool) (md : Bool) (p : Option Addr) (n : Nat) (c : Nat) (t : ByteArray) (w : World) (R : Ending → World → Prop) : Prop :=
 ∀ (n_1 n_2 n_3 : Nat) (W : World),
 Loc w.heap.size
 [Blk.mk n_3 33 [Value.slice none 0 0, Value.slice none 0 0] 2,
 Blk.mk n_2 50
 (arrI IntKind.u8 id 32 0 ++ (arrI IntKind.u8 au 16 0 ++ [Value.string g,
 Value.int IntKind.i64 v, Value.bool rm, Value.bool md, Value.slice p n c, Value.string t]))
 2,
 Blk.mk n_1 33 [Value.slice ap an ac, Value.slice dp dn dc] 2]
 w W →
 CallsS Tryz.prog 25
 #[Value.agg
 (arrI IntKind.u8 id 32 0 ++ (arrI IntKind.u8 au 16 0 ++ [Value.string g,
 Value.int IntKind.i64 v, Value.bool rm, Value.bool md, Value.slice p n c, Value.string t])).toArray]
 W fun (e : Ending) (w' : World) =>
 ∃ (x : Int),
 e = Ending.returned (Value.int IntKind.i64 x) ∧
 KeptL [n_3, n_2, n_1] W w' ∧
 bsp (x != 0)
 (∀ (W : World),
 Loc w.heap.size
 [Blk.mk n_3 33 [Value.slice ap an ac, Value.slice dp dn dc] (wrM 0),
 Blk.mk n_2 50
 (arrI IntKind.u8 id 32 0 ++ (arrI IntKind.u8 au 16 0 ++ [Value.string g,
 Value.int IntKind.i64 v, Value.bool rm, Value.bool md, Value.slice p n c, Value.string t]))
 0,
 Blk.mk n_1 33 [Value.slice ap an ac, Value.slice dp dn dc] 0]
 w' W →
 R
 (Ending.returned
 (Value.tuple #[Value.agg #[Value.slice ap an ac, Value.slice dp dn dc], Value.int IntKind.i64 x]))
 W)
 (CallsS Tryz.prog 17
 #[Value.agg #[Value.slice ap an ac, Value.slice dp dn dc], Value.string g,
 Value.agg
 (arrI IntKind.u8 au 16 0).toArray]
 w' fun (e : Ending) (w'_1 : World) =>
 ∃ (x : Bool),
 e = Ending.returned (Value.bool x) ∧
 KeptL [n_3, n_2, n_1] w' w'_1 ∧
 bsp (!x)
 (∀ (W : World),
 Loc w.heap.size
 [Blk.mk n_3 33 [Value.slice ap an ac, Value.slice dp dn dc] (wrM 0),
 Blk.mk n_2 50
 (arrI IntKind.u8 id 32 0 ++ (arrI IntKind.u8 au 16 0 ++ [Value.string g, Value.int IntKind.i64 v, Value.bool rm, Value.bool md, Value.slice p n c,
 Value.string t]))
 0,
 Blk.mk n_1 33 [Value.slice ap an ac, Value.slice dp dn dc] 0]
 w'_1 W →
 R
 (Ending.returned
 (Value.tuple #[Value.agg #[Value.slice ap an ac, Value.slice dp dn dc], Value.int IntKind.i64 20]))
 W)
 (CallsS Tryz.prog 70
 #[Value.agg #[Value.slice ap an ac, Value.slice dp dn dc],
 Value.agg
 (arrI IntKind.u8 id 32 0).toArray]
 w'_1 fun (e : Ending) (w' : World) =>
 ∃ (x : Int),
 e = Ending.returned (Value.int IntKind.i64 x) ∧
 KeptL [n_3, n_2, n_1] w'_1 w' ∧
 bsp (decide (x ≥ 0))
 (∀ (W : World),
 Loc w.heap.size
 [Blk.mk n_3 33 [Value.slice ap an ac, Value.slice dp dn dc] (wrM 0),
 Blk.mk n_2 50
 (arrI IntKind.u8 id 32 0 ++ (arrI IntKind.u8 au 16 0 ++ [Value.string g, Value.int IntKind.i64 v, Value.bool rm, Value.bool md, Value.slice p n c,
 Value.string t]))
 0,
 Blk.mk n_1 33 [Value.slice ap an ac, Value.slice dp dn dc] 0]
 w' W →
 R
 (Ending.returned
 (Value.tuple #[Value.agg #[Value.slice ap an ac, Value.slice dp dn dc], Value.int IntKind.i64 7]))
 W)
 (bsp (decide ((↑dn : Int) ≥ 4096))
 (∀ (W : World),
 Loc w.heap.size
 [Blk.mk n_3 33 [Value.slice ap an ac, Value.slice dp dn dc] (wrM 0),
 Blk.mk n_2 50
 (arrI IntKind.u8 id 32 0 ++ (arrI IntKind.u8 au 16 0 ++ [Value.string g, Value.int IntKind.i64 v, Value.bool rm, Value.bool md, Value.slice p n c,
 Value.string t]))
 0,
 Blk.mk n_1 33 [Value.slice ap an ac, Value.slice dp dn dc] 0]
 w' W →
 R
 (Ending.returned
 (Value.tuple #[Value.agg #[Value.slice ap an ac, Value.slice dp dn dc], Value.int IntKind.i64 9]))
 W)
 (∀ (W : World),
 Loc w.heap.size
 [Blk.mk n_3 33 [Value.slice none 0 0, Value.slice none 0 0] 0,
 Blk.mk n_2 50
 (arrI IntKind.u8 id 32 0 ++ (arrI IntKind.u8 au 16 0 ++ [Value.string g, Value.int IntKind.i64 v, Value.bool rm, Value.bool md, Value.slice p n c,
 Value.string t]))
 0,
 Blk.mk n_1 33 [Value.slice ap an ac, Value.slice dp dn dc] 0]
 w' W →
 ∃ (S : World → Prop),
 S W ∧
 ∃ (p_1 : Option Addr),
 ∃ (n_4 : Nat),
 ∃ (c_1 : Nat),
 (∀ (w' : World), S w' → w'.cell? (Addr.mk n_1 (0 + 1) none) = some (Value.slice p_1 n_4 c_1)) ∧
 ∃ (f : Nat → Int),
 ∃ (f_1 : Nat → Int),
 ∃ (x : ByteArray),
 ∃ (x_1 : Int),
 ∃ (x_2 : Bool),
 ∃ (x_3 : Bool),
 ∃ (p_2 : Option Addr),
 ∃ (n_5 : Nat),
 ∃ (c_2 : Nat),
 ∃ (x_4 : ByteArray),
 (∀ (w' : World),
 S w' →
 AtL w' n_2 0
 (arrI IntKind.u8 f 32 0 ++ (arrI IntKind.u8 f_1 16 0 ++ [Value.string x,
 Value.int IntKind.i64 x_1, Value.bool x_2, Value.bool x_3,
 Value.slice p_2 n_5 c_2, Value.string x_4]))) ∧
 (∀ (n_6 : Nat) (w1 : World),
 NewB W (Obj.cells #[] 50) n_6 w1 →
 S w1 ∧
 (∃ (base : Nat),
 ∃ (xs : List Value),
 ∃ (news : List Value),
 w1.ownsRow base 50 54 (Value.slice (some (Addr.mk n_6 0 none)) 0 0) 0 xs ∧
 news.length = n_4 * 54 ∧
 SrcP w1 p_1 news ∧
 0 + n_4 ≤ 9223372036854775807 ∧
 (0 + n_4) * 120 ≤ 140737488355328 ∧
 base ≤ w1.heap.size ∧
 ∀ (p' : Option Addr) (c' : Nat) (w' : World),
 w'.ownsRow base 50 54 (Value.slice p' (0 + n_4) c') (0 + n_4)
 (xs ++ news) →
 w1.grownBy w'
 (Value.slice (some (Addr.mk n_6 0 none)) 0 0).ownBlock →
 (0 + n_4 ≤ 0 → p' = some (Addr.mk n_6 0 none) ∧ c' = 0) →
 S w' ∧
 ∀ (n_7 : Nat) (w1 : World),
 NewB w'
 (Obj.cells
 (arrI IntKind.u8 f 32 0 ++ (arrI IntKind.u8 f_1 16 0 ++ [Value.string x,
 Value.int IntKind.i64 x_1, Value.bool x_2, Value.bool x_3,
 Value.slice p_2 n_5 c_2, Value.string x_4])).toArray
 50)
 n_7 w1 →
 S w1 ∧
 ∃ (base : Nat),
 ∃ (xs : List Value),
 ∃ (news : List Value),
 w1.ownsRow base 50 54 (Value.slice p' (0 + n_4) c')
 (0 + n_4) xs ∧
 news.length = 54 ∧
 SrcP w1 (some (Addr.mk n_7 0 none)) news ∧
 0 + n_4 + 1 ≤ 9223372036854775807 ∧
 (0 + n_4 + 1) * 120 ≤ 140737488355328 ∧
 base ≤ w1.heap.size ∧
 ∀ (p'_1 : Option Addr) (c'_1 : Nat) (w' : World),
 w'.ownsRow base 50 54
 (Value.slice p'_1 (0 + n_4 + 1) c'_1)
 (0 + n_4 + 1) (xs ++ news) →
 w1.grownBy w'
 (Value.slice p' (0 + n_4) c').ownBlock →
 (0 + n_4 + 1 ≤ c' → p'_1 = p' ∧ c'_1 = c') →
 ((∃ (u : Value),
 w'.cell? (Addr.mk n_1 (0 + 1) none) =
 some u) ∧
 w'.frozen? (Addr.mk n_1 (0 + 1) none) =
 false) ∧
 ∀ (w1 : World),
 PutB w' n_1 (0 + 1)
 [Value.slice p'_1 (0 + n_4 + 1) c'_1] w1 →
 KeptL [n_3, n_2] W w1 ∧
 ∃ (p_3 : Option Addr),
 ∃ (n_8 : Nat),
 ∃ (c_3 : Nat),
 ∃ (p_4 : Option Addr),
 ∃ (n_9 : Nat),
 ∃ (c_4 : Nat),
 AtL w1 n_1 0
 [Value.slice p_3 n_8 c_3,
 Value.slice p_4 n_9 c_4] ∧
 ∀ (W : World),
 Loc w.heap.size
 [Blk.mk n_3 33
 [Value.slice p_3 n_8 c_3,
 Value.slice p_4 n_9 c_4]
 (wrM 0),
 Blk.mk n_2 50
 (arrI IntKind.u8 id 32 0 ++ (arrI IntKind.u8 au 16 0 ++ [Value.string g,
 Value.int IntKind.i64 v,
 Value.bool rm, Value.bool md,
 Value.slice p n c,
 Value.string t]))
 0]
 w1 W →
 R
 (Ending.returned
 (Value.tuple
 #[Value.agg
 #[Value.slice p_3 n_8 c_3,
 Value.slice p_4 n_9 c_4],
 Value.int IntKind.i64 0]))
 W) ∧
 ∀ (n_7 : Nat) (w1_1 : World),
 NewB w1
 (Obj.cells
 (arrI IntKind.u8 f 32 0 ++ (arrI IntKind.u8 f_1 16 0 ++ [Value.string x, Value.int IntKind.i64 x_1, Value.bool x_2,
 Value.bool x_3, Value.slice p_2 n_5 c_2, Value.string x_4])).toArray
 50)
 n_7 w1_1 →
 S w1_1 ∧
 ∃ (base : Nat),
 ∃ (xs : List Value),
 ∃ (news : List Value),
 w1_1.ownsRow base 50 54 (Value.slice (some (Addr.mk n_6 0 none)) 0 0) 0
 xs ∧
 news.length = n_4 * 54 ∧
 SrcP w1_1 p_1 news ∧
 0 + n_4 ≤ 9223372036854775807 ∧
 (0 + n_4) * 120 ≤ 140737488355328 ∧
 base ≤ w1_1.heap.size ∧
 ∀ (p' : Option Addr) (c' : Nat) (w' : World),
 w'.ownsRow base 50 54 (Value.slice p' (0 + n_4) c') (0 + n_4)
 (xs ++ news) →
 w1_1.grownBy w'
 (Value.slice (some (Addr.mk n_6 0 none)) 0 0).ownBlock →
 (0 + n_4 ≤ 0 → p' = some (Addr.mk n_6 0 none) ∧ c' = 0) →
 S w' ∧
 ∃ (base : Nat),
 ∃ (xs : List Value),
 ∃ (news : List Value),
 w'.ownsRow base 50 54 (Value.slice p' (0 + n_4) c')
 (0 + n_4) xs ∧
 news.length = 54 ∧
 SrcP w' (some (Addr.mk n_7 0 none)) news ∧
 0 + n_4 + 1 ≤ 9223372036854775807 ∧
 (0 + n_4 + 1) * 120 ≤ 140737488355328 ∧
 base ≤ w'.heap.size ∧
 ∀ (p'_1 : Option Addr) (c'_1 : Nat) (w'_2 : World),
 w'_2.ownsRow base 50 54
 (Value.slice p'_1 (0 + n_4 + 1) c'_1)
 (0 + n_4 + 1) (xs ++ news) →
 w'.grownBy w'_2
 (Value.slice p' (0 + n_4) c').ownBlock →
 (0 + n_4 + 1 ≤ c' → p'_1 = p' ∧ c'_1 = c') →
 ((∃ (u : Value),
 w'_2.cell? (Addr.mk n_1 (0 + 1) none) =
 some u) ∧
 w'_2.frozen? (Addr.mk n_1 (0 + 1) none) =
 false) ∧
 ∀ (w1 : World),
 PutB w'_2 n_1 (0 + 1)
 [Value.slice p'_1 (0 + n_4 + 1) c'_1] w1 →
 KeptL [n_3, n_2] W w1 ∧
 ∃ (p_3 : Option Addr),
 ∃ (n_8 : Nat),
 ∃ (c_3 : Nat),
 ∃ (p_4 : Option Addr),
 ∃ (n_9 : Nat),
 ∃ (c_4 : Nat),
 AtL w1 n_1 0
 [Value.slice p_3 n_8 c_3,
 Value.slice p_4 n_9 c_4] ∧
 ∀ (W : World),
 Loc w.heap.size
 [Blk.mk n_3 33
 [Value.slice p_3 n_8 c_3,
 Value.slice p_4 n_9 c_4]
 (wrM 0),
 Blk.mk n_2 50
 (arrI IntKind.u8 id 32 0 ++ (arrI IntKind.u8 au 16 0 ++ [Value.string g,
 Value.int IntKind.i64 v,
 Value.bool rm, Value.bool md,
 Value.slice p n c,
 Value.string t]))
 0]
 w1 W →
 R
 (Ending.returned
 (Value.tuple
 #[Value.agg
 #[Value.slice p_3 n_8 c_3,
 Value.slice p_4 n_9 c_4],
 Value.int IntKind.i64 0]))
 W) ∧
 ∀ (n_6 : Nat) (w1 : World),
 NewB W
 (Obj.cells
 (arrI IntKind.u8 f 32 0 ++ (arrI IntKind.u8 f_1 16 0 ++ [Value.string x,
 Value.int IntKind.i64 x_1, Value.bool x_2, Value.bool x_3,
 Value.slice p_2 n_5 c_2, Value.string x_4])).toArray
 50)
 n_6 w1 →
 S w1 ∧
 ∀ (n_7 : Nat) (w1_1 : World),
 NewB w1 (Obj.cells #[] 50) n_7 w1_1 →
 S w1_1 ∧
 ∃ (base : Nat),
 ∃ (xs : List Value),
 ∃ (news : List Value),
 w1_1.ownsRow base 50 54 (Value.slice (some (Addr.mk n_7 0 none)) 0 0) 0
 xs ∧
 news.length = n_4 * 54 ∧
 SrcP w1_1 p_1 news ∧
 0 + n_4 ≤ 9223372036854775807 ∧
 (0 + n_4) * 120 ≤ 140737488355328 ∧
 base ≤ w1_1.heap.size ∧
 ∀ (p' : Option Addr) (c' : Nat) (w' : World),
 w'.ownsRow base 50 54 (Value.slice p' (0 + n_4) c') (0 + n_4)
 (xs ++ news) →
 w1_1.grownBy w'
 (Value.slice (some (Addr.mk n_7 0 none)) 0 0).ownBlock →
 (0 + n_4 ≤ 0 → p' = some (Addr.mk n_7 0 none) ∧ c' = 0) →
 S w' ∧
 ∃ (base : Nat),
 ∃ (xs : List Value),
 ∃ (news : List Value),
 w'.ownsRow base 50 54 (Value.slice p' (0 + n_4) c')
 (0 + n_4) xs ∧
 news.length = 54 ∧
 SrcP w' (some (Addr.mk n_6 0 none)) news ∧
 0 + n_4 + 1 ≤ 9223372036854775807 ∧
 (0 + n_4 + 1) * 120 ≤ 140737488355328 ∧
 base ≤ w'.heap.size ∧
 ∀ (p'_1 : Option Addr) (c'_1 : Nat) (w'_2 : World),
 w'_2.ownsRow base 50 54
 (Value.slice p'_1 (0 + n_4 + 1) c'_1)
 (0 + n_4 + 1) (xs ++ news) →
 w'.grownBy w'_2
 (Value.slice p' (0 + n_4) c').ownBlock →
 (0 + n_4 + 1 ≤ c' → p'_1 = p' ∧ c'_1 = c') →
 ((∃ (u : Value),
 w'_2.cell? (Addr.mk n_1 (0 + 1) none) =
 some u) ∧
 w'_2.frozen? (Addr.mk n_1 (0 + 1) none) =
 false) ∧
 ∀ (w1 : World),
 PutB w'_2 n_1 (0 + 1)
 [Value.slice p'_1 (0 + n_4 + 1) c'_1] w1 →
 KeptL [n_3, n_2] W w1 ∧
 ∃ (p_3 : Option Addr),
 ∃ (n_8 : Nat),
 ∃ (c_3 : Nat),
 ∃ (p_4 : Option Addr),
 ∃ (n_9 : Nat),
 ∃ (c_4 : Nat),
 AtL w1 n_1 0
 [Value.slice p_3 n_8 c_3,
 Value.slice p_4 n_9 c_4] ∧
 ∀ (W : World),
 Loc w.heap.size
 [Blk.mk n_3 33
 [Value.slice p_3 n_8 c_3,
 Value.slice p_4 n_9 c_4]
 (wrM 0),
 Blk.mk n_2 50
 (arrI IntKind.u8 id 32 0 ++ (arrI IntKind.u8 au 16 0 ++ [Value.string g,
 Value.int IntKind.i64 v,
 Value.bool rm, Value.bool md,
 Value.slice p n c,
 Value.string t]))
 0]
 w1 W →
 R
 (Ending.returned
 (Value.tuple
 #[Value.agg
 #[Value.slice p_3 n_8 c_3,
 Value.slice p_4 n_9 c_4],
 Value.int IntKind.i64 0]))
 W))))
theorem vc_xadd (ap : Option Addr) (an : Nat) (ac : Nat) (dp : Option Addr) (dn : Nat) (dc : Nat) (id : Nat → Int) (au : Nat → Int) (g : ByteArray) (v : Int) (rm : Bool) (md : Bool) (p : Option Addr) (n : Nat) (c : Nat) (t : ByteArray) (w : World) (R : Ending → World → Prop) (h : VC_xadd ap an ac dp dn dc id au g v rm md p n c t w R) : Calls Tryz.prog 49 ([Value.agg
    #[Value.slice ap an ac, Value.slice dp dn dc],
  Value.agg
    (arrI IntKind.u8 id 32 0 ++
        (arrI IntKind.u8 au 16 0 ++
          [Value.string g, Value.int IntKind.i64 v, Value.bool rm, Value.bool md, Value.slice p n c,
            Value.string t])).toArray] : List Value).toArray w R := by
  have e : execR2 { P := Tryz.prog, loops := [], pur := pur1, tails := [(10, 0)], joins := [], boxes := [] } Tryz.f49.results.toList R (Tryz.f49.body.getD .skip) (initF [Value.agg
    #[Value.slice ap an ac, Value.slice dp dn dc],
  Value.agg
    (arrI IntKind.u8 id 32 0 ++
        (arrI IntKind.u8 au 16 0 ++
          [Value.string g, Value.int IntKind.i64 v, Value.bool rm, Value.bool md, Value.slice p n c,
            Value.string
              t])).toArray] (Tryz.f49.ntmps - ([Value.agg #[Value.slice ap an ac, Value.slice dp dn dc],
  Value.agg
    (arrI IntKind.u8 id 32 0 ++
        (arrI IntKind.u8 au 16 0 ++
          [Value.string g, Value.int IntKind.i64 v, Value.bool rm, Value.bool md, Value.slice p n c,
            Value.string
              t])).toArray] : List Value).length)) w = VC_xadd ap an ac dp dn dc id au g v rm md p n c t w R := by kernel_rfl
  have hb : Tryz.f49.body = some (Tryz.f49.body.getD .skip) := by kernel_rfl
  exact calls_of_exec2' (P := Tryz.prog) (fn := Tryz.f49) (c := Tryz.f49.body.getD .skip) (args := [Value.agg
    #[Value.slice ap an ac, Value.slice dp dn dc],
  Value.agg
    (arrI IntKind.u8 id 32 0 ++
        (arrI IntKind.u8 au 16 0 ++
          [Value.string g, Value.int IntKind.i64 v, Value.bool rm, Value.bool md, Value.slice p n c,
            Value.string t])).toArray]) (w := w) (R := R) pur1_ok Tryz.func49 hb e h

def VC_xdrop (ap : Option Addr) (an : Nat) (ac : Nat) (dp : Option Addr) (dn : Nat) (dc : Nat) (i : Nat → Int) (w : World) (R : Ending → World → Prop) : Prop :=
 ∀ (n n_1 n_2 : Nat) (W : World),
 Loc w.heap.size
 [Blk.mk n_2 33 [Value.slice none 0 0, Value.slice none 0 0] 2,
 Blk.mk n_1 47
 (arrI IntKind.u8 i 32 0)
 2,
 Blk.mk n 33 [Value.slice ap an ac, Value.slice dp dn dc] 2]
 w W →
 CallsS Tryz.prog 70
 #[Value.agg #[Value.slice ap an ac, Value.slice dp dn dc],
 Value.agg
 (arrI IntKind.u8 i 32 0).toArray]
 W fun (e : Ending) (w' : World) =>
 ∃ (x : Int),
 e = Ending.returned (Value.int IntKind.i64 x) ∧
 KeptL [n_2, n_1, n] W w' ∧
 bsp (decide (x < 0))
 (∀ (W : World),
 Loc w.heap.size
 [Blk.mk n_2 33 [Value.slice ap an ac, Value.slice dp dn dc] (wrM 0),
 Blk.mk n_1 47
 (arrI IntKind.u8 i 32 0)
 0,
 Blk.mk n 33 [Value.slice ap an ac, Value.slice dp dn dc] 0]
 w' W →
 R
 (Ending.returned
 (Value.tuple #[Value.agg #[Value.slice ap an ac, Value.slice dp dn dc], Value.int IntKind.i64 8]))
 W)
 (∀ (W : World),
 Loc w.heap.size
 [Blk.mk n_2 33 [Value.slice none 0 0, Value.slice none 0 0] 0,
 Blk.mk n_1 47
 (arrI IntKind.u8 i 32 0)
 0,
 Blk.mk n 33 [Value.slice ap an ac, Value.slice dp dn dc] 0]
 w' W →
 ∃ (S : World → Prop),
 S W ∧
 ∃ (p : Option Addr),
 ∃ (n_3 : Nat),
 ∃ (c : Nat),
 (∀ (w' : World), S w' → w'.cell? (Addr.mk n (0 + 1) none) = some (Value.slice p n_3 c)) ∧
 (0 ≤ x ∧ x ≤ (↑c : Int)) ∧
 ∃ (p_1 : Option Addr),
 ∃ (n_4 : Nat),
 ∃ (c : Nat),
 (∀ (w' : World), S w' → w'.cell? (Addr.mk n (0 + 1) none) = some (Value.slice p_1 n_4 c)) ∧
 (0 ≤ IntKind.i64.wrap (x + 1) ∧ IntKind.i64.wrap (x + 1) ≤ (↑n_4 : Int)) ∧
 ∀ (n_5 : Nat) (w1 : World),
 NewB W (Obj.cells #[] 50) n_5 w1 →
 S w1 ∧
 ∃ (base : Nat),
 ∃ (xs : List Value),
 ∃ (news : List Value),
 w1.ownsRow base 50 54 (Value.slice (some (Addr.mk n_5 0 none)) 0 0) 0 xs ∧
 news.length = x.toNat * 54 ∧
 SrcP w1 p news ∧
 0 + x.toNat ≤ 9223372036854775807 ∧
 (0 + x.toNat) * 120 ≤ 140737488355328 ∧
 base ≤ w1.heap.size ∧
 ∀ (p' : Option Addr) (c' : Nat) (w' : World),
 w'.ownsRow base 50 54 (Value.slice p' (0 + x.toNat) c') (0 + x.toNat) (xs ++ news) →
 w1.grownBy w' (Value.slice (some (Addr.mk n_5 0 none)) 0 0).ownBlock →
 (0 + x.toNat ≤ 0 → p' = some (Addr.mk n_5 0 none) ∧ c' = 0) →
 S w' ∧
 ∃ (base : Nat),
 ∃ (xs : List Value),
 ∃ (news : List Value),
 w'.ownsRow base 50 54 (Value.slice p' (0 + x.toNat) c') (0 + x.toNat) xs ∧
 news.length = (n_4 - (IntKind.i64.wrap (x + 1)).toNat) * 54 ∧
 SrcP w' (slA p_1 c (IntKind.i64.wrap (x + 1)).toNat 54) news ∧
 0 + x.toNat + (n_4 - (IntKind.i64.wrap (x + 1)).toNat) ≤
 9223372036854775807 ∧
 (0 + x.toNat + (n_4 - (IntKind.i64.wrap (x + 1)).toNat)) * 120 ≤
 140737488355328 ∧
 base ≤ w'.heap.size ∧
 ∀ (p'_1 : Option Addr) (c'_1 : Nat) (w'_1 : World),
 w'_1.ownsRow base 50 54
 (Value.slice p'_1
 (0 + x.toNat + (n_4 - (IntKind.i64.wrap (x + 1)).toNat)) c'_1)
 (0 + x.toNat + (n_4 - (IntKind.i64.wrap (x + 1)).toNat))
 (xs ++ news) →
 w'.grownBy w'_1 (Value.slice p' (0 + x.toNat) c').ownBlock →
 (0 + x.toNat + (n_4 - (IntKind.i64.wrap (x + 1)).toNat) ≤ c' →
 p'_1 = p' ∧ c'_1 = c') →
 ((∃ (u : Value), w'_1.cell? (Addr.mk n (0 + 1) none) = some u) ∧
 w'_1.frozen? (Addr.mk n (0 + 1) none) = false) ∧
 ∀ (w1 : World),
 PutB w'_1 n (0 + 1)
 [Value.slice p'_1
 (0 + x.toNat + (n_4 - (IntKind.i64.wrap (x + 1)).toNat)) c'_1]
 w1 →
 KeptL [n_2, n_1] W w1 ∧
 ∃ (p : Option Addr),
 ∃ (n_6 : Nat),
 ∃ (c : Nat),
 ∃ (p_2 : Option Addr),
 ∃ (n_7 : Nat),
 ∃ (c_1 : Nat),
 AtL w1 n 0 [Value.slice p n_6 c, Value.slice p_2 n_7 c_1] ∧
 ∀ (W : World),
 Loc w.heap.size
 [Blk.mk n_2 33
 [Value.slice p n_6 c, Value.slice p_2 n_7 c_1]
 (wrM 0),
 Blk.mk n_1 47
 (arrI IntKind.u8 i 32 0)
 0]
 w1 W →
 R
 (Ending.returned
 (Value.tuple
 #[Value.agg
 #[Value.slice p n_6 c, Value.slice p_2 n_7 c_1],
 Value.int IntKind.i64 0]))
 W)
theorem vc_xdrop (ap : Option Addr) (an : Nat) (ac : Nat) (dp : Option Addr) (dn : Nat) (dc : Nat) (i : Nat → Int) (w : World) (R : Ending → World → Prop) (h : VC_xdrop ap an ac dp dn dc i w R) : Calls Tryz.prog 48 ([Value.agg
    #[Value.slice ap an ac, Value.slice dp dn dc],
  Value.agg (arrI IntKind.u8 i 32 0).toArray] : List Value).toArray w R := by
  have e : execR2 { P := Tryz.prog, loops := [], pur := pur1, tails := [(4, 0)], joins := [], boxes := [] } Tryz.f48.results.toList R (Tryz.f48.body.getD .skip) (initF [Value.agg
    #[Value.slice ap an ac, Value.slice dp dn dc],
  Value.agg
    (arrI IntKind.u8 i 32
        0).toArray] (Tryz.f48.ntmps - ([Value.agg #[Value.slice ap an ac, Value.slice dp dn dc],
  Value.agg
    (arrI IntKind.u8 i 32 0).toArray] : List Value).length)) w = VC_xdrop ap an ac dp dn dc i w R := by kernel_rfl
  have hb : Tryz.f48.body = some (Tryz.f48.body.getD .skip) := by kernel_rfl
  exact calls_of_exec2' (P := Tryz.prog) (fn := Tryz.f48) (c := Tryz.f48.body.getD .skip) (args := [Value.agg
    #[Value.slice ap an ac, Value.slice dp dn dc],
  Value.agg (arrI IntKind.u8 i 32 0).toArray]) (w := w) (R := R) pur1_ok Tryz.func48 hb e h

end Go.Proofs.YtkkfnlehlkiejaaGreatDoor

/- Chapter 21: the contracts of the reference's find, Add, Drop. Lists that are not too long. -/
namespace Go.Proofs.YtkkfnlehlkiejaaGreatDoor
open Go.RowKit Go.Maps

theorem SrcP.take {w : World} {p : Option Addr} {xs : List Value} (h : SrcP w p xs) (m : Nat) : SrcP w p (xs.take m) := by
  refine ⟨fun j u hj => ?_, fun u hu => h.one u (List.mem_of_mem_take hu)⟩
  rw [List.getElem?_take] at hj
  split at hj
  · exact h.cells j u hj
  · cases hj
theorem SrcP.drop {w : World} {p : Option Addr} {xs : List Value} (h : SrcP w p xs) {c i sz : Nat} (hi : xs.length ≤ c * sz) : SrcP w (slA p c i sz) (xs.drop (i * sz)) := by
  refine ⟨fun j u hj => ?_, fun u hu => h.one u (List.mem_of_mem_drop hu)⟩
  rw [List.getElem?_drop] at hj
  have hlt := (List.getElem?_eq_some_iff.1 hj).1
  have hne : ¬ c = i := fun e => by subst e; omega
  obtain ⟨b, o, hp, hc⟩ := h.cells _ u hj
  refine ⟨b, o + i * sz, ?_, by rw [Nat.add_assoc]; exact hc⟩
  unfold slA
  rw [if_neg hne, hp]
  simp [add_plain]
/-- The reference's definitions in the memory. -/
structure SR (w : World) (ds : List DX) (p : Option Addr) (c : Nat) : Prop where
  row : RowA dfC 54 w p ds
  ms : ∀ x ∈ ds, RowA auC 16 w x.p x.d.ms
  ok : ∀ x ∈ ds, dchk x.d = 0 ∧ x.d.ms.length ≤ x.c ∧ x.d.OK
  le : ds.length ≤ c
section
variable {w w' : World} {p : Option Addr} {c : Nat} {ds : List DX}
theorem SR.k0 (h : SR w ds p c) (hk : K0 w w') : SR w' ds p c := ⟨h.row.k0 hk, fun x hx => (h.ms x hx).k0 hk, h.ok, h.le⟩
theorem SR.kpM {mb c0 : Nat} {es : Array MapEntry} (h : SR w ds p c) (hk : Kp (· = mb) w w') (hm : w.heap[mb]? = some (.map es c0)) : SR w' ds p c := ⟨h.row.kpM hk hm, fun x hx => (h.ms x hx).kpM hk hm, h.ok, h.le⟩
theorem SR.src (h : SR w ds p c) : SrcP w p (ds.flatMap dfC) := src_rowA h.row dfC_length dfC_one (by decide)
theorem SR.own {base : Nat} (ho : w.ownsRow base 50 54 (.slice p ds.length c) ds.length (ds.flatMap dfC)) (hs : ∀ x ∈ ds, RowA auC 16 w x.p x.d.ms) (hk : ∀ x ∈ ds, dchk x.d = 0 ∧ x.d.ms.length ≤ x.c ∧ x.d.OK) : SR w ds p c :=
  ⟨RowA.own ho dfC_length (by decide), hs, hk, own_le ho⟩
theorem SR.nil (w : World) : SR w [] none 0 := ⟨.nil, (fun x hx => by cases hx), (fun x hx => by cases hx), Nat.le_refl _⟩
end
set_option maxHeartbeats 1000000 in
theorem xfind_any (A : List Au) (ap : Option Addr) (ac : Nat) (ds : List DX) (p : Option Addr) (c : Nat) (f : Nat → Int) (w : World) (hR : SR w ds p c) (hl : ds.length ≤ 1000000) (hf : BY f) :
    Calls Tryz.prog 70 #[.agg #[.slice ap A.length ac, .slice p ds.length c], .agg (arrI .u8 f 32 0).toArray] w fun e w' => ((e = .returned (.int .i64 (-1)) ∧ ∀ y ∈ ds, idI y.d.id ≠ idI f) ∨ ∃ (i : Nat) (y : DX), e = .returned (.int .i64 (i : Int)) ∧ ds[i]? = some y ∧ idI y.d.id = idI f) ∧ K0 w w' := by
  refine vc_xfind ap A.length ac p ds.length c f w _ (fun n1 n2 W hW => ?_)
  have kW : K0 w W := hW.kk rfl
  refine ⟨fun vs w' => ∃ i : Nat, vs = [.int .i64 (i : Int)] ∧ i ≤ ds.length ∧ (∀ j y, j < i → ds[j]? = some y → idI y.d.id ≠ idI f) ∧ K0 w w', fun vs _ => (match vs with | .int _ a :: _ => ds.length - a.toNat | _ => 0), ⟨0, rfl, by omega, (fun j y h => by omega), kW⟩, ?_⟩
  rintro a w1 ⟨i, hv, hi, hno, k1⟩ hL1
  simp only [List.cons.injEq, Value.int.injEq, true_and, and_true] at hv
  subst hv
  refine bsp_intro (fun hlt => ?_) (fun hge => ?_)
  · have hlt : i < ds.length := by simp at hlt; omega
    obtain ⟨y, b, o, hy, hp, hat⟩ := (hR.k0 k1).row.get hlt
    have oy := (hR.ok y (List.mem_of_getElem? hy)).2.2
    have hc : ∀ wx, K0 w1 wx → AtL wx b (o + i * 54) (arrI .u8 y.d.id 32 0) := fun wx k => by
      have h2 : AtL wx b (o + i * 54) (arrI .u8 y.d.id 32 0 ++ (arrI .u8 y.d.au 16 0 ++ ([.string y.d.g, .int .i64 y.d.v, .bool y.d.rm, .bool y.d.md, .slice y.p y.d.ms.length y.c, .string y.d.tx] : List Value))) := hat.k0 k
      exact h2.left
    refine nn_is hp ⟨⟨by omega, by omega⟩, y.d.id, fun W2 hW2 => by rw [Int.toNat_natCast]; exact hc W2 (hW2.kk rfl), _, idEqR oy.id hf, bsp_intro (fun h => fun W2 hW2 => ?_) (fun h => fun W2 hW2 => ?_)⟩
    · exact ⟨.inr ⟨i, y, rfl, hy, by simpa using h⟩, k1.trans (hW2.kk rfl)⟩
    · have h : idI y.d.id ≠ idI f := by simpa using h
      refine ⟨⟨i + 1, by rw [inc64 (by omega)], by omega, fun j z hj hz => ?_, k1.trans (hW2.kk rfl)⟩, by rw [inc64 (by omega)]; simp only [Int.toNat_natCast]; omega⟩
      by_cases e : j = i
      · subst e; rw [hy] at hz; cases hz; exact h
      · exact hno j z (by omega) hz
  · have hi : i = ds.length := by simp at hge; omega
    refine ⟨.inl ⟨rfl, fun y hy => ?_⟩, k1⟩
    obtain ⟨j, hj, e⟩ := List.getElem_of_mem hy
    exact hno j y (by omega) (by rw [List.getElem?_eq_getElem hj, e])
/-- What the reference's Add answers. -/
def xaddE (A : List Au) (ds : List DX) (d : Df) : Int := if dchk d ≠ 0 then dchk d else if isAu A d.g d.au = false then 20 else if ds.any (fun y => decide (idI y.d.id = idI d.id)) = true then 7 else if 4096 ≤ ds.length then 9 else 0
theorem own_n {n k : Nat} (h : (Value.slice (some (Addr.mk n 0 none)) 0 0).ownBlock = some k) : k = n := by simp [Value.ownBlock] at h; exact h.symm
theorem app_dx {w : World} {base c : Nat} {p : Option Addr} {L : List DX} {x : DX} (h : w.ownsRow base 50 54 (.slice p (0 + L.length + 1) c) (0 + L.length + 1) (L.flatMap dfC ++ dfC x)) : w.ownsRow base 50 54 (.slice p (L ++ [x]).length c) (L ++ [x]).length ((L ++ [x]).flatMap dfC) := by
  have e1 : (L ++ [x]).length = 0 + L.length + 1 := by simp
  have e2 : (L ++ [x]).flatMap dfC = L.flatMap dfC ++ dfC x := by simp
  rw [e1, e2]; exact h
set_option maxRecDepth 100000 in
set_option maxHeartbeats 8000000 in
theorem xadd_any (A : List Au) (ap : Option Addr) (ac : Nat) (L : List DX) (p : Option Addr) (c : Nat) (x : DX) (w : World) (hA : RowA atC 17 w ap A) (hb : ∀ x ∈ A, BY x.au) (hl : A.length ≤ 64) (hL : ∀ x ∈ A, ∃ es, listR x.pt = .inl es) (hsz : ∀ x ∈ A, x.pt.size ≤ 1073741824) (hS : SR w L p c) (hdl : L.length ≤ 1000000) (hR : RowA auC 16 w x.p x.d.ms) (ho : x.d.OK) :
    Calls Tryz.prog 49 #[.agg #[.slice ap A.length ac, .slice p L.length c], dfV x] w fun e w' => ((xaddE A L x.d ≠ 0 ∧ e = .returned (.tuple #[.agg #[.slice ap A.length ac, .slice p L.length c], .int .i64 (xaddE A L x.d)])) ∨
      (xaddE A L x.d = 0 ∧ ∃ (p' : Option Addr) (c' : Nat), e = .returned (.tuple #[.agg #[.slice ap A.length ac, .slice p' (L ++ [x]).length c'], .int .i64 0]) ∧
      w'.ownsRow w.heap.size 50 54 (.slice p' (L ++ [x]).length c') (L ++ [x]).length ((L ++ [x]).flatMap dfC))) ∧ K0 w w' := by
  refine vc_xadd ap A.length ac p L.length c x.d.id x.d.au x.d.g x.d.v x.d.rm x.d.md x.p x.d.ms.length x.c x.d.tx w _ (fun n1 n2 n3 W hW => ?_)
  have kW : K0 w W := hW.kk rfl
  have g1 : w.heap.size ≤ n1 := hW.fresh 2 rfl rfl
  refine ⟨(xcheck_any x W (hR.k0 kW) ho).mono fun e w1 ⟨he, k1⟩ => ⟨_, he, .of_k0 k1, bsp_intro (fun h => fun W2 hW2 => ?_) (fun h => ?_)⟩⟩
  · have h0 : dchk x.d ≠ 0 := by simpa using h
    have e0 : xaddE A L x.d = dchk x.d := by unfold xaddE; rw [if_pos h0]
    rw [e0]
    exact ⟨.inl ⟨h0, rfl⟩, hW2.k0 (kW.trans k1)⟩
  have h0 : dchk x.d = 0 := by simpa using h
  have hgs := gnE_sz (dchk_sz h0).1
  have k01 := kW.trans k1
  refine ⟨(xauth_any A ap ac p L.length c x.d.g x.d.au w1 (hA.k0 k01) hb hl hL hsz ho.au (by omega)).mono fun e w2 ⟨he, k2⟩ => ⟨_, he, .of_k0 k2, bsp_intro (fun h => fun W2 hW2 => ?_) (fun h => ?_)⟩⟩
  · have h1 : isAu A x.d.g x.d.au = false := by simpa using h
    have e0 : xaddE A L x.d = 20 := by unfold xaddE; rw [if_neg (by simpa using h0), if_pos h1]
    rw [e0]
    exact ⟨.inl ⟨by decide, rfl⟩, hW2.k0 (k01.trans k2)⟩
  have h1 : ¬ isAu A x.d.g x.d.au = false := by simpa using h
  have k02 := k01.trans k2
  refine ⟨(xfind_any A ap ac L p c x.d.id w2 (hS.k0 k02) hdl ho.id).mono fun e w3 ⟨hf, k3⟩ => ?_⟩
  have k03 := k02.trans k3
  rcases hf with ⟨he, hno⟩ | ⟨i, y, he, hy, hya⟩
  rotate_left
  · have h2 : L.any (fun y => decide (idI y.d.id = idI x.d.id)) = true := List.any_eq_true.2 ⟨y, List.mem_of_getElem? hy, by simpa using hya⟩
    have e0 : xaddE A L x.d = 7 := by unfold xaddE; rw [if_neg (by simpa using h0), if_neg h1, if_pos h2]
    rw [e0]
    exact ⟨_, he, .of_k0 k3, bsp_intro (fun _ => fun W4 hW4 => ⟨.inl ⟨by decide, rfl⟩, hW4.k0 k03⟩) (fun h => by simp at h)⟩
  have h2 : ¬ L.any (fun y => decide (idI y.d.id = idI x.d.id)) = true := fun h => by
    obtain ⟨y, hy, h⟩ := List.any_eq_true.1 h
    exact hno y hy (by simpa using h)
  refine ⟨_, he, .of_k0 k3, bsp_intro (fun h => by simp at h) (fun _ => bsp_intro (fun h => fun W4 hW4 => ?_) (fun h => fun W4 hW4 => ?_))⟩
  · have h3 : 4096 ≤ L.length := by simp at h; omega
    have e0 : xaddE A L x.d = 9 := by unfold xaddE; rw [if_neg (by simpa using h0), if_neg h1, if_neg h2, if_pos h3]
    rw [e0]
    exact ⟨.inl ⟨by decide, rfl⟩, hW4.k0 k03⟩
  have h3 : ¬ 4096 ≤ L.length := by simp at h; omega
  have e0 : xaddE A L x.d = 0 := by unfold xaddE; rw [if_neg (by simpa using h0), if_neg h1, if_neg h2, if_neg h3]
  have k4 : K0 w3 W4 := hW4.kk rfl
  have k04 := k03.trans k4
  have hb1 : W4.heap[n1]? = some (.cells #[.slice ap A.length ac, .slice p L.length c] 33 (0, 0)) := hW4.cells 2 rfl
  have hb2 : W4.heap[n2]? = some (.cells (dfC x).toArray 50 (0, 0)) := hW4.cells 1 rfl
  have hb3 := block_lt (hW4.cells 0 rfl)
  simp only at hb3
  have h12 : n2 ≠ n1 := hW4.apart 1 2 rfl rfl (by decide)
  have h13 : n3 ≠ n1 := hW4.apart 0 2 rfl rfl (by decide)
  have l1 := block_lt hb1
  have l2 := block_lt hb2
  have hSW := hS.k0 k04
  have sz := k04.size
  have hlen : (L.flatMap dfC).length = L.length * 54 := dfC_flat L
  have one : ∀ u ∈ dfC x, u.oneCell' = true := dfC_one x
  refine ⟨fun wx => K0 W4 wx, .refl _ _, p, L.length, c, fun wx k => cell_at (k.blk hb1 (fun h => h)) rfl, x.d.id, x.d.au, x.d.g, x.d.v, x.d.rm, x.d.md, x.p, x.d.ms.length, x.c, x.d.tx, fun wx k => AtL_block (k.blk hb2 (fun h => h)) rfl, ?_⟩
  refine ⟨fun n5 w1 h5 => ⟨h5.kp _, ⟨W4.heap.size, [], L.flatMap dfC, own_none h5.ge h5.block, hlen, (hSW.k0 (h5.kp _)).src, by omega, by omega, (h5.kp (fun _ => False)).size, fun p3 c3 w2 ho2 hg2 _ => ?_⟩, fun n6 w2 h6 => ⟨(h5.kp _).trans (h6.kp _), W4.heap.size, [], L.flatMap dfC, own_none h5.ge ((h6.kp (fun _ => False)).blk h5.block (fun h => h)), hlen, (hSW.k0 ((h5.kp _).trans (h6.kp _))).src, by omega, by omega, ((h5.kp (fun _ => False)).trans (h6.kp _)).size, fun p3 c3 w3 ho3 hg3 _ => ?_⟩⟩,
    fun n5 w1 h5 => ⟨h5.kp _, fun n6 w2 h6 => ⟨(h5.kp _).trans (h6.kp _), W4.heap.size, [], L.flatMap dfC, own_none (Nat.le_trans (h5.kp (fun _ => False)).size h6.ge) h6.block, hlen, (hSW.k0 ((h5.kp _).trans (h6.kp _))).src, by omega, by omega, ((h5.kp (fun _ => False)).trans (h6.kp _)).size, fun p3 c3 w3 ho3 hg3 _ => ?_⟩⟩⟩
  rw [List.nil_append] at ho2
  have k2 : K0 W4 w2 := (h5.kp _).fresh (kp_grown hg2) (fun j hj e => by have := own_n e; have := h5.ge; omega)
  refine ⟨k2, fun n6 w3 h6 => ⟨k2.trans (h6.kp _), W4.heap.size, _, _, owns_kp ho2 (h6.kp (fun _ => False)) (fun _ _ h => h), rfl, src_block h6.block one, by omega, by omega, (k2.trans (h6.kp (fun _ => False))).size, fun p7 c7 w4 ho4 hg4 _ => ?_⟩⟩
  have k4 : K0 W4 w4 := (k2.trans (h6.kp _)).fresh (kp_grown hg4) (fun j hj e => by have := own_ge ho2 e; omega)
  have ho4 : w4.ownsRow W4.heap.size 50 54 (.slice p7 (0 + L.length + 1) c7) (0 + L.length + 1) (L.flatMap dfC ++ dfC x) := ho4
  clear ho2 hg2 h6 hg4 h5 k2
  rotate_left
  rw [List.nil_append] at ho3
  have k3 : K0 W4 w3 := ((h5.kp _).trans (h6.kp _)).fresh (kp_grown hg3) (fun j hj e => by have := own_n e; have := h5.ge; omega)
  refine ⟨k3, W4.heap.size, _, _, ho3, rfl, src_block ((kp_grown hg3).blk h6.block (fun e => by have := own_n e; have := h6.ge; have := h5.size; omega)) one, by omega, by omega, k3.size, fun p7 c7 w4 ho4 hg4 _ => ?_⟩
  have k4 : K0 W4 w4 := k3.fresh (kp_grown hg4) (fun j hj e => by have := own_ge ho3 e; omega)
  have ho4 : w4.ownsRow W4.heap.size 50 54 (.slice p7 (0 + L.length + 1) c7) (0 + L.length + 1) (L.flatMap dfC ++ dfC x) := ho4
  clear ho3 hg3 h6 hg4 h5 k3
  rotate_left
  rw [List.nil_append] at ho3
  have k3 : K0 W4 w3 := ((h5.kp _).trans (h6.kp _)).fresh (kp_grown hg3) (fun j hj e => by have := own_n e; have := h6.ge; have := h5.size; have := h5.ge; omega)
  refine ⟨k3, W4.heap.size, _, _, ho3, rfl, src_block ((kp_grown hg3).blk ((h6.kp (fun _ => False)).blk h5.block (fun h => h)) (fun e => by have := own_n e; have := h6.ge; have := h5.size; omega)) one, by omega, by omega, k3.size, fun p7 c7 w4 ho4 hg4 _ => ?_⟩
  have k4 : K0 W4 w4 := k3.fresh (kp_grown hg4) (fun j hj e => by have := own_ge ho3 e; omega)
  have ho4 : w4.ownsRow W4.heap.size 50 54 (.slice p7 (0 + L.length + 1) c7) (0 + L.length + 1) (L.flatMap dfC ++ dfC x) := ho4
  clear ho3 hg3 h6 hg4 h5 k3
  rotate_left
  all_goals
    have hc4 := k4.blk hb1 (fun h => h)
    have ho4' := app_dx ho4
    refine ⟨cell_wr hc4 (by show 0 + 1 < 2; omega), fun w5 h5 => ⟨⟨by rw [h5.size]; exact k4.size, fun y hy hlt => ?_⟩, ap, A.length, ac, p7, (L ++ [x]).length, c7, AtL_block (h5.block hc4) (by rw [show (L ++ [x]).length = 0 + L.length + 1 by simp]; rfl), fun W6 hW6 => ⟨.inr ⟨e0, p7, c7, rfl, ?_⟩, ?_⟩⟩⟩
    · have hy : y = n3 ∨ y = n2 := by simpa using hy
      rw [h5.kp.block y (Nat.lt_of_lt_of_le hlt k4.size) (fun e => by omega), k4.block y hlt (fun h => h)]
    · refine own_base (own_loc (owns_kp ho4' h5.kp (fun k hk e => ?_)) hW6 (fun b hb e => ?_)) sz
      · have := own_ge ho4' hk; omega
      · have h1 := own_ge ho4' e
        simp at hb
        rcases hb with rfl | rfl
        · simp only at h1; omega
        · simp only at h1; omega
    · exact hW6.k0 (put_k0 (k04.trans k4) h5 g1)
theorem erase_flat21 (L : List DX) (i : Nat) : (L.flatMap dfC).take (i * 54) ++ (L.flatMap dfC).drop ((i + 1) * 54) = (L.eraseIdx i).flatMap dfC := erase_flat dfC 54 L i dfC_length
set_option maxRecDepth 100000 in
set_option maxHeartbeats 4000000 in
theorem xdrop_any (A : List Au) (ap : Option Addr) (ac : Nat) (L : List DX) (p : Option Addr) (c : Nat) (f : Nat → Int) (w : World) (hS : SR w L p c) (hl : L.length ≤ 1000000) (hf : BY f) :
    Calls Tryz.prog 48 #[.agg #[.slice ap A.length ac, .slice p L.length c], .agg (arrI .u8 f 32 0).toArray] w fun e w' => ((e = .returned (.tuple #[.agg #[.slice ap A.length ac, .slice p L.length c], .int .i64 8]) ∧ ∀ y ∈ L, idI y.d.id ≠ idI f) ∨
      ∃ (i : Nat) (y : DX) (p' : Option Addr) (c' : Nat), e = .returned (.tuple #[.agg #[.slice ap A.length ac, .slice p' (L.eraseIdx i).length c'], .int .i64 0]) ∧ L[i]? = some y ∧ idI y.d.id = idI f ∧ w'.ownsRow w.heap.size 50 54 (.slice p' (L.eraseIdx i).length c') (L.eraseIdx i).length ((L.eraseIdx i).flatMap dfC)) ∧ K0 w w' := by
  refine vc_xdrop ap A.length ac p L.length c f w _ (fun n1 n2 n3 W hW => ?_)
  have kW : K0 w W := hW.kk rfl
  have g1 : w.heap.size ≤ n1 := hW.fresh 2 rfl rfl
  refine ⟨(xfind_any A ap ac L p c f W (hS.k0 kW) hl hf).mono fun e w1 ⟨h, k1⟩ => ?_⟩
  rcases h with ⟨he, hno⟩ | ⟨i, y, he, hy, hn⟩
  · refine ⟨_, he, .of_k0 k1, bsp_intro (fun _ => fun W2 hW2 => ?_) (fun h => by simp at h)⟩
    exact ⟨.inl ⟨rfl, hno⟩, hW2.k0 (kW.trans k1)⟩
  · refine ⟨_, he, .of_k0 k1, bsp_intro (fun h => by simp at h; omega) (fun _ => fun W2 hW2 => ?_)⟩
    have hi : i < L.length := (List.getElem?_eq_some_iff.1 hy).1
    have k2 : K0 w1 W2 := hW2.kk rfl
    have k02 := (kW.trans k1).trans k2
    have hb1 : W2.heap[n1]? = some (.cells #[.slice ap A.length ac, .slice p L.length c] 33 (0, 0)) := hW2.cells 2 rfl
    have l1 := block_lt hb1
    have l2 := block_lt (hW2.cells 1 rfl)
    have l3 := block_lt (hW2.cells 0 rfl)
    simp only at l2 l3
    have h12 : n2 ≠ n1 := hW2.apart 1 2 rfl rfl (by decide)
    have h13 : n3 ≠ n1 := hW2.apart 0 2 rfl rfl (by decide)
    have hR2 := hS.k0 k02
    have hlen : (L.flatMap dfC).length = L.length * 54 := dfC_flat L
    rw [inc64 (by omega), Int.toNat_natCast, Int.toNat_natCast]
    have hle := hS.le
    refine ⟨fun wx => K0 W2 wx, .refl _ _, p, L.length, c, fun wx k => cell_at (k.blk hb1 (fun h => h)) rfl, ⟨by omega, by omega⟩, p, L.length, c, fun wx k => cell_at (k.blk hb1 (fun h => h)) rfl, ⟨by omega, by omega⟩, fun n5 w3 h3 => ⟨h3.kp _, W2.heap.size, [], (L.flatMap dfC).take (i * 54), own_none h3.ge h3.block, ?_, ((hR2.k0 (h3.kp _)).src).take _, by omega, by omega, (h3.kp (fun _ => False)).size, fun p4 c4 w4 ho4 hg4 _ => ?_⟩⟩
    · rw [List.length_take, hlen]; exact Nat.min_eq_left (Nat.mul_le_mul_right _ (by omega))
    rw [List.nil_append] at ho4
    have k4 : K0 W2 w4 := (h3.kp _).fresh (kp_grown hg4) (fun j hj e => by have := own_n e; have := h3.ge; omega)
    refine ⟨k4, W2.heap.size, _, (L.flatMap dfC).drop ((i + 1) * 54), ho4, ?_, ((hR2.k0 k4).src).drop (by rw [hlen]; omega), by omega, by omega, k4.size, fun p5 c5 w5 ho5 hg5 _ => ?_⟩
    · rw [List.length_drop, hlen, Nat.sub_mul]
    have k5 : K0 W2 w5 := k4.fresh (kp_grown hg5) (fun j hj e => by have := own_ge ho4 e; omega)
    have em : 0 + i + (L.length - (i + 1)) = (L.eraseIdx i).length := by rw [List.length_eraseIdx_of_lt hi]; omega
    rw [erase_flat21 L i, em] at ho5
    rw [em]
    have hc5 := k5.blk hb1 (fun h => h)
    refine ⟨cell_wr hc5 (by show 0 + 1 < 2; omega), fun w6 h6 => ⟨⟨by rw [h6.size]; exact k5.size, fun z hz hlt => ?_⟩, ap, A.length, ac, p5, (L.eraseIdx i).length, c5, AtL_block (h6.block hc5) rfl, fun W7 hW7 => ⟨.inr ⟨i, y, p5, c5, rfl, hy, hn, ?_⟩, ?_⟩⟩⟩
    · have hz : z = n3 ∨ z = n2 := by simpa using hz
      rw [h6.kp.block z (Nat.lt_of_lt_of_le hlt k5.size) (fun e => by omega), k5.block z hlt (fun h => h)]
    · refine own_base (own_loc (owns_kp ho5 h6.kp (fun k hk e => ?_)) hW7 (fun b hb e => ?_)) k02.size
      · have := own_ge ho5 hk; omega
      · have h1 := own_ge ho5 e
        simp at hb
        rcases hb with rfl | rfl
        · simp only at h1; omega
        · simp only at h1; omega
    · exact hW7.k0 (put_k0 (k02.trans k5) h6 g1)

end Go.Proofs.YtkkfnlehlkiejaaGreatDoor

/- The formulas of functions by the symbolic evaluator, and that each gives the call's contract. Written by a program (gen.py). No condition. -/
namespace Go.Proofs.YtkkfnlehlkiejaaGreatDoor
set_option maxRecDepth 100000
set_option linter.unusedVariables false

def VC_lplay (ap : Option Addr) (an : Nat) (ac : Nat) (op : Option Addr) (on : Nat) (oc : Nat) (w : World) (R : Ending → World → Prop) : Prop :=
 ∀ (n n_1 : Nat) (W : World),
 Loc w.heap.size
 [Blk.mk n_1 33 [Value.slice none 0 0, Value.slice none 0 0] 2,
 Blk.mk n 42 [Value.slice ap an ac, Value.slice op on oc] 2]
 w W →
 CallsS Tryz.prog 12 #[Value.slice ap an ac] W fun (e : Ending) (w' : World) =>
 ∃ (p : Option Addr),
 ∃ (n_2 : Nat),
 ∃ (c : Nat),
 ∃ (p_1 : Option Addr),
 ∃ (n_3 : Nat),
 ∃ (c_1 : Nat),
 e = Ending.returned (Value.tuple #[Value.slice p n_2 c, Value.slice p_1 n_3 c_1]) ∧
 KeptL [n_1, n] W w' ∧
 CallsS Tryz.prog 13 #[Value.slice p n_2 c] w' fun (e : Ending) (w'_1 : World) =>
 ∃ (x : Option Addr),
 ∃ (x_1 : Int),
 ∃ (x_2 : Int),
 e =
 Ending.returned
 (Value.tuple #[Value.pointer x, Value.int IntKind.i64 x_1, Value.int IntKind.i64 x_2]) ∧
 KeptL [n_1, n] w' w'_1 ∧
 CallsS Tryz.prog 14 #[Value.slice p_1 n_3 c_1] w'_1 fun (e : Ending) (w' : World) =>
 ∃ (p : Option Addr),
 ∃ (n_4 : Nat),
 ∃ (c : Nat),
 ∃ (p_2 : Option Addr),
 ∃ (n_5 : Nat),
 ∃ (c_2 : Nat),
 ∃ (x_3 : Int),
 ∃ (x_4 : Int),
 e =
 Ending.returned
 (Value.tuple
 #[Value.agg #[Value.slice p n_4 c, Value.slice p_2 n_5 c_2], Value.int IntKind.i64 x_3,
 Value.int IntKind.i64 x_4]) ∧
 KeptL [n_1, n] w'_1 w' ∧
 bsp (x_1 != x_3 || x_2 != x_4 || !x.isNone == (x_4 != 0))
 (∀ (W : World),
 Loc w.heap.size
 [Blk.mk n_1 33 [Value.slice p n_4 c, Value.slice p_2 n_5 c_2] (wrM (wrM 0)),
 Blk.mk n 42 [Value.slice ap an ac, Value.slice op on oc] 0]
 w' W →
 R
 (Ending.returned
 (Value.tuple
 #[Value.pointer none, Value.agg #[Value.slice p n_4 c, Value.slice p_2 n_5 c_2],
 Value.bool false]))
 W)
 (∀ (W : World),
 Loc w.heap.size
 [Blk.mk n_1 33 [Value.slice p n_4 c, Value.slice p_2 n_5 c_2] (wrM 0),
 Blk.mk n 42 [Value.slice ap an ac, Value.slice op on oc] 0]
 w' W →
 ∃ (I : List Value → World → Prop),
 ∃ (m : List Value → World → Nat),
 I [Value.pointer x, Value.int IntKind.i64 0] W ∧
 ∀ (x : Option Addr) (x_5 : Int) (w' : World),
 I [Value.pointer x, Value.int IntKind.i64 x_5] w' →
 Loc w.heap.size [Blk.mk n 42 [Value.slice ap an ac, Value.slice op on oc] 0] w' w' →
 bsp (decide (x_5 < (↑on : Int)) && decide (x_5 < 30) && !x.isNone)
 (nn true op fun (b o : Nat) =>
 (0 ≤ x_5 ∧ x_5 < (↑on : Int)) ∧
 ∃ (f : Nat → Int),
 ∃ (f_1 : Nat → Int),
 ∃ (x_6 : ByteArray),
 ∃ (x_7 : Int),
 ∃ (x_8 : Bool),
 ∃ (x_9 : Bool),
 ∃ (p : Option Addr),
 ∃ (n_6 : Nat),
 ∃ (c : Nat),
 ∃ (x_10 : ByteArray),
 AtL w' b (o + x_5.toNat * 55 + 1)
 (arrI IntKind.u8 f 32 0 ++ (arrI IntKind.u8 f_1 16 0 ++ [Value.string x_6, Value.int IntKind.i64 x_7, Value.bool x_8,
 Value.bool x_9, Value.slice p n_6 c, Value.string x_10])) ∧
 CallsS Tryz.prog 23
 #[Value.agg
 (arrI IntKind.u8 f 32 0 ++ (arrI IntKind.u8 f_1 16 0 ++ [Value.string x_6, Value.int IntKind.i64 x_7, Value.bool x_8,
 Value.bool x_9, Value.slice p n_6 c, Value.string x_10])).toArray]
 w' fun (e : Ending) (w'_2 : World) =>
 ∃ (f : Nat → Int),
 ∃ (f_2 : Nat → Int),
 ∃ (x_11 : ByteArray),
 ∃ (x_12 : Int),
 ∃ (x_13 : Bool),
 ∃ (x_14 : Bool),
 ∃ (p : Option Addr),
 ∃ (n_7 : Nat),
 ∃ (c : Nat),
 ∃ (x_15 : ByteArray),
 e =
 Ending.returned
 (Value.agg
 (arrI IntKind.u8 f 32 0 ++ (arrI IntKind.u8 f_2 16 0 ++ [Value.string x_11,
 Value.int IntKind.i64 x_12, Value.bool x_13,
 Value.bool x_14, Value.slice p n_7 c,
 Value.string x_15])).toArray) ∧
 KeptL [n] w' w'_2 ∧
 ∀ (n_8 : Nat),
 nn true op fun (b o : Nat) =>
 (0 ≤ x_5 ∧ x_5 < (↑on : Int)) ∧
 ∃ (x_16 : Bool),
 (∀ (W : World),
 Loc w.heap.size
 [Blk.mk n 42
 [Value.slice ap an ac, Value.slice op on oc]
 0,
 Blk.mk n_8 56
 (arrI IntKind.u8 f 32 0 ++ (arrI IntKind.u8 f_2 16 0 ++ [Value.string x_11,
 Value.int IntKind.i64 x_12, Value.bool x_13,
 Value.bool x_14, Value.slice p n_7 c,
 Value.string x_15]))
 (wrM 2)]
 w'_2 W →
 W.cell? (Addr.mk b (o + x_5.toNat * 55) none) =
 some (Value.bool x_16)) ∧
 bsp x_16
 (∃ (p_3 : Option Addr),
 ∃ (n_9 : Nat),
 ∃ (c_3 : Nat),
 ∃ (p_4 : Option Addr),
 ∃ (n_10 : Nat),
 ∃ (c_4 : Nat),
 (∀ (W : World),
 Loc w.heap.size
 [Blk.mk n 42
 [Value.slice ap an ac,
 Value.slice op on oc]
 0,
 Blk.mk n_8 56
 (arrI IntKind.u8 f 32 0 ++ (arrI IntKind.u8 f_2 16 0 ++ [Value.string x_11,
 Value.int IntKind.i64 x_12,
 Value.bool x_13, Value.bool x_14,
 Value.slice p n_7 c,
 Value.string x_15]))
 (wrM 2)]
 w'_2 W →
 AtL W n_1 0
 [Value.slice p_3 n_9 c_3,
 Value.slice p_4 n_10 c_4]) ∧
 ∀ (W : World),
 Loc w.heap.size
 [Blk.mk n 42
 [Value.slice ap an ac,
 Value.slice op on oc]
 0,
 Blk.mk n_8 56
 (arrI IntKind.u8 f 32 0 ++ (arrI IntKind.u8 f_2 16 0 ++ [Value.string x_11,
 Value.int IntKind.i64 x_12,
 Value.bool x_13, Value.bool x_14,
 Value.slice p n_7 c,
 Value.string x_15]))
 (wrM 2)]
 w'_2 W →
 CallsS Tryz.prog 48
 #[Value.agg
 #[Value.slice p_3 n_9 c_3,
 Value.slice p_4 n_10 c_4],
 Value.agg
 (arrI IntKind.u8 f 32 0).toArray]
 W fun (e : Ending) (w'_3 : World) =>
 ∃ (p_5 : Option Addr),
 ∃ (n_11 : Nat),
 ∃ (c_5 : Nat),
 ∃ (p_6 : Option Addr),
 ∃ (n_12 : Nat),
 ∃ (c_6 : Nat),
 ∃ (x_17 : Int),
 e =
 Ending.returned
 (Value.tuple
 #[Value.agg
 #[Value.slice p_5 n_11 c_5,
 Value.slice p_6 n_12 c_6],
 Value.int IntKind.i64
 x_17]) ∧
 KeptL [n, n_8] W w'_3 ∧
 WrL w'_3 n_1 0 2 ∧
 ∀ (w1 : World),
 PutB w'_3 n_1 0
 [Value.slice p_5 n_11 c_5,
 Value.slice p_6 n_12 c_6]
 w1 →
 KeptL [n, n_8] w'_3 w1 ∧
 CallsS Tryz.prog 43
 #[Value.pointer x,
 Value.agg
 (arrI IntKind.u8 f 32 0).toArray]
 w1
 fun (e : Ending)
 (w'_4 : World) =>
 ∃ (x_18 : Int),
 e =
 Ending.returned
 (Value.int IntKind.i64
 x_18) ∧
 KeptL [n, n_8] w1 w'_4 ∧
 bsp (x_18 != x_17)
 (∃ (p_7 :
 Option Addr),
 ∃ (n_13 : Nat),
 ∃ (c_7 : Nat),
 ∃ (p_8 :
 Option Addr),
 ∃ (n_14 : Nat),
 ∃ (c_8 : Nat),
 (∀ (W : World),
 Loc
 w.heap.size
 [Blk.mk n 42
 [Value.slice
 ap an
 ac,
 Value.slice
 op on
 oc]
 0,
 Blk.mk n_8
 56
 (arrI IntKind.u8 f 32 0 ++ (arrI IntKind.u8 f_2 16 0 ++ [Value.string
 x_11,
 Value.int
 IntKind.i64
 x_12,
 Value.bool
 x_13,
 Value.bool
 x_14,
 Value.slice
 p n_7 c,
 Value.string
 x_15]))
 0]
 w'_4 W →
 AtL W n_1 0
 [Value.slice
 p_7 n_13
 c_7,
 Value.slice
 p_8 n_14
 c_8]) ∧
 ∀ (W : World),
 Loc
 w.heap.size
 [Blk.mk n 42
 [Value.slice
 ap an
 ac,
 Value.slice
 op on
 oc]
 0,
 Blk.mk n_8
 56
 (arrI IntKind.u8 f 32 0 ++ (arrI IntKind.u8 f_2 16 0 ++ [Value.string
 x_11,
 Value.int
 IntKind.i64
 x_12,
 Value.bool
 x_13,
 Value.bool
 x_14,
 Value.slice
 p n_7 c,
 Value.string
 x_15]))
 0]
 w'_4 W →
 WrL W n_1 0
 2 ∧
 ∀
 (w1 :
 World),
 PutB W n_1
 0
 [Value.slice
 p_7
 n_13
 c_7,
 Value.slice
 p_8
 n_14
 c_8]
 w1 →
 KeptL
 [n, n_8]
 W w1 ∧
 ∃ (p :
 Option
 Addr),
 ∃ (n :
 Nat),
 ∃ (c :
 Nat),
 ∃ (p_9
 :
 Option
 Addr),
 ∃
 (n_15
 :
 Nat),
 ∃
 (c_9
 :
 Nat),
 AtL
 w1
 n_1
 0
 [Value.slice
 p
 n
 c,
 Value.slice
 p_9
 n_15
 c_9] ∧
 R
 (Ending.returned
 (Value.tuple
 #[Value.pointer
 x,
 Value.agg
 #[Value.slice
 p
 n
 c,
 Value.slice
 p_9
 n_15
 c_9],
 Value.bool
 false]))
 w1)
 (I
 [Value.pointer x,
 Value.int
 IntKind.i64
 (IntKind.i64.wrap
 (x_5 + 1))]
 w'_4 ∧
 m
 [Value.pointer x,
 Value.int
 IntKind.i64
 (IntKind.i64.wrap
 (x_5 + 1))]
 w'_4 <
 m
 [Value.pointer x,
 Value.int
 IntKind.i64 x_5]
 w'))
 (∀ (W : World),
 Loc w.heap.size
 [Blk.mk n 42
 [Value.slice ap an ac, Value.slice op on oc]
 0,
 Blk.mk n_8 56
 (arrI IntKind.u8 f 32 0 ++ (arrI IntKind.u8 f_2 16 0 ++ [Value.string x_11,
 Value.int IntKind.i64 x_12, Value.bool x_13,
 Value.bool x_14, Value.slice p n_7 c,
 Value.string x_15]))
 (wrM 2)]
 w'_2 W →
 ∃ (S : World → Prop),
 S W ∧
 ∃ (p_3 : Option Addr),
 ∃ (n_9 : Nat),
 ∃ (c_3 : Nat),
 ∃ (p_4 : Option Addr),
 ∃ (n_10 : Nat),
 ∃ (c_4 : Nat),
 (∀ (w' : World),
 S w' →
 AtL w' n_1 0
 [Value.slice p_3 n_9 c_3,
 Value.slice p_4 n_10 c_4]) ∧
 ∃ (f_3 : Nat → Int),
 ∃ (f_4 : Nat → Int),
 ∃ (x_17 : ByteArray),
 ∃ (x_18 : Int),
 ∃ (x_19 : Bool),
 ∃ (x_20 : Bool),
 ∃ (p_5 : Option Addr),
 ∃ (n_11 : Nat),
 ∃ (c_5 : Nat),
 ∃ (x_21 : ByteArray),
 (∀ (w' : World),
 S w' →
 AtL w' n_8 0
 (arrI IntKind.u8 f_3 32 0 ++ (arrI IntKind.u8 f_4 16 0 ++ [Value.string x_17,
 Value.int IntKind.i64
 x_18,
 Value.bool x_19,
 Value.bool x_20,
 Value.slice p_5 n_11
 c_5,
 Value.string x_21]))) ∧
 CallsS Tryz.prog 26
 #[Value.agg
 (arrI IntKind.u8 f_3 32 0 ++ (arrI IntKind.u8 f_4 16 0 ++ [Value.string x_17,
 Value.int IntKind.i64
 x_18,
 Value.bool x_19,
 Value.bool x_20,
 Value.slice p_5 n_11
 c_5,
 Value.string x_21])).toArray]
 W
 fun (e : Ending)
 (w'_3 : World) =>
 ∃ (f_5 : Nat → Int),
 ∃ (f_6 : Nat → Int),
 ∃ (x_22 : ByteArray),
 ∃ (x_23 : Int),
 ∃ (x_24 : Bool),
 ∃ (x_25 : Bool),
 ∃ (p_6 :
 Option Addr),
 ∃ (n_12 : Nat),
 ∃ (c_6 : Nat),
 ∃ (x_26 :
 ByteArray),
 e =
 Ending.returned
 (Value.agg
 (arrI IntKind.u8 f_5 32 0 ++ (arrI IntKind.u8 f_6 16 0 ++ [Value.string
 x_22,
 Value.int
 IntKind.i64
 x_23,
 Value.bool
 x_24,
 Value.bool
 x_25,
 Value.slice
 p_6 n_12
 c_6,
 Value.string
 x_26])).toArray) ∧
 S w'_3 ∧
 CallsS
 Tryz.prog 49
 #[Value.agg
 #[Value.slice
 p_3 n_9
 c_3,
 Value.slice
 p_4 n_10
 c_4],
 Value.agg
 (arrI IntKind.u8 f_5 32 0 ++ (arrI IntKind.u8 f_6 16 0 ++ [Value.string
 x_22,
 Value.int
 IntKind.i64
 x_23,
 Value.bool
 x_24,
 Value.bool
 x_25,
 Value.slice
 p_6 n_12
 c_6,
 Value.string
 x_26])).toArray]
 w'_3
 fun
 (e : Ending)
 (w'_4 :
 World) =>
 ∃ (p_7 :
 Option Addr),
 ∃ (n_13 :
 Nat),
 ∃ (c_7 :
 Nat),
 ∃ (p_8 :
 Option
 Addr),
 ∃ (n_14 :
 Nat),
 ∃ (c_8 :
 Nat),
 ∃ (x_27
 : Int),
 e =
 Ending.returned
 (Value.tuple
 #[Value.agg
 #[Value.slice
 p_7
 n_13
 c_7,
 Value.slice
 p_8
 n_14
 c_8],
 Value.int
 IntKind.i64
 x_27]) ∧
 WrL
 w'_4
 n_1
 0
 2 ∧
 ∀
 (w1 :
 World),
 PutB
 w'_4
 n_1
 0
 [Value.slice
 p_7
 n_13
 c_7,
 Value.slice
 p_8
 n_14
 c_8]
 w1 →
 KeptL
 [n,
 n_8]
 W
 w1 ∧
 CallsS
 Tryz.prog
 22
 #[Value.pointer
 x,
 Value.agg
 (arrI IntKind.u8 f 32 0 ++ (arrI IntKind.u8 f_2 16 0 ++ [Value.string
 x_11,
 Value.int
 IntKind.i64
 x_12,
 Value.bool
 x_13,
 Value.bool
 x_14,
 Value.slice
 p
 n_7
 c,
 Value.string
 x_15])).toArray]
 w1
 fun
 (e :
 Ending)
 (w'_5 :
 World) =>
 ∃
 (x_28
 :
 Int),
 e =
 Ending.returned
 (Value.int
 IntKind.i64
 x_28) ∧
 KeptL
 [n,
 n_8]
 w1
 w'_5 ∧
 bsp
 (x_28 !=
 x_27)
 (∃
 (p_9
 :
 Option
 Addr),
 ∃
 (n_15
 :
 Nat),
 ∃
 (c_9
 :
 Nat),
 ∃
 (p_10
 :
 Option
 Addr),
 ∃
 (n_16
 :
 Nat),
 ∃
 (c_10
 :
 Nat),
 (∀
 (W :
 World),
 Loc
 w.heap.size
 [Blk.mk
 n
 42
 [Value.slice
 ap
 an
 ac,
 Value.slice
 op
 on
 oc]
 0,
 Blk.mk
 n_8
 56
 (arrI IntKind.u8 f 32 0 ++ (arrI IntKind.u8 f_2 16 0 ++ [Value.string
 x_11,
 Value.int
 IntKind.i64
 x_12,
 Value.bool
 x_13,
 Value.bool
 x_14,
 Value.slice
 p
 n_7
 c,
 Value.string
 x_15]))
 0]
 w'_5
 W →
 AtL
 W
 n_1
 0
 [Value.slice
 p_9
 n_15
 c_9,
 Value.slice
 p_10
 n_16
 c_10]) ∧
 ∀
 (W :
 World),
 Loc
 w.heap.size
 [Blk.mk
 n
 42
 [Value.slice
 ap
 an
 ac,
 Value.slice
 op
 on
 oc]
 0,
 Blk.mk
 n_8
 56
 (arrI IntKind.u8 f 32 0 ++ (arrI IntKind.u8 f_2 16 0 ++ [Value.string
 x_11,
 Value.int
 IntKind.i64
 x_12,
 Value.bool
 x_13,
 Value.bool
 x_14,
 Value.slice
 p
 n_7
 c,
 Value.string
 x_15]))
 0]
 w'_5
 W →
 WrL
 W
 n_1
 0
 2 ∧
 ∀
 (w1 :
 World),
 PutB
 W
 n_1
 0
 [Value.slice
 p_9
 n_15
 c_9,
 Value.slice
 p_10
 n_16
 c_10]
 w1 →
 KeptL
 [n,
 n_8]
 W
 w1 ∧
 ∃
 (p
 :
 Option
 Addr),
 ∃
 (n
 :
 Nat),
 ∃
 (c
 :
 Nat),
 ∃
 (p_11
 :
 Option
 Addr),
 ∃
 (n_17
 :
 Nat),
 ∃
 (c_11
 :
 Nat),
 AtL
 w1
 n_1
 0
 [Value.slice
 p
 n
 c,
 Value.slice
 p_11
 n_17
 c_11] ∧
 R
 (Ending.returned
 (Value.tuple
 #[Value.pointer
 x,
 Value.agg
 #[Value.slice
 p
 n
 c,
 Value.slice
 p_11
 n_17
 c_11],
 Value.bool
 false]))
 w1)
 (I
 [Value.pointer
 x,
 Value.int
 IntKind.i64
 (IntKind.i64.wrap
 (x_5 +
 1))]
 w'_5 ∧
 m
 [Value.pointer
 x,
 Value.int
 IntKind.i64
 (IntKind.i64.wrap
 (x_5 +
 1))]
 w'_5 <
 m
 [Value.pointer
 x,
 Value.int
 IntKind.i64
 x_5]
 w')))
 (∃ (p : Option Addr),
 ∃ (n_6 : Nat),
 ∃ (c : Nat),
 ∃ (p_3 : Option Addr),
 ∃ (n_7 : Nat),
 ∃ (c_3 : Nat),
 (∀ (W : World),
 Loc w.heap.size
 [Blk.mk n 42 [Value.slice ap an ac, Value.slice op on oc] 0] w' W →
 AtL W n_1 0 [Value.slice p n_6 c, Value.slice p_3 n_7 c_3]) ∧
 ∀ (W : World),
 Loc w.heap.size
 [Blk.mk n 42 [Value.slice ap an ac, Value.slice op on oc] 0] w' W →
 WrL W n_1 0 2 ∧
 ∀ (w1 : World),
 PutB W n_1 0 [Value.slice p n_6 c, Value.slice p_3 n_7 c_3] w1 →
 KeptL [n] W w1 ∧
 ∃ (p : Option Addr),
 ∃ (n : Nat),
 ∃ (c : Nat),
 ∃ (p_4 : Option Addr),
 ∃ (n_8 : Nat),
 ∃ (c_4 : Nat),
 AtL w1 n_1 0 [Value.slice p n c, Value.slice p_4 n_8 c_4] ∧
 R
 (Ending.returned
 (Value.tuple
 #[Value.pointer x,
 Value.agg #[Value.slice p n c, Value.slice p_4 n_8 c_4],
 Value.bool true]))
 w1))
theorem vc_lplay (ap : Option Addr) (an : Nat) (ac : Nat) (op : Option Addr) (on : Nat) (oc : Nat) (w : World) (R : Ending → World → Prop) (h : VC_lplay ap an ac op on oc w R) : Calls Tryz.prog 18 ([Value.agg
    #[Value.slice ap an ac, Value.slice op on oc]] : List Value).toArray w R := by
  have e : execR2 { P := Tryz.prog, loops := [(7, [(2, Ck.ptr), (11, Ck.int IntKind.i64)])], pur := pur1, tails := [(5, 2), (14, 3), (15, 2), (17, 3), (18, 3)], joins := [], boxes := [] } Tryz.f18.results.toList R (Tryz.f18.body.getD .skip) (initF [Value.agg
    #[Value.slice ap an ac,
      Value.slice op on
        oc]] (Tryz.f18.ntmps - ([Value.agg
    #[Value.slice ap an ac,
      Value.slice op on oc]] : List Value).length)) w = VC_lplay ap an ac op on oc w R := by kernel_rfl
  have hb : Tryz.f18.body = some (Tryz.f18.body.getD .skip) := by kernel_rfl
  exact calls_of_exec2' (P := Tryz.prog) (fn := Tryz.f18) (c := Tryz.f18.body.getD .skip) (args := [Value.agg
    #[Value.slice ap an ac, Value.slice op on oc]]) (w := w) (R := R) pur1_ok Tryz.func18 hb e h

def VC_lrplays (ap : Option Addr) (an : Nat) (ac : Nat) (op : Option Addr) (on : Nat) (oc : Nat) (w : World) (R : Ending → World → Prop) : Prop :=
 ∀ (n : Nat) (W : World),
 Loc w.heap.size [Blk.mk n 42 [Value.slice ap an ac, Value.slice op on oc] 2] w W →
 CallsS Tryz.prog 18 #[Value.agg #[Value.slice ap an ac, Value.slice op on oc]] W fun (e : Ending) (w' : World) =>
 ∃ (x : Option Addr),
 ∃ (p : Option Addr),
 ∃ (n_1 : Nat),
 ∃ (c : Nat),
 ∃ (p_1 : Option Addr),
 ∃ (n_2 : Nat),
 ∃ (c_1 : Nat),
 ∃ (x_1 : Bool),
 e =
 Ending.returned
 (Value.tuple
 #[Value.pointer x, Value.agg #[Value.slice p n_1 c, Value.slice p_1 n_2 c_1], Value.bool x_1]) ∧
 KeptL [n] W w' ∧
 ∀ (n_3 : Nat),
 bsp (!x_1 || x.isNone)
 (∀ (W : World),
 Loc w.heap.size
 [Blk.mk n_3 33 [Value.slice p n_1 c, Value.slice p_1 n_2 c_1] (wrM 2),
 Blk.mk n 42 [Value.slice ap an ac, Value.slice op on oc] 0]
 w' W →
 bsp x_1
 (CallsS Tryz.prog 15 #[] W fun (e : Ending) (w' : World) =>
 ∃ (x : Bool),
 e = Ending.returned (Value.bool x) ∧
 KeptL [n_3, n] W w' ∧ R (Ending.returned (Value.bool (true && x))) w')
 (KeptL [n_3, n] W W ∧ R (Ending.returned (Value.bool false)) W))
 (∀ (W : World),
 Loc w.heap.size
 [Blk.mk n_3 33 [Value.slice p n_1 c, Value.slice p_1 n_2 c_1] (wrM 2),
 Blk.mk n 42 [Value.slice ap an ac, Value.slice op on oc] 0]
 w' W →
 ∃ (S : World → Prop),
 S W ∧
 CallsS Tryz.prog 15 #[] W fun (e : Ending) (w' : World) =>
 ∃ (x_2 : Bool),
 e = Ending.returned (Value.bool x_2) ∧
 S w' ∧
 ∃ (p : Option Addr),
 ∃ (n_4 : Nat),
 ∃ (c : Nat),
 gimp x_2
 (∀ (w' : World), S w' → w'.cell? (Addr.mk n_3 (0 + 1) none) = some (Value.slice p n_4 c)) ∧
 bsp x_2
 (CallsS Tryz.prog 19 #[Value.pointer x] w' fun (e : Ending) (w' : World) =>
 ∃ (x : Int),
 e = Ending.returned (Value.int IntKind.i64 x) ∧
 S w' ∧
 KeptL [n_3, n] W w' ∧ R (Ending.returned (Value.bool (true && x == (↑n_4 : Int)))) w')
 (S w' ∧ KeptL [n_3, n] W w' ∧ R (Ending.returned (Value.bool false)) w'))
theorem vc_lrplays (ap : Option Addr) (an : Nat) (ac : Nat) (op : Option Addr) (on : Nat) (oc : Nat) (w : World) (R : Ending → World → Prop) (h : VC_lrplays ap an ac op on oc w R) : Calls Tryz.prog 4 ([Value.agg
    #[Value.slice ap an ac, Value.slice op on oc]] : List Value).toArray w R := by
  have e : execR2 { P := Tryz.prog, loops := [], pur := pur1, tails := [(4, 0)], joins := [], boxes := [] } Tryz.f4.results.toList R (Tryz.f4.body.getD .skip) (initF [Value.agg
    #[Value.slice ap an ac,
      Value.slice op on
        oc]] (Tryz.f4.ntmps - ([Value.agg
    #[Value.slice ap an ac,
      Value.slice op on oc]] : List Value).length)) w = VC_lrplays ap an ac op on oc w R := by kernel_rfl
  have hb : Tryz.f4.body = some (Tryz.f4.body.getD .skip) := by kernel_rfl
  exact calls_of_exec2' (P := Tryz.prog) (fn := Tryz.f4) (c := Tryz.f4.body.getD .skip) (args := [Value.agg
    #[Value.slice ap an ac, Value.slice op on oc]]) (w := w) (R := R) pur1_ok Tryz.func4 hb e h

end Go.Proofs.YtkkfnlehlkiejaaGreatDoor

/- Chapter 21: worlds of authorities and operations: Play. No condition but what a reading gives. -/
namespace Go.Proofs.YtkkfnlehlkiejaaGreatDoor
open Go.RowKit Go.Maps

/-! ### The reference's list against the map -/
structure DL (l : List (List Int × DX)) (ds : List DX) : Prop where
  eq : ds.map (fun x => x.d) = l.map (fun p => p.2.d)
  key : ∀ p ∈ l, p.1 = idI p.2.d.id
  dis : l.Pairwise fun p q => p.1 ≠ q.1
section
variable {l : List (List Int × DX)} {ds : List DX}
theorem DL.nil : DL [] [] := ⟨rfl, (fun p h => by cases h), .nil⟩
theorem DL.len (h : DL l ds) : ds.length = l.length := by
  have := congrArg List.length h.eq
  simpa using this
theorem DL.at (h : DL l ds) {i : Nat} {y : DX} (hi : ds[i]? = some y) : ∃ x, l[i]? = some (idI y.d.id, x) ∧ x.d = y.d := by
  have h1 := congrArg (fun z => z[i]?) h.eq
  simp only [List.getElem?_map, hi, Option.map_some] at h1
  cases hl : l[i]? with
  | none => rw [hl] at h1; cases h1
  | some p =>
    rw [hl] at h1
    simp only [Option.map_some, Option.some.injEq] at h1
    have hk := h.key p (List.mem_of_getElem? hl)
    obtain ⟨k, x⟩ := p
    simp only at h1 hk
    rw [← h1] at hk
    exact ⟨x, by rw [hk], h1.symm⟩
theorem DL.mem (h : DL l ds) {p : List Int × DX} (hp : p ∈ l) : ∃ y ∈ ds, y.d = p.2.d := by
  have : p.2.d ∈ ds.map (fun x => x.d) := by rw [h.eq]; exact List.mem_map.2 ⟨p, hp, rfl⟩
  obtain ⟨y, hy, e⟩ := List.mem_map.1 this
  exact ⟨y, hy, e⟩
theorem DL.no (h : DL l ds) {a : List Int} (ha : ∀ y ∈ ds, idI y.d.id ≠ a) : aget l a = none := by
  rw [aget_none]
  intro p hp e
  obtain ⟨y, hy, hd⟩ := h.mem hp
  exact ha y hy (by rw [hd, ← h.key p hp]; exact e)
theorem DL.get (h : DL l ds) {i : Nat} {y : DX} (hi : ds[i]? = some y) : ∃ x, aget l (idI y.d.id) = some x ∧ x.d = y.d := by
  obtain ⟨x, h1, h2⟩ := h.at hi
  exact ⟨x, aget_at h.dis (List.mem_of_getElem? h1), h2⟩
theorem DL.any (h : DL l ds) (a : List Int) : ds.any (fun y => decide (idI y.d.id = a)) = (aget l a).isSome := by
  rw [Bool.eq_iff_iff, List.any_eq_true]
  constructor
  · rintro ⟨y, hy, e⟩
    obtain ⟨i, hi⟩ := List.getElem?_of_mem hy
    obtain ⟨x, hx, _⟩ := h.get hi
    have e : idI y.d.id = a := by simpa using e
    rw [← e, hx]; rfl
  · intro hs
    refine Classical.byContradiction fun hn => ?_
    have := h.no (a := a) (fun y hy e => hn ⟨y, hy, by simpa using e⟩)
    rw [this] at hs; cases hs
theorem DL.addE (h : DL l ds) (A : List Au) (d : Df) : xaddE A ds d = addE A l d := by
  unfold xaddE Go.Proofs.YtkkfnlehlkiejaaGreatDoor.addE
  rw [h.any, h.len]
theorem DL.add (h : DL l ds) {x y : DX} (hn : aget l (idI x.d.id) = none) (hd : y.d = x.d) : DL (aset l (idI x.d.id) x) (ds ++ [y]) := by
  rw [aget_none] at hn
  rw [aset_new hn]
  refine ⟨by rw [List.map_append, List.map_append, h.eq]; simp [hd], fun p hp => ?_, ?_⟩
  · rcases List.mem_append.1 hp with hp | hp
    · exact h.key p hp
    · simp at hp; subst hp; rfl
  · rw [List.pairwise_append]
    refine ⟨h.dis, List.pairwise_singleton _ _, fun a ha b hb => ?_⟩
    simp at hb
    subst hb
    exact hn a ha
theorem DL.del (h : DL l ds) {i : Nat} {y : DX} (hi : ds[i]? = some y) : DL (adel l (idI y.d.id)) (ds.eraseIdx i) := by
  obtain ⟨x, h1, h2⟩ := h.at hi
  rw [adel_at h.dis h1]
  refine ⟨by rw [map_erase, map_erase, h.eq], fun p hp => h.key p ((List.eraseIdx_sublist _ _).subset hp), h.dis.sublist (List.eraseIdx_sublist _ _)⟩
theorem addE_zero {A : List Au} {d : Df} (h : addE A l d = 0) : dchk d = 0 ∧ isAu A d.g d.au = true ∧ aget l (idI d.id) = none ∧ l.length < 4096 := by
  unfold addE at h
  split at h
  · exact absurd h (by assumption)
  rename_i h1
  split at h
  · cases h
  rename_i h2
  split at h
  · cases h
  rename_i h3
  split at h
  · cases h
  refine ⟨Classical.byContradiction h1, by simpa using h2, ?_, by omega⟩
  cases hg : aget l (idI d.id) with
  | none => rfl
  | some x => rw [hg] at h3; exact absurd rfl h3
end

/-! ### A box of two slices is written -/
theorem cell_neS {w : World} {g o n1 : Nat} {v : Value} {q1 q2 : Option Addr} {k1 c1 k2 c2 : Nat} {t : TypeId} {z : Nat × Nat} (h : w.cell? ⟨g, o, none⟩ = some v) (hv : ∀ q k c, v ≠ .slice q k c) (hm : w.heap[n1]? = some (.cells #[.slice q1 k1 c1, .slice q2 k2 c2] t z)) : g ≠ n1 := fun e => by
  subst e
  rw [cell_block hm] at h
  have := Array.mem_of_getElem? h
  simp at this
  rcases this with rfl | rfl
  · exact hv _ _ _ rfl
  · exact hv _ _ _ rfl
theorem RowA.kpS {α : Type} {f : α → List Value} {L : Nat} {w w' : World} {p : Option Addr} {l : List α} {n1 : Nat} {q1 q2 : Option Addr} {k1 c1 k2 c2 : Nat} {t : TypeId} {z : Nat × Nat} (h : RowA f L w p l) (hf : ∀ y, ∃ v, (f y)[0]? = some v ∧ ∀ q k c, v ≠ .slice q k c) (hk : Kp (· = n1) w w') (hm : w.heap[n1]? = some (.cells #[.slice q1 k1 c1, .slice q2 k2 c2] t z)) : RowA f L w' p l := fun k y hy => by
  obtain ⟨b, o, h1, h2⟩ := h k y hy
  obtain ⟨v, hv, hn⟩ := hf y
  have hg := cell_neS (h2.cell hv) hn hm
  exact ⟨b, o, h1, ⟨At_of _ _ fun j u hu => hk.cell' (h2.cell hu) (fun e => hg e)⟩⟩
theorem auC_ns (y : Nat → Int) : ∃ v, (auC y)[0]? = some v ∧ ∀ q k c, v ≠ .slice q k c := ⟨.int .u8 (y 0), rfl, fun _ _ _ h => by cases h⟩
theorem atC_ns (y : Au) : ∃ v, (atC y)[0]? = some v ∧ ∀ q k c, v ≠ .slice q k c := ⟨.string y.pt, rfl, fun _ _ _ h => by cases h⟩
theorem dfC_ns (y : DX) : ∃ v, (dfC y)[0]? = some v ∧ ∀ q k c, v ≠ .slice q k c := ⟨.int .u8 (y.d.id 0), rfl, fun _ _ _ h => by cases h⟩
section
variable {w w' : World} {b mb : Nat} {A : List Au} {l : List (List Int × DX)} {n1 : Nat} {q1 q2 : Option Addr} {k1 c1 k2 c2 : Nat}
theorem SR.kpS {ds : List DX} {p : Option Addr} {c : Nat} (h : SR w ds p c) (hk : Kp (· = n1) w w') (hm : w.heap[n1]? = some (.cells #[.slice q1 k1 c1, .slice q2 k2 c2] 33 (0, 0))) : SR w' ds p c :=
  ⟨h.row.kpS dfC_ns hk hm, fun x hx => (h.ms x hx).kpS auC_ns hk hm, h.ok, h.le⟩
theorem Reg.kpS (h : Reg w b mb A l) (hk : Kp (· = n1) w w') (hm : w.heap[n1]? = some (.cells #[.slice q1 k1 c1, .slice q2 k2 c2] 33 (0, 0))) : Reg w' b mb A l := by
  refine ⟨?_, h.map.kp hk (fun e => ?_), fun a x hx => ⟨(h.str a x hx).1.kpS auC_ns hk hm, (h.str a x hx).2⟩, h.ok, h.au⟩
  · obtain ⟨ap, ac, lp, lc, h1, h2, h3⟩ := h.st
    refine ⟨ap, ac, lp, lc, hk.blk h1 (fun e => ?_), h2.kpS atC_ns hk hm, fun k x hx => ?_⟩
    · have e : b = n1 := e
      subst e
      rw [hm] at h1
      simp only [Option.some.injEq, Obj.cells.injEq] at h1
      exact absurd h1.2.1 (by decide)
    · obtain ⟨g, o, lb, es, a1, a2, a3, a4⟩ := h3 k x hx
      refine ⟨g, o, lb, es, a1, hk.cell' a2 (fun e => cell_neS a2 (fun _ _ _ h => by cases h) hm e), a3, a4.kpT hk (fun k c t f e hh => ?_)⟩
      have e : k = n1 := e
      subst e
      rw [hm] at hh
      simp only [Option.some.injEq, Obj.cells.injEq] at hh
      obtain ⟨_, rfl, _⟩ := hh
      decide
  · obtain ⟨es, c, hb, _⟩ := h.map.blk
    have e : mb = n1 := e
    subst e
    rw [hm] at hb; cases hb
end

/-! ### Play -/
/-- An operation. -/
structure OpY where
  dr : Bool
  x : DX
def opC (o : OpY) : List Value := [.bool o.dr] ++ dfC o.x
/-- What Play leaves: a registry and the reference's state that say the same. -/
structure PlayI (w w' : World) (b mb : Nat) (A : List Au) (ap : Option Addr) (ac : Nat) (l : List (List Int × DX)) (ds : List DX) (dp : Option Addr) (dc : Nat) : Prop where
  k : K0 w w'
  gb : w.heap.size ≤ b
  gm : w.heap.size ≤ mb
  reg : Reg w' b mb A l
  row : RowA atC 17 w' ap A
  sr : SR w' ds dp dc
  dl : DL l ds
structure AuOK (A : List Au) : Prop where
  len : A.length ≤ 64
  by_ : ∀ x ∈ A, BY x.au
  sz : ∀ x ∈ A, x.pt.size ≤ 1073741824
  all : ∀ x ∈ A, ∃ es, listR x.pt = .inl es
theorem PlayI.k0 {w w' w2 : World} {b mb : Nat} {A : List Au} {ap : Option Addr} {ac : Nat} {l : List (List Int × DX)} {ds : List DX} {dp : Option Addr} {dc : Nat} (h : PlayI w w' b mb A ap ac l ds dp dc) (hk : K0 w' w2) : PlayI w w2 b mb A ap ac l ds dp dc :=
  ⟨h.k.trans hk, h.gb, h.gm, h.reg.k0 hk, h.row.k0 hk, h.sr.k0 hk, h.dl⟩
def PlayQ (w : World) (A : List Au) (e : Ending) (w' : World) : Prop :=
  (∃ (p : Option Addr) (n c : Nat) (q : Option Addr) (k d : Nat), e = .returned (.tuple #[.pointer none, .agg #[.slice p n c, .slice q k d], .bool true]) ∧ K0 w w') ∨
  ∃ (b mb : Nat) (rp : Option Addr) (rc : Nat) (l : List (List Int × DX)) (ds : List DX) (dp : Option Addr) (dc : Nat), e = .returned (.tuple #[.pointer (some ⟨b, 0, none⟩), .agg #[.slice rp A.length rc, .slice dp ds.length dc], .bool true]) ∧
    PlayI w w' b mb A rp rc l ds dp dc ∧ AuOK A ∧ l.length ≤ 30
set_option maxRecDepth 100000 in
set_option maxHeartbeats 16000000 in
theorem lplay_any (As : List Au) (ap : Option Addr) (ac : Nat) (Os : List OpY) (op : Option Addr) (oc : Nat) (w : World) (hA : RowA atC 17 w ap As) (hB : ∀ x ∈ As, BY x.au) (hO : RowA opC 55 w op Os) (hR : ∀ x ∈ Os, DfR w x.x) (hG : GW w) :
    Calls Tryz.prog 18 #[.agg #[.slice ap As.length ac, .slice op Os.length oc]] w fun e w' => PlayQ w (autL As) e w' := by
  refine vc_lplay ap As.length ac op Os.length oc w _ (fun n n1 W hW => ?_)
  have kW : K0 w W := hW.kk rfl
  have gn1 : w.heap.size ≤ n1 := hW.fresh 0 rfl rfl
  have hne : n1 ≠ n := hW.apart 0 1 rfl rfl (by decide)
  have hb0 : W.heap[n1]? = some (.cells #[.slice none 0 0, .slice none 0 0] 33 (0, 0)) := hW.cells 0 rfl
  have hG' : ∀ {wa : World}, K0 w wa → GW wa := fun k => hG.kp k (fun h => h)
  refine ⟨(lauths_any As ap ac W (hA.k0 kW)).mono fun e w1 ⟨⟨p1, c1, p2, c2, he, hr1, hr2⟩, k1⟩ => ⟨_, _, _, _, _, _, he, .of_k0 k1, ?_⟩⟩
  have hB' := autL_BY hB
  have hS := @autL_sz As
  generalize autL As = A at *
  have k01 := kW.trans k1
  refine ⟨(rnew_any A p1 c1 w1 hr1 hB' hS (hG' k01)).mono fun e w2 ⟨hQ, k2⟩ => ?_⟩
  have k02 := k01.trans k2
  rcases hQ with ⟨h64, he⟩ | ⟨h64, hnz, he⟩ | ⟨h64, hz, b, mb, he, hReg, gb, gm⟩
  · refine ⟨_, _, _, he, .of_k0 k2, ⟨(xnew_any A p2 c2 w2 (hr2.k0 k2) hS).mono fun e w3 ⟨hQ, k3⟩ => ?_⟩⟩
    have k03 := k02.trans k3
    rcases hQ with ⟨_, he⟩ | ⟨h, _⟩ | ⟨h, _⟩
    · refine ⟨_, _, _, _, _, _, _, _, he, .of_k0 k3, bsp_intro (fun h => by simp at h) (fun _ => fun W4 hW4 => ?_)⟩
      have hb4 : W4.heap[n1]? = some (.cells #[.slice none 0 0, .slice none 0 0] 33 (0, 0)) := hW4.cells 0 rfl
      refine ⟨fun vs w' => vs = [.pointer none, .int .i64 0] ∧ w'.heap[n1]? = some (.cells #[.slice none 0 0, .slice none 0 0] 33 (0, 0)) ∧ K0 w w', fun _ _ => 0, ⟨rfl, hb4, hW4.k0 k03⟩, ?_⟩
      rintro x x5 w5 ⟨hv, hb5, k5⟩ hL5
      simp only [List.cons.injEq, Value.pointer.injEq, Value.int.injEq, true_and, and_true] at hv
      obtain ⟨rfl, rfl⟩ := hv
      refine bsp_intro (fun h => by simp at h) (fun _ => ?_)
      refine ⟨none, 0, 0, none, 0, 0, fun W6 hW6 => AtL_block ((hW6.kk rfl : K0 w5 W6).blk hb5 (fun h => h)) rfl, fun W6 hW6 => ⟨WrL_block ((hW6.kk rfl : K0 w5 W6).blk hb5 (fun h => h)) (Nat.le_refl 2), fun w7 p7 => ⟨.of_kp p7.kp (fun y hy e => ?_), none, 0, 0, none, 0, 0, AtL_block (p7.full ((hW6.kk rfl : K0 w5 W6).blk hb5 (fun h => h)) rfl) rfl, .inl ⟨_, _, _, _, _, _, rfl, put_k0 (k5.trans (hW6.kk rfl)) p7 gn1⟩⟩⟩⟩
      simp only [List.mem_cons, List.not_mem_nil, or_false] at hy
      exact hne (e.symm.trans hy)
    · omega
    · omega
  · refine ⟨_, _, _, he, .of_k0 k2, ⟨(xnew_any A p2 c2 w2 (hr2.k0 k2) hS).mono fun e w3 ⟨hQ, k3⟩ => ?_⟩⟩
    have k03 := k02.trans k3
    rcases hQ with ⟨h, _⟩ | ⟨_, _, he⟩ | ⟨_, h, _⟩
    · omega
    · refine ⟨_, _, _, _, _, _, _, _, he, .of_k0 k3, bsp_intro (fun h => by exfalso; simp at h; exact hnz h) (fun _ => fun W4 hW4 => ?_)⟩
      have hb4 : W4.heap[n1]? = some (.cells #[.slice none 0 0, .slice none 0 0] 33 (0, 0)) := hW4.cells 0 rfl
      refine ⟨fun vs w' => vs = [.pointer none, .int .i64 0] ∧ w'.heap[n1]? = some (.cells #[.slice none 0 0, .slice none 0 0] 33 (0, 0)) ∧ K0 w w', fun _ _ => 0, ⟨rfl, hb4, hW4.k0 k03⟩, ?_⟩
      rintro x x5 w5 ⟨hv, hb5, k5⟩ hL5
      simp only [List.cons.injEq, Value.pointer.injEq, Value.int.injEq, true_and, and_true] at hv
      obtain ⟨rfl, rfl⟩ := hv
      refine bsp_intro (fun h => by simp at h) (fun _ => ?_)
      refine ⟨none, 0, 0, none, 0, 0, fun W6 hW6 => AtL_block ((hW6.kk rfl : K0 w5 W6).blk hb5 (fun h => h)) rfl, fun W6 hW6 => ⟨WrL_block ((hW6.kk rfl : K0 w5 W6).blk hb5 (fun h => h)) (Nat.le_refl 2), fun w7 p7 => ⟨.of_kp p7.kp (fun y hy e => ?_), none, 0, 0, none, 0, 0, AtL_block (p7.full ((hW6.kk rfl : K0 w5 W6).blk hb5 (fun h => h)) rfl) rfl, .inl ⟨_, _, _, _, _, _, rfl, put_k0 (k5.trans (hW6.kk rfl)) p7 gn1⟩⟩⟩⟩
      simp only [List.mem_cons, List.not_mem_nil, or_false] at hy
      exact hne (e.symm.trans hy)
    · rw [h] at hnz; exact absurd rfl hnz
  · refine ⟨_, _, _, he, .of_k0 k2, ⟨(xnew_any A p2 c2 w2 (hr2.k0 k2) hS).mono fun e w3 ⟨hQ, k3⟩ => ?_⟩⟩
    have k03 := k02.trans k3
    rcases hQ with ⟨h, _⟩ | ⟨_, h, _⟩ | ⟨_, _, rp, rc, he, hra⟩
    · omega
    · rw [hz] at h; exact absurd rfl h
    refine ⟨_, _, _, _, _, _, _, _, he, .of_k0 k3, bsp_intro (fun h => by simp at h) (fun _ => fun W4 hW4 => ?_)⟩
    have hb3 := ((k1.trans k2).trans k3).blk hb0 (fun h => h)
    have kp4 : Kp (· = n1) w3 W4 := hW4.kp.mono (fun j _ ⟨y, hy, hm, e⟩ => by
      simp only [List.mem_cons, List.not_mem_nil, or_false] at hy
      rcases hy with rfl | rfl
      · exact e.symm
      · cases hm)
    have hb4 : W4.heap[n1]? = some (.cells #[.slice rp A.length rc, .slice none 0 0] 33 (0, 0)) := hW4.cells 0 rfl
    have sz1 := k01.size
    have hOK : AuOK A := ⟨h64, hB', hS, newE_all A 0 (by rw [hz])⟩
    have hI4 : PlayI w W4 b mb A rp rc [] [] none 0 := ⟨hW4.k0 k03, by omega, by omega, (hReg.k0 k3).kpS kp4 hb3, hra.kpS atC_ns kp4 hb3, .nil _, .nil⟩
    refine ⟨fun vs w' => ∃ (k : Nat) (l : List (List Int × DX)) (ds : List DX) (dp : Option Addr) (dc : Nat), vs = [.pointer (some ⟨b, 0, none⟩), .int .i64 (k : Int)] ∧ k ≤ Os.length ∧ k ≤ 30 ∧ l.length ≤ k ∧
        w'.heap[n1]? = some (.cells #[.slice rp A.length rc, .slice dp ds.length dc] 33 (0, 0)) ∧ PlayI w w' b mb A rp rc l ds dp dc,
      fun vs _ => (match vs with | [_, .int _ a] => Os.length - a.toNat | _ => 0), ⟨0, [], [], none, 0, rfl, by omega, by omega, by simp, hb4, hI4⟩, ?_⟩
    rintro x x5 w5 ⟨k, l, ds, dp, dc, hv, hk, hk30, hlk, hb5, hI⟩ hL5
    simp only [List.cons.injEq, Value.pointer.injEq, Value.int.injEq, true_and, and_true] at hv
    obtain ⟨rfl, rfl⟩ := hv
    have hdl := hI.dl.len
    refine bsp_intro (fun hlt => ?_) (fun hge => ?_)
    rotate_left
    · refine ⟨rp, A.length, rc, dp, ds.length, dc, fun W6 hW6 => AtL_block ((hW6.kk rfl : K0 w5 W6).blk hb5 (fun h => h)) rfl, fun W6 hW6 => ?_⟩
      have k6 : K0 w5 W6 := hW6.kk rfl
      have hb6 := k6.blk hb5 (fun h => h)
      refine ⟨WrL_block hb6 (Nat.le_refl 2), fun w7 p7 => ⟨.of_kp p7.kp (fun y hy e => ?_), rp, A.length, rc, dp, ds.length, dc, AtL_block (p7.full hb6 rfl) rfl, .inr ⟨b, mb, rp, rc, l, ds, dp, dc, rfl, ?_, hOK, by omega⟩⟩⟩
      · simp only [List.mem_cons, List.not_mem_nil, or_false] at hy
        exact hne (e.symm.trans hy)
      · have hI6 := hI.k0 k6
        exact ⟨put_k0 hI6.k p7 gn1, hI.gb, hI.gm, hI6.reg.kpS p7.kp hb6, hI6.row.kpS atC_ns p7.kp hb6, hI6.sr.kpS p7.kp hb6, hI.dl⟩
    have hlt : k < Os.length ∧ k < 30 := by simp at hlt; omega
    obtain ⟨o, bb, oo, ho, hp, hat⟩ := (hO.k0 hI.k).get hlt.1
    have hD := hR o (List.mem_of_getElem? ho)
    have zx := toD_OK hD.ok
    have lx : (toD o.x.d).ms.length ≤ 10 := by show (o.x.d.ms.take 10).length ≤ 10; rw [List.length_take]; omega
    rw [Int.toNat_natCast]
    have hcb : w5.cell? ⟨bb, oo + k * 55, none⟩ = some (.bool o.dr) := by simpa using hat.cell (j := 0) rfl
    have hcd : AtL w5 bb (oo + k * 55 + 1) (dfC o.x) := ⟨At_of _ _ fun j v hv => by
      have := hat.cell (j := j + 1) (v := v) (by simpa [opC] using hv)
      rw [show oo + k * 55 + (j + 1) = oo + k * 55 + 1 + j by omega] at this
      exact this⟩
    have hm1 : ∀ (m : Nat), m = k + 1 → IntKind.i64.wrap ((k : Int) + 1) = (m : Int) := fun m e => by subst e; exact inc64 (by omega)
    refine nn_is hp ⟨⟨by omega, by omega⟩, o.x.d.id, o.x.d.au, o.x.d.g, o.x.d.v, o.x.d.rm, o.x.d.md, o.x.p, o.x.d.ms.length, o.x.c, o.x.d.tx, hcd, ?_⟩
    refine ⟨(lto_any o.x w5 (hD.row.k0 hI.k)).mono fun e w6 ⟨⟨q, cq, he, hmo⟩, k6⟩ => ⟨_, _, _, _, _, _, _, _, _, _, he, .of_k0 k6, fun n8 => ?_⟩⟩
    have ln1 := block_lt hb5
    have s6 := k6.size
    refine nn_is hp ⟨⟨by omega, by omega⟩, o.dr, fun W7 hW7 => (hW7.kk rfl : K0 w6 W7).cell' (k6.cell' hcb (fun h => h)) (fun h => h), bsp_intro (fun hd => ?_) (fun hd => ?_)⟩
    · refine ⟨rp, A.length, rc, dp, ds.length, dc, fun W7 hW7 => AtL_block ((k6.trans (hW7.kk rfl : K0 w6 W7)).blk hb5 (fun h => h)) rfl, fun W7 hW7 => ?_⟩
      have k7 : K0 w6 W7 := hW7.kk rfl
      have hI7 := hI.k0 (k6.trans k7)
      have hb7 := (k6.trans k7).blk hb5 (fun h => h)
      have hn8 := hW7.cells 1 rfl
      have hn := hW7.cells 0 rfl
      have h8 : n8 ≠ n1 := fun e => by have := hW7.fresh 1 rfl rfl; simp only at this; omega
      refine ⟨(xdrop_any A rp rc ds dp dc (toD o.x.d).id W7 hI7.sr (by omega) zx.id).mono fun e w8 ⟨hQ, k8⟩ => ?_⟩
      have hb8 := k8.blk hb7 (fun h => h)
      rcases hQ with ⟨he, hno⟩ | ⟨i, y, p', c', he, hy, hya, how⟩
      · refine ⟨_, _, _, _, _, _, _, he, .of_k0 k8, WrL_block hb8 (Nat.le_refl 2), fun w9 p9 => ⟨.of_kp p9.kp (fun y hy e => ?_), ?_⟩⟩
        · simp only [List.mem_cons, List.not_mem_nil, or_false] at hy
          have e : y = n1 := e
          rcases hy with hy | hy
          · exact hne (e.symm.trans hy)
          · exact h8 (hy.symm.trans e)
        have hI8 := hI7.k0 k8
        have hb9 := p9.full hb8 rfl
        have hreg9 := hI8.reg.kpS p9.kp hb8
        have hrow9 := hI8.row.kpS atC_ns p9.kp hb8
        have hsr9 := hI8.sr.kpS p9.kp hb8
        have k09 := put_k0 hI8.k p9 gn1
        obtain ⟨es, cm, hmb, _⟩ := hreg9.map.blk
        have hn9 := p9.kp.blk (k8.blk hn (fun h => h)) (fun e => hne e.symm)
        have hn89 := p9.kp.blk (k8.blk hn8 (fun h => h)) (fun e => h8 e)
        refine ⟨(rdrop_any hreg9 _ zx.id).mono fun e w10 ⟨hQ, k10⟩ => ?_⟩
        rcases hQ with ⟨_, he, hReg10⟩ | ⟨h, _⟩
        · refine ⟨_, he, .of_kp k10 (fun y hy e => ?_), bsp_intro (fun h => by simp at h) (fun _ => ⟨⟨k + 1, l, ds, dp, dc, by rw [inc64 (by omega)], hlt.1, hlt.2, by omega, k10.blk hb9 (fun e => ?_), ?_⟩, by rw [inc64 (by omega)]; simp only [Int.toNat_natCast]; omega⟩)⟩
          · have e : y = mb := e
            subst e
            simp only [List.mem_cons, List.not_mem_nil, or_false] at hy
            rcases hy with hy | hy
            · subst hy; rw [hn9] at hmb; cases hmb
            · subst hy; rw [hn89] at hmb; cases hmb
          · have e : n1 = mb := e
            subst e; rw [hb9] at hmb; cases hmb
          · exact ⟨k09.fresh k10 (fun j hj e => by have := hI.gm; omega), hI.gb, hI.gm, hReg10, hrow9.kpM k10 hmb, hsr9.kpM k10 hmb, hI.dl⟩
        · rw [hI.dl.no hno] at h; cases h
      · refine ⟨_, _, _, _, _, _, _, he, .of_k0 k8, WrL_block hb8 (Nat.le_refl 2), fun w9 p9 => ⟨.of_kp p9.kp (fun y hy e => ?_), ?_⟩⟩
        · simp only [List.mem_cons, List.not_mem_nil, or_false] at hy
          have e : y = n1 := e
          rcases hy with hy | hy
          · exact hne (e.symm.trans hy)
          · exact h8 (hy.symm.trans e)
        have hI8 := hI7.k0 k8
        have hb9 := p9.full hb8 rfl
        have hsub : ∀ x ∈ ds.eraseIdx i, x ∈ ds := fun x hx => (List.eraseIdx_sublist _ _).subset hx
        have hsr8 : SR w8 (ds.eraseIdx i) p' c' := .own how (fun x hx => hI8.sr.ms x (hsub x hx)) (fun x hx => hI8.sr.ok x (hsub x hx))
        have hreg9 := hI8.reg.kpS p9.kp hb8
        have hrow9 := hI8.row.kpS atC_ns p9.kp hb8
        have hsr9 := hsr8.kpS p9.kp hb8
        have k09 := put_k0 hI8.k p9 gn1
        obtain ⟨es, cm, hmb, _⟩ := hreg9.map.blk
        have hn9 := p9.kp.blk (k8.blk hn (fun h => h)) (fun e => hne e.symm)
        have hn89 := p9.kp.blk (k8.blk hn8 (fun h => h)) (fun e => h8 e)
        have hdel := hI.dl.del hy
        rw [hya] at hdel
        obtain ⟨x0, hx0, _⟩ := hI.dl.get hy
        rw [hya] at hx0
        refine ⟨(rdrop_any hreg9 _ zx.id).mono fun e w10 ⟨hQ, k10⟩ => ?_⟩
        rcases hQ with ⟨h, _⟩ | ⟨_, he, hReg10⟩
        · rw [hx0] at h; cases h
        · refine ⟨_, he, .of_kp k10 (fun y hy e => ?_), bsp_intro (fun h => by simp at h) (fun _ => ⟨⟨k + 1, adel l (idI (toD o.x.d).id), ds.eraseIdx i, p', c', by rw [inc64 (by omega)], hlt.1, hlt.2, ?_, k10.blk hb9 (fun e => ?_), ?_⟩, by rw [inc64 (by omega)]; simp only [Int.toNat_natCast]; omega⟩)⟩
          · have e : y = mb := e
            subst e
            simp only [List.mem_cons, List.not_mem_nil, or_false] at hy
            rcases hy with hy | hy
            · subst hy; rw [hn9] at hmb; cases hmb
            · subst hy; rw [hn89] at hmb; cases hmb
          · have h1 := hdel.len
            have h2 : (ds.eraseIdx i).length ≤ ds.length := (List.eraseIdx_sublist _ _).length_le
            omega
          · have e : n1 = mb := e
            subst e; rw [hb9] at hmb; cases hmb
          · exact ⟨k09.fresh k10 (fun j hj e => by have := hI.gm; omega), hI.gb, hI.gm, hReg10, hrow9.kpM k10 hmb, hsr9.kpM k10 hmb, hdel⟩
    · intro W7 hW7
      have k7 : K0 w6 W7 := hW7.kk rfl
      have hI7 := hI.k0 (k6.trans k7)
      have hb7 := (k6.trans k7).blk hb5 (fun h => h)
      have hn8 := hW7.cells 1 rfl
      have hn := hW7.cells 0 rfl
      have h8 : n8 ≠ n1 := fun e => by have := hW7.fresh 1 rfl rfl; simp only at this; omega
      have hmo7 := hmo.k0 k7
      refine ⟨fun wx => K0 W7 wx, .refl _ _, rp, A.length, rc, dp, ds.length, dc, fun wx k => AtL_block (k.blk hb7 (fun h => h)) rfl, _, _, _, _, _, _, _, _, _, _, fun wx k => AtL_block (k.blk hn8 (fun h => h)) rfl, ?_⟩
      refine ⟨(lof_any ⟨toD o.x.d, q, cq⟩ W7 hmo7.row (Nat.le_trans lx (by decide))).mono fun e w8 ⟨⟨q2, d2, he, hmr⟩, k8⟩ => ⟨_, _, _, _, _, _, _, _, _, _, he, k8, ?_⟩⟩
      have hI8 := hI7.k0 k8
      refine ⟨(xadd_any A rp rc ds dp dc ⟨toD o.x.d, q2, d2⟩ w8 hI8.row hB' h64 hOK.all hS hI8.sr (by omega) hmr.row zx).mono fun e w9 ⟨hQ, k9⟩ => ?_⟩
      have k79 := k8.trans k9
      have hb9 := k79.blk hb7 (fun h => h)
      have hI9 := hI8.k0 k9
      have hmo9 := hmo7.k0 k79
      have hle := own_le hmo
      have hE := hI.dl.addE A (toD o.x.d)
      rcases hQ with ⟨hnz, he⟩ | ⟨hz2, p', c', he, how⟩
      · refine ⟨_, _, _, _, _, _, _, he, WrL_block hb9 (Nat.le_refl 2), fun w10 p10 => ⟨.of_kp ((k79.mono fun _ _ h => h.elim).trans p10.kp) (fun y hy e => ?_), ?_⟩⟩
        · simp only [List.mem_cons, List.not_mem_nil, or_false] at hy
          have e : y = n1 := e
          rcases hy with hy | hy
          · exact hne (e.symm.trans hy)
          · exact h8 (hy.symm.trans e)
        have hb10 := p10.full hb9 rfl
        have hreg10 := hI9.reg.kpS p10.kp hb9
        have hrow10 := hI9.row.kpS atC_ns p10.kp hb9
        have hsr10 := hI9.sr.kpS p10.kp hb9
        have k010 := put_k0 hI9.k p10 gn1
        have hmo10 := hmo9.row.kpS auC_ns p10.kp hb9
        refine ⟨(radd_any hreg10 h64 ⟨toD o.x.d, q, cq⟩ hmo10 hle zx (hG' k010)).mono fun e w11 ⟨he, hQ⟩ => ?_⟩
        rcases hQ with ⟨_, hReg11, k11⟩ | ⟨h0, _⟩
        · refine ⟨_, he, .of_k0 k11, bsp_intro (fun h => by exfalso; rw [hE] at h; simp at h) (fun _ => ⟨⟨k + 1, l, ds, dp, dc, by rw [inc64 (by omega)], hlt.1, hlt.2, by omega, k11.blk hb10 (fun h => h), ⟨k010.trans k11, hI.gb, hI.gm, hReg11, hrow10.k0 k11, hsr10.k0 k11, hI.dl⟩⟩, by rw [inc64 (by omega)]; simp only [Int.toNat_natCast]; omega⟩)⟩
        · exact absurd (hE.trans h0) hnz
      · refine ⟨_, _, _, _, _, _, _, he, WrL_block hb9 (Nat.le_refl 2), fun w10 p10 => ⟨.of_kp ((k79.mono fun _ _ h => h.elim).trans p10.kp) (fun y hy e => ?_), ?_⟩⟩
        · simp only [List.mem_cons, List.not_mem_nil, or_false] at hy
          have e : y = n1 := e
          rcases hy with hy | hy
          · exact hne (e.symm.trans hy)
          · exact h8 (hy.symm.trans e)
        have h0' : addE A l (toD o.x.d) = 0 := hE.symm.trans hz2
        obtain ⟨z1, _, z3, _⟩ := addE_zero h0'
        have hsr9 : SR w9 (ds ++ [⟨toD o.x.d, q2, d2⟩]) p' c' := .own how (fun x hx => by
          rcases List.mem_append.1 hx with hx | hx
          · exact hI9.sr.ms x hx
          · simp at hx; subst hx; exact hmr.row.k0 k9) (fun x hx => by
          rcases List.mem_append.1 hx with hx | hx
          · exact hI9.sr.ok x hx
          · simp at hx; subst hx; exact ⟨z1, own_le hmr, zx⟩)
        have hb10 := p10.full hb9 rfl
        have hreg10 := hI9.reg.kpS p10.kp hb9
        have hrow10 := hI9.row.kpS atC_ns p10.kp hb9
        have hsr10 := hsr9.kpS p10.kp hb9
        have k010 := put_k0 hI9.k p10 gn1
        have hmo10 := hmo9.row.kpS auC_ns p10.kp hb9
        obtain ⟨es, cm, hmb, _⟩ := hreg10.map.blk
        have hn10 := p10.kp.blk (k79.blk hn (fun h => h)) (fun e => hne e.symm)
        have hn810 := p10.kp.blk (k79.blk hn8 (fun h => h)) (fun e => h8 e)
        refine ⟨(radd_any hreg10 h64 ⟨toD o.x.d, q, cq⟩ hmo10 hle zx (hG' k010)).mono fun e w11 ⟨he, hQ⟩ => ?_⟩
        rcases hQ with ⟨h0, _⟩ | ⟨_, pn, cn, hReg11, _, k11⟩
        · exact absurd h0' h0
        · have hdl' : DL (aset l (idI (toD o.x.d).id) ⟨toD o.x.d, pn, cn⟩) (ds ++ [⟨toD o.x.d, q2, d2⟩]) := hI.dl.add (x := ⟨toD o.x.d, pn, cn⟩) z3 rfl
          refine ⟨_, he, .of_kp k11 (fun y hy e => ?_), bsp_intro (fun h => by exfalso; rw [show addE A l (DX.mk (toD o.x.d) q cq).d = 0 from h0'] at h; simp at h) (fun _ => ⟨⟨k + 1, aset l (idI (toD o.x.d).id) ⟨toD o.x.d, pn, cn⟩, ds ++ [⟨toD o.x.d, q2, d2⟩], p', c', by rw [inc64 (by omega)], hlt.1, hlt.2, ?_, k11.blk hb10 (fun e => ?_), ?_⟩, by rw [inc64 (by omega)]; simp only [Int.toNat_natCast]; omega⟩)⟩
          · have e : y = mb := e
            subst e
            simp only [List.mem_cons, List.not_mem_nil, or_false] at hy
            rcases hy with hy | hy
            · subst hy; rw [hn10] at hmb; cases hmb
            · subst hy; rw [hn810] at hmb; cases hmb
          · have h1 := hdl'.len
            rw [List.length_append] at h1
            simp only [List.length_cons, List.length_nil] at h1
            omega
          · have e : n1 = mb := e
            subst e; rw [hb10] at hmb; cases hmb
          · exact ⟨k010.fresh k11 (fun j hj e => by have := hI.gm; omega), hI.gb, hI.gm, hReg11, hrow10.kpM k11 hmb, hsr10.kpM k11 hmb, hdl'⟩

end Go.Proofs.YtkkfnlehlkiejaaGreatDoor

/- Chapter 21: worlds of authorities and operations as arguments, with their sizes. No condition. -/
namespace Go.Proofs.YtkkfnlehlkiejaaGreatDoor
open Go.ChangeShapes Go.WideShapes Go.ChangeAt Go.RowKit Go.Deep

instance : Inhabited OpY := ⟨⟨false, dxz⟩⟩
section
variable {H : Type} {enc : TypeId × Value → H} {W : World} {base : Nat} {v : Value}
theorem cellsOp21 : Tryz.prog.cellsOf 84 = 55 := by kernel_rfl
theorem cellsW21 : Tryz.prog.cellsOf 42 = 2 := by kernel_rfl
set_option maxRecDepth 100000 in
theorem rw_Op {l : List Value} (hl : l.length = 55) (hr : Rw enc Tryz.prog W 84 l) : ∃ o : OpY, l = opC o ∧ DfR W o.x := by
  obtain ⟨b0, e0⟩ := Rw.bool (cs := (l.drop 0).take 1) (hr.field Tryz.underlying84 (i := 0) rfl) Tryz.underlying4
  obtain ⟨x, e1, hx⟩ := rw_D (l := (l.drop 1).take 54) (by simp [hl]) (hr.field Tryz.underlying84 (i := 1) rfl)
  refine ⟨⟨b0, x⟩, ?_, hx⟩
  have e0 : l.take 1 = [.bool b0] := e0
  rw [List.take_of_length_le (by simp [hl])] at e1
  rw [← List.take_append_drop 1 l, e0, e1]; rfl
set_option maxRecDepth 100000 in
/-- Operations that were read. -/
theorem open_Ops {cs : List Value} (hr : Rw enc Tryz.prog W 40 cs) : ∃ (p : Option Addr) (l : List OpY) (c : Nat), cs = [.slice p l.length c] ∧ RowA opC 55 W p l ∧ ∀ o ∈ l, DfR W o.x := by
  obtain ⟨p, n, c, hcs, hnc, hby, _, hel⟩ := hr.slice Tryz.underlying40 (by rw [cellsOp21]; decide)
  rw [cellsOp21] at hel
  have key : ∀ i, i < n → ∃ y : OpY, (∃ b o, p = some ⟨b, o, none⟩ ∧ AtL W b (o + i * 55) (opC y)) ∧ DfR W y.x := fun i hi => by
    obtain ⟨b, o, cs', hp, hl, hc, hrw⟩ := hel i hi
    obtain ⟨y, e, hy⟩ := rw_Op hl hrw
    subst e
    exact ⟨y, ⟨b, o, hp, ⟨At_of _ _ fun j v hv => hc j v hv⟩⟩, hy⟩
  obtain ⟨l, hlen, hL⟩ := list_of key
  exact ⟨p, l, c, by rw [hlen]; exact hcs, fun k y hy => (hL k y hy).1, fun h hh => by
    obtain ⟨j, hj, e⟩ := List.getElem_of_mem hh
    exact (hL j h (by rw [List.getElem?_eq_getElem hj, e])).2⟩
set_option maxRecDepth 100000 in
theorem openw_W (hv : Value.okWide Tryz.prog W .any base 42 v) (hr : Rw enc Tryz.prog W 42 v.cells.toList) : ∃ (ap : Option Addr) (As : List Au) (ac : Nat) (op : Option Addr) (Os : List OpY) (oc : Nat), v = .agg #[.slice ap As.length ac, .slice op Os.length oc] ∧ RowA atC 17 W ap As ∧ (∀ x ∈ As, BY x.au) ∧ RowA opC 55 W op Os ∧ ∀ o ∈ Os, DfR W o.x := by
  obtain ⟨cs, rfl, hsz⟩ := okWide_struct Tryz.underlying42 hv
  rw [cellsW21] at hsz
  obtain ⟨l⟩ := cs
  have hsz : l.length = 2 := hsz
  match l, hsz with
  | [c0, c1], _ =>
    have hr : Rw enc Tryz.prog W 42 [c0, c1] := hr
    obtain ⟨ap, As, ac, e0, h1, h2⟩ := open_As (cs := [c0]) (hr.field Tryz.underlying42 (i := 0) rfl)
    obtain ⟨op, Os, oc, e1, h3, h4⟩ := open_Ops (cs := [c1]) (hr.field Tryz.underlying42 (i := 1) rfl)
    simp only [List.cons.injEq, and_true] at e0 e1
    subst e0 e1
    exact ⟨ap, As, ac, op, Os, oc, rfl, h1, h2, h3, h4⟩
end

end Go.Proofs.YtkkfnlehlkiejaaGreatDoor
