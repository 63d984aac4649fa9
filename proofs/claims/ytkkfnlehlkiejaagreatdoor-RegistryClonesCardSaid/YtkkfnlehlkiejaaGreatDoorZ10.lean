/- Chapter 21: the contracts of the law's authorities, To, Of. No condition but sizes. -/
import Derived.Test.YtkkfnlehlkiejaaGreatDoorZ09
import Derived.Test.YtkkfnlehlkiejaaGreatDoorProg
import Derived.Test.YtkkfnlehlkiejaaGreatDoorZ02
import Derived.Test.YtkkfnlehlkiejaaGreatDoorZ03
import Derived.Test.YtkkfnlehlkiejaaGreatDoorZ05
import Derived.KernelRfl
namespace Go.Proofs.YtkkfnlehlkiejaaGreatDoor
open Go.RowKit Go.Maps

def cutA (x : Au) : Au := ⟨x.pt.extract 0 (if (200 : Int) < (x.pt.size : Int) then (200 : Int) else (x.pt.size : Int)).toNat, x.au⟩
def autL (l : List Au) : List Au := (l.take 70).map cutA
theorem cutA_sz (x : Au) : (cutA x).pt.size ≤ 200 := by
  show (x.pt.extract 0 _).size ≤ 200
  rw [ByteArray.size_extract]
  split <;> omega
set_option maxHeartbeats 2000000 in
theorem lauths_any (l : List Au) (p : Option Addr) (c : Nat) (w : World) (hR : RowA atC 17 w p l) :
    Calls Tryz.prog 12 #[.slice p l.length c] w fun e w' => (∃ (p1 : Option Addr) (c1 : Nat) (p2 : Option Addr) (c2 : Nat), e = .returned (.tuple #[.slice p1 (autL l).length c1, .slice p2 (autL l).length c2]) ∧ RowA atC 17 w' p1 (autL l) ∧ RowA atC 17 w' p2 (autL l)) ∧ K0 w w' := by
  refine vc_lauths p l.length c w _ ?_
  refine ⟨fun vs w' => ∃ (k : Nat) (p1 : Option Addr) (c1 : Nat) (p2 : Option Addr) (c2 : Nat), vs = [.int .i64 (k : Int), .slice p2 k c2, .slice p1 k c1] ∧ k ≤ l.length ∧ k ≤ 70 ∧
      w'.ownsRow w.heap.size 94 17 (.slice p1 k c1) k (((l.take k).map cutA).flatMap atC) ∧ w'.ownsRow w.heap.size 92 17 (.slice p2 k c2) k (((l.take k).map cutA).flatMap atC) ∧ K0 w w',
    fun vs _ => (match vs with | .int _ x :: _ => l.length - x.toNat | _ => 0), ⟨0, none, 0, none, 0, rfl, by omega, by omega, World.ownsRow_nil _ _ _ _, World.ownsRow_nil _ _ _ _, .refl _ _⟩, ?_⟩
  rintro x p2' n2' c2' p1' n1' c1' w1 ⟨k, p1, c1, p2, c2, hv, hk, hk7, ho1, ho2, k1⟩
  simp only [List.cons.injEq, Value.int.injEq, Value.slice.injEq, true_and, and_true] at hv
  obtain ⟨rfl, ⟨rfl, rfl, rfl⟩, rfl, rfl, rfl⟩ := hv
  refine bsp_intro (fun hlt => fun W hW => ?_) (fun hge => ?_)
  · have hlt : n1' < l.length ∧ n1' < 70 := by simp at hlt; omega
    have kW : K0 w1 W := hW.kk rfl
    obtain ⟨x, b, o, hx, hp, hat⟩ := (hR.k0 (k1.trans kW)).get hlt.1
    rw [Int.toNat_natCast]
    have hc0 := hat.cell (j := 0) (v := .string x.pt) rfl
    rw [Nat.add_zero] at hc0
    have hau : ∀ wx, K0 W wx → AtL wx b (o + n1' * 17 + 1) (arrI .u8 x.au 16 0) := fun wx k => ⟨At_of _ _ fun j v hv => by
      have := (hat.k0 k).cell (j := j + 1) (v := v) (by simpa [atC] using hv)
      rw [show o + n1' * 17 + (j + 1) = o + n1' * 17 + 1 + j by omega] at this
      exact this⟩
    refine ⟨fun wx => K0 W wx, .refl _ _, nn_is hp ⟨⟨by omega, by omega⟩, x.pt, fun wx k => k.cell' hc0 (fun h => h), nn_is hp ⟨⟨by omega, by omega⟩, x.pt, fun wx k => k.cell' hc0 (fun h => h), ⟨by split <;> omega, by split <;> omega⟩, nn_is hp ⟨⟨by omega, by omega⟩, x.au, hau, fun n w2 hn => ⟨hn.kp _, WrL_block hn.block (by show 0 + 17 ≤ 17; omega), fun w3 p3 => ?_⟩⟩⟩⟩⟩
    have k3 : K0 W w3 := put_k0 (hn.kp _) p3 hn.ge
    have hb3 : w3.heap[n]? = some (.cells (atC (cutA x)).toArray 92 (0, 0)) := p3.full hn.block rfl
    have hnl3 := block_lt hb3
    refine ⟨.of_k0 k3, (cutA x).pt, cell_at hb3 rfl, x.au, AtL_block hb3 rfl, fun n4 W4 hW4 => ?_⟩
    have k4 : K0 w3 W4 := hW4.kk rfl
    have k04 := (kW.trans k3).trans k4
    have ho14 := owns_kp ho1 k04 (fun _ _ h => h)
    have ho24 := owns_kp ho2 k04 (fun _ _ h => h)
    have hb4 := k4.blk hb3 (fun h => h)
    have et : (l.take (n1' + 1)).map cutA = (l.take n1').map cutA ++ [cutA x] := by rw [take_snoc hx, List.map_append]; rfl
    have kw4 := k1.trans k04
    refine ⟨w.heap.size, _, ho14, by omega, by omega, kw4.size, fun q1 d1 w5 ho5 hg5 _ => ?_⟩
    have kg5 := kp_grown hg5
    have hb5 := kg5.blk hb4 (fun e => by
      obtain ⟨ct, hct⟩ := own_type ho14 e
      rw [hb4] at hct
      simp only [Option.some.injEq, Obj.cells.injEq] at hct
      exact absurd hct.2.1 (by decide))
    have k5 : K0 w w5 := kw4.fresh kg5 (fun j hj e => by have := own_ge ho14 e; omega)
    have ho25 := owns_kp ho24 kg5 (fun j h1 h2 => own_types ho24 ho14 (by decide) h1 h2)
    refine ⟨⟨kg5.size, fun _ hx => by cases hx⟩, (cutA x).pt, x.au, AtL_block hb5 rfl, fun n6 W6 hW6 => ?_⟩
    have k6 : K0 w5 W6 := hW6.kk rfl
    have ho26 := owns_kp ho25 k6 (fun _ _ h => h)
    have ho16 := owns_kp ho5 k6 (fun _ _ h => h)
    refine ⟨w.heap.size, _, ho26, by omega, by omega, (k5.trans k6).size, fun q2 d2 w7 ho7 hg7 _ => ?_⟩
    have kg7 := kp_grown hg7
    have ho17 := owns_kp ho16 kg7 (fun j h1 h2 => own_types ho16 ho26 (by decide) h1 h2)
    refine ⟨⟨kg7.size, fun _ hx => by cases hx⟩, ⟨n1' + 1, q1, d1, q2, d2, by rw [inc64 (by omega)], hlt.1, hlt.2, ?_, ?_, (k5.trans k6).fresh kg7 (fun j hj e => by have := own_ge ho26 e; omega)⟩, by rw [inc64 (by omega)]; simp only [Int.toNat_natCast]; omega⟩
    · rw [et, List.flatMap_append, List.flatMap_singleton]; exact ho17
    · rw [et, List.flatMap_append, List.flatMap_singleton]; exact ho7
  · have hk2 : l.take n1' = l.take 70 := by
      have : n1' = l.length ∨ n1' = 70 := by
        simp only [Bool.and_eq_false_iff, decide_eq_false_iff_not] at hge
        omega
      rcases this with h | h
      · rw [h, List.take_length, List.take_of_length_le (by omega)]
      · rw [h]
    have el : (autL l).length = n1' := by
      unfold autL
      rw [← hk2, List.length_map, List.length_take]; omega
    rw [hk2] at ho1 ho2
    rw [el]
    exact ⟨⟨p1', c1', p2', c2', rfl, RowA.own ho1 atC_length (by decide), RowA.own ho2 atC_length (by decide)⟩, k1⟩

/-! ### Definitions turned -/
def toD (d : Df) : Df := ⟨d.id, d.au, d.g.extract 0 (if (100 : Int) < (d.g.size : Int) then (100 : Int) else (d.g.size : Int)).toNat, d.v, d.rm, d.md, d.ms.take 10, d.tx.extract 0 (if (220 : Int) < (d.tx.size : Int) then (220 : Int) else (d.tx.size : Int)).toNat⟩
theorem toD_OK {d : Df} (h : d.OK) : (toD d).OK := ⟨h.id, h.au, fun m hm => h.ms m (List.mem_of_mem_take hm)⟩
def withMs (d : Df) (ms : List (Nat → Int)) : Df := ⟨d.id, d.au, d.g, d.v, d.rm, d.md, ms, d.tx⟩
set_option maxRecDepth 100000 in
set_option maxHeartbeats 4000000 in
theorem lto_any (x : DX) (w : World) (hR : RowA auC 16 w x.p x.d.ms) :
    Calls Tryz.prog 23 #[dfV x] w fun e w' => (∃ (q : Option Addr) (c : Nat), e = .returned (dfV ⟨toD x.d, q, c⟩) ∧ MO w' w.heap.size ⟨toD x.d, q, c⟩) ∧ K0 w w' := by
  obtain ⟨d, p, c⟩ := x
  refine vc_lto d.id d.au d.g d.v d.rm d.md p d.ms.length c d.tx w _ (fun n1 n2 W hW => ?_)
  have kW : K0 w W := hW.kk rfl
  have b1 := hW.cells 1 rfl
  have b2 := hW.cells 0 rfl
  have l1 := block_lt b1
  have l2 := block_lt b2
  simp only at l1 l2
  have b1x : ∀ wx, K0 W wx → wx.heap[n1]? = _ := fun wx k => k.blk b1 (fun h => h)
  simp only at hR
  refine ⟨fun wx => K0 W wx, .refl _ _, d.id, fun wx k => AtL_block (b1x wx k) rfl, d.au, fun wx k => AtL_block (b1x wx k) rfl, d.g, fun wx k => cell_at (b1x wx k) rfl, d.g, fun wx k => cell_at (b1x wx k) rfl, ⟨by split <;> omega, by split <;> omega⟩, d.v, fun wx k => cell_at (b1x wx k) rfl, d.rm, fun wx k => cell_at (b1x wx k) rfl, d.md, fun wx k => cell_at (b1x wx k) rfl, d.tx, fun wx k => cell_at (b1x wx k) rfl, d.tx, fun wx k => cell_at (b1x wx k) rfl, ⟨by split <;> omega, by split <;> omega⟩, fun n3 w2 hn3 => ⟨hn3.kp _, WrL_block hn3.block (by show 0 + 54 ≤ 54; omega), fun w3 p3 => ?_⟩⟩
  have k3 : K0 W w3 := put_k0 (hn3.kp _) p3 hn3.ge
  have g3 : W.heap.size ≤ n3 := hn3.ge
  have hb3 : w3.heap[n3]? = some (.cells (dfC ⟨withMs (toD d) [], none, 0⟩).toArray 56 (0, 0)) := p3.full hn3.block rfl
  refine ⟨.of_k0 k3, fun vs w' => ∃ (k : Nat) (q : Option Addr) (cq : Nat), vs = [.int .i64 (k : Int)] ∧ k ≤ d.ms.length ∧ k ≤ 10 ∧ w'.heap[n3]? = some (.cells (dfC ⟨withMs (toD d) (d.ms.take k), q, cq⟩).toArray 56 (0, 0)) ∧
      w'.ownsRow W.heap.size 53 16 (.slice q k cq) k ((d.ms.take k).flatMap auC) ∧ K0 W w',
    fun vs _ => (match vs with | .int _ x :: _ => d.ms.length - x.toNat | _ => 0), ⟨0, none, 0, rfl, by omega, by omega, hb3, World.ownsRow_nil _ _ _ _, k3⟩, ?_⟩
  rintro x w4 ⟨k, q, cq, hv, hk, hk10, hb4, ho4, k4⟩ _
  simp only [List.cons.injEq, Value.int.injEq, true_and, and_true] at hv
  subst hv
  have hlk : (d.ms.take k).length = k := by rw [List.length_take]; omega
  refine bsp_intro (fun hlt => fun W5 hW5 => ?_) (fun hge => ?_)
  · have hlt : k < d.ms.length ∧ k < 10 := by simp at hlt; omega
    have k5 : K0 w4 W5 := hW5.kk rfl
    have k05 := k4.trans k5
    have hb5 := k5.blk hb4 (fun h => h)
    obtain ⟨z, b, o, hz, hp, hat⟩ := (hR.k0 (kW.trans k05)).get hlt.1
    rw [Int.toNat_natCast]
    have hs52 : ∀ wx, K0 W5 wx → wx.cell? ⟨n3, 0 + 52, none⟩ = some (.slice q k cq) := fun wx k' => by
      have := cell_at (o := 0 + 52) (v := .slice q (d.ms.take k).length cq) (k'.blk hb5 (fun h => h)) rfl
      rw [hlk] at this
      exact this
    refine ⟨fun wx => K0 W5 wx, .refl _ _, q, k, cq, hs52, p, d.ms.length, c, fun wx k' => cell_at (b1x wx (k05.trans k')) rfl, nn_is hp ⟨⟨by omega, by omega⟩, z, fun wx k' => hat.k0 k', fun n6 w6 hn6 => ⟨hn6.kp _, ?_⟩⟩⟩
    have k6 : K0 W5 w6 := hn6.kp _
    have ho6 := owns_kp ho4 (k5.trans k6) (fun _ _ h => h)
    have hb6 := k6.blk hb5 (fun h => h)
    refine ⟨W.heap.size, (d.ms.take k).flatMap auC, auC z, ho6, auC_length z, src_block hn6.block (fun u hu => arr_one z 16 u hu), by omega, by omega, (k05.trans k6).size, fun q7 c7 w7 ho7 hg7 _ => ?_⟩
    have kg := kp_grown hg7
    have hb7 := kg.blk hb6 (fun e => by
      obtain ⟨ct, hct⟩ := own_type ho6 e
      rw [hb6] at hct
      simp only [Option.some.injEq, Obj.cells.injEq] at hct
      exact absurd hct.2.1 (by decide))
    refine ⟨cell_wr hb7 (by show 0 + 52 < 54; omega), fun w8 p8 => ?_⟩
    have et : d.ms.take (k + 1) = d.ms.take k ++ [z] := take_snoc hz
    have hb8 : w8.heap[n3]? = some (.cells (dfC ⟨withMs (toD d) (d.ms.take (k + 1)), q7, c7⟩).toArray 56 (0, 0)) := by
      rw [p8.block hb7]
      have el : (d.ms.take (k + 1)).length = k + 1 := by rw [List.length_take]; omega
      show some (Obj.cells (putL (dfC ⟨withMs (toD d) (d.ms.take k), q, cq⟩) 52 [.slice q7 (k + 1) c7]).toArray _ _) = some (Obj.cells (arrI .u8 d.id 32 0 ++ (arrI .u8 d.au 16 0 ++ ([.string (toD d).g, .int .i64 d.v, .bool d.rm, .bool d.md, .slice q7 (d.ms.take (k + 1)).length c7, .string (toD d).tx] : List Value))).toArray _ _)
      rw [el]; rfl
    have k8 : K0 W w8 := (k05.trans k6).fresh ((kg.mono fun _ _ h => Or.inl h).trans (p8.kp.mono fun _ _ h => Or.inr h) : Kp (fun j => (Value.slice q k cq).ownBlock = some j ∨ j = n3) w6 w8) (fun j hj e => by
      rcases e with e | e
      · have := own_ge ho6 e; omega
      · omega)
    refine ⟨.of_kp ((k6.mono fun _ _ h => h.elim).trans ((kg.mono fun _ _ h => Or.inl h).trans (p8.kp.mono fun _ _ h => Or.inr h) : Kp (fun j => (Value.slice q k cq).ownBlock = some j ∨ j = n3) w6 w8)) (fun y hy e => ?_), ⟨k + 1, q7, c7, by rw [inc64 (by omega)], hlt.1, hlt.2, hb8, ?_, k8⟩, by rw [inc64 (by omega)]; simp only [Int.toNat_natCast]; omega⟩
    · simp only [List.mem_cons, List.not_mem_nil, or_false] at hy
      rcases e with e | e
      · have := own_ge ho6 e; rcases hy with hy | hy <;> omega
      · rcases hy with hy | hy <;> omega
    · rw [et, List.flatMap_append, List.flatMap_singleton]
      refine owns_kp ho7 p8.kp (fun j hj e => ?_)
      have e : j = n3 := e
      subst e
      obtain ⟨ct, hct⟩ := own_type ho7 hj
      rw [hb7] at hct
      simp only [Option.some.injEq, Obj.cells.injEq] at hct
      exact absurd hct.2.1 (by decide)
  · have hk2 : d.ms.take k = d.ms.take 10 := by
      have : k = d.ms.length ∨ k = 10 := by
        simp only [Bool.and_eq_false_iff, decide_eq_false_iff_not] at hge
        omega
      rcases this with h | h
      · rw [h, List.take_length, List.take_of_length_le (by omega)]
      · rw [h]
    have hlk2 : (d.ms.take 10).length = k := by rw [← hk2]; exact hlk
    rw [hk2] at hb4 ho4
    refine ⟨_, _, _, _, _, _, _, _, _, _, AtL_block hb4 rfl, fun W5 hW5 => ⟨⟨q, cq, rfl, ?_⟩, hW5.k0 (kW.trans k4)⟩⟩
    have : MO w4 W.heap.size ⟨toD d, q, cq⟩ := by
      show w4.ownsRow _ _ _ (.slice q (d.ms.take 10).length cq) (d.ms.take 10).length _
      rw [hlk2]; exact ho4
    refine own_base (this.kp hW5.kp (fun j hj ⟨y, hy, hm, e⟩ => ?_)) kW.size
    have := own_ge this hj
    simp only [List.mem_cons, List.not_mem_nil, or_false] at hy
    rcases hy with rfl | rfl
    · have e : n2 = j := e
      omega
    · cases hm
/-- The moderators of a definition of the reference, in memory of their own. -/
def MOr (w : World) (B : Nat) (x : DX) : Prop := w.ownsRow B 23 16 (.slice x.p x.d.ms.length x.c) x.d.ms.length (x.d.ms.flatMap auC)
theorem MOr.row {w : World} {B : Nat} {x : DX} (h : MOr w B x) : RowA auC 16 w x.p x.d.ms := RowA.own h auC_length (by decide)
set_option maxRecDepth 100000 in
set_option maxHeartbeats 4000000 in
theorem lof_any (x : DX) (w : World) (hR : RowA auC 16 w x.p x.d.ms) (hl : x.d.ms.length ≤ 1000000) :
    Calls Tryz.prog 26 #[dfV x] w fun e w' => (∃ (q : Option Addr) (c : Nat), e = .returned (dfV ⟨x.d, q, c⟩) ∧ MOr w' w.heap.size ⟨x.d, q, c⟩) ∧ K0 w w' := by
  obtain ⟨d, p, c⟩ := x
  simp only at hR hl
  refine vc_lof d.id d.au d.g d.v d.rm d.md p d.ms.length c d.tx w _ (fun n1 n2 n3 W hW => ?_)
  have kW : K0 w W := hW.kk rfl
  have b1 := hW.cells 2 rfl
  have b2 := hW.cells 1 rfl
  have l1 := block_lt b1
  have l2 := block_lt b2
  have hb3 : W.heap[n3]? = some (.cells (dfC ⟨withMs d [], none, 0⟩).toArray 50 (0, 0)) := hW.cells 0 rfl
  have l3 := block_lt hb3
  have g3 : w.heap.size ≤ n3 := hW.le 0 rfl
  have a13 : n3 ≠ n1 := hW.apart 0 2 rfl rfl (by decide)
  have a23 : n3 ≠ n2 := hW.apart 0 1 rfl rfl (by decide)
  simp only at l1 l2
  refine ⟨fun vs w' => ∃ (k : Nat) (q : Option Addr) (cq : Nat), vs = [.int .i64 (k : Int)] ∧ k ≤ d.ms.length ∧ w'.heap[n3]? = some (.cells (dfC ⟨withMs d (d.ms.take k), q, cq⟩).toArray 50 (0, 0)) ∧
      w'.ownsRow W.heap.size 23 16 (.slice q k cq) k ((d.ms.take k).flatMap auC) ∧ Kp (fun j => j = n3 ∨ W.heap.size ≤ j) W w',
    fun vs _ => (match vs with | .int _ x :: _ => d.ms.length - x.toNat | _ => 0), ⟨0, none, 0, rfl, by omega, hb3, World.ownsRow_nil _ _ _ _, .refl _ _⟩, ?_⟩
  rintro x w4 ⟨k, q, cq, hv, hk, hb4, ho4, k4⟩ _
  simp only [List.cons.injEq, Value.int.injEq, true_and, and_true] at hv
  subst hv
  have kw4 : K0 w w4 := kW.fresh k4 (fun j hj e => by have := kW.size; rcases e with e | e <;> omega)
  have hlk : (d.ms.take k).length = k := by rw [List.length_take]; omega
  refine bsp_intro (fun hlt => fun W5 hW5 => ?_) (fun hge => ?_)
  · have hlt : k < d.ms.length := by simp at hlt; omega
    have k5 : K0 w4 W5 := hW5.kk rfl
    have b5 := hW5.cells 1 rfl
    have hb5 := k5.blk hb4 (fun h => h)
    obtain ⟨z, b, o, hz, hp, hat⟩ := (hR.k0 (kw4.trans k5)).get hlt
    rw [Int.toNat_natCast]
    have hs52 : ∀ wx, K0 W5 wx → wx.cell? ⟨n3, 0 + 52, none⟩ = some (.slice q k cq) := fun wx k' => by
      have := cell_at (o := 0 + 52) (v := .slice q (d.ms.take k).length cq) (k'.blk hb5 (fun h => h)) rfl
      rw [hlk] at this
      exact this
    refine ⟨fun wx => K0 W5 wx, .refl _ _, q, k, cq, hs52, p, d.ms.length, c, fun wx k' => cell_at (k'.blk b5 (fun h => h)) rfl, nn_is hp ⟨⟨by omega, by omega⟩, z, fun wx k' => hat.k0 k', fun n6 w6 hn6 => ⟨hn6.kp _, ?_⟩⟩⟩
    have k6 : K0 W5 w6 := hn6.kp _
    have ho6 := owns_kp ho4 (k5.trans k6) (fun _ _ h => h)
    have hb6 := k6.blk hb5 (fun h => h)
    refine ⟨W.heap.size, (d.ms.take k).flatMap auC, auC z, ho6, auC_length z, src_block hn6.block (fun u hu => arr_one z 16 u hu), by omega, by omega, Nat.le_trans k4.size (k5.trans k6).size, fun q7 c7 w7 ho7 hg7 _ => ?_⟩
    have kg := kp_grown hg7
    have hb7 := kg.blk hb6 (fun e => by have := own_ge ho6 e; omega)
    refine ⟨cell_wr hb7 (by show 0 + 52 < 54; omega), fun w8 p8 => ?_⟩
    have et : d.ms.take (k + 1) = d.ms.take k ++ [z] := take_snoc hz
    have hb8 : w8.heap[n3]? = some (.cells (dfC ⟨withMs d (d.ms.take (k + 1)), q7, c7⟩).toArray 50 (0, 0)) := by
      rw [p8.block hb7]
      have el : (d.ms.take (k + 1)).length = k + 1 := by rw [List.length_take]; omega
      show some (Obj.cells (putL (dfC ⟨withMs d (d.ms.take k), q, cq⟩) 52 [.slice q7 (k + 1) c7]).toArray _ _) = some (Obj.cells (arrI .u8 d.id 32 0 ++ (arrI .u8 d.au 16 0 ++ ([.string d.g, .int .i64 d.v, .bool d.rm, .bool d.md, .slice q7 (d.ms.take (k + 1)).length c7, .string d.tx] : List Value))).toArray _ _)
      rw [el]; rfl
    have k68 : Kp (fun j => (Value.slice q k cq).ownBlock = some j ∨ j = n3) w6 w8 := (kg.mono fun _ _ h => Or.inl h).trans (p8.kp.mono fun _ _ h => Or.inr h)
    refine ⟨.of_kp ((k6.mono fun _ _ h => h.elim).trans k68) (fun y hy e => ?_), ⟨k + 1, q7, c7, by rw [inc64 (by omega)], hlt, hb8, ?_, (k4.trans ((k5.trans k6).mono fun _ _ h => h.elim)).trans (k68.mono fun j hj e => ?_)⟩, by rw [inc64 (by omega)]; simp only [Int.toNat_natCast]; omega⟩
    · simp only [List.mem_cons, List.not_mem_nil, or_false] at hy
      rcases e with e | e
      · have := own_ge ho6 e; rcases hy with hy | hy <;> omega
      · rcases hy with hy | hy
        · exact a23 (by omega)
        · exact a13 (by omega)
    · rw [et, List.flatMap_append, List.flatMap_singleton]
      exact owns_kp ho7 p8.kp (fun j hj e => by have := own_ge ho7 hj; have e : j = n3 := e; omega)
    · rcases e with e | e
      · exact .inr (own_ge ho6 e)
      · exact .inl e
  · have hk2 : k = d.ms.length := by simp at hge; omega
    subst hk2
    rw [List.take_length] at hb4 ho4
    refine ⟨_, _, _, _, _, _, _, _, _, _, AtL_block hb4 rfl, fun W5 hW5 => ⟨⟨q, cq, rfl, ?_⟩, hW5.k0 kw4⟩⟩
    have : MOr w4 W.heap.size ⟨d, q, cq⟩ := ho4
    refine own_base (owns_kp this hW5.kp (fun j hj ⟨y, hy, hm, e⟩ => ?_)) kW.size
    have := own_ge this hj
    simp only [List.mem_cons, List.not_mem_nil, or_false] at hy
    rcases hy with rfl | rfl
    · have e : n2 = j := e
      omega
    · cases hm

end Go.Proofs.YtkkfnlehlkiejaaGreatDoor

/- The formulas of functions by the symbolic evaluator, and that each gives the call's contract. Written by a program (gen.py). No condition. -/
namespace Go.Proofs.YtkkfnlehlkiejaaGreatDoor
set_option maxRecDepth 100000
set_option linter.unusedVariables false

end Go.Proofs.YtkkfnlehlkiejaaGreatDoor

/- Chapter 21: RegistryAuthorities always returns true. The library's variable MaxLen holds a number. -/
namespace Go.Proofs.YtkkfnlehlkiejaaGreatDoor
open Go.RowKit Go.Maps

theorem autL_BY {l : List Au} (h : ∀ x ∈ l, BY x.au) : ∀ x ∈ autL l, BY x.au := fun x hx => by
  obtain ⟨y, hy, rfl⟩ := List.mem_map.1 hx
  exact h y (List.mem_of_mem_take hy)
theorem autL_sz {l : List Au} : ∀ x ∈ autL l, x.pt.size ≤ 1073741824 := fun x hx => by
  obtain ⟨y, _, rfl⟩ := List.mem_map.1 hx
  have := cutA_sz y
  omega
end Go.Proofs.YtkkfnlehlkiejaaGreatDoor

/- Rows and blocks of different types are apart. Generic: no program, no condition. -/
namespace Go.Proofs.YtkkfnlehlkiejaaGreatDoor
open Go.RowKit

theorem own_loc {z : Nat} {T : List Blk} {w W : World} {base : Nat} {e : TypeId} {size : Nat} {v : Value} {n : Nat} {xs : List Value} (ho : w.ownsRow base e size v n xs) (hL : Loc z T w W) (hT : ∀ b ∈ T, ¬ v.ownBlock = some b.n) : W.ownsRow base e size v n xs :=
  owns_kp ho hL.kp (fun k hk ⟨x, hx, h3, h4⟩ => hT x hx (by rw [hk]; first | rw [h4] | rw [← h4]))
end Go.Proofs.YtkkfnlehlkiejaaGreatDoor

/- The formulas of functions by the symbolic evaluator, and that each gives the call's contract. Written by a program (gen.py). No condition. -/
namespace Go.Proofs.YtkkfnlehlkiejaaGreatDoor
set_option maxRecDepth 100000
set_option linter.unusedVariables false

def VC_xadd (ap : Option Addr) (an : Nat) (ac : Nat) (dp : Option Addr) (dn : Nat) (dc : Nat) (id : Nat → Int) (au : Nat → Int) (g : ByteArray) (v : Int) (rm : Bool) (md : Bool) (p : Option Addr) (n : Nat) (c : Nat) (t : ByteArray) (w : World) (R : Ending → World → Prop) : Prop :=
 ∀ (n_1 n_2 n_3 : Nat) (W : World),
 Loc w.heap.size
 [Blk.mk n_3 33 [Value.slice none 0 0, Value.slice none 0 0] 2,
 Blk.mk n_2 50
 (arrI IntKind.u8 id 32 0 ++ (arrI IntKind.u8 au 16 0 ++ [Value.string g,
 Value.int IntKind.i64 v, Value.bool rm, Value.bool md, Value.slice p n c, Value.string t]))
 2,
 Blk.mk n_1 33 [Value.slice ap an ac, Value.slice dp dn dc] 2]
 w W →
 CallsS Tryz.prog 25
 #[Value.agg
 (arrI IntKind.u8 id 32 0 ++ (arrI IntKind.u8 au 16 0 ++ [Value.string g,
 Value.int IntKind.i64 v, Value.bool rm, Value.bool md, Value.slice p n c, Value.string t])).toArray]
 W fun (e : Ending) (w' : World) =>
 ∃ (x : Int),
 e = Ending.returned (Value.int IntKind.i64 x) ∧
 KeptL [n_3, n_2, n_1] W w' ∧
 bsp (x != 0)
 (∀ (W : World),
 Loc w.heap.size
 [Blk.mk n_3 33 [Value.slice ap an ac, Value.slice dp dn dc] (wrM 0),
 Blk.mk n_2 50
 (arrI IntKind.u8 id 32 0 ++ (arrI IntKind.u8 au 16 0 ++ [Value.string g,
 Value.int IntKind.i64 v, Value.bool rm, Value.bool md, Value.slice p n c, Value.string t]))
 0,
 Blk.mk n_1 33 [Value.slice ap an ac, Value.slice dp dn dc] 0]
 w' W →
 R
 (Ending.returned
 (Value.tuple #[Value.agg #[Value.slice ap an ac, Value.slice dp dn dc], Value.int IntKind.i64 x]))
 W)
 (CallsS Tryz.prog 17
 #[Value.agg #[Value.slice ap an ac, Value.slice dp dn dc], Value.string g,
 Value.agg
 (arrI IntKind.u8 au 16 0).toArray]
 w' fun (e : Ending) (w'_1 : World) =>
 ∃ (x : Bool),
 e = Ending.returned (Value.bool x) ∧
 KeptL [n_3, n_2, n_1] w' w'_1 ∧
 bsp (!x)
 (∀ (W : World),
 Loc w.heap.size
 [Blk.mk n_3 33 [Value.slice ap an ac, Value.slice dp dn dc] (wrM 0),
 Blk.mk n_2 50
 (arrI IntKind.u8 id 32 0 ++ (arrI IntKind.u8 au 16 0 ++ [Value.string g, Value.int IntKind.i64 v, Value.bool rm, Value.bool md, Value.slice p n c,
 Value.string t]))
 0,
 Blk.mk n_1 33 [Value.slice ap an ac, Value.slice dp dn dc] 0]
 w'_1 W →
 R
 (Ending.returned
 (Value.tuple #[Value.agg #[Value.slice ap an ac, Value.slice dp dn dc], Value.int IntKind.i64 20]))
 W)
 (CallsS Tryz.prog 70
 #[Value.agg #[Value.slice ap an ac, Value.slice dp dn dc],
 Value.agg
 (arrI IntKind.u8 id 32 0).toArray]
 w'_1 fun (e : Ending) (w' : World) =>
 ∃ (x : Int),
 e = Ending.returned (Value.int IntKind.i64 x) ∧
 KeptL [n_3, n_2, n_1] w'_1 w' ∧
 bsp (decide (x ≥ 0))
 (∀ (W : World),
 Loc w.heap.size
 [Blk.mk n_3 33 [Value.slice ap an ac, Value.slice dp dn dc] (wrM 0),
 Blk.mk n_2 50
 (arrI IntKind.u8 id 32 0 ++ (arrI IntKind.u8 au 16 0 ++ [Value.string g, Value.int IntKind.i64 v, Value.bool rm, Value.bool md, Value.slice p n c,
 Value.string t]))
 0,
 Blk.mk n_1 33 [Value.slice ap an ac, Value.slice dp dn dc] 0]
 w' W →
 R
 (Ending.returned
 (Value.tuple #[Value.agg #[Value.slice ap an ac, Value.slice dp dn dc], Value.int IntKind.i64 7]))
 W)
 (bsp (decide ((↑dn : Int) ≥ 4096))
 (∀ (W : World),
 Loc w.heap.size
 [Blk.mk n_3 33 [Value.slice ap an ac, Value.slice dp dn dc] (wrM 0),
 Blk.mk n_2 50
 (arrI IntKind.u8 id 32 0 ++ (arrI IntKind.u8 au 16 0 ++ [Value.string g, Value.int IntKind.i64 v, Value.bool rm, Value.bool md, Value.slice p n c,
 Value.string t]))
 0,
 Blk.mk n_1 33 [Value.slice ap an ac, Value.slice dp dn dc] 0]
 w' W →
 R
 (Ending.returned
 (Value.tuple #[Value.agg #[Value.slice ap an ac, Value.slice dp dn dc], Value.int IntKind.i64 9]))
 W)
 (∀ (W : World),
 Loc w.heap.size
 [Blk.mk n_3 33 [Value.slice none 0 0, Value.slice none 0 0] 0,
 Blk.mk n_2 50
 (arrI IntKind.u8 id 32 0 ++ (arrI IntKind.u8 au 16 0 ++ [Value.string g, Value.int IntKind.i64 v, Value.bool rm, Value.bool md, Value.slice p n c,
 Value.string t]))
 0,
 Blk.mk n_1 33 [Value.slice ap an ac, Value.slice dp dn dc] 0]
 w' W →
 ∃ (S : World → Prop),
 S W ∧
 ∃ (p_1 : Option Addr),
 ∃ (n_4 : Nat),
 ∃ (c_1 : Nat),
 (∀ (w' : World), S w' → w'.cell? (Addr.mk n_1 (0 + 1) none) = some (Value.slice p_1 n_4 c_1)) ∧
 ∃ (f : Nat → Int),
 ∃ (f_1 : Nat → Int),
 ∃ (x : ByteArray),
 ∃ (x_1 : Int),
 ∃ (x_2 : Bool),
 ∃ (x_3 : Bool),
 ∃ (p_2 : Option Addr),
 ∃ (n_5 : Nat),
 ∃ (c_2 : Nat),
 ∃ (x_4 : ByteArray),
 (∀ (w' : World),
 S w' →
 AtL w' n_2 0
 (arrI IntKind.u8 f 32 0 ++ (arrI IntKind.u8 f_1 16 0 ++ [Value.string x,
 Value.int IntKind.i64 x_1, Value.bool x_2, Value.bool x_3,
 Value.slice p_2 n_5 c_2, Value.string x_4]))) ∧
 (∀ (n_6 : Nat) (w1 : World),
 NewB W (Obj.cells #[] 50) n_6 w1 →
 S w1 ∧
 (∃ (base : Nat),
 ∃ (xs : List Value),
 ∃ (news : List Value),
 w1.ownsRow base 50 54 (Value.slice (some (Addr.mk n_6 0 none)) 0 0) 0 xs ∧
 news.length = n_4 * 54 ∧
 SrcP w1 p_1 news ∧
 0 + n_4 ≤ 9223372036854775807 ∧
 (0 + n_4) * 120 ≤ 140737488355328 ∧
 base ≤ w1.heap.size ∧
 ∀ (p' : Option Addr) (c' : Nat) (w' : World),
 w'.ownsRow base 50 54 (Value.slice p' (0 + n_4) c') (0 + n_4)
 (xs ++ news) →
 w1.grownBy w'
 (Value.slice (some (Addr.mk n_6 0 none)) 0 0).ownBlock →
 (0 + n_4 ≤ 0 → p' = some (Addr.mk n_6 0 none) ∧ c' = 0) →
 S w' ∧
 ∀ (n_7 : Nat) (w1 : World),
 NewB w'
 (Obj.cells
 (arrI IntKind.u8 f 32 0 ++ (arrI IntKind.u8 f_1 16 0 ++ [Value.string x,
 Value.int IntKind.i64 x_1, Value.bool x_2, Value.bool x_3,
 Value.slice p_2 n_5 c_2, Value.string x_4])).toArray
 50)
 n_7 w1 →
 S w1 ∧
 ∃ (base : Nat),
 ∃ (xs : List Value),
 ∃ (news : List Value),
 w1.ownsRow base 50 54 (Value.slice p' (0 + n_4) c')
 (0 + n_4) xs ∧
 news.length = 54 ∧
 SrcP w1 (some (Addr.mk n_7 0 none)) news ∧
 0 + n_4 + 1 ≤ 9223372036854775807 ∧
 (0 + n_4 + 1) * 120 ≤ 140737488355328 ∧
 base ≤ w1.heap.size ∧
 ∀ (p'_1 : Option Addr) (c'_1 : Nat) (w' : World),
 w'.ownsRow base 50 54
 (Value.slice p'_1 (0 + n_4 + 1) c'_1)
 (0 + n_4 + 1) (xs ++ news) →
 w1.grownBy w'
 (Value.slice p' (0 + n_4) c').ownBlock →
 (0 + n_4 + 1 ≤ c' → p'_1 = p' ∧ c'_1 = c') →
 ((∃ (u : Value),
 w'.cell? (Addr.mk n_1 (0 + 1) none) =
 some u) ∧
 w'.frozen? (Addr.mk n_1 (0 + 1) none) =
 false) ∧
 ∀ (w1 : World),
 PutB w' n_1 (0 + 1)
 [Value.slice p'_1 (0 + n_4 + 1) c'_1] w1 →
 KeptL [n_3, n_2] W w1 ∧
 ∃ (p_3 : Option Addr),
 ∃ (n_8 : Nat),
 ∃ (c_3 : Nat),
 ∃ (p_4 : Option Addr),
 ∃ (n_9 : Nat),
 ∃ (c_4 : Nat),
 AtL w1 n_1 0
 [Value.slice p_3 n_8 c_3,
 Value.slice p_4 n_9 c_4] ∧
 ∀ (W : World),
 Loc w.heap.size
 [Blk.mk n_3 33
 [Value.slice p_3 n_8 c_3,
 Value.slice p_4 n_9 c_4]
 (wrM 0),
 Blk.mk n_2 50
 (arrI IntKind.u8 id 32 0 ++ (arrI IntKind.u8 au 16 0 ++ [Value.string g,
 Value.int IntKind.i64 v,
 Value.bool rm, Value.bool md,
 Value.slice p n c,
 Value.string t]))
 0]
 w1 W →
 R
 (Ending.returned
 (Value.tuple
 #[Value.agg
 #[Value.slice p_3 n_8 c_3,
 Value.slice p_4 n_9 c_4],
 Value.int IntKind.i64 0]))
 W) ∧
 ∀ (n_7 : Nat) (w1_1 : World),
 NewB w1
 (Obj.cells
 (arrI IntKind.u8 f 32 0 ++ (arrI IntKind.u8 f_1 16 0 ++ [Value.string x, Value.int IntKind.i64 x_1, Value.bool x_2,
 Value.bool x_3, Value.slice p_2 n_5 c_2, Value.string x_4])).toArray
 50)
 n_7 w1_1 →
 S w1_1 ∧
 ∃ (base : Nat),
 ∃ (xs : List Value),
 ∃ (news : List Value),
 w1_1.ownsRow base 50 54 (Value.slice (some (Addr.mk n_6 0 none)) 0 0) 0
 xs ∧
 news.length = n_4 * 54 ∧
 SrcP w1_1 p_1 news ∧
 0 + n_4 ≤ 9223372036854775807 ∧
 (0 + n_4) * 120 ≤ 140737488355328 ∧
 base ≤ w1_1.heap.size ∧
 ∀ (p' : Option Addr) (c' : Nat) (w' : World),
 w'.ownsRow base 50 54 (Value.slice p' (0 + n_4) c') (0 + n_4)
 (xs ++ news) →
 w1_1.grownBy w'
 (Value.slice (some (Addr.mk n_6 0 none)) 0 0).ownBlock →
 (0 + n_4 ≤ 0 → p' = some (Addr.mk n_6 0 none) ∧ c' = 0) →
 S w' ∧
 ∃ (base : Nat),
 ∃ (xs : List Value),
 ∃ (news : List Value),
 w'.ownsRow base 50 54 (Value.slice p' (0 + n_4) c')
 (0 + n_4) xs ∧
 news.length = 54 ∧
 SrcP w' (some (Addr.mk n_7 0 none)) news ∧
 0 + n_4 + 1 ≤ 9223372036854775807 ∧
 (0 + n_4 + 1) * 120 ≤ 140737488355328 ∧
 base ≤ w'.heap.size ∧
 ∀ (p'_1 : Option Addr) (c'_1 : Nat) (w'_2 : World),
 w'_2.ownsRow base 50 54
 (Value.slice p'_1 (0 + n_4 + 1) c'_1)
 (0 + n_4 + 1) (xs ++ news) →
 w'.grownBy w'_2
 (Value.slice p' (0 + n_4) c').ownBlock →
 (0 + n_4 + 1 ≤ c' → p'_1 = p' ∧ c'_1 = c') →
 ((∃ (u : Value),
 w'_2.cell? (Addr.mk n_1 (0 + 1) none) =
 some u) ∧
 w'_2.frozen? (Addr.mk n_1 (0 + 1) none) =
 false) ∧
 ∀ (w1 : World),
 PutB w'_2 n_1 (0 + 1)
 [Value.slice p'_1 (0 + n_4 + 1) c'_1] w1 →
 KeptL [n_3, n_2] W w1 ∧
 ∃ (p_3 : Option Addr),
 ∃ (n_8 : Nat),
 ∃ (c_3 : Nat),
 ∃ (p_4 : Option Addr),
 ∃ (n_9 : Nat),
 ∃ (c_4 : Nat),
 AtL w1 n_1 0
 [Value.slice p_3 n_8 c_3,
 Value.slice p_4 n_9 c_4] ∧
 ∀ (W : World),
 Loc w.heap.size
 [Blk.mk n_3 33
 [Value.slice p_3 n_8 c_3,
 Value.slice p_4 n_9 c_4]
 (wrM 0),
 Blk.mk n_2 50
 (arrI IntKind.u8 id 32 0 ++ (arrI IntKind.u8 au 16 0 ++ [Value.string g,
 Value.int IntKind.i64 v,
 Value.bool rm, Value.bool md,
 Value.slice p n c,
 Value.string t]))
 0]
 w1 W →
 R
 (Ending.returned
 (Value.tuple
 #[Value.agg
 #[Value.slice p_3 n_8 c_3,
 Value.slice p_4 n_9 c_4],
 Value.int IntKind.i64 0]))
 W) ∧
 ∀ (n_6 : Nat) (w1 : World),
 NewB W
 (Obj.cells
 (arrI IntKind.u8 f 32 0 ++ (arrI IntKind.u8 f_1 16 0 ++ [Value.string x,
 Value.int IntKind.i64 x_1, Value.bool x_2, Value.bool x_3,
 Value.slice p_2 n_5 c_2, Value.string x_4])).toArray
 50)
 n_6 w1 →
 S w1 ∧
 ∀ (n_7 : Nat) (w1_1 : World),
 NewB w1 (Obj.cells #[] 50) n_7 w1_1 →
 S w1_1 ∧
 ∃ (base : Nat),
 ∃ (xs : List Value),
 ∃ (news : List Value),
 w1_1.ownsRow base 50 54 (Value.slice (some (Addr.mk n_7 0 none)) 0 0) 0
 xs ∧
 news.length = n_4 * 54 ∧
 SrcP w1_1 p_1 news ∧
 0 + n_4 ≤ 9223372036854775807 ∧
 (0 + n_4) * 120 ≤ 140737488355328 ∧
 base ≤ w1_1.heap.size ∧
 ∀ (p' : Option Addr) (c' : Nat) (w' : World),
 w'.ownsRow base 50 54 (Value.slice p' (0 + n_4) c') (0 + n_4)
 (xs ++ news) →
 w1_1.grownBy w'
 (Value.slice (some (Addr.mk n_7 0 none)) 0 0).ownBlock →
 (0 + n_4 ≤ 0 → p' = some (Addr.mk n_7 0 none) ∧ c' = 0) →
 S w' ∧
 ∃ (base : Nat),
 ∃ (xs : List Value),
 ∃ (news : List Value),
 w'.ownsRow base 50 54 (Value.slice p' (0 + n_4) c')
 (0 + n_4) xs ∧
 news.length = 54 ∧
 SrcP w' (some (Addr.mk n_6 0 none)) news ∧
 0 + n_4 + 1 ≤ 9223372036854775807 ∧
 (0 + n_4 + 1) * 120 ≤ 140737488355328 ∧
 base ≤ w'.heap.size ∧
 ∀ (p'_1 : Option Addr) (c'_1 : Nat) (w'_2 : World),
 w'_2.ownsRow base 50 54
 (Value.slice p'_1 (0 + n_4 + 1) c'_1)
 (0 + n_4 + 1) (xs ++ news) →
 w'.grownBy w'_2
 (Value.slice p' (0 + n_4) c').ownBlock →
 (0 + n_4 + 1 ≤ c' → p'_1 = p' ∧ c'_1 = c') →
 ((∃ (u : Value),
 w'_2.cell? (Addr.mk n_1 (0 + 1) none) =
 some u) ∧
 w'_2.frozen? (Addr.mk n_1 (0 + 1) none) =
 false) ∧
 ∀ (w1 : World),
 PutB w'_2 n_1 (0 + 1)
 [Value.slice p'_1 (0 + n_4 + 1) c'_1] w1 →
 KeptL [n_3, n_2] W w1 ∧
 ∃ (p_3 : Option Addr),
 ∃ (n_8 : Nat),
 ∃ (c_3 : Nat),
 ∃ (p_4 : Option Addr),
 ∃ (n_9 : Nat),
 ∃ (c_4 : Nat),
 AtL w1 n_1 0
 [Value.slice p_3 n_8 c_3,
 Value.slice p_4 n_9 c_4] ∧
 ∀ (W : World),
 Loc w.heap.size
 [Blk.mk n_3 33
 [Value.slice p_3 n_8 c_3,
 Value.slice p_4 n_9 c_4]
 (wrM 0),
 Blk.mk n_2 50
 (arrI IntKind.u8 id 32 0 ++ (arrI IntKind.u8 au 16 0 ++ [Value.string g,
 Value.int IntKind.i64 v,
 Value.bool rm, Value.bool md,
 Value.slice p n c,
 Value.string t]))
 0]
 w1 W →
 R
 (Ending.returned
 (Value.tuple
 #[Value.agg
 #[Value.slice p_3 n_8 c_3,
 Value.slice p_4 n_9 c_4],
 Value.int IntKind.i64 0]))
 W))))
theorem vc_xadd (ap : Option Addr) (an : Nat) (ac : Nat) (dp : Option Addr) (dn : Nat) (dc : Nat) (id : Nat → Int) (au : Nat → Int) (g : ByteArray) (v : Int) (rm : Bool) (md : Bool) (p : Option Addr) (n : Nat) (c : Nat) (t : ByteArray) (w : World) (R : Ending → World → Prop) (h : VC_xadd ap an ac dp dn dc id au g v rm md p n c t w R) : Calls Tryz.prog 49 ([Value.agg
    #[Value.slice ap an ac, Value.slice dp dn dc],
  Value.agg
    (arrI IntKind.u8 id 32 0 ++
        (arrI IntKind.u8 au 16 0 ++
          [Value.string g, Value.int IntKind.i64 v, Value.bool rm, Value.bool md, Value.slice p n c,
            Value.string t])).toArray] : List Value).toArray w R := by
  have e : execR2 { P := Tryz.prog, loops := [], pur := pur1, tails := [(10, 0)], joins := [], boxes := [] } Tryz.f49.results.toList R (Tryz.f49.body.getD .skip) (initF [Value.agg
    #[Value.slice ap an ac, Value.slice dp dn dc],
  Value.agg
    (arrI IntKind.u8 id 32 0 ++
        (arrI IntKind.u8 au 16 0 ++
          [Value.string g, Value.int IntKind.i64 v, Value.bool rm, Value.bool md, Value.slice p n c,
            Value.string
              t])).toArray] (Tryz.f49.ntmps - ([Value.agg #[Value.slice ap an ac, Value.slice dp dn dc],
  Value.agg
    (arrI IntKind.u8 id 32 0 ++
        (arrI IntKind.u8 au 16 0 ++
          [Value.string g, Value.int IntKind.i64 v, Value.bool rm, Value.bool md, Value.slice p n c,
            Value.string
              t])).toArray] : List Value).length)) w = VC_xadd ap an ac dp dn dc id au g v rm md p n c t w R := by kernel_rfl
  have hb : Tryz.f49.body = some (Tryz.f49.body.getD .skip) := by kernel_rfl
  exact calls_of_exec2' (P := Tryz.prog) (fn := Tryz.f49) (c := Tryz.f49.body.getD .skip) (args := [Value.agg
    #[Value.slice ap an ac, Value.slice dp dn dc],
  Value.agg
    (arrI IntKind.u8 id 32 0 ++
        (arrI IntKind.u8 au 16 0 ++
          [Value.string g, Value.int IntKind.i64 v, Value.bool rm, Value.bool md, Value.slice p n c,
            Value.string t])).toArray]) (w := w) (R := R) pur1_ok Tryz.func49 hb e h

def VC_xdrop (ap : Option Addr) (an : Nat) (ac : Nat) (dp : Option Addr) (dn : Nat) (dc : Nat) (i : Nat → Int) (w : World) (R : Ending → World → Prop) : Prop :=
 ∀ (n n_1 n_2 : Nat) (W : World),
 Loc w.heap.size
 [Blk.mk n_2 33 [Value.slice none 0 0, Value.slice none 0 0] 2,
 Blk.mk n_1 47
 (arrI IntKind.u8 i 32 0)
 2,
 Blk.mk n 33 [Value.slice ap an ac, Value.slice dp dn dc] 2]
 w W →
 CallsS Tryz.prog 70
 #[Value.agg #[Value.slice ap an ac, Value.slice dp dn dc],
 Value.agg
 (arrI IntKind.u8 i 32 0).toArray]
 W fun (e : Ending) (w' : World) =>
 ∃ (x : Int),
 e = Ending.returned (Value.int IntKind.i64 x) ∧
 KeptL [n_2, n_1, n] W w' ∧
 bsp (decide (x < 0))
 (∀ (W : World),
 Loc w.heap.size
 [Blk.mk n_2 33 [Value.slice ap an ac, Value.slice dp dn dc] (wrM 0),
 Blk.mk n_1 47
 (arrI IntKind.u8 i 32 0)
 0,
 Blk.mk n 33 [Value.slice ap an ac, Value.slice dp dn dc] 0]
 w' W →
 R
 (Ending.returned
 (Value.tuple #[Value.agg #[Value.slice ap an ac, Value.slice dp dn dc], Value.int IntKind.i64 8]))
 W)
 (∀ (W : World),
 Loc w.heap.size
 [Blk.mk n_2 33 [Value.slice none 0 0, Value.slice none 0 0] 0,
 Blk.mk n_1 47
 (arrI IntKind.u8 i 32 0)
 0,
 Blk.mk n 33 [Value.slice ap an ac, Value.slice dp dn dc] 0]
 w' W →
 ∃ (S : World → Prop),
 S W ∧
 ∃ (p : Option Addr),
 ∃ (n_3 : Nat),
 ∃ (c : Nat),
 (∀ (w' : World), S w' → w'.cell? (Addr.mk n (0 + 1) none) = some (Value.slice p n_3 c)) ∧
 (0 ≤ x ∧ x ≤ (↑c : Int)) ∧
 ∃ (p_1 : Option Addr),
 ∃ (n_4 : Nat),
 ∃ (c : Nat),
 (∀ (w' : World), S w' → w'.cell? (Addr.mk n (0 + 1) none) = some (Value.slice p_1 n_4 c)) ∧
 (0 ≤ IntKind.i64.wrap (x + 1) ∧ IntKind.i64.wrap (x + 1) ≤ (↑n_4 : Int)) ∧
 ∀ (n_5 : Nat) (w1 : World),
 NewB W (Obj.cells #[] 50) n_5 w1 →
 S w1 ∧
 ∃ (base : Nat),
 ∃ (xs : List Value),
 ∃ (news : List Value),
 w1.ownsRow base 50 54 (Value.slice (some (Addr.mk n_5 0 none)) 0 0) 0 xs ∧
 news.length = x.toNat * 54 ∧
 SrcP w1 p news ∧
 0 + x.toNat ≤ 9223372036854775807 ∧
 (0 + x.toNat) * 120 ≤ 140737488355328 ∧
 base ≤ w1.heap.size ∧
 ∀ (p' : Option Addr) (c' : Nat) (w' : World),
 w'.ownsRow base 50 54 (Value.slice p' (0 + x.toNat) c') (0 + x.toNat) (xs ++ news) →
 w1.grownBy w' (Value.slice (some (Addr.mk n_5 0 none)) 0 0).ownBlock →
 (0 + x.toNat ≤ 0 → p' = some (Addr.mk n_5 0 none) ∧ c' = 0) →
 S w' ∧
 ∃ (base : Nat),
 ∃ (xs : List Value),
 ∃ (news : List Value),
 w'.ownsRow base 50 54 (Value.slice p' (0 + x.toNat) c') (0 + x.toNat) xs ∧
 news.length = (n_4 - (IntKind.i64.wrap (x + 1)).toNat) * 54 ∧
 SrcP w' (slA p_1 c (IntKind.i64.wrap (x + 1)).toNat 54) news ∧
 0 + x.toNat + (n_4 - (IntKind.i64.wrap (x + 1)).toNat) ≤
 9223372036854775807 ∧
 (0 + x.toNat + (n_4 - (IntKind.i64.wrap (x + 1)).toNat)) * 120 ≤
 140737488355328 ∧
 base ≤ w'.heap.size ∧
 ∀ (p'_1 : Option Addr) (c'_1 : Nat) (w'_1 : World),
 w'_1.ownsRow base 50 54
 (Value.slice p'_1
 (0 + x.toNat + (n_4 - (IntKind.i64.wrap (x + 1)).toNat)) c'_1)
 (0 + x.toNat + (n_4 - (IntKind.i64.wrap (x + 1)).toNat))
 (xs ++ news) →
 w'.grownBy w'_1 (Value.slice p' (0 + x.toNat) c').ownBlock →
 (0 + x.toNat + (n_4 - (IntKind.i64.wrap (x + 1)).toNat) ≤ c' →
 p'_1 = p' ∧ c'_1 = c') →
 ((∃ (u : Value), w'_1.cell? (Addr.mk n (0 + 1) none) = some u) ∧
 w'_1.frozen? (Addr.mk n (0 + 1) none) = false) ∧
 ∀ (w1 : World),
 PutB w'_1 n (0 + 1)
 [Value.slice p'_1
 (0 + x.toNat + (n_4 - (IntKind.i64.wrap (x + 1)).toNat)) c'_1]
 w1 →
 KeptL [n_2, n_1] W w1 ∧
 ∃ (p : Option Addr),
 ∃ (n_6 : Nat),
 ∃ (c : Nat),
 ∃ (p_2 : Option Addr),
 ∃ (n_7 : Nat),
 ∃ (c_1 : Nat),
 AtL w1 n 0 [Value.slice p n_6 c, Value.slice p_2 n_7 c_1] ∧
 ∀ (W : World),
 Loc w.heap.size
 [Blk.mk n_2 33
 [Value.slice p n_6 c, Value.slice p_2 n_7 c_1]
 (wrM 0),
 Blk.mk n_1 47
 (arrI IntKind.u8 i 32 0)
 0]
 w1 W →
 R
 (Ending.returned
 (Value.tuple
 #[Value.agg
 #[Value.slice p n_6 c, Value.slice p_2 n_7 c_1],
 Value.int IntKind.i64 0]))
 W)
theorem vc_xdrop (ap : Option Addr) (an : Nat) (ac : Nat) (dp : Option Addr) (dn : Nat) (dc : Nat) (i : Nat → Int) (w : World) (R : Ending → World → Prop) (h : VC_xdrop ap an ac dp dn dc i w R) : Calls Tryz.prog 48 ([Value.agg
    #[Value.slice ap an ac, Value.slice dp dn dc],
  Value.agg (arrI IntKind.u8 i 32 0).toArray] : List Value).toArray w R := by
  have e : execR2 { P := Tryz.prog, loops := [], pur := pur1, tails := [(4, 0)], joins := [], boxes := [] } Tryz.f48.results.toList R (Tryz.f48.body.getD .skip) (initF [Value.agg
    #[Value.slice ap an ac, Value.slice dp dn dc],
  Value.agg
    (arrI IntKind.u8 i 32
        0).toArray] (Tryz.f48.ntmps - ([Value.agg #[Value.slice ap an ac, Value.slice dp dn dc],
  Value.agg
    (arrI IntKind.u8 i 32 0).toArray] : List Value).length)) w = VC_xdrop ap an ac dp dn dc i w R := by kernel_rfl
  have hb : Tryz.f48.body = some (Tryz.f48.body.getD .skip) := by kernel_rfl
  exact calls_of_exec2' (P := Tryz.prog) (fn := Tryz.f48) (c := Tryz.f48.body.getD .skip) (args := [Value.agg
    #[Value.slice ap an ac, Value.slice dp dn dc],
  Value.agg (arrI IntKind.u8 i 32 0).toArray]) (w := w) (R := R) pur1_ok Tryz.func48 hb e h

end Go.Proofs.YtkkfnlehlkiejaaGreatDoor

/- Chapter 21: the contracts of the reference's find, Add, Drop. Lists that are not too long. -/
namespace Go.Proofs.YtkkfnlehlkiejaaGreatDoor
open Go.RowKit Go.Maps

theorem SrcP.take {w : World} {p : Option Addr} {xs : List Value} (h : SrcP w p xs) (m : Nat) : SrcP w p (xs.take m) := by
  refine ⟨fun j u hj => ?_, fun u hu => h.one u (List.mem_of_mem_take hu)⟩
  rw [List.getElem?_take] at hj
  split at hj
  · exact h.cells j u hj
  · cases hj
theorem SrcP.drop {w : World} {p : Option Addr} {xs : List Value} (h : SrcP w p xs) {c i sz : Nat} (hi : xs.length ≤ c * sz) : SrcP w (slA p c i sz) (xs.drop (i * sz)) := by
  refine ⟨fun j u hj => ?_, fun u hu => h.one u (List.mem_of_mem_drop hu)⟩
  rw [List.getElem?_drop] at hj
  have hlt := (List.getElem?_eq_some_iff.1 hj).1
  have hne : ¬ c = i := fun e => by subst e; omega
  obtain ⟨b, o, hp, hc⟩ := h.cells _ u hj
  refine ⟨b, o + i * sz, ?_, by rw [Nat.add_assoc]; exact hc⟩
  unfold slA
  rw [if_neg hne, hp]
  simp [add_plain]
/-- The reference's definitions in the memory. -/
structure SR (w : World) (ds : List DX) (p : Option Addr) (c : Nat) : Prop where
  row : RowA dfC 54 w p ds
  ms : ∀ x ∈ ds, RowA auC 16 w x.p x.d.ms
  ok : ∀ x ∈ ds, dchk x.d = 0 ∧ x.d.ms.length ≤ x.c ∧ x.d.OK
  le : ds.length ≤ c
section
variable {w w' : World} {p : Option Addr} {c : Nat} {ds : List DX}
theorem SR.k0 (h : SR w ds p c) (hk : K0 w w') : SR w' ds p c := ⟨h.row.k0 hk, fun x hx => (h.ms x hx).k0 hk, h.ok, h.le⟩
theorem SR.kpM {mb c0 : Nat} {es : Array MapEntry} (h : SR w ds p c) (hk : Kp (· = mb) w w') (hm : w.heap[mb]? = some (.map es c0)) : SR w' ds p c := ⟨h.row.kpM hk hm, fun x hx => (h.ms x hx).kpM hk hm, h.ok, h.le⟩
theorem SR.src (h : SR w ds p c) : SrcP w p (ds.flatMap dfC) := src_rowA h.row dfC_length dfC_one (by decide)
theorem SR.own {base : Nat} (ho : w.ownsRow base 50 54 (.slice p ds.length c) ds.length (ds.flatMap dfC)) (hs : ∀ x ∈ ds, RowA auC 16 w x.p x.d.ms) (hk : ∀ x ∈ ds, dchk x.d = 0 ∧ x.d.ms.length ≤ x.c ∧ x.d.OK) : SR w ds p c :=
  ⟨RowA.own ho dfC_length (by decide), hs, hk, own_le ho⟩
theorem SR.nil (w : World) : SR w [] none 0 := ⟨.nil, (fun x hx => by cases hx), (fun x hx => by cases hx), Nat.le_refl _⟩
end
set_option maxHeartbeats 1000000 in
theorem xfind_any (A : List Au) (ap : Option Addr) (ac : Nat) (ds : List DX) (p : Option Addr) (c : Nat) (f : Nat → Int) (w : World) (hR : SR w ds p c) (hl : ds.length ≤ 1000000) (hf : BY f) :
    Calls Tryz.prog 70 #[.agg #[.slice ap A.length ac, .slice p ds.length c], .agg (arrI .u8 f 32 0).toArray] w fun e w' => ((e = .returned (.int .i64 (-1)) ∧ ∀ y ∈ ds, idI y.d.id ≠ idI f) ∨ ∃ (i : Nat) (y : DX), e = .returned (.int .i64 (i : Int)) ∧ ds[i]? = some y ∧ idI y.d.id = idI f) ∧ K0 w w' := by
  refine vc_xfind ap A.length ac p ds.length c f w _ (fun n1 n2 W hW => ?_)
  have kW : K0 w W := hW.kk rfl
  refine ⟨fun vs w' => ∃ i : Nat, vs = [.int .i64 (i : Int)] ∧ i ≤ ds.length ∧ (∀ j y, j < i → ds[j]? = some y → idI y.d.id ≠ idI f) ∧ K0 w w', fun vs _ => (match vs with | .int _ a :: _ => ds.length - a.toNat | _ => 0), ⟨0, rfl, by omega, (fun j y h => by omega), kW⟩, ?_⟩
  rintro a w1 ⟨i, hv, hi, hno, k1⟩ hL1
  simp only [List.cons.injEq, Value.int.injEq, true_and, and_true] at hv
  subst hv
  refine bsp_intro (fun hlt => ?_) (fun hge => ?_)
  · have hlt : i < ds.length := by simp at hlt; omega
    obtain ⟨y, b, o, hy, hp, hat⟩ := (hR.k0 k1).row.get hlt
    have oy := (hR.ok y (List.mem_of_getElem? hy)).2.2
    have hc : ∀ wx, K0 w1 wx → AtL wx b (o + i * 54) (arrI .u8 y.d.id 32 0) := fun wx k => by
      have h2 : AtL wx b (o + i * 54) (arrI .u8 y.d.id 32 0 ++ (arrI .u8 y.d.au 16 0 ++ ([.string y.d.g, .int .i64 y.d.v, .bool y.d.rm, .bool y.d.md, .slice y.p y.d.ms.length y.c, .string y.d.tx] : List Value))) := hat.k0 k
      exact h2.left
    refine nn_is hp ⟨⟨by omega, by omega⟩, y.d.id, fun W2 hW2 => by rw [Int.toNat_natCast]; exact hc W2 (hW2.kk rfl), _, idEqR oy.id hf, bsp_intro (fun h => fun W2 hW2 => ?_) (fun h => fun W2 hW2 => ?_)⟩
    · exact ⟨.inr ⟨i, y, rfl, hy, by simpa using h⟩, k1.trans (hW2.kk rfl)⟩
    · have h : idI y.d.id ≠ idI f := by simpa using h
      refine ⟨⟨i + 1, by rw [inc64 (by omega)], by omega, fun j z hj hz => ?_, k1.trans (hW2.kk rfl)⟩, by rw [inc64 (by omega)]; simp only [Int.toNat_natCast]; omega⟩
      by_cases e : j = i
      · subst e; rw [hy] at hz; cases hz; exact h
      · exact hno j z (by omega) hz
  · have hi : i = ds.length := by simp at hge; omega
    refine ⟨.inl ⟨rfl, fun y hy => ?_⟩, k1⟩
    obtain ⟨j, hj, e⟩ := List.getElem_of_mem hy
    exact hno j y (by omega) (by rw [List.getElem?_eq_getElem hj, e])
/-- What the reference's Add answers. -/
def xaddE (A : List Au) (ds : List DX) (d : Df) : Int := if dchk d ≠ 0 then dchk d else if isAu A d.g d.au = false then 20 else if ds.any (fun y => decide (idI y.d.id = idI d.id)) = true then 7 else if 4096 ≤ ds.length then 9 else 0
theorem own_n {n k : Nat} (h : (Value.slice (some (Addr.mk n 0 none)) 0 0).ownBlock = some k) : k = n := by simp [Value.ownBlock] at h; exact h.symm
theorem app_dx {w : World} {base c : Nat} {p : Option Addr} {L : List DX} {x : DX} (h : w.ownsRow base 50 54 (.slice p (0 + L.length + 1) c) (0 + L.length + 1) (L.flatMap dfC ++ dfC x)) : w.ownsRow base 50 54 (.slice p (L ++ [x]).length c) (L ++ [x]).length ((L ++ [x]).flatMap dfC) := by
  have e1 : (L ++ [x]).length = 0 + L.length + 1 := by simp
  have e2 : (L ++ [x]).flatMap dfC = L.flatMap dfC ++ dfC x := by simp
  rw [e1, e2]; exact h
set_option maxRecDepth 100000 in
set_option maxHeartbeats 8000000 in
theorem xadd_any (A : List Au) (ap : Option Addr) (ac : Nat) (L : List DX) (p : Option Addr) (c : Nat) (x : DX) (w : World) (hA : RowA atC 17 w ap A) (hb : ∀ x ∈ A, BY x.au) (hl : A.length ≤ 64) (hL : ∀ x ∈ A, ∃ es, listR x.pt = .inl es) (hsz : ∀ x ∈ A, x.pt.size ≤ 1073741824) (hS : SR w L p c) (hdl : L.length ≤ 1000000) (hR : RowA auC 16 w x.p x.d.ms) (ho : x.d.OK) :
    Calls Tryz.prog 49 #[.agg #[.slice ap A.length ac, .slice p L.length c], dfV x] w fun e w' => ((xaddE A L x.d ≠ 0 ∧ e = .returned (.tuple #[.agg #[.slice ap A.length ac, .slice p L.length c], .int .i64 (xaddE A L x.d)])) ∨
      (xaddE A L x.d = 0 ∧ ∃ (p' : Option Addr) (c' : Nat), e = .returned (.tuple #[.agg #[.slice ap A.length ac, .slice p' (L ++ [x]).length c'], .int .i64 0]) ∧
      w'.ownsRow w.heap.size 50 54 (.slice p' (L ++ [x]).length c') (L ++ [x]).length ((L ++ [x]).flatMap dfC))) ∧ K0 w w' := by
  refine vc_xadd ap A.length ac p L.length c x.d.id x.d.au x.d.g x.d.v x.d.rm x.d.md x.p x.d.ms.length x.c x.d.tx w _ (fun n1 n2 n3 W hW => ?_)
  have kW : K0 w W := hW.kk rfl
  have g1 : w.heap.size ≤ n1 := hW.fresh 2 rfl rfl
  refine ⟨(xcheck_any x W (hR.k0 kW) ho).mono fun e w1 ⟨he, k1⟩ => ⟨_, he, .of_k0 k1, bsp_intro (fun h => fun W2 hW2 => ?_) (fun h => ?_)⟩⟩
  · have h0 : dchk x.d ≠ 0 := by simpa using h
    have e0 : xaddE A L x.d = dchk x.d := by unfold xaddE; rw [if_pos h0]
    rw [e0]
    exact ⟨.inl ⟨h0, rfl⟩, hW2.k0 (kW.trans k1)⟩
  have h0 : dchk x.d = 0 := by simpa using h
  have hgs := gnE_sz (dchk_sz h0).1
  have k01 := kW.trans k1
  refine ⟨(xauth_any A ap ac p L.length c x.d.g x.d.au w1 (hA.k0 k01) hb hl hL hsz ho.au (by omega)).mono fun e w2 ⟨he, k2⟩ => ⟨_, he, .of_k0 k2, bsp_intro (fun h => fun W2 hW2 => ?_) (fun h => ?_)⟩⟩
  · have h1 : isAu A x.d.g x.d.au = false := by simpa using h
    have e0 : xaddE A L x.d = 20 := by unfold xaddE; rw [if_neg (by simpa using h0), if_pos h1]
    rw [e0]
    exact ⟨.inl ⟨by decide, rfl⟩, hW2.k0 (k01.trans k2)⟩
  have h1 : ¬ isAu A x.d.g x.d.au = false := by simpa using h
  have k02 := k01.trans k2
  refine ⟨(xfind_any A ap ac L p c x.d.id w2 (hS.k0 k02) hdl ho.id).mono fun e w3 ⟨hf, k3⟩ => ?_⟩
  have k03 := k02.trans k3
  rcases hf with ⟨he, hno⟩ | ⟨i, y, he, hy, hya⟩
  rotate_left
  · have h2 : L.any (fun y => decide (idI y.d.id = idI x.d.id)) = true := List.any_eq_true.2 ⟨y, List.mem_of_getElem? hy, by simpa using hya⟩
    have e0 : xaddE A L x.d = 7 := by unfold xaddE; rw [if_neg (by simpa using h0), if_neg h1, if_pos h2]
    rw [e0]
    exact ⟨_, he, .of_k0 k3, bsp_intro (fun _ => fun W4 hW4 => ⟨.inl ⟨by decide, rfl⟩, hW4.k0 k03⟩) (fun h => by simp at h)⟩
  have h2 : ¬ L.any (fun y => decide (idI y.d.id = idI x.d.id)) = true := fun h => by
    obtain ⟨y, hy, h⟩ := List.any_eq_true.1 h
    exact hno y hy (by simpa using h)
  refine ⟨_, he, .of_k0 k3, bsp_intro (fun h => by simp at h) (fun _ => bsp_intro (fun h => fun W4 hW4 => ?_) (fun h => fun W4 hW4 => ?_))⟩
  · have h3 : 4096 ≤ L.length := by simp at h; omega
    have e0 : xaddE A L x.d = 9 := by unfold xaddE; rw [if_neg (by simpa using h0), if_neg h1, if_neg h2, if_pos h3]
    rw [e0]
    exact ⟨.inl ⟨by decide, rfl⟩, hW4.k0 k03⟩
  have h3 : ¬ 4096 ≤ L.length := by simp at h; omega
  have e0 : xaddE A L x.d = 0 := by unfold xaddE; rw [if_neg (by simpa using h0), if_neg h1, if_neg h2, if_neg h3]
  have k4 : K0 w3 W4 := hW4.kk rfl
  have k04 := k03.trans k4
  have hb1 : W4.heap[n1]? = some (.cells #[.slice ap A.length ac, .slice p L.length c] 33 (0, 0)) := hW4.cells 2 rfl
  have hb2 : W4.heap[n2]? = some (.cells (dfC x).toArray 50 (0, 0)) := hW4.cells 1 rfl
  have hb3 := block_lt (hW4.cells 0 rfl)
  simp only at hb3
  have h12 : n2 ≠ n1 := hW4.apart 1 2 rfl rfl (by decide)
  have h13 : n3 ≠ n1 := hW4.apart 0 2 rfl rfl (by decide)
  have l1 := block_lt hb1
  have l2 := block_lt hb2
  have hSW := hS.k0 k04
  have sz := k04.size
  have hlen : (L.flatMap dfC).length = L.length * 54 := dfC_flat L
  have one : ∀ u ∈ dfC x, u.oneCell' = true := dfC_one x
  refine ⟨fun wx => K0 W4 wx, .refl _ _, p, L.length, c, fun wx k => cell_at (k.blk hb1 (fun h => h)) rfl, x.d.id, x.d.au, x.d.g, x.d.v, x.d.rm, x.d.md, x.p, x.d.ms.length, x.c, x.d.tx, fun wx k => AtL_block (k.blk hb2 (fun h => h)) rfl, ?_⟩
  refine ⟨fun n5 w1 h5 => ⟨h5.kp _, ⟨W4.heap.size, [], L.flatMap dfC, own_none h5.ge h5.block, hlen, (hSW.k0 (h5.kp _)).src, by omega, by omega, (h5.kp (fun _ => False)).size, fun p3 c3 w2 ho2 hg2 _ => ?_⟩, fun n6 w2 h6 => ⟨(h5.kp _).trans (h6.kp _), W4.heap.size, [], L.flatMap dfC, own_none h5.ge ((h6.kp (fun _ => False)).blk h5.block (fun h => h)), hlen, (hSW.k0 ((h5.kp _).trans (h6.kp _))).src, by omega, by omega, ((h5.kp (fun _ => False)).trans (h6.kp _)).size, fun p3 c3 w3 ho3 hg3 _ => ?_⟩⟩,
    fun n5 w1 h5 => ⟨h5.kp _, fun n6 w2 h6 => ⟨(h5.kp _).trans (h6.kp _), W4.heap.size, [], L.flatMap dfC, own_none (Nat.le_trans (h5.kp (fun _ => False)).size h6.ge) h6.block, hlen, (hSW.k0 ((h5.kp _).trans (h6.kp _))).src, by omega, by omega, ((h5.kp (fun _ => False)).trans (h6.kp _)).size, fun p3 c3 w3 ho3 hg3 _ => ?_⟩⟩⟩
  rw [List.nil_append] at ho2
  have k2 : K0 W4 w2 := (h5.kp _).fresh (kp_grown hg2) (fun j hj e => by have := own_n e; have := h5.ge; omega)
  refine ⟨k2, fun n6 w3 h6 => ⟨k2.trans (h6.kp _), W4.heap.size, _, _, owns_kp ho2 (h6.kp (fun _ => False)) (fun _ _ h => h), rfl, src_block h6.block one, by omega, by omega, (k2.trans (h6.kp (fun _ => False))).size, fun p7 c7 w4 ho4 hg4 _ => ?_⟩⟩
  have k4 : K0 W4 w4 := (k2.trans (h6.kp _)).fresh (kp_grown hg4) (fun j hj e => by have := own_ge ho2 e; omega)
  have ho4 : w4.ownsRow W4.heap.size 50 54 (.slice p7 (0 + L.length + 1) c7) (0 + L.length + 1) (L.flatMap dfC ++ dfC x) := ho4
  clear ho2 hg2 h6 hg4 h5 k2
  rotate_left
  rw [List.nil_append] at ho3
  have k3 : K0 W4 w3 := ((h5.kp _).trans (h6.kp _)).fresh (kp_grown hg3) (fun j hj e => by have := own_n e; have := h5.ge; omega)
  refine ⟨k3, W4.heap.size, _, _, ho3, rfl, src_block ((kp_grown hg3).blk h6.block (fun e => by have := own_n e; have := h6.ge; have := h5.size; omega)) one, by omega, by omega, k3.size, fun p7 c7 w4 ho4 hg4 _ => ?_⟩
  have k4 : K0 W4 w4 := k3.fresh (kp_grown hg4) (fun j hj e => by have := own_ge ho3 e; omega)
  have ho4 : w4.ownsRow W4.heap.size 50 54 (.slice p7 (0 + L.length + 1) c7) (0 + L.length + 1) (L.flatMap dfC ++ dfC x) := ho4
  clear ho3 hg3 h6 hg4 h5 k3
  rotate_left
  rw [List.nil_append] at ho3
  have k3 : K0 W4 w3 := ((h5.kp _).trans (h6.kp _)).fresh (kp_grown hg3) (fun j hj e => by have := own_n e; have := h6.ge; have := h5.size; have := h5.ge; omega)
  refine ⟨k3, W4.heap.size, _, _, ho3, rfl, src_block ((kp_grown hg3).blk ((h6.kp (fun _ => False)).blk h5.block (fun h => h)) (fun e => by have := own_n e; have := h6.ge; have := h5.size; omega)) one, by omega, by omega, k3.size, fun p7 c7 w4 ho4 hg4 _ => ?_⟩
  have k4 : K0 W4 w4 := k3.fresh (kp_grown hg4) (fun j hj e => by have := own_ge ho3 e; omega)
  have ho4 : w4.ownsRow W4.heap.size 50 54 (.slice p7 (0 + L.length + 1) c7) (0 + L.length + 1) (L.flatMap dfC ++ dfC x) := ho4
  clear ho3 hg3 h6 hg4 h5 k3
  rotate_left
  all_goals
    have hc4 := k4.blk hb1 (fun h => h)
    have ho4' := app_dx ho4
    refine ⟨cell_wr hc4 (by show 0 + 1 < 2; omega), fun w5 h5 => ⟨⟨by rw [h5.size]; exact k4.size, fun y hy hlt => ?_⟩, ap, A.length, ac, p7, (L ++ [x]).length, c7, AtL_block (h5.block hc4) (by rw [show (L ++ [x]).length = 0 + L.length + 1 by simp]; rfl), fun W6 hW6 => ⟨.inr ⟨e0, p7, c7, rfl, ?_⟩, ?_⟩⟩⟩
    · have hy : y = n3 ∨ y = n2 := by simpa using hy
      rw [h5.kp.block y (Nat.lt_of_lt_of_le hlt k4.size) (fun e => by omega), k4.block y hlt (fun h => h)]
    · refine own_base (own_loc (owns_kp ho4' h5.kp (fun k hk e => ?_)) hW6 (fun b hb e => ?_)) sz
      · have := own_ge ho4' hk; omega
      · have h1 := own_ge ho4' e
        simp at hb
        rcases hb with rfl | rfl
        · simp only at h1; omega
        · simp only at h1; omega
    · exact hW6.k0 (put_k0 (k04.trans k4) h5 g1)
theorem erase_flat21 (L : List DX) (i : Nat) : (L.flatMap dfC).take (i * 54) ++ (L.flatMap dfC).drop ((i + 1) * 54) = (L.eraseIdx i).flatMap dfC := erase_flat dfC 54 L i dfC_length
set_option maxRecDepth 100000 in
set_option maxHeartbeats 4000000 in
theorem xdrop_any (A : List Au) (ap : Option Addr) (ac : Nat) (L : List DX) (p : Option Addr) (c : Nat) (f : Nat → Int) (w : World) (hS : SR w L p c) (hl : L.length ≤ 1000000) (hf : BY f) :
    Calls Tryz.prog 48 #[.agg #[.slice ap A.length ac, .slice p L.length c], .agg (arrI .u8 f 32 0).toArray] w fun e w' => ((e = .returned (.tuple #[.agg #[.slice ap A.length ac, .slice p L.length c], .int .i64 8]) ∧ ∀ y ∈ L, idI y.d.id ≠ idI f) ∨
      ∃ (i : Nat) (y : DX) (p' : Option Addr) (c' : Nat), e = .returned (.tuple #[.agg #[.slice ap A.length ac, .slice p' (L.eraseIdx i).length c'], .int .i64 0]) ∧ L[i]? = some y ∧ idI y.d.id = idI f ∧ w'.ownsRow w.heap.size 50 54 (.slice p' (L.eraseIdx i).length c') (L.eraseIdx i).length ((L.eraseIdx i).flatMap dfC)) ∧ K0 w w' := by
  refine vc_xdrop ap A.length ac p L.length c f w _ (fun n1 n2 n3 W hW => ?_)
  have kW : K0 w W := hW.kk rfl
  have g1 : w.heap.size ≤ n1 := hW.fresh 2 rfl rfl
  refine ⟨(xfind_any A ap ac L p c f W (hS.k0 kW) hl hf).mono fun e w1 ⟨h, k1⟩ => ?_⟩
  rcases h with ⟨he, hno⟩ | ⟨i, y, he, hy, hn⟩
  · refine ⟨_, he, .of_k0 k1, bsp_intro (fun _ => fun W2 hW2 => ?_) (fun h => by simp at h)⟩
    exact ⟨.inl ⟨rfl, hno⟩, hW2.k0 (kW.trans k1)⟩
  · refine ⟨_, he, .of_k0 k1, bsp_intro (fun h => by simp at h; omega) (fun _ => fun W2 hW2 => ?_)⟩
    have hi : i < L.length := (List.getElem?_eq_some_iff.1 hy).1
    have k2 : K0 w1 W2 := hW2.kk rfl
    have k02 := (kW.trans k1).trans k2
    have hb1 : W2.heap[n1]? = some (.cells #[.slice ap A.length ac, .slice p L.length c] 33 (0, 0)) := hW2.cells 2 rfl
    have l1 := block_lt hb1
    have l2 := block_lt (hW2.cells 1 rfl)
    have l3 := block_lt (hW2.cells 0 rfl)
    simp only at l2 l3
    have h12 : n2 ≠ n1 := hW2.apart 1 2 rfl rfl (by decide)
    have h13 : n3 ≠ n1 := hW2.apart 0 2 rfl rfl (by decide)
    have hR2 := hS.k0 k02
    have hlen : (L.flatMap dfC).length = L.length * 54 := dfC_flat L
    rw [inc64 (by omega), Int.toNat_natCast, Int.toNat_natCast]
    have hle := hS.le
    refine ⟨fun wx => K0 W2 wx, .refl _ _, p, L.length, c, fun wx k => cell_at (k.blk hb1 (fun h => h)) rfl, ⟨by omega, by omega⟩, p, L.length, c, fun wx k => cell_at (k.blk hb1 (fun h => h)) rfl, ⟨by omega, by omega⟩, fun n5 w3 h3 => ⟨h3.kp _, W2.heap.size, [], (L.flatMap dfC).take (i * 54), own_none h3.ge h3.block, ?_, ((hR2.k0 (h3.kp _)).src).take _, by omega, by omega, (h3.kp (fun _ => False)).size, fun p4 c4 w4 ho4 hg4 _ => ?_⟩⟩
    · rw [List.length_take, hlen]; exact Nat.min_eq_left (Nat.mul_le_mul_right _ (by omega))
    rw [List.nil_append] at ho4
    have k4 : K0 W2 w4 := (h3.kp _).fresh (kp_grown hg4) (fun j hj e => by have := own_n e; have := h3.ge; omega)
    refine ⟨k4, W2.heap.size, _, (L.flatMap dfC).drop ((i + 1) * 54), ho4, ?_, ((hR2.k0 k4).src).drop (by rw [hlen]; omega), by omega, by omega, k4.size, fun p5 c5 w5 ho5 hg5 _ => ?_⟩
    · rw [List.length_drop, hlen, Nat.sub_mul]
    have k5 : K0 W2 w5 := k4.fresh (kp_grown hg5) (fun j hj e => by have := own_ge ho4 e; omega)
    have em : 0 + i + (L.length - (i + 1)) = (L.eraseIdx i).length := by rw [List.length_eraseIdx_of_lt hi]; omega
    rw [erase_flat21 L i, em] at ho5
    rw [em]
    have hc5 := k5.blk hb1 (fun h => h)
    refine ⟨cell_wr hc5 (by show 0 + 1 < 2; omega), fun w6 h6 => ⟨⟨by rw [h6.size]; exact k5.size, fun z hz hlt => ?_⟩, ap, A.length, ac, p5, (L.eraseIdx i).length, c5, AtL_block (h6.block hc5) rfl, fun W7 hW7 => ⟨.inr ⟨i, y, p5, c5, rfl, hy, hn, ?_⟩, ?_⟩⟩⟩
    · have hz : z = n3 ∨ z = n2 := by simpa using hz
      rw [h6.kp.block z (Nat.lt_of_lt_of_le hlt k5.size) (fun e => by omega), k5.block z hlt (fun h => h)]
    · refine own_base (own_loc (owns_kp ho5 h6.kp (fun k hk e => ?_)) hW7 (fun b hb e => ?_)) k02.size
      · have := own_ge ho5 hk; omega
      · have h1 := own_ge ho5 e
        simp at hb
        rcases hb with rfl | rfl
        · simp only at h1; omega
        · simp only at h1; omega
    · exact hW7.k0 (put_k0 (k02.trans k5) h6 g1)

end Go.Proofs.YtkkfnlehlkiejaaGreatDoor

/- The formulas of functions by the symbolic evaluator, and that each gives the call's contract. Written by a program (gen.py). No condition. -/
namespace Go.Proofs.YtkkfnlehlkiejaaGreatDoor
set_option maxRecDepth 100000
set_option linter.unusedVariables false

def VC_lplay (ap : Option Addr) (an : Nat) (ac : Nat) (op : Option Addr) (on : Nat) (oc : Nat) (w : World) (R : Ending → World → Prop) : Prop :=
 ∀ (n n_1 : Nat) (W : World),
 Loc w.heap.size
 [Blk.mk n_1 33 [Value.slice none 0 0, Value.slice none 0 0] 2,
 Blk.mk n 42 [Value.slice ap an ac, Value.slice op on oc] 2]
 w W →
 CallsS Tryz.prog 12 #[Value.slice ap an ac] W fun (e : Ending) (w' : World) =>
 ∃ (p : Option Addr),
 ∃ (n_2 : Nat),
 ∃ (c : Nat),
 ∃ (p_1 : Option Addr),
 ∃ (n_3 : Nat),
 ∃ (c_1 : Nat),
 e = Ending.returned (Value.tuple #[Value.slice p n_2 c, Value.slice p_1 n_3 c_1]) ∧
 KeptL [n_1, n] W w' ∧
 CallsS Tryz.prog 13 #[Value.slice p n_2 c] w' fun (e : Ending) (w'_1 : World) =>
 ∃ (x : Option Addr),
 ∃ (x_1 : Int),
 ∃ (x_2 : Int),
 e =
 Ending.returned
 (Value.tuple #[Value.pointer x, Value.int IntKind.i64 x_1, Value.int IntKind.i64 x_2]) ∧
 KeptL [n_1, n] w' w'_1 ∧
 CallsS Tryz.prog 14 #[Value.slice p_1 n_3 c_1] w'_1 fun (e : Ending) (w' : World) =>
 ∃ (p : Option Addr),
 ∃ (n_4 : Nat),
 ∃ (c : Nat),
 ∃ (p_2 : Option Addr),
 ∃ (n_5 : Nat),
 ∃ (c_2 : Nat),
 ∃ (x_3 : Int),
 ∃ (x_4 : Int),
 e =
 Ending.returned
 (Value.tuple
 #[Value.agg #[Value.slice p n_4 c, Value.slice p_2 n_5 c_2], Value.int IntKind.i64 x_3,
 Value.int IntKind.i64 x_4]) ∧
 KeptL [n_1, n] w'_1 w' ∧
 bsp (x_1 != x_3 || x_2 != x_4 || !x.isNone == (x_4 != 0))
 (∀ (W : World),
 Loc w.heap.size
 [Blk.mk n_1 33 [Value.slice p n_4 c, Value.slice p_2 n_5 c_2] (wrM (wrM 0)),
 Blk.mk n 42 [Value.slice ap an ac, Value.slice op on oc] 0]
 w' W →
 R
 (Ending.returned
 (Value.tuple
 #[Value.pointer none, Value.agg #[Value.slice p n_4 c, Value.slice p_2 n_5 c_2],
 Value.bool false]))
 W)
 (∀ (W : World),
 Loc w.heap.size
 [Blk.mk n_1 33 [Value.slice p n_4 c, Value.slice p_2 n_5 c_2] (wrM 0),
 Blk.mk n 42 [Value.slice ap an ac, Value.slice op on oc] 0]
 w' W →
 ∃ (I : List Value → World → Prop),
 ∃ (m : List Value → World → Nat),
 I [Value.pointer x, Value.int IntKind.i64 0] W ∧
 ∀ (x : Option Addr) (x_5 : Int) (w' : World),
 I [Value.pointer x, Value.int IntKind.i64 x_5] w' →
 Loc w.heap.size [Blk.mk n 42 [Value.slice ap an ac, Value.slice op on oc] 0] w' w' →
 bsp (decide (x_5 < (↑on : Int)) && decide (x_5 < 30) && !x.isNone)
 (nn true op fun (b o : Nat) =>
 (0 ≤ x_5 ∧ x_5 < (↑on : Int)) ∧
 ∃ (f : Nat → Int),
 ∃ (f_1 : Nat → Int),
 ∃ (x_6 : ByteArray),
 ∃ (x_7 : Int),
 ∃ (x_8 : Bool),
 ∃ (x_9 : Bool),
 ∃ (p : Option Addr),
 ∃ (n_6 : Nat),
 ∃ (c : Nat),
 ∃ (x_10 : ByteArray),
 AtL w' b (o + x_5.toNat * 55 + 1)
 (arrI IntKind.u8 f 32 0 ++ (arrI IntKind.u8 f_1 16 0 ++ [Value.string x_6, Value.int IntKind.i64 x_7, Value.bool x_8,
 Value.bool x_9, Value.slice p n_6 c, Value.string x_10])) ∧
 CallsS Tryz.prog 23
 #[Value.agg
 (arrI IntKind.u8 f 32 0 ++ (arrI IntKind.u8 f_1 16 0 ++ [Value.string x_6, Value.int IntKind.i64 x_7, Value.bool x_8,
 Value.bool x_9, Value.slice p n_6 c, Value.string x_10])).toArray]
 w' fun (e : Ending) (w'_2 : World) =>
 ∃ (f : Nat → Int),
 ∃ (f_2 : Nat → Int),
 ∃ (x_11 : ByteArray),
 ∃ (x_12 : Int),
 ∃ (x_13 : Bool),
 ∃ (x_14 : Bool),
 ∃ (p : Option Addr),
 ∃ (n_7 : Nat),
 ∃ (c : Nat),
 ∃ (x_15 : ByteArray),
 e =
 Ending.returned
 (Value.agg
 (arrI IntKind.u8 f 32 0 ++ (arrI IntKind.u8 f_2 16 0 ++ [Value.string x_11,
 Value.int IntKind.i64 x_12, Value.bool x_13,
 Value.bool x_14, Value.slice p n_7 c,
 Value.string x_15])).toArray) ∧
 KeptL [n] w' w'_2 ∧
 ∀ (n_8 : Nat),
 nn true op fun (b o : Nat) =>
 (0 ≤ x_5 ∧ x_5 < (↑on : Int)) ∧
 ∃ (x_16 : Bool),
 (∀ (W : World),
 Loc w.heap.size
 [Blk.mk n 42
 [Value.slice ap an ac, Value.slice op on oc]
 0,
 Blk.mk n_8 56
 (arrI IntKind.u8 f 32 0 ++ (arrI IntKind.u8 f_2 16 0 ++ [Value.string x_11,
 Value.int IntKind.i64 x_12, Value.bool x_13,
 Value.bool x_14, Value.slice p n_7 c,
 Value.string x_15]))
 (wrM 2)]
 w'_2 W →
 W.cell? (Addr.mk b (o + x_5.toNat * 55) none) =
 some (Value.bool x_16)) ∧
 bsp x_16
 (∃ (p_3 : Option Addr),
 ∃ (n_9 : Nat),
 ∃ (c_3 : Nat),
 ∃ (p_4 : Option Addr),
 ∃ (n_10 : Nat),
 ∃ (c_4 : Nat),
 (∀ (W : World),
 Loc w.heap.size
 [Blk.mk n 42
 [Value.slice ap an ac,
 Value.slice op on oc]
 0,
 Blk.mk n_8 56
 (arrI IntKind.u8 f 32 0 ++ (arrI IntKind.u8 f_2 16 0 ++ [Value.string x_11,
 Value.int IntKind.i64 x_12,
 Value.bool x_13, Value.bool x_14,
 Value.slice p n_7 c,
 Value.string x_15]))
 (wrM 2)]
 w'_2 W →
 AtL W n_1 0
 [Value.slice p_3 n_9 c_3,
 Value.slice p_4 n_10 c_4]) ∧
 ∀ (W : World),
 Loc w.heap.size
 [Blk.mk n 42
 [Value.slice ap an ac,
 Value.slice op on oc]
 0,
 Blk.mk n_8 56
 (arrI IntKind.u8 f 32 0 ++ (arrI IntKind.u8 f_2 16 0 ++ [Value.string x_11,
 Value.int IntKind.i64 x_12,
 Value.bool x_13, Value.bool x_14,
 Value.slice p n_7 c,
 Value.string x_15]))
 (wrM 2)]
 w'_2 W →
 CallsS Tryz.prog 48
 #[Value.agg
 #[Value.slice p_3 n_9 c_3,
 Value.slice p_4 n_10 c_4],
 Value.agg
 (arrI IntKind.u8 f 32 0).toArray]
 W fun (e : Ending) (w'_3 : World) =>
 ∃ (p_5 : Option Addr),
 ∃ (n_11 : Nat),
 ∃ (c_5 : Nat),
 ∃ (p_6 : Option Addr),
 ∃ (n_12 : Nat),
 ∃ (c_6 : Nat),
 ∃ (x_17 : Int),
 e =
 Ending.returned
 (Value.tuple
 #[Value.agg
 #[Value.slice p_5 n_11 c_5,
 Value.slice p_6 n_12 c_6],
 Value.int IntKind.i64
 x_17]) ∧
 KeptL [n, n_8] W w'_3 ∧
 WrL w'_3 n_1 0 2 ∧
 ∀ (w1 : World),
 PutB w'_3 n_1 0
 [Value.slice p_5 n_11 c_5,
 Value.slice p_6 n_12 c_6]
 w1 →
 KeptL [n, n_8] w'_3 w1 ∧
 CallsS Tryz.prog 43
 #[Value.pointer x,
 Value.agg
 (arrI IntKind.u8 f 32 0).toArray]
 w1
 fun (e : Ending)
 (w'_4 : World) =>
 ∃ (x_18 : Int),
 e =
 Ending.returned
 (Value.int IntKind.i64
 x_18) ∧
 KeptL [n, n_8] w1 w'_4 ∧
 bsp (x_18 != x_17)
 (∃ (p_7 :
 Option Addr),
 ∃ (n_13 : Nat),
 ∃ (c_7 : Nat),
 ∃ (p_8 :
 Option Addr),
 ∃ (n_14 : Nat),
 ∃ (c_8 : Nat),
 (∀ (W : World),
 Loc
 w.heap.size
 [Blk.mk n 42
 [Value.slice
 ap an
 ac,
 Value.slice
 op on
 oc]
 0,
 Blk.mk n_8
 56
 (arrI IntKind.u8 f 32 0 ++ (arrI IntKind.u8 f_2 16 0 ++ [Value.string
 x_11,
 Value.int
 IntKind.i64
 x_12,
 Value.bool
 x_13,
 Value.bool
 x_14,
 Value.slice
 p n_7 c,
 Value.string
 x_15]))
 0]
 w'_4 W →
 AtL W n_1 0
 [Value.slice
 p_7 n_13
 c_7,
 Value.slice
 p_8 n_14
 c_8]) ∧
 ∀ (W : World),
 Loc
 w.heap.size
 [Blk.mk n 42
 [Value.slice
 ap an
 ac,
 Value.slice
 op on
 oc]
 0,
 Blk.mk n_8
 56
 (arrI IntKind.u8 f 32 0 ++ (arrI IntKind.u8 f_2 16 0 ++ [Value.string
 x_11,
 Value.int
 IntKind.i64
 x_12,
 Value.bool
 x_13,
 Value.bool
 x_14,
 Value.slice
 p n_7 c,
 Value.string
 x_15]))
 0]
 w'_4 W →
 WrL W n_1 0
 2 ∧
 ∀
 (w1 :
 World),
 PutB W n_1
 0
 [Value.slice
 p_7
 n_13
 c_7,
 Value.slice
 p_8
 n_14
 c_8]
 w1 →
 KeptL
 [n, n_8]
 W w1 ∧
 ∃ (p :
 Option
 Addr),
 ∃ (n :
 Nat),
 ∃ (c :
 Nat),
 ∃ (p_9
 :
 Option
 Addr),
 ∃
 (n_15
 :
 Nat),
 ∃
 (c_9
 :
 Nat),
 AtL
 w1
 n_1
 0
 [Value.slice
 p
 n
 c,
 Value.slice
 p_9
 n_15
 c_9] ∧
 R
 (Ending.returned
 (Value.tuple
 #[Value.pointer
 x,
 Value.agg
 #[Value.slice
 p
 n
 c,
 Value.slice
 p_9
 n_15
 c_9],
 Value.bool
 false]))
 w1)
 (I
 [Value.pointer x,
 Value.int
 IntKind.i64
 (IntKind.i64.wrap
 (x_5 + 1))]
 w'_4 ∧
 m
 [Value.pointer x,
 Value.int
 IntKind.i64
 (IntKind.i64.wrap
 (x_5 + 1))]
 w'_4 <
 m
 [Value.pointer x,
 Value.int
 IntKind.i64 x_5]
 w'))
 (∀ (W : World),
 Loc w.heap.size
 [Blk.mk n 42
 [Value.slice ap an ac, Value.slice op on oc]
 0,
 Blk.mk n_8 56
 (arrI IntKind.u8 f 32 0 ++ (arrI IntKind.u8 f_2 16 0 ++ [Value.string x_11,
 Value.int IntKind.i64 x_12, Value.bool x_13,
 Value.bool x_14, Value.slice p n_7 c,
 Value.string x_15]))
 (wrM 2)]
 w'_2 W →
 ∃ (S : World → Prop),
 S W ∧
 ∃ (p_3 : Option Addr),
 ∃ (n_9 : Nat),
 ∃ (c_3 : Nat),
 ∃ (p_4 : Option Addr),
 ∃ (n_10 : Nat),
 ∃ (c_4 : Nat),
 (∀ (w' : World),
 S w' →
 AtL w' n_1 0
 [Value.slice p_3 n_9 c_3,
 Value.slice p_4 n_10 c_4]) ∧
 ∃ (f_3 : Nat → Int),
 ∃ (f_4 : Nat → Int),
 ∃ (x_17 : ByteArray),
 ∃ (x_18 : Int),
 ∃ (x_19 : Bool),
 ∃ (x_20 : Bool),
 ∃ (p_5 : Option Addr),
 ∃ (n_11 : Nat),
 ∃ (c_5 : Nat),
 ∃ (x_21 : ByteArray),
 (∀ (w' : World),
 S w' →
 AtL w' n_8 0
 (arrI IntKind.u8 f_3 32 0 ++ (arrI IntKind.u8 f_4 16 0 ++ [Value.string x_17,
 Value.int IntKind.i64
 x_18,
 Value.bool x_19,
 Value.bool x_20,
 Value.slice p_5 n_11
 c_5,
 Value.string x_21]))) ∧
 CallsS Tryz.prog 26
 #[Value.agg
 (arrI IntKind.u8 f_3 32 0 ++ (arrI IntKind.u8 f_4 16 0 ++ [Value.string x_17,
 Value.int IntKind.i64
 x_18,
 Value.bool x_19,
 Value.bool x_20,
 Value.slice p_5 n_11
 c_5,
 Value.string x_21])).toArray]
 W
 fun (e : Ending)
 (w'_3 : World) =>
 ∃ (f_5 : Nat → Int),
 ∃ (f_6 : Nat → Int),
 ∃ (x_22 : ByteArray),
 ∃ (x_23 : Int),
 ∃ (x_24 : Bool),
 ∃ (x_25 : Bool),
 ∃ (p_6 :
 Option Addr),
 ∃ (n_12 : Nat),
 ∃ (c_6 : Nat),
 ∃ (x_26 :
 ByteArray),
 e =
 Ending.returned
 (Value.agg
 (arrI IntKind.u8 f_5 32 0 ++ (arrI IntKind.u8 f_6 16 0 ++ [Value.string
 x_22,
 Value.int
 IntKind.i64
 x_23,
 Value.bool
 x_24,
 Value.bool
 x_25,
 Value.slice
 p_6 n_12
 c_6,
 Value.string
 x_26])).toArray) ∧
 S w'_3 ∧
 CallsS
 Tryz.prog 49
 #[Value.agg
 #[Value.slice
 p_3 n_9
 c_3,
 Value.slice
 p_4 n_10
 c_4],
 Value.agg
 (arrI IntKind.u8 f_5 32 0 ++ (arrI IntKind.u8 f_6 16 0 ++ [Value.string
 x_22,
 Value.int
 IntKind.i64
 x_23,
 Value.bool
 x_24,
 Value.bool
 x_25,
 Value.slice
 p_6 n_12
 c_6,
 Value.string
 x_26])).toArray]
 w'_3
 fun
 (e : Ending)
 (w'_4 :
 World) =>
 ∃ (p_7 :
 Option Addr),
 ∃ (n_13 :
 Nat),
 ∃ (c_7 :
 Nat),
 ∃ (p_8 :
 Option
 Addr),
 ∃ (n_14 :
 Nat),
 ∃ (c_8 :
 Nat),
 ∃ (x_27
 : Int),
 e =
 Ending.returned
 (Value.tuple
 #[Value.agg
 #[Value.slice
 p_7
 n_13
 c_7,
 Value.slice
 p_8
 n_14
 c_8],
 Value.int
 IntKind.i64
 x_27]) ∧
 WrL
 w'_4
 n_1
 0
 2 ∧
 ∀
 (w1 :
 World),
 PutB
 w'_4
 n_1
 0
 [Value.slice
 p_7
 n_13
 c_7,
 Value.slice
 p_8
 n_14
 c_8]
 w1 →
 KeptL
 [n,
 n_8]
 W
 w1 ∧
 CallsS
 Tryz.prog
 22
 #[Value.pointer
 x,
 Value.agg
 (arrI IntKind.u8 f 32 0 ++ (arrI IntKind.u8 f_2 16 0 ++ [Value.string
 x_11,
 Value.int
 IntKind.i64
 x_12,
 Value.bool
 x_13,
 Value.bool
 x_14,
 Value.slice
 p
 n_7
 c,
 Value.string
 x_15])).toArray]
 w1
 fun
 (e :
 Ending)
 (w'_5 :
 World) =>
 ∃
 (x_28
 :
 Int),
 e =
 Ending.returned
 (Value.int
 IntKind.i64
 x_28) ∧
 KeptL
 [n,
 n_8]
 w1
 w'_5 ∧
 bsp
 (x_28 !=
 x_27)
 (∃
 (p_9
 :
 Option
 Addr),
 ∃
 (n_15
 :
 Nat),
 ∃
 (c_9
 :
 Nat),
 ∃
 (p_10
 :
 Option
 Addr),
 ∃
 (n_16
 :
 Nat),
 ∃
 (c_10
 :
 Nat),
 (∀
 (W :
 World),
 Loc
 w.heap.size
 [Blk.mk
 n
 42
 [Value.slice
 ap
 an
 ac,
 Value.slice
 op
 on
 oc]
 0,
 Blk.mk
 n_8
 56
 (arrI IntKind.u8 f 32 0 ++ (arrI IntKind.u8 f_2 16 0 ++ [Value.string
 x_11,
 Value.int
 IntKind.i64
 x_12,
 Value.bool
 x_13,
 Value.bool
 x_14,
 Value.slice
 p
 n_7
 c,
 Value.string
 x_15]))
 0]
 w'_5
 W →
 AtL
 W
 n_1
 0
 [Value.slice
 p_9
 n_15
 c_9,
 Value.slice
 p_10
 n_16
 c_10]) ∧
 ∀
 (W :
 World),
 Loc
 w.heap.size
 [Blk.mk
 n
 42
 [Value.slice
 ap
 an
 ac,
 Value.slice
 op
 on
 oc]
 0,
 Blk.mk
 n_8
 56
 (arrI IntKind.u8 f 32 0 ++ (arrI IntKind.u8 f_2 16 0 ++ [Value.string
 x_11,
 Value.int
 IntKind.i64
 x_12,
 Value.bool
 x_13,
 Value.bool
 x_14,
 Value.slice
 p
 n_7
 c,
 Value.string
 x_15]))
 0]
 w'_5
 W →
 WrL
 W
 n_1
 0
 2 ∧
 ∀
 (w1 :
 World),
 PutB
 W
 n_1
 0
 [Value.slice
 p_9
 n_15
 c_9,
 Value.slice
 p_10
 n_16
 c_10]
 w1 →
 KeptL
 [n,
 n_8]
 W
 w1 ∧
 ∃
 (p
 :
 Option
 Addr),
 ∃
 (n
 :
 Nat),
 ∃
 (c
 :
 Nat),
 ∃
 (p_11
 :
 Option
 Addr),
 ∃
 (n_17
 :
 Nat),
 ∃
 (c_11
 :
 Nat),
 AtL
 w1
 n_1
 0
 [Value.slice
 p
 n
 c,
 Value.slice
 p_11
 n_17
 c_11] ∧
 R
 (Ending.returned
 (Value.tuple
 #[Value.pointer
 x,
 Value.agg
 #[Value.slice
 p
 n
 c,
 Value.slice
 p_11
 n_17
 c_11],
 Value.bool
 false]))
 w1)
 (I
 [Value.pointer
 x,
 Value.int
 IntKind.i64
 (IntKind.i64.wrap
 (x_5 +
 1))]
 w'_5 ∧
 m
 [Value.pointer
 x,
 Value.int
 IntKind.i64
 (IntKind.i64.wrap
 (x_5 +
 1))]
 w'_5 <
 m
 [Value.pointer
 x,
 Value.int
 IntKind.i64
 x_5]
 w')))
 (∃ (p : Option Addr),
 ∃ (n_6 : Nat),
 ∃ (c : Nat),
 ∃ (p_3 : Option Addr),
 ∃ (n_7 : Nat),
 ∃ (c_3 : Nat),
 (∀ (W : World),
 Loc w.heap.size
 [Blk.mk n 42 [Value.slice ap an ac, Value.slice op on oc] 0] w' W →
 AtL W n_1 0 [Value.slice p n_6 c, Value.slice p_3 n_7 c_3]) ∧
 ∀ (W : World),
 Loc w.heap.size
 [Blk.mk n 42 [Value.slice ap an ac, Value.slice op on oc] 0] w' W →
 WrL W n_1 0 2 ∧
 ∀ (w1 : World),
 PutB W n_1 0 [Value.slice p n_6 c, Value.slice p_3 n_7 c_3] w1 →
 KeptL [n] W w1 ∧
 ∃ (p : Option Addr),
 ∃ (n : Nat),
 ∃ (c : Nat),
 ∃ (p_4 : Option Addr),
 ∃ (n_8 : Nat),
 ∃ (c_4 : Nat),
 AtL w1 n_1 0 [Value.slice p n c, Value.slice p_4 n_8 c_4] ∧
 R
 (Ending.returned
 (Value.tuple
 #[Value.pointer x,
 Value.agg #[Value.slice p n c, Value.slice p_4 n_8 c_4],
 Value.bool true]))
 w1))
theorem vc_lplay (ap : Option Addr) (an : Nat) (ac : Nat) (op : Option Addr) (on : Nat) (oc : Nat) (w : World) (R : Ending → World → Prop) (h : VC_lplay ap an ac op on oc w R) : Calls Tryz.prog 18 ([Value.agg
    #[Value.slice ap an ac, Value.slice op on oc]] : List Value).toArray w R := by
  have e : execR2 { P := Tryz.prog, loops := [(7, [(2, Ck.ptr), (11, Ck.int IntKind.i64)])], pur := pur1, tails := [(5, 2), (14, 3), (15, 2), (17, 3), (18, 3)], joins := [], boxes := [] } Tryz.f18.results.toList R (Tryz.f18.body.getD .skip) (initF [Value.agg
    #[Value.slice ap an ac,
      Value.slice op on
        oc]] (Tryz.f18.ntmps - ([Value.agg
    #[Value.slice ap an ac,
      Value.slice op on oc]] : List Value).length)) w = VC_lplay ap an ac op on oc w R := by kernel_rfl
  have hb : Tryz.f18.body = some (Tryz.f18.body.getD .skip) := by kernel_rfl
  exact calls_of_exec2' (P := Tryz.prog) (fn := Tryz.f18) (c := Tryz.f18.body.getD .skip) (args := [Value.agg
    #[Value.slice ap an ac, Value.slice op on oc]]) (w := w) (R := R) pur1_ok Tryz.func18 hb e h

end Go.Proofs.YtkkfnlehlkiejaaGreatDoor
