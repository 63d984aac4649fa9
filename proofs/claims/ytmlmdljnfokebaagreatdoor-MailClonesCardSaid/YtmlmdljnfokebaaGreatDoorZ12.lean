/- Chapter 49: the contract of the statements' Play: the queue and the reference's queue say the same. A site's name; at most 30 operations are played. -/
import Derived.Test.YtmlmdljnfokebaaGreatDoorZ11
import Derived.Test.YtmlmdljnfokebaaGreatDoorZ10
import Derived.Test.YtmlmdljnfokebaaGreatDoorZ07
import Derived.Test.YtmlmdljnfokebaaGreatDoorProg
import Derived.Test.YtmlmdljnfokebaaGreatDoorZ02
import Derived.Test.YtmlmdljnfokebaaGreatDoorZ04
import Derived.KernelRfl
namespace Go.Proofs.YtmlmdljnfokebaaGreatDoor
open Go.RowKit Go.Maps

theorem AtL.kp {M : Nat → Prop} {w w' : World} {b o : Nat} {cs : List Value} (h : AtL w b o cs) (hk : Kp M w w') (hm : ¬ M b) : AtL w' b o cs := by
  have key : ∀ (cs : List Value) (o : Nat), At w b o cs → At w' b o cs := by
    intro cs
    induction cs with
    | nil => intro o _; trivial
    | cons v r ih =>
      intro o h
      cases r with
      | nil => exact hk.cell' h hm
      | cons u r => exact ⟨hk.cell' h.1 hm, ih (o + 1) h.2⟩
  exact ⟨key cs o h.h⟩
theorem WR.kp {M : Nat → Prop} {w w' : World} {p : Option Addr} {c : Nat} {L : List Wx} (h : WR w p c L) (hk : Kp M w w') (h1 : ∀ g o, p = some ⟨g, o, none⟩ → ¬ M g) (h2 : ∀ x ∈ L, ∀ g o, x.p = some ⟨g, o, none⟩ → ¬ M g) : WR w' p c L :=
  ⟨fun k y hy => by obtain ⟨b, o, hp, ha⟩ := h.row k y hy; exact ⟨b, o, hp, ha.kp hk (h1 b o hp)⟩, fun x hx => (h.str x hx).kp hk (h2 x hx), h.ok, h.le⟩
theorem QR.kp {M : Nat → Prop} {w w' : World} {b mb : Nat} {site : ByteArray} {last : Int} {l : List (Int × Qd)} (h : QR w b mb site last l) (hk : Kp M w w') (hb : ¬ M b) (hm : ¬ M mb) (hg : ∀ g, b < g → ¬ M g) : QR w' b mb site last l :=
  ⟨hk.blk h.blk hb, h.map.kp hk hm, h.ne, fun a x hx => ⟨(h.str a x hx).1.kp hk (fun g o e => hg g ((h.str a x hx).2 g o e).1), (h.str a x hx).2⟩, h.ok⟩
/-- The queue and the reference's, after i operations. -/
structure PlI (w w' : World) (b mb B : Nat) (s : ByteArray) (i : Nat) (last : Int) (l : List (Int × Qd)) (L : List Wx) (q : Option Addr) (d : Nat) : Prop where
  k : K0 w w'
  hq : QR w' b mb s last l
  hw : WR w' q d L
  bq : ∀ g o, q = some ⟨g, o, none⟩ → B ≤ g
  bx : ∀ x ∈ L, ∀ g o, x.p = some ⟨g, o, none⟩ → B ≤ g
  hl : QL last l L
  h0 : 0 ≤ last
  h1 : last ≤ (i : Int)
  h2 : L.length ≤ i
  sz : B ≤ w'.heap.size
theorem pl_fin {w wz w6 : World} {n b mb B i : Nat} {s : ByteArray} {last : Int} {l : List (Int × Qd)} {L : List Wx} {q : Option Addr} {d : Nat} {cs : Array Value} (h : PlI w wz b mb B s i last l L q d)
    (hn : wz.heap[n]? = some (.cells cs 62 (0, 0))) (hcs : cs.size = 3) (gn : w.heap.size ≤ n) (hnb : n < b) (hnm : n ≠ mb) (hnB : n < B) (hp : PutB wz n 0 [.string s, .int .i64 last, .slice q L.length d] w6) :
    w6.heap[n]? = some (.cells #[.string s, .int .i64 last, .slice q L.length d] 62 (0, 0)) ∧ PlI w w6 b mb B s i last l L q d :=
  ⟨hp.full hn (by rw [hcs]; rfl), ⟨put_k0 h.k hp gn, h.hq.kp hp.kp (fun e => by omega) (fun e => hnm e.symm) (fun g hg e => by omega), h.hw.kp hp.kp (fun g o e e2 => by have := h.bq g o e; omega) (fun x hx g o e e2 => by have := h.bx x hx g o e; omega), h.bq, h.bx, h.hl, h.h0, h.h1, h.h2, by rw [hp.size]; exact h.sz⟩⟩
theorem PlI.k0 {w w' w2 : World} {b mb B i : Nat} {s : ByteArray} {last : Int} {l : List (Int × Qd)} {L : List Wx} {q : Option Addr} {d : Nat} (h : PlI w w' b mb B s i last l L q d) (hk : K0 w' w2) : PlI w w2 b mb B s i last l L q d :=
  ⟨h.k.trans hk, h.hq.k0 hk, h.hw.k0 hk, h.bq, h.bx, h.hl, h.h0, h.h1, h.h2, Nat.le_trans h.sz hk.size⟩
theorem PlI.up {w w' : World} {b mb B i : Nat} {s : ByteArray} {last : Int} {l : List (Int × Qd)} {L : List Wx} {q : Option Addr} {d : Nat} (h : PlI w w' b mb B s i last l L q d) : PlI w w' b mb B s (i + 1) last l L q d :=
  ⟨h.k, h.hq, h.hw, h.bq, h.bx, h.hl, h.h0, by have := h.h1; omega, by have := h.h2; omega, h.sz⟩
theorem strP_base {w : World} {base n c : Nat} {t : TypeId} {q : Option Addr} {xs : List Value} (h : w.ownsRow base t 1 (.slice q n c) n xs) : ∀ g o, q = some ⟨g, o, none⟩ → base ≤ g := fun g o e => own_ge h (k := g) (by rw [e]; rfl)
theorem row_base {w : World} {base n c sz : Nat} {t : TypeId} {q : Option Addr} {xs : List Value} (h : w.ownsRow base t sz (.slice q n c) n xs) : ∀ g o, q = some ⟨g, o, none⟩ → base ≤ g := fun g o e => own_ge h (k := g) (by rw [e]; rfl)
set_option maxRecDepth 100000 in
set_option maxHeartbeats 8000000 in
theorem lplay_any (s : ByteArray) (p : Option Addr) (c : Nat) (Os : List OpX) (w : World) (hs : siteE s = 0) (hR : RowA opC 14 w p Os) (hO : ∀ x ∈ Os, OpR w x) (hT : GT w) :
    Calls Tryz.prog 24 #[.string s, .slice p Os.length c] w fun e w' => ∃ (b mb B : Nat) (last : Int) (l : List (Int × Qd)) (L : List Wx) (q : Option Addr) (d : Nat), e = .returned (.tuple #[.pointer (some ⟨b, 0, none⟩), qV s last q L.length d, .bool true]) ∧ PlI w w' b mb B s 30 last l L q d ∧ w.heap.size ≤ b ∧ w.heap.size ≤ mb ∧ w.heap.size ≤ B ∧ b < B ∧ mb < B := by
  refine vc_lplay s p Os.length c w _ (fun n W hW => ?_)
  have kW : K0 w W := hW.kk rfl
  have gn : w.heap.size ≤ n := hW.fresh 0 rfl rfl
  have hnW := block_lt (hW.cells 0 rfl)
  simp only at hnW
  refine ⟨(newq_any s W).mono fun e w1 ⟨hq, k1⟩ => ?_⟩
  rcases hq with ⟨hne, _⟩ | ⟨_, b, mb, he, hQ, gb, gm⟩
  · exact absurd hs hne
  refine ⟨_, _, he, .of_k0 k1, bsp_intro (fun h => by simp at h) (fun _ => fun W2 hW2 => ?_)⟩
  have hn2 : W2.heap[n]? = some (.cells #[.string s, .int .i64 0, .slice none 0 0] 62 (0, 0)) := hW2.cells 0 rfl
  have k02 : K0 w W2 := hW2.k0 (kW.trans k1)
  have hbB := block_lt hQ.blk
  have hmB := hQ.map.lt
  have sW := kW.size
  have sW1 := k1.size
  have hM : ∀ k, (∃ x ∈ [Blk.mk n 62 [.string s, .int .i64 0, .slice none 0 0] (wrM 0)], x.m = 1 ∧ x.n = k) → k = n := fun k ⟨x, hx, _, e⟩ => by simp at hx; subst hx; exact e.symm
  have hQ2 : QR W2 b mb s 0 [] := hQ.kp (hW2.kp.mono fun k _ h => hM k h) (fun e => by omega) (fun e => by omega) (fun g hg e => by omega)
  have sz2 : w1.heap.size ≤ W2.heap.size := hW2.kp.size
  refine ⟨fun vs w' => ∃ (i : Nat) (last : Int) (l : List (Int × Qd)) (L : List Wx) (q : Option Addr) (d : Nat), vs = [.pointer (some ⟨b, 0, none⟩), .int .i64 (i : Int)] ∧ i ≤ 30 ∧ w'.heap[n]? = some (.cells #[.string s, .int .i64 last, .slice q L.length d] 62 (0, 0)) ∧ PlI w w' b mb w1.heap.size s i last l L q d,
    fun vs _ => (match vs with | _ :: .int _ a :: _ => 30 - a.toNat | _ => 0), ⟨0, 0, [], [], none, 0, rfl, by omega, hn2, ⟨k02, hQ2, WR.nil _, (fun g o e => by cases e), (fun x hx => by cases hx), QL.nil, Int.le_refl _, Int.le_refl _, Nat.le_refl _, sz2⟩⟩, ?_⟩
  rintro xp x2 w3 ⟨i, last, l, L, q, d, hv, hi30, hn3, hI⟩
  simp only [List.cons.injEq, Value.int.injEq, Value.pointer.injEq, true_and, and_true] at hv
  obtain ⟨rfl, rfl⟩ := hv
  have hlast : 0 ≤ last ∧ last ≤ 4611686018427387904 := ⟨hI.h0, by have := hI.h1; omega⟩
  have hll : l.length ≤ 30 := by have := hI.hl.len; have := hI.h2; omega
  have hLl : L.length ≤ 1000 := by have := hI.h2; omega
  have gb0 : w.heap.size ≤ b := by omega
  have gm0 : w.heap.size ≤ mb := by omega
  have hnb : n < b := by omega
  have hnm : n ≠ mb := by omega
  have hnB : n < w1.heap.size := by omega
  have hMB : ∀ k, (k = b ∨ k = mb) → k < w1.heap.size ∧ w.heap.size ≤ k ∧ k ≠ n := fun k h => by omega
  refine bsp_intro (fun hlt => ?_) (fun hge => ?_)
  rotate_left
  · -- the end
    refine ⟨s, last, q, L.length, d, fun W4 hW4 => AtL_block ((hW4.kk rfl : K0 w3 W4).blk hn3 (fun h => h)) rfl, fun W4 hW4 => ⟨WrL_block ((hW4.kk rfl : K0 w3 W4).blk hn3 (fun h => h)) (Nat.le_refl 3), fun w5 h5 => ?_⟩⟩
    have k4 : K0 w3 W4 := hW4.kk rfl
    obtain ⟨h6, hI6⟩ := pl_fin (hI.k0 k4) (k4.blk hn3 (fun h => h)) rfl gn hnb hnm hnB h5
    refine ⟨⟨by rw [h5.size]; exact Nat.le_refl _, fun z hz => by cases hz⟩, s, last, q, L.length, d, AtL_block h6 rfl, b, mb, w1.heap.size, last, l, L, q, d, rfl, ⟨hI6.k, hI6.hq, hI6.hw, hI6.bq, hI6.bx, hI6.hl, hI6.h0, by have := hI6.h1; omega, by have := hI6.h2; omega, hI6.sz⟩, gb0, gm0, by omega, hbB, hmB⟩
  simp only [Bool.and_eq_true, decide_eq_true_eq] at hlt
  have hi1 : i < Os.length := by omega
  have hi2 : i < 30 := by omega
  obtain ⟨o, bo, oo, ho, hp, hat⟩ := RowA.get (fun k y hy => (hR.k0 hI.k) k y hy) hi1
  have hOo := (hO o (List.mem_of_getElem? ho)).k0 hI.k
  have hrest : ∀ (w6 : World) (last' : Int) (l' : List (Int × Qd)) (L' : List Wx) (q' : Option Addr) (d' : Nat), w6.heap[n]? = some (.cells #[.string s, .int .i64 last', .slice q' L'.length d'] 62 (0, 0)) → PlI w w6 b mb w1.heap.size s (i + 1) last' l' L' q' d' →
      (∃ (i' : Nat) (last : Int) (l : List (Int × Qd)) (L : List Wx) (q : Option Addr) (d : Nat), [Value.pointer (some ⟨b, 0, none⟩), .int .i64 (IntKind.i64.wrap ((i : Int) + 1))] = [.pointer (some ⟨b, 0, none⟩), .int .i64 (i' : Int)] ∧ i' ≤ 30 ∧ w6.heap[n]? = some (.cells #[.string s, .int .i64 last, .slice q L.length d] 62 (0, 0)) ∧ PlI w w6 b mb w1.heap.size s i' last l L q d) ∧
      (match [Value.pointer (some ⟨b, 0, none⟩), .int .i64 (IntKind.i64.wrap ((i : Int) + 1))] with | _ :: .int _ a :: _ => 30 - a.toNat | _ => 0) < (match [Value.pointer (some ⟨b, 0, none⟩), .int .i64 (i : Int)] with | _ :: .int _ a :: _ => 30 - a.toNat | _ => 0) := fun w6 last' l' L' q' d' h1 h2 => by
    rw [inc64 (by omega)]
    exact ⟨⟨i + 1, last', l', L', q', d', rfl, by omega, h1, h2⟩, by simp only [Int.toNat_natCast]; omega⟩
  refine nn_is hp ⟨⟨by omega, by omega⟩, o.k, o.m.fu, o.m.fs, o.m.tu, o.m.ts, o.m.n, o.m.d, o.m.sj, o.p, o.m.hops.length, o.c, o.m.bd, o.n, o.now, o.code, o.fin, by rw [Int.toNat_natCast]; exact hat, fun n2 => ?_⟩
  refine bsp_intro (fun h0 => fun W4 hW4 => ?_) (fun h0 => bsp_intro (fun h1 => fun W4 hW4 => ?_) (fun h1 => fun W4 hW4 => ?_))
  · -- Add
    have k4 : K0 w3 W4 := hW4.kk rfl
    have g2 : w3.heap.size ≤ n2 := hW4.fresh 0 rfl rfl
    have hn2W := block_lt (hW4.cells 0 rfl)
    simp only at hn2W
    refine ⟨(to_any o.m o.p o.c W4 (hOo.str.k0 k4) hOo.hl).mono fun e w5 ⟨⟨q1, d1, he, ho1⟩, k5⟩ => ⟨_, _, _, _, _, _, _, _, _, _, _, he, .of_k0 k5, fun n4 W6 hW6 => ?_⟩⟩
    have hzx : (toM o.m).fu.size ≤ 4611686018427387904 ∧ (toM o.m).tu.size ≤ 4611686018427387904 := ⟨hOo.z.1, hOo.z.2.2.1⟩
    have hlx : (toM o.m).hops.length ≤ 20 := by show (o.m.hops.take 20).length ≤ 20; rw [List.length_take]; omega
    have hbx : (toM o.m).bd.size ≤ 33000 := by show (o.m.bd.extract 0 (min o.m.bd.size 33000)).size ≤ 33000; rw [ByteArray.size_extract]; omega
    generalize toM o.m = x at *
    have k6 : K0 w5 W6 := hW6.kk rfl
    have g4 : w5.heap.size ≤ n4 := hW6.fresh 0 rfl rfl
    have k36 := (k4.trans k5).trans k6
    have hI6 := hI.k0 k36
    have hn4W := block_lt (hW6.cells 0 rfl)
    simp only at hn4W
    have s45 := k5.size
    have s34 := k4.size
    have hs3 := hI.sz
    have hb6 : W6.heap[n]? = _ := k36.blk hn3 (fun h => h)
    refine ⟨(qadd_any b mb s last l x q1 d1 o.now W6 hI6.hq ((strP_own ho1).k0 k6) (fun g oo hg e => ?_) (own_le ho1) (by omega) (by omega) hlast).mono fun e w7 hA => ?_⟩
    · have := strP_base ho1 g oo hg; omega
    have hkeep : ∀ {u v : World}, Kp (fun k => k = b ∨ k = mb) u v → KeptL [n4, n2] u v := fun hk => .of_kp hk (fun z hz e => by have := hMB z e; simp at hz; omega)
    rcases hA with ⟨he, hbad, k7⟩ | ⟨hc0, hmn, hlen, he, ⟨p5, c5, hQ7⟩, k7⟩
    · refine ⟨_, _, he, .of_k0 k7, fun W8 hW8 => ?_⟩
      have k8 : K0 w7 W8 := hW8.kk rfl
      have hI8 := (hI6.k0 k7).k0 k8
      have hb8 := (k7.trans k8).blk hb6 (fun h => h)
      have hc4 := hW8.cells 0 rfl
      have hc2 := hW8.cells 1 rfl
      refine ⟨fun wx => K0 W8 wx, .refl _ _, s, last, q, L.length, d, fun wx k => AtL_block (k.blk hb8 (fun h => h)) rfl, x.fu, x.fs, x.tu, x.ts, x.n, x.d, x.sj, q1, x.hops.length, d1, x.bd, fun wx k => AtL_block (k.blk hc4 (fun h => h)) rfl, o.now, fun wx k => cell_at (k.blk hc2 (fun h => h)) rfl, ?_⟩
      refine ⟨(of_any x q1 d1 W8 ((strP_own ho1).k0 ((k6.trans k7).trans k8)) (by omega)).mono fun e w9 ⟨⟨q2, d2, he, ho2⟩, k9⟩ => ⟨_, _, _, _, _, _, _, _, _, _, _, he, k9, ?_⟩⟩
      refine ⟨(radd_any s last L q d x q2 d2 o.now w9 (hI8.hw.k0 k9) hLl hlast (strP_own ho2) (own_le ho2) hzx (by omega)).mono fun e w10 ⟨hA2, k10⟩ => ?_⟩
      rcases hA2 with ⟨he, _⟩ | ⟨h1, h2, _⟩
      rotate_left
      · exfalso
        rcases hbad with h | h | h
        · exact h h1
        · rw [h2] at h; cases h
        · omega
      have hI10 := (hI8.k0 k9).k0 k10
      have hb10 := (k9.trans k10).blk hb8 (fun h => h)
      refine ⟨_, _, _, _, _, _, _, he, WrL_block hb10 (Nat.le_refl 3), fun w11 h11 => ⟨⟨by rw [h11.size]; exact (k9.trans k10).size, fun z hz hlt' => ?_⟩, bsp_intro (fun h => by exfalso; simp at h) (fun _ => ?_)⟩⟩
      · have hz : z = n4 ∨ z = n2 := by simpa using hz
        rw [h11.kp.block z (Nat.lt_of_lt_of_le hlt' (k9.trans k10).size) (fun e => by omega), (k9.trans k10).block z hlt' (fun h => h)]
      obtain ⟨h12, hI12⟩ := pl_fin hI10.up hb10 rfl gn hnb hnm hnB h11
      exact hrest _ _ _ _ _ _ h12 hI12
    · refine ⟨_, _, he, hkeep k7, fun W8 hW8 => ?_⟩
      have k8 : K0 w7 W8 := hW8.kk rfl
      have kz : K0 w W8 := (hI6.k.fresh k7 (fun j hj e => by have := hMB j e; omega)).trans k8
      have hb8 := k8.blk (k7.blk hb6 (fun e => (hMB n e).2.2 rfl)) (fun h => h)
      have hW8r := (hI6.hw.kp k7 (fun g o e e2 => by have := hMB g e2; have := hI6.bq g o e; omega) (fun x hx g o e e2 => by have := hMB g e2; have := hI6.bx x hx g o e; omega)).k0 k8
      have hc4 := hW8.cells 0 rfl
      have hc2 := hW8.cells 1 rfl
      have hS1 : StrP W8 q1 x.hops := (((strP_own ho1).k0 k6).kp k7 (fun g oo hg e => by have := hMB g e; have := strP_base ho1 g oo hg; omega)).k0 k8
      have s78 := k8.size
      have s67 := k7.size
      have s56 := k6.size
      refine ⟨fun wx => K0 W8 wx, .refl _ _, s, last, q, L.length, d, fun wx k => AtL_block (k.blk hb8 (fun h => h)) rfl, x.fu, x.fs, x.tu, x.ts, x.n, x.d, x.sj, q1, x.hops.length, d1, x.bd, fun wx k => AtL_block (k.blk hc4 (fun h => h)) rfl, o.now, fun wx k => cell_at (k.blk hc2 (fun h => h)) rfl, ?_⟩
      refine ⟨(of_any x q1 d1 W8 hS1 (by omega)).mono fun e w9 ⟨⟨q2, d2, he, ho2⟩, k9⟩ => ⟨_, _, _, _, _, _, _, _, _, _, _, he, k9, ?_⟩⟩
      refine ⟨(radd_any s last L q d x q2 d2 o.now w9 (hW8r.k0 k9) hLl hlast (strP_own ho2) (own_le ho2) hzx (by omega)).mono fun e w10 ⟨hA2, k10⟩ => ?_⟩
      rcases hA2 with ⟨_, h1⟩ | ⟨_, _, p9, c9, he, ho10⟩
      · exfalso
        rcases h1 with h | h | h
        · exact h hc0
        · rw [hmn] at h; cases h
        · omega
      have hb10 := (k9.trans k10).blk hb8 (fun h => h)
      refine ⟨_, _, _, _, _, _, _, he, WrL_block hb10 (Nat.le_refl 3), fun w11 h11 => ⟨⟨by rw [h11.size]; exact (k9.trans k10).size, fun z hz hlt' => ?_⟩, bsp_intro (fun h => by exfalso; simp at h) (fun _ => ?_)⟩⟩
      · have hz : z = n4 ∨ z = n2 := by simpa using hz
        rw [h11.kp.block z (Nat.lt_of_lt_of_le hlt' (k9.trans k10).size) (fun e => by omega), (k9.trans k10).block z hlt' (fun h => h)]
      have s910 := k9.size
      have hI10 : PlI w w10 b mb w1.heap.size s (i + 1) (last + 1) (aset l (last + 1) ⟨x, p5, c5, 0, o.now⟩) (L ++ [nwx last o.now x q2 d2]) p9 c9 := by
        refine ⟨kz.trans (k9.trans k10), (hQ7.k0 k8).k0 (k9.trans k10), WR.own ho10 (fun y hy => ?_) (fun y hy => ?_), fun g oo e => by have := row_base ho10 g oo e; omega, fun y hy g oo e => ?_, hI.hl.add hlast.1 rfl rfl, by omega, by have := hI.h1; omega, by have := hI.h2; simp; omega, by have := k10.size; omega⟩
        · rcases List.mem_append.1 hy with hy | hy
          · exact (hW8r.str y hy).k0 (k9.trans k10)
          · simp at hy; subst hy; exact (strP_own ho2).k0 k10
        · rcases List.mem_append.1 hy with hy | hy
          · exact hW8r.ok y hy
          · simp at hy; subst hy; exact ⟨hc0, own_le ho2, Int.le_refl _, by show (0 : Int) ≤ 7; omega⟩
        · rcases List.mem_append.1 hy with hy | hy
          · exact hI.bx y hy g oo e
          · simp at hy; subst hy; have := strP_base ho2 g oo e; omega
      obtain ⟨h12, hI12⟩ := pl_fin hI10 hb10 rfl gn hnb hnm hnB h11
      exact hrest _ _ _ _ _ _ h12 hI12
  · -- Done
    have k4 : K0 w3 W4 := hW4.kk rfl
    have g2 : w3.heap.size ≤ n2 := hW4.fresh 0 rfl rfl
    have hI4 := hI.k0 k4
    have hb4 : W4.heap[n]? = _ := k4.blk hn3 (fun h => h)
    have hs3 := hI.sz
    refine ⟨(qdone_any b mb s last l o.n W4 hOo.n hI4.hq).mono fun e w5 ⟨he, hQ5, k5⟩ => ?_⟩
    have hb5 := k5.blk hb4 (fun e => (hMB n e).2.2 rfl)
    have k05 : K0 w w5 := hI4.k.fresh k5 (fun j hj e => by have := hMB j e; omega)
    have hW5 := hI4.hw.kp k5 (fun g o e e2 => by have := hMB g e2; have := hI4.bq g o e; omega) (fun x hx g o e e2 => by have := hMB g e2; have := hI4.bx x hx g o e; omega)
    refine ⟨_, he, .of_kp k5 (fun z hz e => by have := hMB z e; simp at hz; omega), s, last, q, L.length, d, AtL_block hb5 rfl, ?_⟩
    refine ⟨(rdone_any s last L q d o.n w5 hW5 hLl).mono fun e w6 ⟨hA, k6⟩ => ?_⟩
    have hb6 := k6.blk hb5 (fun h => h)
    have s45 := k5.size
    have s56 := k6.size
    have s34 := k4.size
    rcases hA with ⟨he, hno⟩ | ⟨j, y, p6, c6, he, hy, hya, ho6⟩
    · have hnone := hI.hl.no hno
      rw [hnone] at hQ5 ⊢
      refine ⟨_, _, _, _, _, _, he, .of_k0 k6, WrL_block hb6 (Nat.le_refl 3), fun w7 h7 => ⟨.of_kp h7.kp (fun z hz e => by simp at hz; omega), bsp_intro (fun h => by exfalso; simp at h) (fun _ => ?_)⟩⟩
      have hI6 : PlI w w6 b mb w1.heap.size s (i + 1) last l L q d := ⟨k05.trans k6, hQ5.k0 k6, hW5.k0 k6, hI.bq, hI.bx, hI.hl, hI.h0, by have := hI.h1; omega, by have := hI.h2; omega, by omega⟩
      obtain ⟨h12, hI12⟩ := pl_fin hI6 hb6 rfl gn hnb hnm hnB h7
      exact hrest _ _ _ _ _ _ h12 hI12
    · obtain ⟨q0, hget, _⟩ := hI.hl.get hy
      rw [hya] at hget
      rw [hget] at hQ5 ⊢
      refine ⟨_, _, _, _, _, _, he, .of_k0 k6, WrL_block hb6 (Nat.le_refl 3), fun w7 h7 => ⟨.of_kp h7.kp (fun z hz e => by simp at hz; omega), bsp_intro (fun h => by exfalso; simp at h) (fun _ => ?_)⟩⟩
      have hsub : ∀ x ∈ L.eraseIdx j, x ∈ L := fun x hx => (List.eraseIdx_sublist _ _).subset hx
      have hl2 := hI.hl.del hy
      rw [hya] at hl2
      have hI6 : PlI w w6 b mb w1.heap.size s (i + 1) last (adel l o.n) (L.eraseIdx j) p6 c6 := ⟨k05.trans k6, hQ5.k0 k6, WR.own ho6 (fun x hx => (hW5.str x (hsub x hx)).k0 k6) (fun x hx => hW5.ok x (hsub x hx)), fun g oo e => by have := row_base ho6 g oo e; omega, fun x hx => hI.bx x (hsub x hx), hl2, hI.h0, by have := hI.h1; omega, by have := hI.h2; have := (List.eraseIdx_sublist L j).length_le; omega, by omega⟩
      obtain ⟨h12, hI12⟩ := pl_fin hI6 hb6 rfl gn hnb hnm hnB h7
      exact hrest _ _ _ _ _ _ h12 hI12
  · -- Fail
    have k4 : K0 w3 W4 := hW4.kk rfl
    have g2 : w3.heap.size ≤ n2 := hW4.fresh 0 rfl rfl
    have hI4 := hI.k0 k4
    have hb4 : W4.heap[n]? = _ := k4.blk hn3 (fun h => h)
    have hs3 := hI.sz
    have s34 := k4.size
    refine ⟨(qfail_any b mb s last l o.n o.now o.code o.fin W4 hI4.hq hOo.n hOo.code hlast (hT.k0 hI4.k)).mono fun e w5 hF => ?_⟩
    have hF' : ∃ (nn : Int) (is : Bool) (ee last' : Int) (l' : List (Int × Qd)), e = .returned (.tuple #[.int .i64 nn, .bool is, .int .i64 ee]) ∧ QR w5 b mb s last' l' ∧ Kp (fun k => k = b ∨ k = mb) W4 w5 ∧
        ((aget l o.n = none ∧ nn = 0 ∧ is = false ∧ ee = 8 ∧ last' = last ∧ l' = l) ∨
         (∃ x, aget l o.n = some x ∧ (
          (minB o.now = false ∧ nn = 0 ∧ is = false ∧ ee = 13 ∧ last' = last ∧ l' = l) ∨
          (minB o.now = true ∧ o.fin = false ∧ x.f + 1 < 8 ∧ nn = 0 ∧ is = false ∧ ee = 0 ∧ last' = last ∧ l' = aset l o.n ⟨x.m, x.p, x.c, x.f + 1, failD x o.now⟩) ∨
          (minB o.now = true ∧ (o.fin = true ∨ 8 ≤ x.f + 1) ∧ bncM x.m s o.code o.now = none ∧ nn = 0 ∧ is = false ∧ ee = 0 ∧ last' = last ∧ l' = adel l o.n) ∨
          (minB o.now = true ∧ (o.fin = true ∨ 8 ≤ x.f + 1) ∧ ∃ y p' c', bncM x.m s o.code o.now = some y ∧ nn = last + 1 ∧ is = true ∧ ee = 0 ∧ last' = last + 1 ∧ l' = aset (adel l o.n) (last + 1) ⟨y, p', c', 0, o.now⟩)))) := by
      rcases hF with ⟨h1, he, hk⟩ | ⟨x, h1, ⟨h2, he, hk⟩ | ⟨h2, h3, h4, he, hQ, hk⟩ | ⟨h2, h3, h4, he, hQ, hk⟩ | ⟨h2, h3, y, h4, he, ⟨p', c', hQ⟩, hk⟩⟩
      · exact ⟨_, _, _, _, _, he, hI4.hq.k0 hk, hk.mono fun _ _ h => h.elim, .inl ⟨h1, rfl, rfl, rfl, rfl, rfl⟩⟩
      · exact ⟨_, _, _, _, _, he, hI4.hq.k0 hk, hk.mono fun _ _ h => h.elim, .inr ⟨x, h1, .inl ⟨h2, rfl, rfl, rfl, rfl, rfl⟩⟩⟩
      · exact ⟨_, _, _, _, _, he, hQ, hk, .inr ⟨x, h1, .inr (.inl ⟨h2, h3, h4, rfl, rfl, rfl, rfl, rfl⟩)⟩⟩
      · exact ⟨_, _, _, _, _, he, hQ, hk, .inr ⟨x, h1, .inr (.inr (.inl ⟨h2, h3, h4, rfl, rfl, rfl, rfl, rfl⟩))⟩⟩
      · exact ⟨_, _, _, _, _, he, hQ, hk, .inr ⟨x, h1, .inr (.inr (.inr ⟨h2, h3, y, p', c', h4, rfl, rfl, rfl, rfl, rfl⟩))⟩⟩
    clear hF
    obtain ⟨nn, is, ee, last', l', he5, hQ5, k5, hF⟩ := hF'
    have hb5 := k5.blk hb4 (fun e => (hMB n e).2.2 rfl)
    have k05 : K0 w w5 := hI4.k.fresh k5 (fun j hj e => by have := hMB j e; omega)
    have hW5 := hI4.hw.kp k5 (fun g o e e2 => by have := hMB g e2; have := hI4.bq g o e; omega) (fun x hx g o e e2 => by have := hMB g e2; have := hI4.bx x hx g o e; omega)
    refine ⟨_, _, _, he5, .of_kp k5 (fun z hz e => by have := hMB z e; simp at hz; omega), s, last, q, L.length, d, AtL_block hb5 rfl, ?_⟩
    clear he5
    refine ⟨(rfail_any s last L q d o.n o.now o.code o.fin w5 hW5 hLl hI.hl.upW hlast hOo.code).mono fun e w6 ⟨hA, k6⟩ => ?_⟩
    have hb6 := k6.blk hb5 (fun h => h)
    have s45 := k5.size
    have s56 := k6.size
    have hA' : ∃ (L' : List Wx) (q' : Option Addr) (d' : Nat), e = .returned (.tuple #[qV s last' q' L'.length d', .int .i64 nn, .bool is, .int .i64 ee]) ∧ PlI w w6 b mb w1.heap.size s (i + 1) last' l' L' q' d' := by
      have same : ∀ {lx : Int} {ll : List (Int × Qd)}, lx = last → ll = l → QR w5 b mb s lx ll → PlI w w6 b mb w1.heap.size s (i + 1) lx ll L q d := fun e1 e2 hq => by
        subst e1 e2
        exact ⟨k05.trans k6, hq.k0 k6, hW5.k0 k6, hI.bq, hI.bx, hI.hl, hI.h0, by have := hI.h1; omega, by have := hI.h2; omega, by omega⟩
      rcases hA with ⟨he, hno⟩ | ⟨j, y, hy, hya, hA⟩
      · have hnone := hI.hl.no hno
        rcases hF with ⟨_, rfl, rfl, rfl, h1, h2⟩ | ⟨x, h, _⟩
        · exact ⟨L, q, d, by rw [h1]; exact he, same h1 h2 hQ5⟩
        · rw [hnone] at h; cases h
      obtain ⟨x0, hget, hx1, hx2, hx3⟩ := hI.hl.get hy
      rw [hya] at hget
      rcases hF with ⟨h, _⟩ | ⟨x, h, hF⟩
      · rw [hget] at h; cases h
      rw [hget] at h
      cases h
      have hsub : ∀ x ∈ L.eraseIdx j, x ∈ L := fun x hx => (List.eraseIdx_sublist _ _).subset hx
      have hjl : j < L.length := (List.getElem?_eq_some_iff.1 hy).1
      have hym := List.mem_of_getElem? hy
      rcases hA with ⟨a1, he⟩ | ⟨a1, a2, a3, p', c', he, ho6⟩ | ⟨a1, a2, a3, p', c', he, ho6⟩ | ⟨a1, a2, z, a3, p', c', he, ho6⟩
      · rcases hF with ⟨_, rfl, rfl, rfl, h1, h2⟩ | ⟨h, _⟩ | ⟨h, _⟩ | ⟨h, _⟩
        · exact ⟨L, q, d, by rw [h1]; exact he, same h1 h2 hQ5⟩
        all_goals (rw [a1] at h; cases h)
      · rcases hF with ⟨h, _⟩ | ⟨_, _, _, rfl, rfl, rfl, rfl, rfl⟩ | ⟨_, h, _⟩ | ⟨_, h, _⟩
        · rw [a1] at h; cases h
        · refine ⟨_, p', c', he, ⟨k05.trans k6, hQ5.k0 k6, WR.own ho6 (fun u hu => ?_) (fun u hu => ?_), fun g oo e => by have := row_base ho6 g oo e; omega, fun u hu g oo e => ?_, ?_, hI.h0, by have := hI.h1; omega, by have := hI.h2; simp; omega, by omega⟩⟩
          · rcases List.mem_or_eq_of_mem_set hu with hu | rfl
            · exact (hW5.str u hu).k0 k6
            · exact (hW5.str y hym).k0 k6
          · rcases List.mem_or_eq_of_mem_set hu with hu | rfl
            · exact hW5.ok u hu
            · obtain ⟨o1, o2, o3, o4⟩ := hW5.ok y hym
              exact ⟨o1, o2, by show 0 ≤ y.f + 1; omega, by show y.f + 1 ≤ 7; omega⟩
          · rcases List.mem_or_eq_of_mem_set hu with hu | rfl
            · exact hI.bx u hu g oo e
            · exact hI.bx y hym g oo e
          · rw [← hya]
            refine hI.hl.set hy rfl ?_
            show ((failD x0 o.now, x0.f + 1, x0.m) : Int × Int × Ml) = (o.now + 5 * 2 ^ y.f.toNat, y.f + 1, y.m)
            unfold failD
            rw [hx2, hx3]
        · exfalso; rcases h with h | h
          · rw [a2] at h; cases h
          · omega
        · exfalso; rcases h with h | h
          · rw [a2] at h; cases h
          · omega
      · rcases hF with ⟨h, _⟩ | ⟨_, h1, h2, _⟩ | ⟨_, _, _, rfl, rfl, rfl, rfl, rfl⟩ | ⟨_, _, y1, _, _, h, _⟩
        · rw [a1] at h; cases h
        · exfalso; rcases a2 with h | h
          · rw [h1] at h; cases h
          · omega
        · have hl2 := hI.hl.del hy
          rw [hya] at hl2
          exact ⟨_, p', c', he, ⟨k05.trans k6, hQ5.k0 k6, WR.own ho6 (fun x hx => (hW5.str x (hsub x hx)).k0 k6) (fun x hx => hW5.ok x (hsub x hx)), fun g oo e => by have := row_base ho6 g oo e; omega, fun x hx => hI.bx x (hsub x hx), hl2, hI.h0, by have := hI.h1; omega, by have := hI.h2; have := (List.eraseIdx_sublist L j).length_le; omega, by omega⟩⟩
        · rw [hx3, a3] at h; cases h
      · rcases hF with ⟨h, _⟩ | ⟨_, h1, h2, _⟩ | ⟨_, _, h, _⟩ | ⟨_, _, y1, p1, c1, h, rfl, rfl, rfl, rfl, rfl⟩
        · rw [a1] at h; cases h
        · exfalso; rcases a2 with h | h
          · rw [h1] at h; cases h
          · omega
        · rw [hx3, a3] at h; cases h
        · rw [hx3, a3] at h
          cases h
          have hl2 := hI.hl.del hy
          rw [hya] at hl2
          obtain ⟨hz0, hzh, _⟩ := bnc_ok hOo.code a3
          refine ⟨_, p', c', he, ⟨k05.trans k6, hQ5.k0 k6, WR.own ho6 (fun u hu => ?_) (fun u hu => ?_), fun g oo e => by have := row_base ho6 g oo e; omega, fun u hu g oo e => ?_, hl2.add hlast.1 rfl rfl, by omega, by have := hI.h1; omega, by have := hI.h2; have := (List.eraseIdx_sublist L j).length_le; simp; omega, by omega⟩⟩
          · rcases List.mem_append.1 hu with hu | hu
            · exact (hW5.str u (hsub u hu)).k0 k6
            · simp at hu; subst hu; show StrP w6 none z.hops; rw [hzh]; exact strP_nil _ _
          · rcases List.mem_append.1 hu with hu | hu
            · exact hW5.ok u (hsub u hu)
            · simp at hu; subst hu; exact ⟨hz0, by show z.hops.length ≤ 0; rw [hzh]; exact Nat.le_refl _, Int.le_refl _, by show (0 : Int) ≤ 7; omega⟩
          · rcases List.mem_append.1 hu with hu | hu
            · exact hI.bx u (hsub u hu) g oo e
            · simp at hu; subst hu; cases e
    clear hA hF
    obtain ⟨L', q', d', he, hI6⟩ := hA'
    refine ⟨_, _, _, _, _, _, _, _, he, .of_k0 k6, WrL_block hb6 (Nat.le_refl 3), fun w7 h7 => ⟨.of_kp h7.kp (fun z hz e => by simp at hz; omega), bsp_intro (fun h => by exfalso; simp at h) (fun _ => ?_)⟩⟩
    obtain ⟨h12, hI12⟩ := pl_fin hI6 hb6 rfl gn hnb hnm hnB h7
    exact hrest _ _ _ _ _ _ h12 hI12

end Go.Proofs.YtmlmdljnfokebaaGreatDoor

/- Chapter 49: the contract of Equal of messages. No condition but sizes. -/
namespace Go.Proofs.YtmlmdljnfokebaaGreatDoor
open Go.RowKit Go.Maps

theorem mequal_any (a b : Ml) (p : Option Addr) (c : Nat) (q : Option Addr) (d : Nat) (w : World) (hp : StrP w p a.hops) (hq : StrP w q b.hops) (hl : a.hops.length ≤ 1099511627776) (za : SzM a) (zb : SzM b) :
    Calls Tryz.prog 16 #[mxA a p c, mxA b q d] w fun e w' => e = .returned (.bool (eqM a b)) ∧ K0 w w' := by
  refine vc_mequal a.fu a.fs a.tu a.ts a.n a.d a.sj p a.hops.length c a.bd b.fu b.fs b.tu b.ts b.n b.d b.sj q b.hops.length d b.bd w _ (fun n1 n2 => ?_)
  refine ⟨_, adEq _ _ _ _ za.1 za.2.1 zb.1 zb.2.1, a.tu, a.ts, gimp_intro fun _ W hW => AtL_block (hW.cells 1 rfl) rfl, b.tu, b.ts, gimp_intro fun _ W hW => AtL_block (hW.cells 0 rfl) rfl, _, gimp_intro fun _ => adEq _ _ _ _ za.2.2.1 za.2.2.2 zb.2.2.1 zb.2.2.2, ?_⟩
  refine ⟨a.n, gimp_intro fun _ W hW => cell_at (hW.cells 1 rfl) rfl, b.n, gimp_intro fun _ W hW => cell_at (hW.cells 0 rfl) rfl, a.d, gimp_intro fun _ W hW => cell_at (hW.cells 1 rfl) rfl, b.d, gimp_intro fun _ W hW => cell_at (hW.cells 0 rfl) rfl, ?_⟩
  refine ⟨a.sj, gimp_intro fun _ W hW => cell_at (hW.cells 1 rfl) rfl, b.sj, gimp_intro fun _ W hW => cell_at (hW.cells 0 rfl) rfl, ?_⟩
  refine ⟨p, a.hops.length, c, gimp_intro fun _ W hW => cell_at (hW.cells 1 rfl) rfl, q, b.hops.length, d, gimp_intro fun _ W hW => cell_at (hW.cells 0 rfl) rfl, fun W hW => ?_⟩
  have kW : K0 w W := hW.kk rfl
  have hca := hW.cells 1 rfl
  have hcb := hW.cells 0 rfl
  refine bsp_intro (fun h => ?_) (fun h => ?_)
  · refine ⟨(sequal_any a.hops b.hops p c q d W (hp.k0 kW) (hq.k0 kW) hl).mono fun e w1 ⟨he, k1⟩ => ⟨_, he, .of_k0 k1, a.bd, gimp_intro fun _ => cell_at (k1.blk hca (fun h => h)) rfl, b.bd, gimp_intro fun _ => cell_at (k1.blk hcb (fun h => h)) rfl, ?_, kW.trans k1⟩⟩
    have e1 : eqM a b = (true && decide (a.hops = b.hops) && a.bd.toList == b.bd.toList) := by rw [← h]; rfl
    rw [e1]
  · refine ⟨.refl _ _, a.bd, trivial, b.bd, trivial, ?_, kW⟩
    have e1 : eqM a b = false := by
      unfold eqM
      generalize decide (a.hops = b.hops) = z
      generalize (a.bd.toList == b.bd.toList) = y
      rw [h]; rfl
    rw [e1]; rfl

end Go.Proofs.YtmlmdljnfokebaaGreatDoor

/- The formulas of functions by the symbolic evaluator, and that each gives the call's contract. Written by a program (gen.py). No condition. -/
namespace Go.Proofs.YtmlmdljnfokebaaGreatDoor
set_option maxRecDepth 100000
set_option linter.unusedVariables false

def VC_qclone (b : Nat) (o : Nat) (w : World) (R : Ending → World → Prop) : Prop :=
 ∀ (W : World),
 Loc w.heap.size [] w W →
 ∃ (S : World → Prop),
 S W ∧
 ∃ (x : ByteArray),
 (∀ (w' : World), S w' → w'.cell? (Addr.mk b o none) = some (Value.string x)) ∧
 ∃ (x_1 : Int),
 (∀ (w' : World), S w' → w'.cell? (Addr.mk b (o + 1) none) = some (Value.int IntKind.i64 x_1)) ∧
 ∃ (x_2 : Option Nat),
 (∀ (w' : World), S w' → w'.cell? (Addr.mk b (o + 2) none) = some (Value.map x_2)) ∧
 ∃ (n : Int),
 LenP Tryz.prog 104 (Value.map x_2) n W ∧
 S W ∧
 ∀ (n : Nat) (w1 : World),
 NewB W (Obj.map #[] 0) n w1 →
 S w1 ∧
 ∀ (n_1 : Nat) (w1_1 : World),
 NewB w1 (Obj.cells #[Value.string x, Value.int IntKind.i64 x_1, Value.map (some n)] 106) n_1 w1_1 →
 KeptL [] W w1_1 ∧
 ∃ (x : Option Nat),
 w1_1.cell? (Addr.mk b (o + 2) none) = some (Value.map x) ∧
 ∃ (n : Nat),
 ∃ (w1 : World),
 RngP Tryz.prog 104 (Value.map x) n w1_1 w1 ∧
 KeptL [] w1_1 w1 ∧
 ∃ (I : List Value → World → Prop),
 ∃ (m : List Value → World → Nat),
 I [] w1 ∧
 ∀ (w' : World),
 I [] w' →
 ∃ (b : Bool),
 ∃ (r : List Value),
 ∃ (w1 : World),
 NxtP Tryz.prog (Value.pointer (some (Addr.mk n 0 none))) b r w' w1 ∧
 KeptL [] w' w1 ∧
 bsp b
 (∃ (x : Int),
 ∃ (x_3 : ByteArray),
 ∃ (x_4 : ByteArray),
 ∃ (x_5 : ByteArray),
 ∃ (x_6 : ByteArray),
 ∃ (x_7 : Int),
 ∃ (x_8 : Int),
 ∃ (x_9 : ByteArray),
 ∃ (p : Option Addr),
 ∃ (n_2 : Nat),
 ∃ (c : Nat),
 ∃ (x_10 : ByteArray),
 ∃ (x_11 : Int),
 ∃ (x_12 : Int),
 EntP Tryz.prog (Value.pointer (some (Addr.mk n 0 none)))
 (Value.tuple
 #[Value.int IntKind.i64 x,
 Value.agg
 #[Value.string x_3, Value.string x_4, Value.string x_5,
 Value.string x_6, Value.int IntKind.i64 x_7,
 Value.int IntKind.i64 x_8, Value.string x_9,
 Value.slice p n_2 c, Value.string x_10,
 Value.int IntKind.i64 x_11, Value.int IntKind.i64 x_12]])
 w1 ∧
 ∀ (n : Nat) (W : World),
 Loc w.heap.size
 [Blk.mk n 110
 [Value.string x_3, Value.string x_4, Value.string x_5,
 Value.string x_6, Value.int IntKind.i64 x_7,
 Value.int IntKind.i64 x_8, Value.string x_9,
 Value.slice p n_2 c, Value.string x_10,
 Value.int IntKind.i64 x_11, Value.int IntKind.i64 x_12]
 (wrM 2)]
 w1 W →
 CallsS Tryz.prog 53
 #[Value.agg
 #[Value.string x_3, Value.string x_4, Value.string x_5,
 Value.string x_6, Value.int IntKind.i64 x_7,
 Value.int IntKind.i64 x_8, Value.string x_9,
 Value.slice p n_2 c, Value.string x_10]]
 W fun (e : Ending) (w'_1 : World) =>
 ∃ (x_13 : ByteArray),
 ∃ (x_14 : ByteArray),
 ∃ (x_15 : ByteArray),
 ∃ (x_16 : ByteArray),
 ∃ (x_17 : Int),
 ∃ (x_18 : Int),
 ∃ (x_19 : ByteArray),
 ∃ (p : Option Addr),
 ∃ (n_3 : Nat),
 ∃ (c : Nat),
 ∃ (x_20 : ByteArray),
 e =
 Ending.returned
 (Value.agg
 #[Value.string x_13, Value.string x_14,
 Value.string x_15, Value.string x_16,
 Value.int IntKind.i64 x_17,
 Value.int IntKind.i64 x_18, Value.string x_19,
 Value.slice p n_3 c, Value.string x_20]) ∧
 KeptL [n] W w'_1 ∧
 ∃ (x_21 : Option Nat),
 (∀ (W : World),
 Loc w.heap.size
 [Blk.mk n 110
 [Value.string x_13, Value.string x_14,
 Value.string x_15, Value.string x_16,
 Value.int IntKind.i64 x_17,
 Value.int IntKind.i64 x_18,
 Value.string x_19, Value.slice p n_3 c,
 Value.string x_20,
 Value.int IntKind.i64 x_11,
 Value.int IntKind.i64 x_12]
 (wrM 0)]
 w'_1 W →
 W.cell? (Addr.mk n_1 (0 + 2) none) =
 some (Value.map x_21)) ∧
 ∀ (W : World),
 Loc w.heap.size
 [Blk.mk n 110
 [Value.string x_13, Value.string x_14,
 Value.string x_15, Value.string x_16,
 Value.int IntKind.i64 x_17,
 Value.int IntKind.i64 x_18,
 Value.string x_19, Value.slice p n_3 c,
 Value.string x_20,
 Value.int IntKind.i64 x_11,
 Value.int IntKind.i64 x_12]
 (wrM 0)]
 w'_1 W →
 ∃ (w1 : World),
 UpdP Tryz.prog 104 (Value.map x_21)
 (Value.int IntKind.i64 x)
 (Value.agg
 #[Value.string x_13, Value.string x_14,
 Value.string x_15, Value.string x_16,
 Value.int IntKind.i64 x_17,
 Value.int IntKind.i64 x_18,
 Value.string x_19, Value.slice p n_3 c,
 Value.string x_20,
 Value.int IntKind.i64 x_11,
 Value.int IntKind.i64 x_12])
 W w1 ∧
 KeptL [n] W w1 ∧ I [] w1 ∧ m [] w1 < m [] w')
 (R (Ending.returned (Value.pointer (some (Addr.mk n_1 0 none)))) w1)
theorem vc_qclone (b : Nat) (o : Nat) (w : World) (R : Ending → World → Prop) (h : VC_qclone b o w R) : Calls Tryz.prog 27 ([Value.pointer
    (some { block := b, off := o })] : List Value).toArray w R := by
  have e : execR2 { P := Tryz.prog, loops := [(5, [])], pur := purM, tails := [(3, 13), (8, 6)], joins := [], boxes := [], rngs := [(28, 104)] } Tryz.f27.results.toList R (Tryz.f27.body.getD .skip) (initF [Value.pointer
    (some
      { block := b,
        off :=
          o })] (Tryz.f27.ntmps - ([Value.pointer
    (some { block := b, off := o })] : List Value).length)) w = VC_qclone b o w R := by kernel_rfl
  have hb : Tryz.f27.body = some (Tryz.f27.body.getD .skip) := by kernel_rfl
  exact calls_of_exec2' (P := Tryz.prog) (fn := Tryz.f27) (c := Tryz.f27.body.getD .skip) (args := [Value.pointer
    (some { block := b, off := o })]) (w := w) (R := R) purM_ok Tryz.func27 hb e h

def VC_qequal (p : Option Addr) (q : Option Addr) (w : World) (R : Ending → World → Prop) : Prop :=
 bsp (p.isNone || q.isNone) (R (Ending.returned (Value.bool (p.isNone && q.isNone))) w)
 (nn true p fun (b o : Nat) =>
 ∃ (x : ByteArray),
 (∀ (W : World), Loc w.heap.size [] w W → W.cell? (Addr.mk b o none) = some (Value.string x)) ∧
 nn true q fun (b o : Nat) =>
 ∃ (x_1 : ByteArray),
 (∀ (W : World), Loc w.heap.size [] w W → W.cell? (Addr.mk b o none) = some (Value.string x_1)) ∧
 nn (x.toList == x_1.toList) p fun (b o : Nat) =>
 ∃ (x_2 : Int),
 gimp (x.toList == x_1.toList)
 (∀ (W : World),
 Loc w.heap.size [] w W → W.cell? (Addr.mk b (o + 1) none) = some (Value.int IntKind.i64 x_2)) ∧
 nn (x.toList == x_1.toList) q fun (b o : Nat) =>
 ∃ (x_3 : Int),
 gimp (x.toList == x_1.toList)
 (∀ (W : World),
 Loc w.heap.size [] w W → W.cell? (Addr.mk b (o + 1) none) = some (Value.int IntKind.i64 x_3)) ∧
 nn (x.toList == x_1.toList && x_2 == x_3) p fun (b o : Nat) =>
 ∃ (x_4 : Option Nat),
 gimp (x.toList == x_1.toList && x_2 == x_3)
 (∀ (W : World), Loc w.heap.size [] w W → W.cell? (Addr.mk b (o + 2) none) = some (Value.map x_4)) ∧
 nn (x.toList == x_1.toList && x_2 == x_3) q fun (b o : Nat) =>
 ∃ (x_5 : Option Nat),
 gimp (x.toList == x_1.toList && x_2 == x_3)
 (∀ (W : World), Loc w.heap.size [] w W → W.cell? (Addr.mk b (o + 2) none) = some (Value.map x_5)) ∧
 ∀ (W : World),
 Loc w.heap.size [] w W →
 bsp (x.toList == x_1.toList && x_2 == x_3)
 (CallsS Tryz.prog 61 #[Value.map x_4, Value.map x_5, Value.func (Fn.func 62) #[] #[]] W
 fun (e : Ending) (w' : World) =>
 ∃ (x : Bool),
 e = Ending.returned (Value.bool x) ∧
 KeptL [] W w' ∧ R (Ending.returned (Value.bool (true && x))) w')
 (KeptL [] W W ∧ R (Ending.returned (Value.bool false)) W))
theorem vc_qequal (p : Option Addr) (q : Option Addr) (w : World) (R : Ending → World → Prop) (h : VC_qequal p q w R) : Calls Tryz.prog 28 ([Value.pointer
    p,
  Value.pointer q] : List Value).toArray w R := by
  have e : execR2 { P := Tryz.prog, loops := [], pur := purM, tails := [(3, 29)], joins := [], boxes := [] } Tryz.f28.results.toList R (Tryz.f28.body.getD .skip) (initF [Value.pointer
    p,
  Value.pointer
    q] (Tryz.f28.ntmps - ([Value.pointer p,
  Value.pointer q] : List Value).length)) w = VC_qequal p q w R := by kernel_rfl
  have hb : Tryz.f28.body = some (Tryz.f28.body.getD .skip) := by kernel_rfl
  exact calls_of_exec2' (P := Tryz.prog) (fn := Tryz.f28) (c := Tryz.f28.body.getD .skip) (args := [Value.pointer p,
  Value.pointer q]) (w := w) (R := R) purM_ok Tryz.func28 hb e h

def VC_qeqf (fu : ByteArray) (fs : ByteArray) (tu : ByteArray) (ts : ByteArray) (n : Int) (d : Int) (sj : ByteArray) (hp : Option Addr) (hn : Nat) (hc : Nat) (bd : ByteArray) (f : Int) (due : Int) (fuy : ByteArray) (fsy : ByteArray) (tuy : ByteArray) (tsy : ByteArray) (ny : Int) (dy : Int) (sjy : ByteArray) (hpy : Option Addr) (hny : Nat) (hcy : Nat) (bdy : ByteArray) (fy : Int) (duey : Int) (w : World) (R : Ending → World → Prop) : Prop :=
 ∀ (n_1 n_2 : Nat),
 ∃ (x : Int),
 gimp (f == fy)
 (∀ (W : World),
 Loc w.heap.size
 [Blk.mk n_2 110
 [Value.string fuy, Value.string fsy, Value.string tuy, Value.string tsy, Value.int IntKind.i64 ny,
 Value.int IntKind.i64 dy, Value.string sjy, Value.slice hpy hny hcy, Value.string bdy,
 Value.int IntKind.i64 fy, Value.int IntKind.i64 duey]
 2,
 Blk.mk n_1 110
 [Value.string fu, Value.string fs, Value.string tu, Value.string ts, Value.int IntKind.i64 n,
 Value.int IntKind.i64 d, Value.string sj, Value.slice hp hn hc, Value.string bd, Value.int IntKind.i64 f,
 Value.int IntKind.i64 due]
 2]
 w W →
 W.cell? (Addr.mk n_1 (0 + 10) none) = some (Value.int IntKind.i64 x)) ∧
 ∃ (x_1 : Int),
 gimp (f == fy)
 (∀ (W : World),
 Loc w.heap.size
 [Blk.mk n_2 110
 [Value.string fuy, Value.string fsy, Value.string tuy, Value.string tsy, Value.int IntKind.i64 ny,
 Value.int IntKind.i64 dy, Value.string sjy, Value.slice hpy hny hcy, Value.string bdy,
 Value.int IntKind.i64 fy, Value.int IntKind.i64 duey]
 2,
 Blk.mk n_1 110
 [Value.string fu, Value.string fs, Value.string tu, Value.string ts, Value.int IntKind.i64 n,
 Value.int IntKind.i64 d, Value.string sj, Value.slice hp hn hc, Value.string bd, Value.int IntKind.i64 f,
 Value.int IntKind.i64 due]
 2]
 w W →
 W.cell? (Addr.mk n_2 (0 + 10) none) = some (Value.int IntKind.i64 x_1)) ∧
 ∃ (x_2 : ByteArray),
 ∃ (x_3 : ByteArray),
 ∃ (x_4 : ByteArray),
 ∃ (x_5 : ByteArray),
 ∃ (x_6 : Int),
 ∃ (x_7 : Int),
 ∃ (x_8 : ByteArray),
 ∃ (p : Option Addr),
 ∃ (n_3 : Nat),
 ∃ (c : Nat),
 ∃ (x_9 : ByteArray),
 gimp (f == fy && x == x_1)
 (∀ (W : World),
 Loc w.heap.size
 [Blk.mk n_2 110
 [Value.string fuy, Value.string fsy, Value.string tuy, Value.string tsy,
 Value.int IntKind.i64 ny, Value.int IntKind.i64 dy, Value.string sjy, Value.slice hpy hny hcy,
 Value.string bdy, Value.int IntKind.i64 fy, Value.int IntKind.i64 duey]
 2,
 Blk.mk n_1 110
 [Value.string fu, Value.string fs, Value.string tu, Value.string ts, Value.int IntKind.i64 n,
 Value.int IntKind.i64 d, Value.string sj, Value.slice hp hn hc, Value.string bd,
 Value.int IntKind.i64 f, Value.int IntKind.i64 due]
 2]
 w W →
 AtL W n_1 0
 [Value.string x_2, Value.string x_3, Value.string x_4, Value.string x_5, Value.int IntKind.i64 x_6,
 Value.int IntKind.i64 x_7, Value.string x_8, Value.slice p n_3 c, Value.string x_9]) ∧
 ∃ (x_10 : ByteArray),
 ∃ (x_11 : ByteArray),
 ∃ (x_12 : ByteArray),
 ∃ (x_13 : ByteArray),
 ∃ (x_14 : Int),
 ∃ (x_15 : Int),
 ∃ (x_16 : ByteArray),
 ∃ (p_1 : Option Addr),
 ∃ (n_4 : Nat),
 ∃ (c_1 : Nat),
 ∃ (x_17 : ByteArray),
 gimp (f == fy && x == x_1)
 (∀ (W : World),
 Loc w.heap.size
 [Blk.mk n_2 110
 [Value.string fuy, Value.string fsy, Value.string tuy, Value.string tsy,
 Value.int IntKind.i64 ny, Value.int IntKind.i64 dy, Value.string sjy,
 Value.slice hpy hny hcy, Value.string bdy, Value.int IntKind.i64 fy,
 Value.int IntKind.i64 duey]
 2,
 Blk.mk n_1 110
 [Value.string fu, Value.string fs, Value.string tu, Value.string ts,
 Value.int IntKind.i64 n, Value.int IntKind.i64 d, Value.string sj,
 Value.slice hp hn hc, Value.string bd, Value.int IntKind.i64 f,
 Value.int IntKind.i64 due]
 2]
 w W →
 AtL W n_2 0
 [Value.string x_10, Value.string x_11, Value.string x_12, Value.string x_13,
 Value.int IntKind.i64 x_14, Value.int IntKind.i64 x_15, Value.string x_16,
 Value.slice p_1 n_4 c_1, Value.string x_17]) ∧
 ∀ (W : World),
 Loc w.heap.size
 [Blk.mk n_2 110
 [Value.string fuy, Value.string fsy, Value.string tuy, Value.string tsy,
 Value.int IntKind.i64 ny, Value.int IntKind.i64 dy, Value.string sjy,
 Value.slice hpy hny hcy, Value.string bdy, Value.int IntKind.i64 fy,
 Value.int IntKind.i64 duey]
 2,
 Blk.mk n_1 110
 [Value.string fu, Value.string fs, Value.string tu, Value.string ts,
 Value.int IntKind.i64 n, Value.int IntKind.i64 d, Value.string sj,
 Value.slice hp hn hc, Value.string bd, Value.int IntKind.i64 f,
 Value.int IntKind.i64 due]
 2]
 w W →
 bsp (f == fy && x == x_1)
 (CallsS Tryz.prog 16
 #[Value.agg
 #[Value.string x_2, Value.string x_3, Value.string x_4, Value.string x_5,
 Value.int IntKind.i64 x_6, Value.int IntKind.i64 x_7, Value.string x_8,
 Value.slice p n_3 c, Value.string x_9],
 Value.agg
 #[Value.string x_10, Value.string x_11, Value.string x_12, Value.string x_13,
 Value.int IntKind.i64 x_14, Value.int IntKind.i64 x_15, Value.string x_16,
 Value.slice p_1 n_4 c_1, Value.string x_17]]
 W fun (e : Ending) (w' : World) =>
 ∃ (x : Bool),
 e = Ending.returned (Value.bool x) ∧
 KeptL [n_2, n_1] W w' ∧ R (Ending.returned (Value.bool (true && x))) w')
 (KeptL [n_2, n_1] W W ∧ R (Ending.returned (Value.bool false)) W)
theorem vc_qeqf (fu : ByteArray) (fs : ByteArray) (tu : ByteArray) (ts : ByteArray) (n : Int) (d : Int) (sj : ByteArray) (hp : Option Addr) (hn : Nat) (hc : Nat) (bd : ByteArray) (f : Int) (due : Int) (fuy : ByteArray) (fsy : ByteArray) (tuy : ByteArray) (tsy : ByteArray) (ny : Int) (dy : Int) (sjy : ByteArray) (hpy : Option Addr) (hny : Nat) (hcy : Nat) (bdy : ByteArray) (fy : Int) (duey : Int) (w : World) (R : Ending → World → Prop) (h : VC_qeqf fu fs tu ts n d sj hp hn hc bd f due fuy fsy tuy tsy ny dy sjy hpy hny hcy bdy fy duey w R) : Calls Tryz.prog 62 ([Value.agg
    #[Value.string fu, Value.string fs, Value.string tu, Value.string ts, Value.int IntKind.i64 n,
      Value.int IntKind.i64 d, Value.string sj, Value.slice hp hn hc, Value.string bd, Value.int IntKind.i64 f,
      Value.int IntKind.i64 due],
  Value.agg
    #[Value.string fuy, Value.string fsy, Value.string tuy, Value.string tsy, Value.int IntKind.i64 ny,
      Value.int IntKind.i64 dy, Value.string sjy, Value.slice hpy hny hcy, Value.string bdy, Value.int IntKind.i64 fy,
      Value.int IntKind.i64 duey]] : List Value).toArray w R := by
  have e : execR2 { P := Tryz.prog, loops := [], pur := purM, tails := [], joins := [], boxes := [] } Tryz.f62.results.toList R (Tryz.f62.body.getD .skip) (initF [Value.agg
    #[Value.string fu, Value.string fs, Value.string tu, Value.string ts, Value.int IntKind.i64 n,
      Value.int IntKind.i64 d, Value.string sj, Value.slice hp hn hc, Value.string bd, Value.int IntKind.i64 f,
      Value.int IntKind.i64 due],
  Value.agg
    #[Value.string fuy, Value.string fsy, Value.string tuy, Value.string tsy, Value.int IntKind.i64 ny,
      Value.int IntKind.i64 dy, Value.string sjy, Value.slice hpy hny hcy, Value.string bdy, Value.int IntKind.i64 fy,
      Value.int IntKind.i64
        duey]] (Tryz.f62.ntmps - ([Value.agg
    #[Value.string fu, Value.string fs, Value.string tu, Value.string ts, Value.int IntKind.i64 n,
      Value.int IntKind.i64 d, Value.string sj, Value.slice hp hn hc, Value.string bd, Value.int IntKind.i64 f,
      Value.int IntKind.i64 due],
  Value.agg
    #[Value.string fuy, Value.string fsy, Value.string tuy, Value.string tsy, Value.int IntKind.i64 ny,
      Value.int IntKind.i64 dy, Value.string sjy, Value.slice hpy hny hcy, Value.string bdy, Value.int IntKind.i64 fy,
      Value.int IntKind.i64
        duey]] : List Value).length)) w = VC_qeqf fu fs tu ts n d sj hp hn hc bd f due fuy fsy tuy tsy ny dy sjy hpy hny hcy bdy fy duey w R := by kernel_rfl
  have hb : Tryz.f62.body = some (Tryz.f62.body.getD .skip) := by kernel_rfl
  exact calls_of_exec2' (P := Tryz.prog) (fn := Tryz.f62) (c := Tryz.f62.body.getD .skip) (args := [Value.agg
    #[Value.string fu, Value.string fs, Value.string tu, Value.string ts, Value.int IntKind.i64 n,
      Value.int IntKind.i64 d, Value.string sj, Value.slice hp hn hc, Value.string bd, Value.int IntKind.i64 f,
      Value.int IntKind.i64 due],
  Value.agg
    #[Value.string fuy, Value.string fsy, Value.string tuy, Value.string tsy, Value.int IntKind.i64 ny,
      Value.int IntKind.i64 dy, Value.string sjy, Value.slice hpy hny hcy, Value.string bdy, Value.int IntKind.i64 fy,
      Value.int IntKind.i64 duey]]) (w := w) (R := R) purM_ok Tryz.func62 hb e h

end Go.Proofs.YtmlmdljnfokebaaGreatDoor

/- The formulas of functions by the symbolic evaluator, and that each gives the call's contract. Written by a program (gen.py). No condition. -/
namespace Go.Proofs.YtmlmdljnfokebaaGreatDoor
set_option maxRecDepth 100000
set_option linter.unusedVariables false

def VC_meqf (a : Nat) (b : Nat) (f : FuncId) (fa : Array Value) (fb : Array Value) (w : World) (R : Ending → World → Prop) : Prop :=
 ∃ (n : Int),
 LenP Tryz.prog 104 (Value.map (some a)) n w ∧
 ∃ (n_1 : Int),
 LenP Tryz.prog 104 (Value.map (some b)) n_1 w ∧
 bsp (n != n_1) (R (Ending.returned (Value.bool false)) w)
 (∃ (n : Nat),
 ∃ (w1 : World),
 RngP Tryz.prog 104 (Value.map (some a)) n w w1 ∧
 KeptL [] w w1 ∧
 ∃ (I : List Value → World → Prop),
 ∃ (m : List Value → World → Nat),
 I [] w1 ∧
 ∀ (w' : World),
 I [] w' →
 ∃ (b_1 : Bool),
 ∃ (r : List Value),
 ∃ (w1 : World),
 NxtP Tryz.prog (Value.pointer (some (Addr.mk n 0 none))) b_1 r w' w1 ∧
 KeptL [] w' w1 ∧
 bsp b_1
 (∃ (x : Int),
 ∃ (x_1 : ByteArray),
 ∃ (x_2 : ByteArray),
 ∃ (x_3 : ByteArray),
 ∃ (x_4 : ByteArray),
 ∃ (x_5 : Int),
 ∃ (x_6 : Int),
 ∃ (x_7 : ByteArray),
 ∃ (p : Option Addr),
 ∃ (n_2 : Nat),
 ∃ (c : Nat),
 ∃ (x_8 : ByteArray),
 ∃ (x_9 : Int),
 ∃ (x_10 : Int),
 EntP Tryz.prog (Value.pointer (some (Addr.mk n 0 none)))
 (Value.tuple
 #[Value.int IntKind.i64 x,
 Value.agg
 #[Value.string x_1, Value.string x_2, Value.string x_3, Value.string x_4,
 Value.int IntKind.i64 x_5, Value.int IntKind.i64 x_6, Value.string x_7,
 Value.slice p n_2 c, Value.string x_8, Value.int IntKind.i64 x_9,
 Value.int IntKind.i64 x_10]])
 w1 ∧
 ∀ (n : Nat),
 ∃ (x_11 : ByteArray),
 ∃ (x_12 : ByteArray),
 ∃ (x_13 : ByteArray),
 ∃ (x_14 : ByteArray),
 ∃ (x_15 : Int),
 ∃ (x_16 : Int),
 ∃ (x_17 : ByteArray),
 ∃ (p_1 : Option Addr),
 ∃ (n_3 : Nat),
 ∃ (c_1 : Nat),
 ∃ (x_18 : ByteArray),
 ∃ (x_19 : Int),
 ∃ (x_20 : Int),
 ∃ (b_2 : Bool),
 (∀ (W : World),
 Loc w.heap.size
 [Blk.mk n 110
 [Value.string x_1, Value.string x_2, Value.string x_3,
 Value.string x_4, Value.int IntKind.i64 x_5,
 Value.int IntKind.i64 x_6, Value.string x_7,
 Value.slice p n_2 c, Value.string x_8,
 Value.int IntKind.i64 x_9, Value.int IntKind.i64 x_10]
 (wrM 2)]
 w1 W →
 LookP Tryz.prog 104 (Value.map (some b)) (Value.int IntKind.i64 x)
 true
 (Value.tuple
 #[Value.agg
 #[Value.string x_11, Value.string x_12, Value.string x_13,
 Value.string x_14, Value.int IntKind.i64 x_15,
 Value.int IntKind.i64 x_16, Value.string x_17,
 Value.slice p_1 n_3 c_1, Value.string x_18,
 Value.int IntKind.i64 x_19, Value.int IntKind.i64 x_20],
 Value.bool b_2])
 W) ∧
 ∀ (n_4 : Nat) (W : World),
 Loc w.heap.size
 [Blk.mk n_4 110
 [Value.string x_11, Value.string x_12, Value.string x_13,
 Value.string x_14, Value.int IntKind.i64 x_15,
 Value.int IntKind.i64 x_16, Value.string x_17,
 Value.slice p_1 n_3 c_1, Value.string x_18,
 Value.int IntKind.i64 x_19, Value.int IntKind.i64 x_20]
 (wrM 2),
 Blk.mk n 110
 [Value.string x_1, Value.string x_2, Value.string x_3,
 Value.string x_4, Value.int IntKind.i64 x_5,
 Value.int IntKind.i64 x_6, Value.string x_7,
 Value.slice p n_2 c, Value.string x_8,
 Value.int IntKind.i64 x_9, Value.int IntKind.i64 x_10]
 (wrM 2)]
 w1 W →
 bsp (!!b_2)
 (∃ (f_1 : Nat),
 ∃ (a : Array Value),
 ∃ (b : Array Value),
 Value.func (Fn.func f) fa fb = Value.func (Fn.func f_1) a b ∧
 okFn Tryz.prog f_1 = true ∧
 CallsS Tryz.prog f_1
 (appA a
 [Value.agg
 #[Value.string x_1, Value.string x_2, Value.string x_3,
 Value.string x_4, Value.int IntKind.i64 x_5,
 Value.int IntKind.i64 x_6, Value.string x_7,
 Value.slice p n_2 c, Value.string x_8,
 Value.int IntKind.i64 x_9, Value.int IntKind.i64 x_10],
 Value.agg
 #[Value.string x_11, Value.string x_12,
 Value.string x_13, Value.string x_14,
 Value.int IntKind.i64 x_15, Value.int IntKind.i64 x_16,
 Value.string x_17, Value.slice p_1 n_3 c_1,
 Value.string x_18, Value.int IntKind.i64 x_19,
 Value.int IntKind.i64 x_20]]
 b)
 W fun (e : Ending) (w'_1 : World) =>
 ∃ (x : Bool),
 e = Ending.returned (Value.bool x) ∧
 KeptL [n_4, n] W w'_1 ∧
 bsp (false || !x)
 (R (Ending.returned (Value.bool false)) w'_1)
 (I [] w'_1 ∧ m [] w'_1 < m [] w'))
 (KeptL [n_4, n] W W ∧ R (Ending.returned (Value.bool false)) W))
 (R (Ending.returned (Value.bool true)) w1))
theorem vc_meqf (a : Nat) (b : Nat) (f : FuncId) (fa : Array Value) (fb : Array Value) (w : World) (R : Ending → World → Prop) (h : VC_meqf a b f fa fb w R) : Calls Tryz.prog 61 ([Value.map
    (some a),
  Value.map (some b), Value.func (Fn.func f) fa fb] : List Value).toArray w R := by
  have e : execR2 { P := Tryz.prog, loops := [(4, [])], pur := purM, tails := [], joins := [], boxes := [], rngs := [(17, 104)] } Tryz.f61.results.toList R (Tryz.f61.body.getD .skip) (initF [Value.map
    (some a),
  Value.map (some b),
  Value.func (Fn.func f) fa
    fb] (Tryz.f61.ntmps - ([Value.map (some a), Value.map (some b),
  Value.func (Fn.func f) fa fb] : List Value).length)) w = VC_meqf a b f fa fb w R := by kernel_rfl
  have hb : Tryz.f61.body = some (Tryz.f61.body.getD .skip) := by kernel_rfl
  exact calls_of_exec2' (P := Tryz.prog) (fn := Tryz.f61) (c := Tryz.f61.body.getD .skip) (args := [Value.map (some a),
  Value.map (some b), Value.func (Fn.func f) fa fb]) (w := w) (R := R) purM_ok Tryz.func61 hb e h

def VC_qaddN (fu : ByteArray) (fs : ByteArray) (tu : ByteArray) (ts : ByteArray) (n : Int) (d : Int) (sj : ByteArray) (hp : Option Addr) (hn : Nat) (hc : Nat) (bd : ByteArray) (now : Int) (w : World) (R : Ending → World → Prop) : Prop :=
 ∀ (n_1 : Nat) (W : World),
 Loc w.heap.size
 [Blk.mk n_1 26
 [Value.string fu, Value.string fs, Value.string tu, Value.string ts, Value.int IntKind.i64 n,
 Value.int IntKind.i64 d, Value.string sj, Value.slice hp hn hc, Value.string bd]
 2]
 w W →
 R (Ending.returned (Value.tuple #[Value.int IntKind.i64 0, Value.int IntKind.i64 1])) W
theorem vc_qaddN (fu : ByteArray) (fs : ByteArray) (tu : ByteArray) (ts : ByteArray) (n : Int) (d : Int) (sj : ByteArray) (hp : Option Addr) (hn : Nat) (hc : Nat) (bd : ByteArray) (now : Int) (w : World) (R : Ending → World → Prop) (h : VC_qaddN fu fs tu ts n d sj hp hn hc bd now w R) : Calls Tryz.prog 18 ([Value.pointer
    none,
  Value.agg
    #[Value.string fu, Value.string fs, Value.string tu, Value.string ts, Value.int IntKind.i64 n,
      Value.int IntKind.i64 d, Value.string sj, Value.slice hp hn hc, Value.string bd],
  Value.int IntKind.i64 now] : List Value).toArray w R := by
  have e : execR2 { P := Tryz.prog, loops := [], pur := purM, tails := [], joins := [], boxes := [] } Tryz.f18.results.toList R (Tryz.f18.body.getD .skip) (initF [Value.pointer
    none,
  Value.agg
    #[Value.string fu, Value.string fs, Value.string tu, Value.string ts, Value.int IntKind.i64 n,
      Value.int IntKind.i64 d, Value.string sj, Value.slice hp hn hc, Value.string bd],
  Value.int IntKind.i64
    now] (Tryz.f18.ntmps - ([Value.pointer none,
  Value.agg
    #[Value.string fu, Value.string fs, Value.string tu, Value.string ts, Value.int IntKind.i64 n,
      Value.int IntKind.i64 d, Value.string sj, Value.slice hp hn hc, Value.string bd],
  Value.int IntKind.i64 now] : List Value).length)) w = VC_qaddN fu fs tu ts n d sj hp hn hc bd now w R := by kernel_rfl
  have hb : Tryz.f18.body = some (Tryz.f18.body.getD .skip) := by kernel_rfl
  exact calls_of_exec2' (P := Tryz.prog) (fn := Tryz.f18) (c := Tryz.f18.body.getD .skip) (args := [Value.pointer none,
  Value.agg
    #[Value.string fu, Value.string fs, Value.string tu, Value.string ts, Value.int IntKind.i64 n,
      Value.int IntKind.i64 d, Value.string sj, Value.slice hp hn hc, Value.string bd],
  Value.int IntKind.i64 now]) (w := w) (R := R) purM_ok Tryz.func18 hb e h

def VC_qlenN (u : Nat) (w : World) (R : Ending → World → Prop) : Prop :=
 R (Ending.returned (Value.int IntKind.i64 0)) w
theorem vc_qlenN (u : Nat) (w : World) (R : Ending → World → Prop) (h : VC_qlenN u w R) : Calls Tryz.prog 19 ([Value.pointer
    none] : List Value).toArray w R := by
  have e : execR2 { P := Tryz.prog, loops := [], pur := purM, tails := [], joins := [], boxes := [] } Tryz.f19.results.toList R (Tryz.f19.body.getD .skip) (initF [Value.pointer
    none] (Tryz.f19.ntmps - ([Value.pointer none] : List Value).length)) w = VC_qlenN u w R := by kernel_rfl
  have hb : Tryz.f19.body = some (Tryz.f19.body.getD .skip) := by kernel_rfl
  exact calls_of_exec2' (P := Tryz.prog) (fn := Tryz.f19) (c := Tryz.f19.body.getD .skip) (args := [Value.pointer
    none]) (w := w) (R := R) purM_ok Tryz.func19 hb e h

def VC_qfailN (a : Int) (now : Int) (code : Int) (g : Bool) (w : World) (R : Ending → World → Prop) : Prop :=
 R (Ending.returned (Value.tuple #[Value.int IntKind.i64 0, Value.bool false, Value.int IntKind.i64 1])) w
theorem vc_qfailN (a : Int) (now : Int) (code : Int) (g : Bool) (w : World) (R : Ending → World → Prop) (h : VC_qfailN a now code g w R) : Calls Tryz.prog 20 ([Value.pointer
    none,
  Value.int IntKind.i64 a, Value.int IntKind.i64 now, Value.int IntKind.i64 code,
  Value.bool g] : List Value).toArray w R := by
  have e : execR2 { P := Tryz.prog, loops := [], pur := purM, tails := [(11, 6), (14, 8)], joins := [], boxes := [] } Tryz.f20.results.toList R (Tryz.f20.body.getD .skip) (initF [Value.pointer
    none,
  Value.int IntKind.i64 a, Value.int IntKind.i64 now, Value.int IntKind.i64 code,
  Value.bool
    g] (Tryz.f20.ntmps - ([Value.pointer none, Value.int IntKind.i64 a, Value.int IntKind.i64 now,
  Value.int IntKind.i64 code, Value.bool g] : List Value).length)) w = VC_qfailN a now code g w R := by kernel_rfl
  have hb : Tryz.f20.body = some (Tryz.f20.body.getD .skip) := by kernel_rfl
  exact calls_of_exec2' (P := Tryz.prog) (fn := Tryz.f20) (c := Tryz.f20.body.getD .skip) (args := [Value.pointer none,
  Value.int IntKind.i64 a, Value.int IntKind.i64 now, Value.int IntKind.i64 code,
  Value.bool g]) (w := w) (R := R) purM_ok Tryz.func20 hb e h

def VC_qgetN (a : Int) (w : World) (R : Ending → World → Prop) : Prop :=
 ∀ (n : Nat) (W : World),
 Loc w.heap.size
 [Blk.mk n 26
 [Value.string (ByteArray.mk #[]), Value.string (ByteArray.mk #[]), Value.string (ByteArray.mk #[]),
 Value.string (ByteArray.mk #[]), Value.int IntKind.i64 0, Value.int IntKind.i64 0,
 Value.string (ByteArray.mk #[]), Value.slice none 0 0, Value.string (ByteArray.mk #[])]
 (wrM 2)]
 w W →
 R
 (Ending.returned
 (Value.tuple
 #[Value.agg
 #[Value.string (ByteArray.mk #[]), Value.string (ByteArray.mk #[]), Value.string (ByteArray.mk #[]),
 Value.string (ByteArray.mk #[]), Value.int IntKind.i64 0, Value.int IntKind.i64 0,
 Value.string (ByteArray.mk #[]), Value.slice none 0 0, Value.string (ByteArray.mk #[])],
 Value.int IntKind.i64 0, Value.bool false]))
 W
theorem vc_qgetN (a : Int) (w : World) (R : Ending → World → Prop) (h : VC_qgetN a w R) : Calls Tryz.prog 21 ([Value.pointer
    none,
  Value.int IntKind.i64 a] : List Value).toArray w R := by
  have e : execR2 { P := Tryz.prog, loops := [], pur := purM, tails := [(6, 2)], joins := [], boxes := [] } Tryz.f21.results.toList R (Tryz.f21.body.getD .skip) (initF [Value.pointer
    none,
  Value.int IntKind.i64
    a] (Tryz.f21.ntmps - ([Value.pointer none,
  Value.int IntKind.i64 a] : List Value).length)) w = VC_qgetN a w R := by kernel_rfl
  have hb : Tryz.f21.body = some (Tryz.f21.body.getD .skip) := by kernel_rfl
  exact calls_of_exec2' (P := Tryz.prog) (fn := Tryz.f21) (c := Tryz.f21.body.getD .skip) (args := [Value.pointer none,
  Value.int IntKind.i64 a]) (w := w) (R := R) purM_ok Tryz.func21 hb e h

def VC_qdueN (a : Int) (w : World) (R : Ending → World → Prop) : Prop :=
 ∀ (n : Nat) (W : World),
 Loc w.heap.size [Blk.mk n 46 [Value.pointer none] 2] w W → R (Ending.returned (Value.slice none 0 0)) W
theorem vc_qdueN (a : Int) (w : World) (R : Ending → World → Prop) (h : VC_qdueN a w R) : Calls Tryz.prog 22 ([Value.pointer
    none,
  Value.int IntKind.i64 a] : List Value).toArray w R := by
  have e : execR2 { P := Tryz.prog, loops := [(5, [(5, Ck.slice)])], pur := purM, tails := [], joins := [], boxes := [], rngs := [(14, 104)] } Tryz.f22.results.toList R (Tryz.f22.body.getD .skip) (initF [Value.pointer
    none,
  Value.int IntKind.i64
    a] (Tryz.f22.ntmps - ([Value.pointer none,
  Value.int IntKind.i64 a] : List Value).length)) w = VC_qdueN a w R := by kernel_rfl
  have hb : Tryz.f22.body = some (Tryz.f22.body.getD .skip) := by kernel_rfl
  exact calls_of_exec2' (P := Tryz.prog) (fn := Tryz.f22) (c := Tryz.f22.body.getD .skip) (args := [Value.pointer none,
  Value.int IntKind.i64 a]) (w := w) (R := R) purM_ok Tryz.func22 hb e h

def VC_qcloneN (u : Nat) (w : World) (R : Ending → World → Prop) : Prop :=
 R (Ending.returned (Value.pointer none)) w
theorem vc_qcloneN (u : Nat) (w : World) (R : Ending → World → Prop) (h : VC_qcloneN u w R) : Calls Tryz.prog 27 ([Value.pointer
    none] : List Value).toArray w R := by
  have e : execR2 { P := Tryz.prog, loops := [(5, [])], pur := purM, tails := [(3, 13), (8, 6)], joins := [], boxes := [], rngs := [(28, 104)] } Tryz.f27.results.toList R (Tryz.f27.body.getD .skip) (initF [Value.pointer
    none] (Tryz.f27.ntmps - ([Value.pointer none] : List Value).length)) w = VC_qcloneN u w R := by kernel_rfl
  have hb : Tryz.f27.body = some (Tryz.f27.body.getD .skip) := by kernel_rfl
  exact calls_of_exec2' (P := Tryz.prog) (fn := Tryz.f27) (c := Tryz.f27.body.getD .skip) (args := [Value.pointer
    none]) (w := w) (R := R) purM_ok Tryz.func27 hb e h

def VC_qdoneN (a : Int) (w : World) (R : Ending → World → Prop) : Prop :=
 R (Ending.returned (Value.int IntKind.i64 1)) w
theorem vc_qdoneN (a : Int) (w : World) (R : Ending → World → Prop) (h : VC_qdoneN a w R) : Calls Tryz.prog 30 ([Value.pointer
    none,
  Value.int IntKind.i64 a] : List Value).toArray w R := by
  have e : execR2 { P := Tryz.prog, loops := [], pur := purM, tails := [], joins := [], boxes := [] } Tryz.f30.results.toList R (Tryz.f30.body.getD .skip) (initF [Value.pointer
    none,
  Value.int IntKind.i64
    a] (Tryz.f30.ntmps - ([Value.pointer none,
  Value.int IntKind.i64 a] : List Value).length)) w = VC_qdoneN a w R := by kernel_rfl
  have hb : Tryz.f30.body = some (Tryz.f30.body.getD .skip) := by kernel_rfl
  exact calls_of_exec2' (P := Tryz.prog) (fn := Tryz.f30) (c := Tryz.f30.body.getD .skip) (args := [Value.pointer none,
  Value.int IntKind.i64 a]) (w := w) (R := R) purM_ok Tryz.func30 hb e h

def VC_lclones (s : ByteArray) (p : Option Addr) (k : Nat) (c : Nat) (ok : Int) (fu : ByteArray) (fs : ByteArray) (tu : ByteArray) (ts : ByteArray) (n : Int) (d : Int) (sj : ByteArray) (hp : Option Addr) (hn : Nat) (hc : Nat) (bd : ByteArray) (on : Int) (now : Int) (code : Int) (fin : Bool) (w : World) (R : Ending → World → Prop) : Prop :=
 ∀ (n_1 : Nat),
 ((0 ≤ if 60 < (↑s.size : Int) then 60 else (↑s.size : Int)) ∧
 (if 60 < (↑s.size : Int) then 60 else (↑s.size : Int)) ≤ (↑s.size : Int)) ∧
 ∀ (W : World),
 Loc w.heap.size
 [Blk.mk n_1 71
 [Value.int IntKind.u8 ok, Value.string fu, Value.string fs, Value.string tu, Value.string ts,
 Value.int IntKind.i64 n, Value.int IntKind.i64 d, Value.string sj, Value.slice hp hn hc, Value.string bd,
 Value.int IntKind.i64 on, Value.int IntKind.i64 now, Value.int IntKind.i64 code, Value.bool fin]
 2]
 w W →
 CallsS Tryz.prog 13 #[] W fun (e : Ending) (w' : World) =>
 ∃ (x : Bool),
 e = Ending.returned (Value.bool x) ∧
 KeptL [n_1] W w' ∧
 bsp (!!x)
 (CallsS Tryz.prog 23 #[Value.string (s.extract 0 (if 60 < (↑s.size : Int) then 60 else (↑s.size : Int)).toNat)]
 w' fun (e : Ending) (w'_1 : World) =>
 ∃ (x : Bool),
 e = Ending.returned (Value.bool x) ∧
 KeptL [n_1] w' w'_1 ∧
 bsp (false || !x)
 (CallsS Tryz.prog 13 #[] w'_1 fun (e : Ending) (w' : World) =>
 ∃ (x : Bool),
 e = Ending.returned (Value.bool x) ∧ KeptL [n_1] w'_1 w' ∧ R (Ending.returned (Value.bool x)) w')
 (CallsS Tryz.prog 24
 #[Value.string (s.extract 0 (if 60 < (↑s.size : Int) then 60 else (↑s.size : Int)).toNat),
 Value.slice p k c]
 w'_1 fun (e : Ending) (w' : World) =>
 ∃ (x : Option Addr),
 ∃ (x_1 : ByteArray),
 ∃ (x_2 : Int),
 ∃ (p : Option Addr),
 ∃ (n_2 : Nat),
 ∃ (c : Nat),
 ∃ (x_3 : Bool),
 e =
 Ending.returned
 (Value.tuple
 #[Value.pointer x,
 Value.agg #[Value.string x_1, Value.int IntKind.i64 x_2, Value.slice p n_2 c],
 Value.bool x_3]) ∧
 KeptL [n_1] w'_1 w' ∧
 ∀ (n_3 : Nat),
 bsp (!x_3)
 (∀ (W : World),
 Loc w.heap.size
 [Blk.mk n_3 62 [Value.string x_1, Value.int IntKind.i64 x_2, Value.slice p n_2 c] (wrM 2),
 Blk.mk n_1 71
 [Value.int IntKind.u8 ok, Value.string fu, Value.string fs, Value.string tu,
 Value.string ts, Value.int IntKind.i64 n, Value.int IntKind.i64 d, Value.string sj,
 Value.slice hp hn hc, Value.string bd, Value.int IntKind.i64 on,
 Value.int IntKind.i64 now, Value.int IntKind.i64 code, Value.bool fin]
 0]
 w' W →
 R (Ending.returned (Value.bool false)) W)
 (∀ (W : World),
 Loc w.heap.size
 [Blk.mk n_3 62 [Value.string x_1, Value.int IntKind.i64 x_2, Value.slice p n_2 c] (wrM 2),
 Blk.mk n_1 71
 [Value.int IntKind.u8 ok, Value.string fu, Value.string fs, Value.string tu,
 Value.string ts, Value.int IntKind.i64 n, Value.int IntKind.i64 d, Value.string sj,
 Value.slice hp hn hc, Value.string bd, Value.int IntKind.i64 on,
 Value.int IntKind.i64 now, Value.int IntKind.i64 code, Value.bool fin]
 0]
 w' W →
 CallsS Tryz.prog 27 #[Value.pointer x] W fun (e : Ending) (w' : World) =>
 ∃ (x_4 : Option Addr),
 e = Ending.returned (Value.pointer x_4) ∧
 KeptL [n_3, n_1] W w' ∧
 bsp (!x_4.isNone)
 (CallsS Tryz.prog 28 #[Value.pointer x_4, Value.pointer x] w'
 fun (e : Ending) (w'_2 : World) =>
 ∃ (x_5 : Bool),
 e = Ending.returned (Value.bool x_5) ∧
 KeptL [n_3, n_1] w' w'_2 ∧
 bsp (false || !x_5) (R (Ending.returned (Value.bool false)) w'_2)
 (CallsS Tryz.prog 14
 #[Value.agg
 #[Value.string fu, Value.string fs, Value.string tu, Value.string ts,
 Value.int IntKind.i64 n, Value.int IntKind.i64 d, Value.string sj,
 Value.slice hp hn hc, Value.string bd]]
 w'_2 fun (e : Ending) (w' : World) =>
 ∃ (x_6 : ByteArray),
 ∃ (x_7 : ByteArray),
 ∃ (x_8 : ByteArray),
 ∃ (x_9 : ByteArray),
 ∃ (x_10 : Int),
 ∃ (x_11 : Int),
 ∃ (x_12 : ByteArray),
 ∃ (p_1 : Option Addr),
 ∃ (n_4 : Nat),
 ∃ (c_1 : Nat),
 ∃ (x_13 : ByteArray),
 e =
 Ending.returned
 (Value.agg
 #[Value.string x_6, Value.string x_7, Value.string x_8,
 Value.string x_9, Value.int IntKind.i64 x_10,
 Value.int IntKind.i64 x_11, Value.string x_12,
 Value.slice p_1 n_4 c_1, Value.string x_13]) ∧
 KeptL [n_3, n_1] w'_2 w' ∧
 ∀ (n_5 : Nat) (W : World),
 Loc w.heap.size
 [Blk.mk n_5 26
 [Value.string x_6, Value.string x_7, Value.string x_8,
 Value.string x_9, Value.int IntKind.i64 x_10,
 Value.int IntKind.i64 x_11, Value.string x_12,
 Value.slice p_1 n_4 c_1, Value.string x_13]
 (wrM 2),
 Blk.mk n_3 62
 [Value.string x_1, Value.int IntKind.i64 x_2,
 Value.slice p n_2 c]
 0,
 Blk.mk n_1 71
 [Value.int IntKind.u8 ok, Value.string fu, Value.string fs,
 Value.string tu, Value.string ts, Value.int IntKind.i64 n,
 Value.int IntKind.i64 d, Value.string sj,
 Value.slice hp hn hc, Value.string bd,
 Value.int IntKind.i64 on, Value.int IntKind.i64 now,
 Value.int IntKind.i64 code, Value.bool fin]
 0]
 w' W →
 CallsS Tryz.prog 18
 #[Value.pointer x_4,
 Value.agg
 #[Value.string x_6, Value.string x_7, Value.string x_8,
 Value.string x_9, Value.int IntKind.i64 x_10,
 Value.int IntKind.i64 x_11, Value.string x_12,
 Value.slice p_1 n_4 c_1, Value.string x_13],
 Value.int IntKind.i64 now]
 W fun (e : Ending) (w' : World) =>
 ∃ (x_14 : Int),
 ∃ (x_15 : Int),
 e =
 Ending.returned
 (Value.tuple
 #[Value.int IntKind.i64 x_14,
 Value.int IntKind.i64 x_15]) ∧
 KeptL [n_5, n_3, n_1] W w' ∧
 ∀ (W : World),
 Loc w.heap.size
 [Blk.mk n_5 26
 [Value.string x_6, Value.string x_7, Value.string x_8,
 Value.string x_9, Value.int IntKind.i64 x_10,
 Value.int IntKind.i64 x_11, Value.string x_12,
 Value.slice p_1 n_4 c_1, Value.string x_13]
 0,
 Blk.mk n_3 62
 [Value.string x_1, Value.int IntKind.i64 x_2,
 Value.slice p n_2 c]
 0,
 Blk.mk n_1 71
 [Value.int IntKind.u8 ok, Value.string fu,
 Value.string fs, Value.string tu, Value.string ts,
 Value.int IntKind.i64 n, Value.int IntKind.i64 d,
 Value.string sj, Value.slice hp hn hc, Value.string bd,
 Value.int IntKind.i64 on, Value.int IntKind.i64 now,
 Value.int IntKind.i64 code, Value.bool fin]
 0]
 w' W →
 ∃ (S : World → Prop),
 S W ∧
 CallsS Tryz.prog 28 #[Value.pointer x_4, Value.pointer x]
 W fun (e : Ending) (w' : World) =>
 ∃ (x_16 : Bool),
 e = Ending.returned (Value.bool x_16) ∧
 S w' ∧
 ∃ (p_2 : Option Addr),
 ∃ (n_6 : Nat),
 ∃ (c_2 : Nat),
 gimp (!(x_15 == 0) == x_16)
 (∀ (w' : World),
 S w' →
 w'.cell? (Addr.mk n_3 (0 + 2) none) =
 some (Value.slice p_2 n_6 c_2)) ∧
 bsp (!(x_15 == 0) == x_16)
 (CallsS Tryz.prog 19 #[Value.pointer x] w'
 fun (e : Ending) (w' : World) =>
 ∃ (x_17 : Int),
 e =
 Ending.returned
 (Value.int IntKind.i64 x_17) ∧
 S w' ∧
 KeptL [n_5, n_3, n_1] W w' ∧
 bsp (false || x_17 != (↑n_6 : Int))
 (R (Ending.returned (Value.bool false))
 w')
 (∃ (I : List Value → World → Prop),
 ∃ (m : List Value → World → Nat),
 I [Value.int IntKind.i64 0] w' ∧
 ∀ (x_18 : Int) (w' : World),
 I [Value.int IntKind.i64 x_18] w' →
 Loc w.heap.size
 [Blk.mk n_5 26
 [Value.string x_6,
 Value.string x_7,
 Value.string x_8,
 Value.string x_9,
 Value.int IntKind.i64 x_10,
 Value.int IntKind.i64 x_11,
 Value.string x_12,
 Value.slice p_1 n_4 c_1,
 Value.string x_13]
 0,
 Blk.mk n_3 62
 [Value.string x_1,
 Value.int IntKind.i64 x_2,
 Value.slice p n_2 c]
 0,
 Blk.mk n_1 71
 [Value.int IntKind.u8 ok,
 Value.string fu,
 Value.string fs,
 Value.string tu,
 Value.string ts,
 Value.int IntKind.i64 n,
 Value.int IntKind.i64 d,
 Value.string sj,
 Value.slice hp hn hc,
 Value.string bd,
 Value.int IntKind.i64 on,
 Value.int IntKind.i64 now,
 Value.int IntKind.i64 code,
 Value.bool fin]
 0]
 w' w' →
 bsp (decide (x_18 < (↑n_4 : Int)))
 (nn true p_1 fun (b o : Nat) =>
 (0 ≤ x_18 ∧ x_18 < (↑n_4 : Int)) ∧
 ((∃ (u : Value),
 w'.cell?
 (Addr.mk b (o + x_18.toNat)
 none) =
 some u) ∧
 w'.frozen?
 (Addr.mk b (o + x_18.toNat)
 none) =
 false) ∧
 ∀ (w1 : World),
 PutB w' b (o + x_18.toNat)
 [Value.string
 (ByteArray.mk
 #[99, 104, 97, 110, 103,
 101, 100])]
 w1 →
 KeptL [n_5, n_3, n_1] w' w1 ∧
 I
 [Value.int IntKind.i64
 (IntKind.i64.wrap
 (x_18 + 1))]
 w1 ∧
 m
 [Value.int IntKind.i64
 (IntKind.i64.wrap
 (x_18 + 1))]
 w1 <
 m
 [Value.int IntKind.i64
 x_18]
 w')
 (CallsS Tryz.prog 21
 #[Value.pointer x_4,
 Value.int IntKind.i64 x_14]
 w'
 fun (e : Ending) (w'_3 : World) =>
 ∃ (x_19 : ByteArray),
 ∃ (x_20 : ByteArray),
 ∃ (x_21 : ByteArray),
 ∃ (x_22 : ByteArray),
 ∃ (x_23 : Int),
 ∃ (x_24 : Int),
 ∃ (x_25 : ByteArray),
 ∃ (p_3 : Option Addr),
 ∃ (n_7 : Nat),
 ∃ (c_3 : Nat),
 ∃ (x_26 : ByteArray),
 ∃ (x_27 : Int),
 ∃ (x_28 : Bool),
 e =
 Ending.returned
 (Value.tuple
 #[Value.agg
 #[Value.string
 x_19,
 Value.string
 x_20,
 Value.string
 x_21,
 Value.string
 x_22,
 Value.int
 IntKind.i64
 x_23,
 Value.int
 IntKind.i64
 x_24,
 Value.string
 x_25,
 Value.slice
 p_3 n_7 c_3,
 Value.string
 x_26],
 Value.int
 IntKind.i64
 x_27,
 Value.bool
 x_28]) ∧
 KeptL
 [n_5, n_3, n_1] w'
 w'_3 ∧
 ∀ (n_8 : Nat)
 (W : World),
 Loc w.heap.size
 [Blk.mk n_8 26
 [Value.string
 x_19,
 Value.string
 x_20,
 Value.string
 x_21,
 Value.string
 x_22,
 Value.int
 IntKind.i64
 x_23,
 Value.int
 IntKind.i64
 x_24,
 Value.string
 x_25,
 Value.slice
 p_3 n_7 c_3,
 Value.string
 x_26]
 (wrM 2),
 Blk.mk n_5 26
 [Value.string
 x_6,
 Value.string
 x_7,
 Value.string
 x_8,
 Value.string
 x_9,
 Value.int
 IntKind.i64
 x_10,
 Value.int
 IntKind.i64
 x_11,
 Value.string
 x_12,
 Value.slice
 p_1 n_4 c_1,
 Value.string
 x_13]
 0,
 Blk.mk n_3 62
 [Value.string
 x_1,
 Value.int
 IntKind.i64
 x_2,
 Value.slice p
 n_2 c]
 0,
 Blk.mk n_1 71
 [Value.int
 IntKind.u8
 ok,
 Value.string
 fu,
 Value.string
 fs,
 Value.string
 tu,
 Value.string
 ts,
 Value.int
 IntKind.i64
 n,
 Value.int
 IntKind.i64
 d,
 Value.string
 sj,
 Value.slice
 hp hn hc,
 Value.string
 bd,
 Value.int
 IntKind.i64
 on,
 Value.int
 IntKind.i64
 now,
 Value.int
 IntKind.i64
 code,
 Value.bool
 fin]
 0]
 w'_3 W →
 ∃ (S :
 World → Prop),
 S W ∧
 ∃ (p_4 :
 Option Addr),
 ∃ (n_9 : Nat),
 ∃ (c_4 :
 Nat),
 gimp x_28
 (∀
 (w' :
 World),
 S w' →
 w'.cell?
 (Addr.mk
 n_8
 (0 +
 7)
 none) =
 some
 (Value.slice
 p_4
 n_9
 c_4)) ∧
 ∃ (x_29 :
 ByteArray),
 ∃ (x_30 :
 ByteArray),
 ∃ (x_31 :
 ByteArray),
 ∃ (x_32
 :
 ByteArray),
 ∃ (x_33
 :
 Int),
 ∃
 (x_34
 :
 Int),
 ∃
 (x_35
 :
 ByteArray),
 ∃
 (p_5
 :
 Option
 Addr),
 ∃
 (n_10
 :
 Nat),
 ∃
 (c_5
 :
 Nat),
 ∃
 (x_36
 :
 ByteArray),
 gimp
 x_28
 (∀
 (w' :
 World),
 S
 w' →
 AtL
 w'
 n_1
 (0 +
 1)
 [Value.string
 x_29,
 Value.string
 x_30,
 Value.string
 x_31,
 Value.string
 x_32,
 Value.int
 IntKind.i64
 x_33,
 Value.int
 IntKind.i64
 x_34,
 Value.string
 x_35,
 Value.slice
 p_5
 n_10
 c_5,
 Value.string
 x_36]) ∧
 bsp
 x_28
 (CallsS
 Tryz.prog
 14
 #[Value.agg
 #[Value.string
 x_29,
 Value.string
 x_30,
 Value.string
 x_31,
 Value.string
 x_32,
 Value.int
 IntKind.i64
 x_33,
 Value.int
 IntKind.i64
 x_34,
 Value.string
 x_35,
 Value.slice
 p_5
 n_10
 c_5,
 Value.string
 x_36]]
 W
 fun
 (e :
 Ending)
 (w' :
 World) =>
 ∃
 (x_37
 :
 ByteArray),
 ∃
 (x_38
 :
 ByteArray),
 ∃
 (x_39
 :
 ByteArray),
 ∃
 (x_40
 :
 ByteArray),
 ∃
 (x_41
 :
 Int),
 ∃
 (x_42
 :
 Int),
 ∃
 (x_43
 :
 ByteArray),
 ∃
 (p_6
 :
 Option
 Addr),
 ∃
 (n_11
 :
 Nat),
 ∃
 (c_6
 :
 Nat),
 ∃
 (x_44
 :
 ByteArray),
 e =
 Ending.returned
 (Value.agg
 #[Value.string
 x_37,
 Value.string
 x_38,
 Value.string
 x_39,
 Value.string
 x_40,
 Value.int
 IntKind.i64
 x_41,
 Value.int
 IntKind.i64
 x_42,
 Value.string
 x_43,
 Value.slice
 p_6
 n_11
 c_6,
 Value.string
 x_44]) ∧
 S
 w' ∧
 CallsS
 Tryz.prog
 29
 #[Value.slice
 p_4
 n_9
 c_4,
 Value.slice
 p_6
 n_11
 c_6]
 w'
 fun
 (e :
 Ending)
 (w' :
 World) =>
 ∃
 (x_45
 :
 Bool),
 e =
 Ending.returned
 (Value.bool
 x_45) ∧
 KeptL
 [n_8,
 n_5,
 n_3,
 n_1]
 W
 w' ∧
 bsp
 (true &&
 !x_45)
 (R
 (Ending.returned
 (Value.bool
 false))
 w')
 (CallsS
 Tryz.prog
 18
 #[Value.pointer
 none,
 Value.agg
 #[Value.string
 x_6,
 Value.string
 x_7,
 Value.string
 x_8,
 Value.string
 x_9,
 Value.int
 IntKind.i64
 x_10,
 Value.int
 IntKind.i64
 x_11,
 Value.string
 x_12,
 Value.slice
 p_1
 n_4
 c_1,
 Value.string
 x_13],
 Value.int
 IntKind.i64
 0]
 w'
 fun
 (e :
 Ending)
 (w'_4 :
 World) =>
 ∃
 (x_46
 :
 Int),
 ∃
 (x_47
 :
 Int),
 e =
 Ending.returned
 (Value.tuple
 #[Value.int
 IntKind.i64
 x_46,
 Value.int
 IntKind.i64
 x_47]) ∧
 KeptL
 [n_8,
 n_5,
 n_3,
 n_1]
 w'
 w'_4 ∧
 CallsS
 Tryz.prog
 21
 #[Value.pointer
 none,
 Value.int
 IntKind.i64
 1]
 w'_4
 fun
 (e :
 Ending)
 (w' :
 World) =>
 ∃
 (x_48
 :
 ByteArray),
 ∃
 (x_49
 :
 ByteArray),
 ∃
 (x_50
 :
 ByteArray),
 ∃
 (x_51
 :
 ByteArray),
 ∃
 (x_52
 :
 Int),
 ∃
 (x_53
 :
 Int),
 ∃
 (x_54
 :
 ByteArray),
 ∃
 (p_7
 :
 Option
 Addr),
 ∃
 (n_12
 :
 Nat),
 ∃
 (c_7
 :
 Nat),
 ∃
 (x_55
 :
 ByteArray),
 ∃
 (x_56
 :
 Int),
 ∃
 (x_57
 :
 Bool),
 e =
 Ending.returned
 (Value.tuple
 #[Value.agg
 #[Value.string
 x_48,
 Value.string
 x_49,
 Value.string
 x_50,
 Value.string
 x_51,
 Value.int
 IntKind.i64
 x_52,
 Value.int
 IntKind.i64
 x_53,
 Value.string
 x_54,
 Value.slice
 p_7
 n_12
 c_7,
 Value.string
 x_55],
 Value.int
 IntKind.i64
 x_56,
 Value.bool
 x_57]) ∧
 KeptL
 [n_8,
 n_5,
 n_3,
 n_1]
 w'_4
 w' ∧
 ∀
 (n_13 :
 Nat)
 (W :
 World),
 Loc
 w.heap.size
 [Blk.mk
 n_13
 26
 [Value.string
 x_48,
 Value.string
 x_49,
 Value.string
 x_50,
 Value.string
 x_51,
 Value.int
 IntKind.i64
 x_52,
 Value.int
 IntKind.i64
 x_53,
 Value.string
 x_54,
 Value.slice
 p_7
 n_12
 c_7,
 Value.string
 x_55]
 (wrM
 2),
 Blk.mk
 n_8
 26
 [Value.string
 x_19,
 Value.string
 x_20,
 Value.string
 x_21,
 Value.string
 x_22,
 Value.int
 IntKind.i64
 x_23,
 Value.int
 IntKind.i64
 x_24,
 Value.string
 x_25,
 Value.slice
 p_3
 n_7
 c_3,
 Value.string
 x_26]
 0,
 Blk.mk
 n_5
 26
 [Value.string
 x_6,
 Value.string
 x_7,
 Value.string
 x_8,
 Value.string
 x_9,
 Value.int
 IntKind.i64
 x_10,
 Value.int
 IntKind.i64
 x_11,
 Value.string
 x_12,
 Value.slice
 p_1
 n_4
 c_1,
 Value.string
 x_13]
 0,
 Blk.mk
 n_3
 62
 [Value.string
 x_1,
 Value.int
 IntKind.i64
 x_2,
 Value.slice
 p
 n_2
 c]
 0,
 Blk.mk
 n_1
 71
 [Value.int
 IntKind.u8
 ok,
 Value.string
 fu,
 Value.string
 fs,
 Value.string
 tu,
 Value.string
 ts,
 Value.int
 IntKind.i64
 n,
 Value.int
 IntKind.i64
 d,
 Value.string
 sj,
 Value.slice
 hp
 hn
 hc,
 Value.string
 bd,
 Value.int
 IntKind.i64
 on,
 Value.int
 IntKind.i64
 now,
 Value.int
 IntKind.i64
 code,
 Value.bool
 fin]
 0]
 w'
 W →
 CallsS
 Tryz.prog
 20
 #[Value.pointer
 none,
 Value.int
 IntKind.i64
 1,
 Value.int
 IntKind.i64
 0,
 Value.int
 IntKind.i64
 26,
 Value.bool
 true]
 W
 fun
 (e :
 Ending)
 (w' :
 World) =>
 ∃
 (x_58
 :
 Int),
 ∃
 (x_59
 :
 Bool),
 ∃
 (x_60
 :
 Int),
 e =
 Ending.returned
 (Value.tuple
 #[Value.int
 IntKind.i64
 x_58,
 Value.bool
 x_59,
 Value.int
 IntKind.i64
 x_60]) ∧
 KeptL
 [n_13,
 n_8,
 n_5,
 n_3,
 n_1]
 W
 w' ∧
 bsp
 (x_46 ==
 0 &&
 x_47 ==
 1 &&
 !x_57 &&
 x_60 ==
 1)
 (CallsS
 Tryz.prog
 30
 #[Value.pointer
 none,
 Value.int
 IntKind.i64
 1]
 w'
 fun
 (e :
 Ending)
 (w'_5 :
 World) =>
 ∃
 (x_61
 :
 Int),
 e =
 Ending.returned
 (Value.int
 IntKind.i64
 x_61) ∧
 KeptL
 [n_13,
 n_8,
 n_5,
 n_3,
 n_1]
 w'
 w'_5 ∧
 bsp
 (true &&
 x_61 ==
 1)
 (CallsS
 Tryz.prog
 22
 #[Value.pointer
 none,
 Value.int
 IntKind.i64
 0]
 w'_5
 fun
 (e :
 Ending)
 (w' :
 World) =>
 ∃
 (p
 :
 Option
 Addr),
 ∃
 (n
 :
 Nat),
 ∃
 (c
 :
 Nat),
 e =
 Ending.returned
 (Value.slice
 p
 n
 c) ∧
 KeptL
 [n_13,
 n_8,
 n_5,
 n_3,
 n_1]
 w'_5
 w' ∧
 bsp
 (true &&
 (↑n :
 Int) ==
 0)
 (CallsS
 Tryz.prog
 19
 #[Value.pointer
 none]
 w'
 fun
 (e :
 Ending)
 (w'_6 :
 World) =>
 ∃
 (x_62
 :
 Int),
 e =
 Ending.returned
 (Value.int
 IntKind.i64
 x_62) ∧
 KeptL
 [n_13,
 n_8,
 n_5,
 n_3,
 n_1]
 w'
 w'_6 ∧
 bsp
 (true &&
 x_62 ==
 0)
 (CallsS
 Tryz.prog
 27
 #[Value.pointer
 none]
 w'_6
 fun
 (e :
 Ending)
 (w' :
 World) =>
 ∃
 (x_63
 :
 Option
 Addr),
 e =
 Ending.returned
 (Value.pointer
 x_63) ∧
 KeptL
 [n_13,
 n_8,
 n_5,
 n_3,
 n_1]
 w'_6
 w' ∧
 bsp
 (true &&
 x_63.isNone)
 (CallsS
 Tryz.prog
 28
 #[Value.pointer
 none,
 Value.pointer
 none]
 w'
 fun
 (e :
 Ending)
 (w'_7 :
 World) =>
 ∃
 (x_64
 :
 Bool),
 e =
 Ending.returned
 (Value.bool
 x_64) ∧
 KeptL
 [n_13,
 n_8,
 n_5,
 n_3,
 n_1]
 w'
 w'_7 ∧
 bsp
 (true &&
 x_64)
 (CallsS
 Tryz.prog
 28
 #[Value.pointer
 x,
 Value.pointer
 none]
 w'_7
 fun
 (e :
 Ending)
 (w' :
 World) =>
 ∃
 (x
 :
 Bool),
 e =
 Ending.returned
 (Value.bool
 x) ∧
 KeptL
 [n_13,
 n_8,
 n_5,
 n_3,
 n_1]
 w'_7
 w' ∧
 R
 (Ending.returned
 (Value.bool
 (true &&
 !x)))
 w')
 (KeptL
 [n_13,
 n_8,
 n_5,
 n_3,
 n_1]
 w'_7
 w'_7 ∧
 R
 (Ending.returned
 (Value.bool
 false))
 w'_7))
 (KeptL
 [n_13,
 n_8,
 n_5,
 n_3,
 n_1]
 w'
 w' ∧
 KeptL
 [n_13,
 n_8,
 n_5,
 n_3,
 n_1]
 w'
 w' ∧
 R
 (Ending.returned
 (Value.bool
 false))
 w'))
 (KeptL
 [n_13,
 n_8,
 n_5,
 n_3,
 n_1]
 w'_6
 w'_6 ∧
 KeptL
 [n_13,
 n_8,
 n_5,
 n_3,
 n_1]
 w'_6
 w'_6 ∧
 KeptL
 [n_13,
 n_8,
 n_5,
 n_3,
 n_1]
 w'_6
 w'_6 ∧
 R
 (Ending.returned
 (Value.bool
 false))
 w'_6))
 (KeptL
 [n_13,
 n_8,
 n_5,
 n_3,
 n_1]
 w'
 w' ∧
 KeptL
 [n_13,
 n_8,
 n_5,
 n_3,
 n_1]
 w'
 w' ∧
 KeptL
 [n_13,
 n_8,
 n_5,
 n_3,
 n_1]
 w'
 w' ∧
 KeptL
 [n_13,
 n_8,
 n_5,
 n_3,
 n_1]
 w'
 w' ∧
 R
 (Ending.returned
 (Value.bool
 false))
 w'))
 (KeptL
 [n_13,
 n_8,
 n_5,
 n_3,
 n_1]
 w'_5
 w'_5 ∧
 KeptL
 [n_13,
 n_8,
 n_5,
 n_3,
 n_1]
 w'_5
 w'_5 ∧
 KeptL
 [n_13,
 n_8,
 n_5,
 n_3,
 n_1]
 w'_5
 w'_5 ∧
 KeptL
 [n_13,
 n_8,
 n_5,
 n_3,
 n_1]
 w'_5
 w'_5 ∧
 KeptL
 [n_13,
 n_8,
 n_5,
 n_3,
 n_1]
 w'_5
 w'_5 ∧
 R
 (Ending.returned
 (Value.bool
 false))
 w'_5))
 (KeptL
 [n_13,
 n_8,
 n_5,
 n_3,
 n_1]
 w'
 w' ∧
 KeptL
 [n_13,
 n_8,
 n_5,
 n_3,
 n_1]
 w'
 w' ∧
 KeptL
 [n_13,
 n_8,
 n_5,
 n_3,
 n_1]
 w'
 w' ∧
 KeptL
 [n_13,
 n_8,
 n_5,
 n_3,
 n_1]
 w'
 w' ∧
 KeptL
 [n_13,
 n_8,
 n_5,
 n_3,
 n_1]
 w'
 w' ∧
 KeptL
 [n_13,
 n_8,
 n_5,
 n_3,
 n_1]
 w'
 w' ∧
 R
 (Ending.returned
 (Value.bool
 false))
 w')))
 (S
 W ∧
 KeptL
 [n_8,
 n_5,
 n_3,
 n_1]
 W
 W ∧
 CallsS
 Tryz.prog
 18
 #[Value.pointer
 none,
 Value.agg
 #[Value.string
 x_6,
 Value.string
 x_7,
 Value.string
 x_8,
 Value.string
 x_9,
 Value.int
 IntKind.i64
 x_10,
 Value.int
 IntKind.i64
 x_11,
 Value.string
 x_12,
 Value.slice
 p_1
 n_4
 c_1,
 Value.string
 x_13],
 Value.int
 IntKind.i64
 0]
 W
 fun
 (e :
 Ending)
 (w' :
 World) =>
 ∃
 (x_37
 :
 Int),
 ∃
 (x_38
 :
 Int),
 e =
 Ending.returned
 (Value.tuple
 #[Value.int
 IntKind.i64
 x_37,
 Value.int
 IntKind.i64
 x_38]) ∧
 KeptL
 [n_8,
 n_5,
 n_3,
 n_1]
 W
 w' ∧
 CallsS
 Tryz.prog
 21
 #[Value.pointer
 none,
 Value.int
 IntKind.i64
 1]
 w'
 fun
 (e :
 Ending)
 (w'_4 :
 World) =>
 ∃
 (x_39
 :
 ByteArray),
 ∃
 (x_40
 :
 ByteArray),
 ∃
 (x_41
 :
 ByteArray),
 ∃
 (x_42
 :
 ByteArray),
 ∃
 (x_43
 :
 Int),
 ∃
 (x_44
 :
 Int),
 ∃
 (x_45
 :
 ByteArray),
 ∃
 (p_6
 :
 Option
 Addr),
 ∃
 (n_11
 :
 Nat),
 ∃
 (c_6
 :
 Nat),
 ∃
 (x_46
 :
 ByteArray),
 ∃
 (x_47
 :
 Int),
 ∃
 (x_48
 :
 Bool),
 e =
 Ending.returned
 (Value.tuple
 #[Value.agg
 #[Value.string
 x_39,
 Value.string
 x_40,
 Value.string
 x_41,
 Value.string
 x_42,
 Value.int
 IntKind.i64
 x_43,
 Value.int
 IntKind.i64
 x_44,
 Value.string
 x_45,
 Value.slice
 p_6
 n_11
 c_6,
 Value.string
 x_46],
 Value.int
 IntKind.i64
 x_47,
 Value.bool
 x_48]) ∧
 KeptL
 [n_8,
 n_5,
 n_3,
 n_1]
 w'
 w'_4 ∧
 ∀
 (n_12 :
 Nat)
 (W :
 World),
 Loc
 w.heap.size
 [Blk.mk
 n_12
 26
 [Value.string
 x_39,
 Value.string
 x_40,
 Value.string
 x_41,
 Value.string
 x_42,
 Value.int
 IntKind.i64
 x_43,
 Value.int
 IntKind.i64
 x_44,
 Value.string
 x_45,
 Value.slice
 p_6
 n_11
 c_6,
 Value.string
 x_46]
 (wrM
 2),
 Blk.mk
 n_8
 26
 [Value.string
 x_19,
 Value.string
 x_20,
 Value.string
 x_21,
 Value.string
 x_22,
 Value.int
 IntKind.i64
 x_23,
 Value.int
 IntKind.i64
 x_24,
 Value.string
 x_25,
 Value.slice
 p_3
 n_7
 c_3,
 Value.string
 x_26]
 0,
 Blk.mk
 n_5
 26
 [Value.string
 x_6,
 Value.string
 x_7,
 Value.string
 x_8,
 Value.string
 x_9,
 Value.int
 IntKind.i64
 x_10,
 Value.int
 IntKind.i64
 x_11,
 Value.string
 x_12,
 Value.slice
 p_1
 n_4
 c_1,
 Value.string
 x_13]
 0,
 Blk.mk
 n_3
 62
 [Value.string
 x_1,
 Value.int
 IntKind.i64
 x_2,
 Value.slice
 p
 n_2
 c]
 0,
 Blk.mk
 n_1
 71
 [Value.int
 IntKind.u8
 ok,
 Value.string
 fu,
 Value.string
 fs,
 Value.string
 tu,
 Value.string
 ts,
 Value.int
 IntKind.i64
 n,
 Value.int
 IntKind.i64
 d,
 Value.string
 sj,
 Value.slice
 hp
 hn
 hc,
 Value.string
 bd,
 Value.int
 IntKind.i64
 on,
 Value.int
 IntKind.i64
 now,
 Value.int
 IntKind.i64
 code,
 Value.bool
 fin]
 0]
 w'_4
 W →
 CallsS
 Tryz.prog
 20
 #[Value.pointer
 none,
 Value.int
 IntKind.i64
 1,
 Value.int
 IntKind.i64
 0,
 Value.int
 IntKind.i64
 26,
 Value.bool
 true]
 W
 fun
 (e :
 Ending)
 (w' :
 World) =>
 ∃
 (x_49
 :
 Int),
 ∃
 (x_50
 :
 Bool),
 ∃
 (x_51
 :
 Int),
 e =
 Ending.returned
 (Value.tuple
 #[Value.int
 IntKind.i64
 x_49,
 Value.bool
 x_50,
 Value.int
 IntKind.i64
 x_51]) ∧
 KeptL
 [n_12,
 n_8,
 n_5,
 n_3,
 n_1]
 W
 w' ∧
 bsp
 (x_37 ==
 0 &&
 x_38 ==
 1 &&
 !x_48 &&
 x_51 ==
 1)
 (CallsS
 Tryz.prog
 30
 #[Value.pointer
 none,
 Value.int
 IntKind.i64
 1]
 w'
 fun
 (e :
 Ending)
 (w'_5 :
 World) =>
 ∃
 (x_52
 :
 Int),
 e =
 Ending.returned
 (Value.int
 IntKind.i64
 x_52) ∧
 KeptL
 [n_12,
 n_8,
 n_5,
 n_3,
 n_1]
 w'
 w'_5 ∧
 bsp
 (true &&
 x_52 ==
 1)
 (CallsS
 Tryz.prog
 22
 #[Value.pointer
 none,
 Value.int
 IntKind.i64
 0]
 w'_5
 fun
 (e :
 Ending)
 (w' :
 World) =>
 ∃
 (p
 :
 Option
 Addr),
 ∃
 (n
 :
 Nat),
 ∃
 (c
 :
 Nat),
 e =
 Ending.returned
 (Value.slice
 p
 n
 c) ∧
 KeptL
 [n_12,
 n_8,
 n_5,
 n_3,
 n_1]
 w'_5
 w' ∧
 bsp
 (true &&
 (↑n :
 Int) ==
 0)
 (CallsS
 Tryz.prog
 19
 #[Value.pointer
 none]
 w'
 fun
 (e :
 Ending)
 (w'_6 :
 World) =>
 ∃
 (x_53
 :
 Int),
 e =
 Ending.returned
 (Value.int
 IntKind.i64
 x_53) ∧
 KeptL
 [n_12,
 n_8,
 n_5,
 n_3,
 n_1]
 w'
 w'_6 ∧
 bsp
 (true &&
 x_53 ==
 0)
 (CallsS
 Tryz.prog
 27
 #[Value.pointer
 none]
 w'_6
 fun
 (e :
 Ending)
 (w' :
 World) =>
 ∃
 (x_54
 :
 Option
 Addr),
 e =
 Ending.returned
 (Value.pointer
 x_54) ∧
 KeptL
 [n_12,
 n_8,
 n_5,
 n_3,
 n_1]
 w'_6
 w' ∧
 bsp
 (true &&
 x_54.isNone)
 (CallsS
 Tryz.prog
 28
 #[Value.pointer
 none,
 Value.pointer
 none]
 w'
 fun
 (e :
 Ending)
 (w'_7 :
 World) =>
 ∃
 (x_55
 :
 Bool),
 e =
 Ending.returned
 (Value.bool
 x_55) ∧
 KeptL
 [n_12,
 n_8,
 n_5,
 n_3,
 n_1]
 w'
 w'_7 ∧
 bsp
 (true &&
 x_55)
 (CallsS
 Tryz.prog
 28
 #[Value.pointer
 x,
 Value.pointer
 none]
 w'_7
 fun
 (e :
 Ending)
 (w' :
 World) =>
 ∃
 (x
 :
 Bool),
 e =
 Ending.returned
 (Value.bool
 x) ∧
 KeptL
 [n_12,
 n_8,
 n_5,
 n_3,
 n_1]
 w'_7
 w' ∧
 R
 (Ending.returned
 (Value.bool
 (true &&
 !x)))
 w')
 (KeptL
 [n_12,
 n_8,
 n_5,
 n_3,
 n_1]
 w'_7
 w'_7 ∧
 R
 (Ending.returned
 (Value.bool
 false))
 w'_7))
 (KeptL
 [n_12,
 n_8,
 n_5,
 n_3,
 n_1]
 w'
 w' ∧
 KeptL
 [n_12,
 n_8,
 n_5,
 n_3,
 n_1]
 w'
 w' ∧
 R
 (Ending.returned
 (Value.bool
 false))
 w'))
 (KeptL
 [n_12,
 n_8,
 n_5,
 n_3,
 n_1]
 w'_6
 w'_6 ∧
 KeptL
 [n_12,
 n_8,
 n_5,
 n_3,
 n_1]
 w'_6
 w'_6 ∧
 KeptL
 [n_12,
 n_8,
 n_5,
 n_3,
 n_1]
 w'_6
 w'_6 ∧
 R
 (Ending.returned
 (Value.bool
 false))
 w'_6))
 (KeptL
 [n_12,
 n_8,
 n_5,
 n_3,
 n_1]
 w'
 w' ∧
 KeptL
 [n_12,
 n_8,
 n_5,
 n_3,
 n_1]
 w'
 w' ∧
 KeptL
 [n_12,
 n_8,
 n_5,
 n_3,
 n_1]
 w'
 w' ∧
 KeptL
 [n_12,
 n_8,
 n_5,
 n_3,
 n_1]
 w'
 w' ∧
 R
 (Ending.returned
 (Value.bool
 false))
 w'))
 (KeptL
 [n_12,
 n_8,
 n_5,
 n_3,
 n_1]
 w'_5
 w'_5 ∧
 KeptL
 [n_12,
 n_8,
 n_5,
 n_3,
 n_1]
 w'_5
 w'_5 ∧
 KeptL
 [n_12,
 n_8,
 n_5,
 n_3,
 n_1]
 w'_5
 w'_5 ∧
 KeptL
 [n_12,
 n_8,
 n_5,
 n_3,
 n_1]
 w'_5
 w'_5 ∧
 KeptL
 [n_12,
 n_8,
 n_5,
 n_3,
 n_1]
 w'_5
 w'_5 ∧
 R
 (Ending.returned
 (Value.bool
 false))
 w'_5))
 (KeptL
 [n_12,
 n_8,
 n_5,
 n_3,
 n_1]
 w'
 w' ∧
 KeptL
 [n_12,
 n_8,
 n_5,
 n_3,
 n_1]
 w'
 w' ∧
 KeptL
 [n_12,
 n_8,
 n_5,
 n_3,
 n_1]
 w'
 w' ∧
 KeptL
 [n_12,
 n_8,
 n_5,
 n_3,
 n_1]
 w'
 w' ∧
 KeptL
 [n_12,
 n_8,
 n_5,
 n_3,
 n_1]
 w'
 w' ∧
 KeptL
 [n_12,
 n_8,
 n_5,
 n_3,
 n_1]
 w'
 w' ∧
 R
 (Ending.returned
 (Value.bool
 false))
 w')))))
 (S w' ∧
 KeptL [n_5, n_3, n_1] W w' ∧
 R (Ending.returned (Value.bool false)) w')))
 (KeptL [n_3, n_1] w' w' ∧ R (Ending.returned (Value.bool false)) w'))))
 (KeptL [n_1] w' w' ∧
 CallsS Tryz.prog 13 #[] w' fun (e : Ending) (w'_1 : World) =>
 ∃ (x : Bool),
 e = Ending.returned (Value.bool x) ∧ KeptL [n_1] w' w'_1 ∧ R (Ending.returned (Value.bool x)) w'_1)
theorem vc_lclones (s : ByteArray) (p : Option Addr) (k : Nat) (c : Nat) (ok : Int) (fu : ByteArray) (fs : ByteArray) (tu : ByteArray) (ts : ByteArray) (n : Int) (d : Int) (sj : ByteArray) (hp : Option Addr) (hn : Nat) (hc : Nat) (bd : ByteArray) (on : Int) (now : Int) (code : Int) (fin : Bool) (w : World) (R : Ending → World → Prop) (h : VC_lclones s p k c ok fu fs tu ts n d sj hp hn hc bd on now code fin w R) : Calls Tryz.prog 7 ([Value.string
    s,
  Value.slice p k c,
  Value.agg
    #[Value.int IntKind.u8 ok, Value.string fu, Value.string fs, Value.string tu, Value.string ts,
      Value.int IntKind.i64 n, Value.int IntKind.i64 d, Value.string sj, Value.slice hp hn hc, Value.string bd,
      Value.int IntKind.i64 on, Value.int IntKind.i64 now, Value.int IntKind.i64 code,
      Value.bool fin]] : List Value).toArray w R := by
  have e : execR2 { P := Tryz.prog, loops := [(15, [(14, Ck.int IntKind.i64)])], pur := purM, tails := [(12, 4), (19, 6)], joins := [], boxes := [] } Tryz.f7.results.toList R (Tryz.f7.body.getD .skip) (initF [Value.string
    s,
  Value.slice p k c,
  Value.agg
    #[Value.int IntKind.u8 ok, Value.string fu, Value.string fs, Value.string tu, Value.string ts,
      Value.int IntKind.i64 n, Value.int IntKind.i64 d, Value.string sj, Value.slice hp hn hc, Value.string bd,
      Value.int IntKind.i64 on, Value.int IntKind.i64 now, Value.int IntKind.i64 code,
      Value.bool
        fin]] (Tryz.f7.ntmps - ([Value.string s, Value.slice p k c,
  Value.agg
    #[Value.int IntKind.u8 ok, Value.string fu, Value.string fs, Value.string tu, Value.string ts,
      Value.int IntKind.i64 n, Value.int IntKind.i64 d, Value.string sj, Value.slice hp hn hc, Value.string bd,
      Value.int IntKind.i64 on, Value.int IntKind.i64 now, Value.int IntKind.i64 code,
      Value.bool
        fin]] : List Value).length)) w = VC_lclones s p k c ok fu fs tu ts n d sj hp hn hc bd on now code fin w R := by kernel_rfl
  have hb : Tryz.f7.body = some (Tryz.f7.body.getD .skip) := by kernel_rfl
  exact calls_of_exec2' (P := Tryz.prog) (fn := Tryz.f7) (c := Tryz.f7.body.getD .skip) (args := [Value.string s,
  Value.slice p k c,
  Value.agg
    #[Value.int IntKind.u8 ok, Value.string fu, Value.string fs, Value.string tu, Value.string ts,
      Value.int IntKind.i64 n, Value.int IntKind.i64 d, Value.string sj, Value.slice hp hn hc, Value.string bd,
      Value.int IntKind.i64 on, Value.int IntKind.i64 now, Value.int IntKind.i64 code,
      Value.bool fin]]) (w := w) (R := R) purM_ok Tryz.func7 hb e h

end Go.Proofs.YtmlmdljnfokebaaGreatDoor

/- Chapter 49: the contracts of a queue's Clone and Equal. Keys in range. -/
namespace Go.Proofs.YtmlmdljnfokebaaGreatDoor
open Go.RowKit Go.Maps

/-- The entries of the one are entries of the other. -/
def EqL (l1 l2 : List (Int × Qd)) : Prop := l1.length = l2.length ∧ ∀ a x, aget l1 a = some x → ∃ y, aget l2 a = some y ∧ y.m = x.m ∧ y.f = x.f ∧ y.due = x.due
theorem QR.dis {w : World} {b mb : Nat} {site : ByteArray} {last : Int} {l : List (Int × Qd)} (h : QR w b mb site last l) : l.Pairwise fun p q => p.1 ≠ q.1 := by
  have := h.map.dis
  unfold amap at this
  rw [List.pairwise_map] at this
  exact this
theorem QR.kpS {M : Nat → Prop} {w w' : World} {b mb : Nat} {site : ByteArray} {last : Int} {l : List (Int × Qd)} (h : QR w b mb site last l) (hk : Kp M w w') (hb : ¬ M b) (hm : ¬ M mb) (hs : ∀ g o v, M g → ¬ w.cell? ⟨g, o, none⟩ = some (.string v)) : QR w' b mb site last l :=
  ⟨hk.blk h.blk hb, h.map.kp hk hm, h.ne, fun a x hx => ⟨fun j z hz => by
    obtain ⟨g, o, hp, hc⟩ := (h.str a x hx).1 j z hz
    exact ⟨g, o, hp, hk.cell' hc (fun e => hs g _ z e hc)⟩, (h.str a x hx).2⟩, h.ok⟩
theorem RngB.no_cell {w : World} {r b : Nat} {todo : List (Int × Value)} (h : RngB (fun a : Int => Value.int .i64 a) w r b todo) {o : Nat} {v : Value} : ¬ w.cell? ⟨r, o, none⟩ = some v := by
  obtain ⟨es, cl, si, c0, se, h1, h2, _⟩ := h.h
  simp [World.cell?, h2]
theorem erase_ne {l : List (Int × Qd)} (hd : l.Pairwise fun p q => p.1 ≠ q.1) {j : Nat} {q : Int × Qd} (hj : l[j]? = some q) : ∀ p ∈ l.eraseIdx j, q.1 ≠ p.1 := fun p hp => by
  have h1 := (erase_perm l j q hj).symm.pairwise hd (fun {x y} h => fun e => h e.symm)
  exact (List.pairwise_cons.1 h1).1 p hp
set_option maxRecDepth 100000 in
set_option maxHeartbeats 4000000 in
theorem qclone_any (b mb : Nat) (site : ByteArray) (last : Int) (l : List (Int × Qd)) (w : World) (hQ : QR w b mb site last l) (hk : ∀ p ∈ l, I64 p.1) :
    Calls Tryz.prog 27 #[.pointer (some ⟨b, 0, none⟩)] w fun e w' => (∃ (b' mb' : Nat) (l' : List (Int × Qd)), e = .returned (.pointer (some ⟨b', 0, none⟩)) ∧ QR w' b' mb' site last l' ∧ EqL l' l ∧ w.heap.size ≤ b' ∧ w.heap.size ≤ mb' ∧ (∀ p ∈ l', ∃ q ∈ l, q.1 = p.1)) ∧ K0 w w' := by
  refine vc_qclone b 0 w _ (fun W hW => ?_)
  have kW : K0 w W := hW.kk rfl
  have hQW := hQ.k0 kW
  refine ⟨fun wx => K0 W wx, .refl _ _, site, fun wx k => cell_at (k.blk hQW.blk (fun h => h)) rfl, last, fun wx k => cell_at (k.blk hQW.blk (fun h => h)) rfl, some mb, fun wx k => cell_at (k.blk hQW.blk (fun h => h)) rfl, _, hQW.len, .refl _ _, fun n w1 hn => ⟨hn.kp _, fun n1 w2 hn1 => ?_⟩⟩
  have k2 : K0 W w2 := (hn.kp _).trans (hn1.kp _)
  have hQ2 := hQW.k0 k2
  have gn := hn.ge
  have gn1 := hn1.ge
  have sn := hn.size
  have sn1 := hn1.size
  have sW := kW.size
  obtain ⟨r, w3, hrun, hR, k3, gr, rlt⟩ := hQ2.map.range (t := 104) Tryz.underlying104
  refine ⟨.of_k0 k2, some mb, cell_at hQ2.blk rfl, r, w3, hrun, .of_k0 k3, ?_⟩
  have hb3 : w3.heap[n1]? = some (.cells #[.string site, .int .i64 last, .map (some n)] 106 (0, 0)) := k3.blk hn1.block (fun h => h)
  have hbl := block_lt hQW.blk
  have hml := hQW.map.lt
  have hQn : QR w3 n1 n site last [] := ⟨hb3, (hn.map.kp (hn1.kp (fun _ => False)) (fun h => h)).kp k3 (fun h => h), by omega, (fun a x hx => by cases hx), (fun a x hx => by cases hx)⟩
  have hQ3 := hQ2.k0 k3
  refine ⟨fun vs w' => ∃ (todo lc : List (Int × Qd)), vs = [] ∧ RngB (fun a : Int => Value.int .i64 a) w' r mb (amap qdV todo) ∧ todo.Sublist l ∧ lc.length + todo.length = l.length ∧ (∀ a x, aget lc a = some x → ∃ y, aget l a = some y ∧ y.m = x.m ∧ y.f = x.f ∧ y.due = x.due) ∧
      (∀ p ∈ lc, ∀ q ∈ todo, p.1 ≠ q.1) ∧ (∀ p ∈ lc, ∃ q ∈ l, q.1 = p.1) ∧ QR w' n1 n site last lc ∧ Kp (fun k => k = r ∨ k = n) w3 w',
    fun _ w' => leftN w' r mb, ⟨l, [], rfl, hR, .refl _, by simp, (fun a x hx => by cases hx), (fun p hp => by cases hp), (fun p hp => by cases hp), hQn, .refl _ _⟩, ?_⟩
  rintro w4 ⟨todo, lc, _, hR4, hsub, hlen, hrel, hkn, hkl, hQ4, k4⟩
  have kw3 : K0 w w3 := (kW.trans k2).trans k3
  have kw4 : K0 w w4 := kw3.fresh k4 (fun j hj e => by omega)
  rcases hR4.next (P := Tryz.prog) with ⟨hnil, hnx⟩ | ⟨j, q, w5, hj, hnx, hent, hR5, k5⟩
  · have htodo : todo = [] := by
      cases todo with
      | nil => rfl
      | cons x t => simp [amap] at hnil
    subst htodo
    refine ⟨false, [], w4, hnx, .of_k0 (.refl _ _), bsp_intro (fun h => by cases h) (fun _ => ?_)⟩
    exact ⟨⟨n1, n, lc, rfl, hQ4, ⟨by simpa using hlen, hrel⟩, by omega, by omega, hkl⟩, kw4⟩
  · have hj' : ((todo.map fun p => (p.1, qdV p.2)))[j]? = some q := hj
    rw [List.getElem?_map, Option.map_eq_some_iff] at hj'
    obtain ⟨q, hqj, rfl⟩ := hj'
    have hqt := List.mem_of_getElem? hqj
    have hmem : q ∈ l := hsub.subset hqt
    have hget : aget l q.1 = some q.2 := aget_at hQ.dis hmem
    obtain ⟨hst, _⟩ := hQ3.str q.1 q.2 hget
    obtain ⟨c0, c1, c2, c3⟩ := hQ3.ok q.1 q.2 hget
    obtain ⟨z1, z2, z3, z4, z5, z6, z7, z8, z9, z10, z11, z12⟩ := chkM_bd c0
    have her : (amap qdV todo).eraseIdx j = amap qdV (todo.eraseIdx j) := by unfold amap; rw [map_erase']
    rw [her] at hR5
    have hjl := (List.getElem?_eq_some_iff.1 hqj).1
    have helen : (todo.eraseIdx j).length = todo.length - 1 := List.length_eraseIdx_of_lt hjl
    have hl4 := hR4.left
    have hlam : (amap qdV todo).length = todo.length := by simp [amap]
    have hlam5 : (amap qdV (todo.eraseIdx j)).length = todo.length - 1 := by simp [amap, helen]
    refine ⟨true, _, w5, hnx, .of_kp k5 (fun y hy => by cases hy), bsp_intro (fun _ => ?_) (fun h => by cases h)⟩
    refine ⟨q.1, q.2.m.fu, q.2.m.fs, q.2.m.tu, q.2.m.ts, q.2.m.n, q.2.m.d, q.2.m.sj, q.2.p, q.2.m.hops.length, q.2.c, q.2.m.bd, q.2.f, q.2.due, hent, fun n5 W6 hW6 => ?_⟩
    have k6 : K0 w5 W6 := hW6.kk rfl
    have g5 : w5.heap.size ≤ n5 := hW6.fresh 0 rfl rfl
    have l5 := block_lt (hW6.cells 0 rfl)
    simp only at l5
    have k35 : Kp (fun k => k = r ∨ k = n) w3 w5 := k4.trans (k5.mono fun _ _ h => .inl h)
    have s35 := k35.size
    have hrn : r ≠ n := by omega
    have hst3 : StrP w3 q.2.p q.2.m.hops := hst
    -- the old queue's strings are not in the new blocks
    have hst5 : StrP w5 q.2.p q.2.m.hops := fun jj z hz => by
      obtain ⟨gb, go, hp, hc⟩ := hst3 jj z hz
      obtain ⟨_, _, hp2, hc2⟩ := (hQ.str q.1 q.2 hget).1 jj z hz
      rw [hp] at hp2
      cases hp2
      have hlt : gb < w.heap.size := cell_lt hc2
      refine ⟨gb, go, hp, k35.cell' hc (fun e => by omega)⟩
    refine ⟨(clone_any q.2.m q.2.p q.2.c W6 (hst5.k0 k6) (by omega)).mono fun e w7 ⟨⟨p', c', he, ho⟩, k7⟩ => ⟨_, _, _, _, _, _, _, _, _, _, _, he, .of_k0 k7, ?_⟩⟩
    have kF : ∀ W8 : World, Loc w.heap.size [Blk.mk n5 110 [.string q.2.m.fu, .string q.2.m.fs, .string q.2.m.tu, .string q.2.m.ts, .int .i64 q.2.m.n, .int .i64 q.2.m.d, .string q.2.m.sj, .slice p' q.2.m.hops.length c', .string q.2.m.bd, .int .i64 q.2.f, .int .i64 q.2.due] (wrM 0)] w7 W8 → K0 w5 W8 := fun W8 hW8 =>
      (k6.trans k7).fresh hW8.kp (fun i hi ⟨x, hx, _, e⟩ => by simp at hx; subst hx; simp only at e; omega)
    have hb5 := k5.blk hQ4.blk (fun e => by omega)
    have hQ5 : QR w5 n1 n site last lc := hQ4.kpS k5 (fun e => by omega) (fun e => by omega) (fun g o v e => by have e : g = r := e; rw [e]; exact hR4.no_cell)
    refine ⟨some n, fun W8 hW8 => cell_at ((kF W8 hW8).blk hb5 (fun h => h)) rfl, fun W8 hW8 => ?_⟩
    have k8 := kF W8 hW8
    have ho8 := own_loc ho hW8 (fun x hx e => by have := own_ge ho e; simp at hx; subst hx; simp only at this; omega)
    have hfr : ∀ g o, p' = some ⟨g, o, none⟩ → n1 < g ∧ g ≠ n := fun g o hg => by
      have := own_ge ho (k := g) (by rw [hg]; rfl)
      have := k6.size
      exact ⟨by omega, by omega⟩
    obtain ⟨w9, hu, hQ9, k9⟩ := (hQ5.k0 k8).upd (a := q.1) (hk q hmem) ⟨q.2.m, p', c', q.2.f, q.2.due⟩ (strP_own ho8) hfr ⟨c0, own_le ho8, c2, c3⟩
    have hnew : ∀ p ∈ lc, p.1 ≠ q.1 := fun p hp => hkn p hp q hqt
    have hR9 := (hR5.kp k8 (fun h => h) (fun h => h)).kp k9 (fun e => by omega) (fun e => by omega)
    refine ⟨w9, hu, .of_kp k9 (fun y hy e => by simp at hy; omega), ⟨todo.eraseIdx j, aset lc q.1 ⟨q.2.m, p', c', q.2.f, q.2.due⟩, rfl, hR9, (List.eraseIdx_sublist _ _).trans hsub, ?_, fun a x hx => ?_, fun p hp q' hq' => ?_, fun p hp => ?_, hQ9, (k35.trans (k8.mono fun _ _ h => h.elim)).trans (k9.mono fun _ _ h => .inr h)⟩, ?_⟩
    · rw [aset_new hnew, helen, List.length_append]; simp only [List.length_cons, List.length_nil]; omega
    · rw [aget_aset] at hx
      split at hx
      · rename_i e
        cases hx
        exact ⟨q.2, by rw [← e]; exact hget, rfl, rfl, rfl⟩
      · exact hrel a x hx
    · rw [aset_new hnew] at hp
      rcases List.mem_append.1 hp with hp | hp
      · exact hkn p hp q' ((List.eraseIdx_sublist _ _).subset hq')
      · simp at hp
        subst hp
        exact erase_ne (hQ.dis.sublist hsub) hqj q' hq'
    · rw [aset_new hnew] at hp
      rcases List.mem_append.1 hp with hp | hp
      · exact hkl p hp
      · simp at hp; subst hp; exact ⟨q, hmem, rfl⟩
    · show leftN w9 r mb < leftN w4 r mb
      rw [hl4, hlam, hR9.left, hlam5]; omega

/-! ### Equal -/
def eqQ (x y : Qd) : Bool := x.f == y.f && x.due == y.due && eqM x.m y.m
theorem qeqf_any (x y : Qd) (w : World) (hp : StrP w x.p x.m.hops) (hq : StrP w y.p y.m.hops) (cx : chkM x.m = 0) (cy : chkM y.m = 0) :
    Calls Tryz.prog 62 #[qdV x, qdV y] w fun e w' => e = .returned (.bool (eqQ x y)) ∧ K0 w w' := by
  obtain ⟨z1, z2, z3, z4, z5, z6, z7, z8, z9, z10, z11, z12⟩ := chkM_bd cx
  refine vc_qeqf x.m.fu x.m.fs x.m.tu x.m.ts x.m.n x.m.d x.m.sj x.p x.m.hops.length x.c x.m.bd x.f x.due y.m.fu y.m.fs y.m.tu y.m.ts y.m.n y.m.d y.m.sj y.p y.m.hops.length y.c y.m.bd y.f y.due w _ (fun n1 n2 => ?_)
  refine ⟨x.due, gimp_intro fun _ W hW => cell_at (hW.cells 1 rfl) rfl, y.due, gimp_intro fun _ W hW => cell_at (hW.cells 0 rfl) rfl, x.m.fu, x.m.fs, x.m.tu, x.m.ts, x.m.n, x.m.d, x.m.sj, x.p, x.m.hops.length, x.c, x.m.bd, gimp_intro fun _ W hW => AtL_block (hW.cells 1 rfl) rfl,
    y.m.fu, y.m.fs, y.m.tu, y.m.ts, y.m.n, y.m.d, y.m.sj, y.p, y.m.hops.length, y.c, y.m.bd, gimp_intro fun _ W hW => AtL_block (hW.cells 0 rfl) rfl, fun W hW => ?_⟩
  have kW : K0 w W := hW.kk rfl
  refine bsp_intro (fun h => ?_) (fun h => ?_)
  · refine ⟨(mequal_any x.m y.m x.p x.c y.p y.c W (hp.k0 kW) (hq.k0 kW) (by omega) (szM_of cx) (szM_of cy)).mono fun e w1 ⟨he, k1⟩ => ⟨_, he, .of_k0 k1, ?_, kW.trans k1⟩⟩
    unfold eqQ
    rw [h]
  · refine ⟨.of_k0 (.refl _ _), ?_, kW⟩
    unfold eqQ
    rw [h]; rfl
def okQ (l2 : List (Int × Qd)) (p : Int × Qd) : Bool := match aget l2 p.1 with | some y => eqQ p.2 y | none => false
def eqL (l1 l2 : List (Int × Qd)) : Bool := decide (l1.length = l2.length) && l1.all (okQ l2)
set_option maxRecDepth 100000 in
set_option maxHeartbeats 4000000 in
theorem meqf_any (b1 m1 : Nat) (s1 : ByteArray) (last1 : Int) (l1 : List (Int × Qd)) (b2 m2 : Nat) (s2 : ByteArray) (last2 : Int) (l2 : List (Int × Qd)) (w : World) (h1 : QR w b1 m1 s1 last1 l1) (h2 : QR w b2 m2 s2 last2 l2) (hk : ∀ p ∈ l1, I64 p.1) :
    Calls Tryz.prog 61 #[.map (some m1), .map (some m2), .func (.func 62) #[] #[]] w fun e w' => e = .returned (.bool (eqL l1 l2)) ∧ K0 w w' := by
  refine vc_meqf m1 m2 62 #[] #[] w _ ⟨_, h1.len, _, h2.len, bsp_intro (fun h => ?_) (fun h => ?_)⟩
  · have h : ¬ l1.length = l2.length := fun e => by rw [e] at h; simp at h
    refine ⟨?_, .refl _ _⟩
    unfold eqL
    rw [decide_eq_false h]; rfl
  have hle : l1.length = l2.length := by simp at h; omega
  obtain ⟨r, w1, hrun, hR, k1, gr, rlt⟩ := h1.map.range (t := 104) Tryz.underlying104
  have hb1 := block_lt h1.blk
  have hb2 := block_lt h2.blk
  have hm1 := h1.map.lt
  have hm2 := h2.map.lt
  refine ⟨r, w1, hrun, .of_k0 k1, ?_⟩
  refine ⟨fun vs w' => ∃ todo : List (Int × Qd), vs = [] ∧ RngB (fun a : Int => Value.int .i64 a) w' r m1 (amap qdV todo) ∧ todo.Sublist l1 ∧ l1.all (okQ l2) = todo.all (okQ l2) ∧ Kp (· = r) w1 w',
    fun _ w' => leftN w' r m1, ⟨l1, rfl, hR, .refl _, rfl, .refl _ _⟩, ?_⟩
  rintro w4 ⟨todo, _, hR4, hsub, hall, k4⟩
  have kw4 : K0 w w4 := k1.fresh k4 (fun j hj e => by omega)
  rcases hR4.next (P := Tryz.prog) with ⟨hnil, hnx⟩ | ⟨j, q, w5, hj, hnx, hent, hR5, k5⟩
  · have htodo : todo = [] := by
      cases todo with
      | nil => rfl
      | cons x t => simp [amap] at hnil
    subst htodo
    refine ⟨false, [], w4, hnx, .of_k0 (.refl _ _), bsp_intro (fun h => by cases h) (fun _ => ⟨?_, kw4⟩)⟩
    unfold eqL
    rw [hall, decide_eq_true hle]; rfl
  · have hj' : ((todo.map fun p => (p.1, qdV p.2)))[j]? = some q := hj
    rw [List.getElem?_map, Option.map_eq_some_iff] at hj'
    obtain ⟨q, hqj, rfl⟩ := hj'
    have hqt := List.mem_of_getElem? hqj
    have hmem : q ∈ l1 := hsub.subset hqt
    have hget : aget l1 q.1 = some q.2 := aget_at h1.dis hmem
    have her : (amap qdV todo).eraseIdx j = amap qdV (todo.eraseIdx j) := by unfold amap; rw [map_erase']
    rw [her] at hR5
    have hjl := (List.getElem?_eq_some_iff.1 hqj).1
    have helen : (todo.eraseIdx j).length = todo.length - 1 := List.length_eraseIdx_of_lt hjl
    have hl4 := hR4.left
    have hlam : (amap qdV todo).length = todo.length := by simp [amap]
    have hlam5 : (amap qdV (todo.eraseIdx j)).length = todo.length - 1 := by simp [amap, helen]
    have kw5 : K0 w w5 := kw4.fresh k5 (fun j hj e => by omega)
    have hall2 : todo.all (okQ l2) = (okQ l2 q && (todo.eraseIdx j).all (okQ l2)) := by
      have := (erase_perm todo j q hqj).all_eq (f := okQ l2)
      rw [← this]; rfl
    have hfalse : okQ l2 q = false → eqL l1 l2 = false := fun h => by
      unfold eqL
      rw [hall, hall2, h]; simp
    refine ⟨true, _, w5, hnx, .of_kp k5 (fun y hy => by cases hy), bsp_intro (fun _ => ?_) (fun h => by cases h)⟩
    refine ⟨q.1, q.2.m.fu, q.2.m.fs, q.2.m.tu, q.2.m.ts, q.2.m.n, q.2.m.d, q.2.m.sj, q.2.p, q.2.m.hops.length, q.2.c, q.2.m.bd, q.2.f, q.2.due, hent, fun n6 => ?_⟩
    cases hg2 : aget l2 q.1 with
    | none =>
      have hok : okQ l2 q = false := by unfold okQ; rw [hg2]
      refine ⟨_, _, _, _, _, _, _, _, _, _, _, _, _, false, fun W hW => by have := (h2.k0 (kw5.trans (hW.kk rfl))).look (hk q hmem); rw [hg2] at this; exact this, fun n7 W hW => bsp_intro (fun h => by cases h) (fun _ => ⟨.of_k0 (.refl _ _), by rw [hfalse hok], kw5.trans (hW.kk rfl)⟩)⟩
    | some y =>
      have hok : okQ l2 q = eqQ q.2 y := by unfold okQ; rw [hg2]
      refine ⟨_, _, _, _, _, _, _, _, _, _, _, _, _, true, fun W hW => by have := (h2.k0 (kw5.trans (hW.kk rfl))).look (hk q hmem); rw [hg2] at this; exact this, fun n7 W hW => bsp_intro (fun _ => ?_) (fun h => by cases h)⟩
      have kW : K0 w5 W := hW.kk rfl
      refine ⟨62, #[], #[], rfl, by kernel_rfl, ?_⟩
      refine ⟨(qeqf_any q.2 y W ((h1.str q.1 q.2 hget).1.k0 (kw5.trans kW)) ((h2.str q.1 y hg2).1.k0 (kw5.trans kW)) (h1.ok q.1 q.2 hget).1 (h2.ok q.1 y hg2).1).mono fun e w8 ⟨he, k8⟩ => ⟨_, he, .of_k0 k8, bsp_intro (fun h => ?_) (fun h => ?_)⟩⟩
      · have h : eqQ q.2 y = false := by simpa using h
        exact ⟨by rw [hfalse (hok.trans h)], (kw5.trans kW).trans k8⟩
      · have h : eqQ q.2 y = true := by simpa using h
        have hR8 := (hR5.kp kW (fun h => h) (fun h => h)).kp k8 (fun h => h) (fun h => h)
        refine ⟨⟨todo.eraseIdx j, rfl, hR8, (List.eraseIdx_sublist _ _).trans hsub, ?_, ((k4.trans k5).trans (kW.mono fun _ _ h => h.elim)).trans (k8.mono fun _ _ h => h.elim)⟩, ?_⟩
        · rw [hall, hall2, hok, h]; rfl
        · show leftN w8 r m1 < leftN w4 r m1
          rw [hl4, hlam, hR8.left, hlam5]; omega
theorem qequal_any (b1 m1 : Nat) (s : ByteArray) (last1 : Int) (l1 : List (Int × Qd)) (b2 m2 : Nat) (last2 : Int) (l2 : List (Int × Qd)) (w : World) (h1 : QR w b1 m1 s last1 l1) (h2 : QR w b2 m2 s last2 l2) (hk : ∀ p ∈ l1, I64 p.1) :
    Calls Tryz.prog 28 #[.pointer (some ⟨b1, 0, none⟩), .pointer (some ⟨b2, 0, none⟩)] w fun e w' => e = .returned (.bool (last1 == last2 && eqL l1 l2)) ∧ K0 w w' := by
  have ht : (s.toList == s.toList) = true := by simp
  refine vc_qequal (some ⟨b1, 0, none⟩) (some ⟨b2, 0, none⟩) w _ (bsp_intro (fun h => by cases h) (fun _ => ?_))
  refine nn_is rfl ⟨s, fun W hW => cell_at ((hW.kk rfl : K0 w W).blk h1.blk (fun h => h)) rfl, nn_is rfl ⟨s, fun W hW => cell_at ((hW.kk rfl : K0 w W).blk h2.blk (fun h => h)) rfl, ?_⟩⟩
  rw [ht]
  refine nn_is rfl ⟨last1, gimp_intro fun _ W hW => cell_at ((hW.kk rfl : K0 w W).blk h1.blk (fun h => h)) rfl, nn_is rfl ⟨last2, gimp_intro fun _ W hW => cell_at ((hW.kk rfl : K0 w W).blk h2.blk (fun h => h)) rfl, ?_⟩⟩
  refine nn_is rfl ⟨some m1, gimp_intro fun _ W hW => cell_at ((hW.kk rfl : K0 w W).blk h1.blk (fun h => h)) rfl, nn_is rfl ⟨some m2, gimp_intro fun _ W hW => cell_at ((hW.kk rfl : K0 w W).blk h2.blk (fun h => h)) rfl, fun W hW => ?_⟩⟩
  have kW : K0 w W := hW.kk rfl
  refine bsp_intro (fun h => ?_) (fun h => ?_)
  · refine ⟨(meqf_any b1 m1 s last1 l1 b2 m2 s last2 l2 W (h1.k0 kW) (h2.k0 kW) hk).mono fun e w1 ⟨he, k1⟩ => ⟨_, he, .of_k0 k1, ?_, kW.trans k1⟩⟩
    have h : (last1 == last2) = true := by simpa using h
    rw [h]
  · refine ⟨.of_k0 (.refl _ _), ?_, kW⟩
    have h : (last1 == last2) = false := by simpa using h
    rw [h]; rfl
theorem qequal_nil (p : Option Addr) (w : World) : Calls Tryz.prog 28 #[.pointer p, .pointer none] w fun e w' => e = .returned (.bool p.isNone) ∧ K0 w w' :=
  vc_qequal p none w _ (bsp_intro (fun _ => ⟨by cases p <;> rfl, .refl _ _⟩) (fun h => by cases p <;> cases h))
theorem EqL.eq {l1 l2 : List (Int × Qd)} (h : EqL l1 l2) (hd : l1.Pairwise fun p q => p.1 ≠ q.1) : eqL l1 l2 = true := by
  unfold eqL
  rw [decide_eq_true h.1, Bool.true_and, List.all_eq_true]
  intro p hp
  obtain ⟨y, hy, h1, h2, h3⟩ := h.2 p.1 p.2 (aget_at hd hp)
  unfold okQ
  rw [hy]
  show eqQ p.2 y = true
  unfold eqQ
  rw [h1, h2, h3, eqM_self]; simp

end Go.Proofs.YtmlmdljnfokebaaGreatDoor

/- The formulas of functions by the symbolic evaluator, and that each gives the call's contract. Written by a program (gen.py). No condition. -/
namespace Go.Proofs.YtmlmdljnfokebaaGreatDoor
set_option maxRecDepth 100000
set_option linter.unusedVariables false

def VC_lretries (fu : ByteArray) (fs : ByteArray) (tu : ByteArray) (ts : ByteArray) (n : Int) (d : Int) (sj : ByteArray) (hp : Option Addr) (hn : Nat) (hc : Nat) (bd : ByteArray) (s : ByteArray) (now : Int) (w : World) (R : Ending → World → Prop) : Prop :=
 ∀ (n_1 : Nat) (W : World),
 Loc w.heap.size
 [Blk.mk n_1 32
 [Value.string fu, Value.string fs, Value.string tu, Value.string ts, Value.int IntKind.i64 n,
 Value.int IntKind.i64 d, Value.string sj, Value.slice hp hn hc, Value.string bd]
 2]
 w W →
 CallsS Tryz.prog 14
 #[Value.agg
 #[Value.string fu, Value.string fs, Value.string tu, Value.string ts, Value.int IntKind.i64 n,
 Value.int IntKind.i64 d, Value.string sj, Value.slice hp hn hc, Value.string bd]]
 W fun (e : Ending) (w' : World) =>
 ∃ (x : ByteArray),
 ∃ (x_1 : ByteArray),
 ∃ (x_2 : ByteArray),
 ∃ (x_3 : ByteArray),
 ∃ (x_4 : Int),
 ∃ (x_5 : Int),
 ∃ (x_6 : ByteArray),
 ∃ (p : Option Addr),
 ∃ (n_2 : Nat),
 ∃ (c : Nat),
 ∃ (x_7 : ByteArray),
 e =
 Ending.returned
 (Value.agg
 #[Value.string x, Value.string x_1, Value.string x_2, Value.string x_3, Value.int IntKind.i64 x_4,
 Value.int IntKind.i64 x_5, Value.string x_6, Value.slice p n_2 c, Value.string x_7]) ∧
 KeptL [n_1] W w' ∧
 ∀ (n_3 : Nat),
 ((0 ≤ if 60 < (↑s.size : Int) then 60 else (↑s.size : Int)) ∧
 (if 60 < (↑s.size : Int) then 60 else (↑s.size : Int)) ≤ (↑s.size : Int)) ∧
 ∀ (W : World),
 Loc w.heap.size
 [Blk.mk n_3 26
 [Value.string x, Value.string x_1, Value.string x_2, Value.string x_3, Value.int IntKind.i64 x_4,
 Value.int IntKind.i64 x_5, Value.string x_6, Value.slice p n_2 c, Value.string x_7]
 (wrM 2),
 Blk.mk n_1 32
 [Value.string fu, Value.string fs, Value.string tu, Value.string ts, Value.int IntKind.i64 n,
 Value.int IntKind.i64 d, Value.string sj, Value.slice hp hn hc, Value.string bd]
 0]
 w' W →
 CallsS Tryz.prog 17
 #[Value.string (s.extract 0 (if 60 < (↑s.size : Int) then 60 else (↑s.size : Int)).toNat)] W
 fun (e : Ending) (w' : World) =>
 ∃ (x_8 : Option Addr),
 ∃ (x_9 : Int),
 e = Ending.returned (Value.tuple #[Value.pointer x_8, Value.int IntKind.i64 x_9]) ∧
 KeptL [n_3, n_1] W w' ∧
 CallsS Tryz.prog 13 #[] w' fun (e : Ending) (w'_1 : World) =>
 ∃ (x_10 : Bool),
 e = Ending.returned (Value.bool x_10) ∧
 KeptL [n_3, n_1] w' w'_1 ∧
 bsp (!x_10 || x_9 != 0 || decide (now < 0) || decide (now > 100000000))
 (CallsS Tryz.prog 13 #[] w'_1 fun (e : Ending) (w' : World) =>
 ∃ (x : Bool),
 e = Ending.returned (Value.bool x) ∧
 KeptL [n_3, n_1] w'_1 w' ∧ R (Ending.returned (Value.bool x)) w')
 (CallsS Tryz.prog 18
 #[Value.pointer x_8,
 Value.agg
 #[Value.string x, Value.string x_1, Value.string x_2, Value.string x_3,
 Value.int IntKind.i64 x_4, Value.int IntKind.i64 x_5, Value.string x_6,
 Value.slice p n_2 c, Value.string x_7],
 Value.int IntKind.i64 now]
 w'_1 fun (e : Ending) (w' : World) =>
 ∃ (x_11 : Int),
 ∃ (x_12 : Int),
 e =
 Ending.returned
 (Value.tuple #[Value.int IntKind.i64 x_11, Value.int IntKind.i64 x_12]) ∧
 KeptL [n_3, n_1] w'_1 w' ∧
 bsp (x_12 != 0)
 (bsp (x_11 == 0)
 (CallsS Tryz.prog 19 #[Value.pointer x_8] w' fun (e : Ending) (w'_2 : World) =>
 ∃ (x : Int),
 e = Ending.returned (Value.int IntKind.i64 x) ∧
 KeptL [n_3, n_1] w' w'_2 ∧
 R (Ending.returned (Value.bool (true && x == 0))) w'_2)
 (KeptL [n_3, n_1] w' w' ∧ R (Ending.returned (Value.bool false)) w'))
 (∃ (I : List Value → World → Prop),
 ∃ (m : List Value → World → Nat),
 I [Value.int IntKind.i64 1, Value.int IntKind.i64 5, Value.int IntKind.i64 now]
 w' ∧
 ∀ (x_13 x_14 x_15 : Int) (w' : World),
 I
 [Value.int IntKind.i64 x_13, Value.int IntKind.i64 x_14,
 Value.int IntKind.i64 x_15]
 w' →
 Loc w.heap.size
 [Blk.mk n_3 26
 [Value.string x, Value.string x_1, Value.string x_2, Value.string x_3,
 Value.int IntKind.i64 x_4, Value.int IntKind.i64 x_5, Value.string x_6,
 Value.slice p n_2 c, Value.string x_7]
 0,
 Blk.mk n_1 32
 [Value.string fu, Value.string fs, Value.string tu, Value.string ts,
 Value.int IntKind.i64 n, Value.int IntKind.i64 d, Value.string sj,
 Value.slice hp hn hc, Value.string bd]
 0]
 w' w' →
 bsp (decide (x_13 ≤ 8))
 (CallsS Tryz.prog 20
 #[Value.pointer x_8, Value.int IntKind.i64 x_11, Value.int IntKind.i64 x_15,
 Value.int IntKind.i64 26, Value.bool false]
 w' fun (e : Ending) (w'_2 : World) =>
 ∃ (x_16 : Int),
 ∃ (x_17 : Bool),
 ∃ (x_18 : Int),
 e =
 Ending.returned
 (Value.tuple
 #[Value.int IntKind.i64 x_16, Value.bool x_17,
 Value.int IntKind.i64 x_18]) ∧
 KeptL [n_3, n_1] w' w'_2 ∧
 bsp (x_18 != 0) (R (Ending.returned (Value.bool false)) w'_2)
 (CallsS Tryz.prog 21 #[Value.pointer x_8, Value.int IntKind.i64 x_11]
 w'_2 fun (e : Ending) (w'_3 : World) =>
 ∃ (x_19 : ByteArray),
 ∃ (x_20 : ByteArray),
 ∃ (x_21 : ByteArray),
 ∃ (x_22 : ByteArray),
 ∃ (x_23 : Int),
 ∃ (x_24 : Int),
 ∃ (x_25 : ByteArray),
 ∃ (p_1 : Option Addr),
 ∃ (n_4 : Nat),
 ∃ (c_1 : Nat),
 ∃ (x_26 : ByteArray),
 ∃ (x_27 : Int),
 ∃ (x_28 : Bool),
 e =
 Ending.returned
 (Value.tuple
 #[Value.agg
 #[Value.string x_19, Value.string x_20,
 Value.string x_21, Value.string x_22,
 Value.int IntKind.i64 x_23,
 Value.int IntKind.i64 x_24, Value.string x_25,
 Value.slice p_1 n_4 c_1, Value.string x_26],
 Value.int IntKind.i64 x_27, Value.bool x_28]) ∧
 KeptL [n_3, n_1] w'_2 w'_3 ∧
 ∀ (n_5 : Nat),
 bsp (x_13 == 8)
 (∃ (x_29 : ByteArray),
 gimp (!x_28)
 (∀ (W : World),
 Loc w.heap.size
 [Blk.mk n_3 26
 [Value.string x, Value.string x_1,
 Value.string x_2, Value.string x_3,
 Value.int IntKind.i64 x_4,
 Value.int IntKind.i64 x_5,
 Value.string x_6, Value.slice p n_2 c,
 Value.string x_7]
 0,
 Blk.mk n_1 32
 [Value.string fu, Value.string fs,
 Value.string tu, Value.string ts,
 Value.int IntKind.i64 n,
 Value.int IntKind.i64 d, Value.string sj,
 Value.slice hp hn hc, Value.string bd]
 0,
 Blk.mk n_5 26
 [Value.string x_19, Value.string x_20,
 Value.string x_21, Value.string x_22,
 Value.int IntKind.i64 x_23,
 Value.int IntKind.i64 x_24,
 Value.string x_25, Value.slice p_1 n_4 c_1,
 Value.string x_26]
 (wrM 2)]
 w'_3 W →
 W.cell? (Addr.mk n_3 0 none) =
 some (Value.string x_29)) ∧
 ∀ (W : World),
 Loc w.heap.size
 [Blk.mk n_3 26
 [Value.string x, Value.string x_1,
 Value.string x_2, Value.string x_3,
 Value.int IntKind.i64 x_4,
 Value.int IntKind.i64 x_5, Value.string x_6,
 Value.slice p n_2 c, Value.string x_7]
 0,
 Blk.mk n_1 32
 [Value.string fu, Value.string fs,
 Value.string tu, Value.string ts,
 Value.int IntKind.i64 n,
 Value.int IntKind.i64 d, Value.string sj,
 Value.slice hp hn hc, Value.string bd]
 0,
 Blk.mk n_5 26
 [Value.string x_19, Value.string x_20,
 Value.string x_21, Value.string x_22,
 Value.int IntKind.i64 x_23,
 Value.int IntKind.i64 x_24,
 Value.string x_25, Value.slice p_1 n_4 c_1,
 Value.string x_26]
 (wrM 2)]
 w'_3 W →
 bsp (!x_28 && x_17 == !x_29.toList == [])
 (bsp
 (x_17 && x_16 == IntKind.i64.wrap (x_11 + 1))
 (CallsS Tryz.prog 19 #[Value.pointer x_8] W
 fun (e : Ending) (w' : World) =>
 ∃ (x : Int),
 e =
 Ending.returned
 (Value.int IntKind.i64 x) ∧
 KeptL [n_3, n_1, n_5] W w' ∧
 bsp (!(true && x == 1))
 (bsp (!x_17 && x_16 == 0)
 (CallsS Tryz.prog 19
 #[Value.pointer x_8] w'
 fun (e : Ending) (w'_4 : World) =>
 ∃ (x : Int),
 e =
 Ending.returned
 (Value.int IntKind.i64 x) ∧
 KeptL [n_3, n_1, n_5] w' w'_4 ∧
 R
 (Ending.returned
 (Value.bool
 (true &&
 (false || true && x == 0))))
 w'_4)
 (KeptL [n_3, n_1, n_5] w' w' ∧
 R
 (Ending.returned
 (Value.bool
 (true && (false || false))))
 w'))
 (KeptL [n_3, n_1, n_5] w' w' ∧
 R
 (Ending.returned
 (Value.bool (true && true)))
 w'))
 (KeptL [n_3, n_1, n_5] W W ∧
 bsp (!x_17 && x_16 == 0)
 (CallsS Tryz.prog 19 #[Value.pointer x_8] W
 fun (e : Ending) (w' : World) =>
 ∃ (x : Int),
 e =
 Ending.returned
 (Value.int IntKind.i64 x) ∧
 KeptL [n_3, n_1, n_5] W w' ∧
 R
 (Ending.returned
 (Value.bool
 (true && (false || true && x == 0))))
 w')
 (KeptL [n_3, n_1, n_5] W W ∧
 R
 (Ending.returned
 (Value.bool (true && (false || false))))
 W)))
 (KeptL [n_3, n_1, n_5] W W ∧
 KeptL [n_3, n_1, n_5] W W ∧
 R (Ending.returned (Value.bool false)) W))
 (∀ (W : World),
 Loc w.heap.size
 [Blk.mk n_3 26
 [Value.string x, Value.string x_1,
 Value.string x_2, Value.string x_3,
 Value.int IntKind.i64 x_4,
 Value.int IntKind.i64 x_5, Value.string x_6,
 Value.slice p n_2 c, Value.string x_7]
 0,
 Blk.mk n_1 32
 [Value.string fu, Value.string fs,
 Value.string tu, Value.string ts,
 Value.int IntKind.i64 n,
 Value.int IntKind.i64 d, Value.string sj,
 Value.slice hp hn hc, Value.string bd]
 0,
 Blk.mk n_5 26
 [Value.string x_19, Value.string x_20,
 Value.string x_21, Value.string x_22,
 Value.int IntKind.i64 x_23,
 Value.int IntKind.i64 x_24, Value.string x_25,
 Value.slice p_1 n_4 c_1, Value.string x_26]
 (wrM 2)]
 w'_3 W →
 bsp
 (!(x_17 || !x_28 ||
 x_27 != IntKind.i64.wrap (x_15 + x_14)))
 (CallsS Tryz.prog 22
 #[Value.pointer x_8,
 Value.int IntKind.i64
 (IntKind.i64.wrap (x_27 - 1))]
 W fun (e : Ending) (w'_4 : World) =>
 ∃ (p : Option Addr),
 ∃ (n : Nat),
 ∃ (c : Nat),
 e = Ending.returned (Value.slice p n c) ∧
 KeptL [n_3, n_1, n_5] W w'_4 ∧
 bsp (!(false || (↑n : Int) != 0))
 (CallsS Tryz.prog 22
 #[Value.pointer x_8,
 Value.int IntKind.i64 x_27]
 w'_4 fun (e : Ending) (w'_5 : World) =>
 ∃ (p : Option Addr),
 ∃ (n : Nat),
 ∃ (c : Nat),
 e =
 Ending.returned
 (Value.slice p n c) ∧
 KeptL [n_3, n_1, n_5] w'_4 w'_5 ∧
 bsp (false || (↑n : Int) != 1)
 (R
 (Ending.returned
 (Value.bool false))
 w'_5)
 (I
 [Value.int IntKind.i64
 (IntKind.i64.wrap (x_13 + 1)),
 Value.int IntKind.i64
 (IntKind.i64.wrap (2 * x_14)),
 Value.int IntKind.i64 x_27]
 w'_5 ∧
 m
 [Value.int IntKind.i64
 (IntKind.i64.wrap (x_13 + 1)),
 Value.int IntKind.i64
 (IntKind.i64.wrap (2 * x_14)),
 Value.int IntKind.i64 x_27]
 w'_5 <
 m
 [Value.int IntKind.i64 x_13,
 Value.int IntKind.i64 x_14,
 Value.int IntKind.i64 x_15]
 w'))
 (KeptL [n_3, n_1, n_5] w'_4 w'_4 ∧
 R (Ending.returned (Value.bool false))
 w'_4))
 (KeptL [n_3, n_1, n_5] W W ∧
 KeptL [n_3, n_1, n_5] W W ∧
 R (Ending.returned (Value.bool false)) W))))
 (R (Ending.returned (Value.bool false)) w')))
theorem vc_lretries (fu : ByteArray) (fs : ByteArray) (tu : ByteArray) (ts : ByteArray) (n : Int) (d : Int) (sj : ByteArray) (hp : Option Addr) (hn : Nat) (hc : Nat) (bd : ByteArray) (s : ByteArray) (now : Int) (w : World) (R : Ending → World → Prop) (h : VC_lretries fu fs tu ts n d sj hp hn hc bd s now w R) : Calls Tryz.prog 5 ([Value.agg
    #[Value.string fu, Value.string fs, Value.string tu, Value.string ts, Value.int IntKind.i64 n,
      Value.int IntKind.i64 d, Value.string sj, Value.slice hp hn hc, Value.string bd],
  Value.string s, Value.int IntKind.i64 now] : List Value).toArray w R := by
  have e : execR2 { P := Tryz.prog, loops := [(10, [(13, Ck.int IntKind.i64), (12, Ck.int IntKind.i64), (2, Ck.int IntKind.i64)])], pur := purM, tails := [], joins := [], boxes := [] } Tryz.f5.results.toList R (Tryz.f5.body.getD .skip) (initF [Value.agg
    #[Value.string fu, Value.string fs, Value.string tu, Value.string ts, Value.int IntKind.i64 n,
      Value.int IntKind.i64 d, Value.string sj, Value.slice hp hn hc, Value.string bd],
  Value.string s,
  Value.int IntKind.i64
    now] (Tryz.f5.ntmps - ([Value.agg
    #[Value.string fu, Value.string fs, Value.string tu, Value.string ts, Value.int IntKind.i64 n,
      Value.int IntKind.i64 d, Value.string sj, Value.slice hp hn hc, Value.string bd],
  Value.string s,
  Value.int IntKind.i64
    now] : List Value).length)) w = VC_lretries fu fs tu ts n d sj hp hn hc bd s now w R := by kernel_rfl
  have hb : Tryz.f5.body = some (Tryz.f5.body.getD .skip) := by kernel_rfl
  exact calls_of_exec2' (P := Tryz.prog) (fn := Tryz.f5) (c := Tryz.f5.body.getD .skip) (args := [Value.agg
    #[Value.string fu, Value.string fs, Value.string tu, Value.string ts, Value.int IntKind.i64 n,
      Value.int IntKind.i64 d, Value.string sj, Value.slice hp hn hc, Value.string bd],
  Value.string s, Value.int IntKind.i64 now]) (w := w) (R := R) purM_ok Tryz.func5 hb e h

def VC_lsound (s : ByteArray) (w : World) (R : Ending → World → Prop) : Prop :=
 (9223372036854775807 - (↑((ByteArray.mk #[64]).size + s.size) : Int)).NonNeg ∧
 CallsS Tryz.prog 35 #[Value.string (ByteArray.mk #[64] ++ s)] w fun (e : Ending) (w' : World) =>
 ∃ (x : ByteArray),
 ∃ (x_1 : ByteArray),
 ∃ (x_2 : Int),
 e = Ending.returned (Value.tuple #[Value.agg #[Value.string x, Value.string x_1], Value.int IntKind.i64 x_2]) ∧
 KeptL [] w w' ∧
 ∀ (n : Nat) (W : World),
 Loc w.heap.size [Blk.mk n 30 [Value.string x, Value.string x_1] (wrM 2)] w' W →
 R (Ending.returned (Value.bool (x_2 == 0))) W
theorem vc_lsound (s : ByteArray) (w : World) (R : Ending → World → Prop) (h : VC_lsound s w R) : Calls Tryz.prog 23 ([Value.string
    s] : List Value).toArray w R := by
  have e : execR2 { P := Tryz.prog, loops := [], pur := purM, tails := [], joins := [], boxes := [] } Tryz.f23.results.toList R (Tryz.f23.body.getD .skip) (initF [Value.string
    s] (Tryz.f23.ntmps - ([Value.string s] : List Value).length)) w = VC_lsound s w R := by kernel_rfl
  have hb : Tryz.f23.body = some (Tryz.f23.body.getD .skip) := by kernel_rfl
  exact calls_of_exec2' (P := Tryz.prog) (fn := Tryz.f23) (c := Tryz.f23.body.getD .skip) (args := [Value.string
    s]) (w := w) (R := R) purM_ok Tryz.func23 hb e h

end Go.Proofs.YtmlmdljnfokebaaGreatDoor

/- Chapter 49: a text is a site's name exactly if its address without a user is one; the contract of the statements' sound. No condition but sizes. -/
namespace Go.Proofs.YtmlmdljnfokebaaGreatDoor
open Go.RowKit

theorem site_perm {s : ByteArray} (h : siteE s = 0) : ∀ j, j < s.size → permB (at8 s j) = true := by
  unfold siteE siteS at h
  split at h
  · exact absurd h (by decide)
  split at h
  · exact absurd h (by decide)
  split at h
  · have h : (6 : Int) = 0 := h
    exact absurd h (by decide)
  rename_i hn
  rw [List.find?_range_eq_none] at hn
  intro j hj
  have := hn j hj
  simpa using this
theorem adr_at (s : ByteArray) : (adrP (⟨#[64]⟩ ++ s)).2 = 0 ↔ siteE s = 0 := by
  have e0 : (⟨#[64]⟩ ++ s : ByteArray) = ⟨#[]⟩ ++ ⟨#[64]⟩ ++ s := by
    rw [show (⟨#[]⟩ ++ ⟨#[64]⟩ : ByteArray) = ⟨#[64]⟩ from rfl]
  have hcnt : cntAt (⟨#[64]⟩ ++ s) = 1 + cntAt s := by
    unfold cntAt Lib.countByte
    rw [ByteArray.data_append, Array.toList_append, List.count_append]; rfl
  have hf : findC 64 (⟨#[]⟩ ++ ⟨#[64]⟩ ++ s) = 0 := (findC_first 64 _).uniq (first_app (c := 64) (a := ⟨#[]⟩) (rest := s) (fun j hj => absurd hj (Nat.not_lt_zero _)))
  have ht : (⟨#[]⟩ ++ ⟨#[64]⟩ ++ s : ByteArray).extract (0 + 1) (⟨#[]⟩ ++ ⟨#[64]⟩ ++ s : ByteArray).size = s := app_tail (c := 64) (a := ⟨#[]⟩) (rest := s)
  have hcs : siteE s = 0 → cntAt s = 0 := fun h => by
    unfold cntAt Lib.countByte
    rw [List.count_eq_zero]
    intro hm
    obtain ⟨j, hj, e⟩ := List.getElem_of_mem hm
    have hj' : j < s.size := by simpa using hj
    have h1 := (getC 64).1 (show s.data.toList[j]? = some 64 by rw [List.getElem?_eq_getElem hj, e])
    have h2 := site_perm h j hj'
    rw [h1.2] at h2
    exact absurd h2 (by decide)
  unfold adrP
  rw [hcnt, e0, hf, ht]
  by_cases hs : siteE s = 0
  · rw [hcs hs, if_neg (by omega), if_neg (by rw [show (⟨#[]⟩ ++ ⟨#[64]⟩ ++ s : ByteArray).extract 0 0 = ⟨#[]⟩ by simp; rfl, user_nil]; decide), if_neg (by rw [hs]; decide)]
    exact ⟨fun _ => hs, fun _ => rfl⟩
  · refine ⟨fun h => absurd ?_ hs, fun h => absurd h hs⟩
    split at h
    · cases h
    split at h
    · cases h
    exact h
theorem lsound_any (s : ByteArray) (w : World) (hs : s.size ≤ 1073741823) :
    Calls Tryz.prog 23 #[.string s] w fun e w' => e = .returned (.bool (decide (siteE s = 0))) ∧ K0 w w' := by
  have hz : (⟨#[64]⟩ ++ s : ByteArray).size ≤ 1073741824 := by rw [ByteArray.size_append, size_one]; omega
  have hz2 : ((⟨#[64]⟩ : ByteArray).size + s.size) ≤ 4611686018427387904 := by rw [size_one]; omega
  have hd := adr_at s
  refine vc_lsound s w _ ⟨nneg hz2, ?_⟩
  have hx := xaddr_any (⟨#[64]⟩ ++ s) w hz
  generalize adrP (⟨#[64]⟩ ++ s) = A at hx hd
  refine ⟨hx.mono fun e w1 ⟨he, k1⟩ => ⟨_, _, _, he, .of_k0 k1, fun n W hW => ⟨?_, k1.trans (hW.kk rfl)⟩⟩⟩
  congr 2
  rw [Bool.eq_iff_iff, beq_iff_eq, decide_eq_true_eq]
  exact hd

end Go.Proofs.YtmlmdljnfokebaaGreatDoor

/- Chapter 49: MailClones on worlds. No condition but the sizes that a reading gives, and the table of powers of ten. -/
namespace Go.Proofs.YtmlmdljnfokebaaGreatDoor
open Go.RowKit Go.Maps

/-- An element of a row of one-cell elements is written. -/
theorem own_putQ {w : World} {base : Nat} {e : TypeId} {n c : Nat} {p : Option Addr} {xs : List Value} (h : w.ownsRow base e 1 (.slice p n c) n xs) {k : Nat} (hk : k < n) :
    ∃ g, p = some ⟨g, 0, none⟩ ∧ (Value.slice p n c).ownBlock = some g ∧ ((∃ u, w.cell? ⟨g, 0 + k, none⟩ = some u) ∧ w.frozen? ⟨g, 0 + k, none⟩ = false) ∧
      ∀ (v : Value) (w1 : World), PutB w g (0 + k) [v] w1 → w1.ownsRow base e 1 (.slice p n c) n (xs.set k v) := by
  have hl := h.1
  rcases h.2 with ⟨_, hn⟩ | ⟨g, cap, cur, he, hb, hg, hnc, hcm, hsz, ht⟩
  · omega
  · simp only [Value.slice.injEq, true_and] at he
    obtain ⟨rfl, rfl⟩ := he
    have hkc : k < cur.size := by rw [hsz]; omega
    refine ⟨g, rfl, rfl, by rw [Nat.zero_add]; exact cell_wr hg hkc, fun v w1 hp => ⟨by rw [List.length_set]; exact hl, .inr ⟨g, _, _, rfl, hb, hp.block hg, hnc, hcm, ?_, ?_⟩⟩⟩
    · simp only [putL, Nat.zero_add, List.size_toArray, List.length_set, Array.length_toList]; exact hsz
    · simp only [putL, Nat.zero_add]
      rw [← ht, List.take_set]
set_option maxRecDepth 100000 in
set_option maxHeartbeats 8000000 in
theorem lclones_any (s : ByteArray) (p : Option Addr) (c : Nat) (Os : List OpX) (o : OpX) (w : World) (hR : RowA opC 14 w p Os) (hO : ∀ x ∈ Os, OpR w x) (ho : OpR w o) (hT : GT w) :
    Calls Tryz.prog 7 #[.string s, .slice p Os.length c, .agg (opC o).toArray] w fun e w' => e = .returned (.bool true) ∧ K0 w w' := by
  refine vc_lclones s p Os.length c o.k o.m.fu o.m.fs o.m.tu o.m.ts o.m.n o.m.d o.m.sj o.p o.m.hops.length o.c o.m.bd o.n o.now o.code o.fin w _ (fun n1 => ⟨by split <;> omega, fun W hW => ?_⟩)
  have hsz : ∀ k : Nat, k ≤ 60 → (s.extract 0 k).size ≤ 60 := fun k hk => by rw [ByteArray.size_extract]; omega
  have hsz := hsz (if (60 : Int) < (s.size : Int) then (60 : Int) else (s.size : Int)).toNat (by split <;> omega)
  generalize s.extract 0 _ = s' at *
  have kW : K0 w W := hW.kk rfl
  have hn1 := block_lt (hW.cells 0 rfl)
  simp only at hn1
  refine ⟨(known_any W (hT.k0 kW)).mono fun e w1 ⟨he, k1⟩ => ⟨_, he, .of_k0 k1, bsp_intro (fun _ => ?_) (fun h => by simp at h)⟩⟩
  refine ⟨(lsound_any s' w1 (by omega)).mono fun e w2 ⟨he, k2⟩ => ⟨_, he, .of_k0 k2, bsp_intro (fun h => ?_) (fun h => ?_)⟩⟩
  · exact ⟨(known_any w2 (hT.k0 ((kW.trans k1).trans k2))).mono fun e w3 ⟨he, k3⟩ => ⟨_, he, .of_k0 k3, rfl, ((kW.trans k1).trans k2).trans k3⟩⟩
  have hs0 : siteE s' = 0 := by simpa using h
  have k02 := (kW.trans k1).trans k2
  refine ⟨(lplay_any s' p c Os w2 hs0 (hR.k0 k02) (fun x hx => (hO x hx).k0 k02) (hT.k0 k02)).mono fun e w3 ⟨b, mb, B, last, l, L, q, d, he, hI, gb, gm, gB, hbB, hmB⟩ => ⟨_, _, _, _, _, _, _, he, .of_k0 hI.k, fun n3 => bsp_intro (fun h => by simp at h) (fun _ => fun W4 hW4 => ?_)⟩⟩
  have k03 := k02.trans hI.k
  have k4 : K0 w3 W4 := hW4.kk rfl
  have g3 : w3.heap.size ≤ n3 := hW4.fresh 0 rfl rfl
  have l3 := block_lt (hW4.cells 0 rfl)
  simp only at l3
  have l1 : n1 < w3.heap.size := Nat.lt_of_lt_of_le hn1 ((k1.trans k2).trans hI.k).size
  have hkI : ∀ pp ∈ l, I64 pp.1 := fun pp hp => by have := hI.hl.bd pp hp; have := hI.h1; exact ⟨by omega, by omega⟩
  have hll := hI.hl.len
  refine ⟨(qclone_any b mb s' last l W4 (hI.hq.k0 k4) hkI).mono fun e w5 ⟨⟨b', mb', l', he, hQc, hE, gb', gm', hkl⟩, k5⟩ => ⟨_, he, .of_k0 k5, bsp_intro (fun _ => ?_) (fun h => by simp at h)⟩⟩
  have hkc : ∀ pp ∈ l', 1 ≤ pp.1 ∧ pp.1 ≤ last := fun pp hp => by obtain ⟨r, hr, e⟩ := hkl pp hp; rw [← e]; exact hI.hl.bd r hr
  have hlast : 0 ≤ last ∧ last ≤ 30 := ⟨hI.h0, hI.h1⟩
  have hEq : (last == last && eqL l' l) = true := by rw [hE.eq hQc.dis]; simp
  have k35 := k4.trans k5
  have lb' := block_lt hQc.blk
  have lm' := hQc.map.lt
  refine ⟨(qequal_any b' mb' s' last l' b mb last l w5 hQc (hI.hq.k0 k35) (fun pp hp => by have := hkc pp hp; exact ⟨by omega, by omega⟩)).mono fun e w6 ⟨he, k6⟩ => ⟨_, he, .of_k0 k6, bsp_intro (fun h => by rw [hEq] at h; simp at h) (fun _ => ?_)⟩⟩
  have hTo : ∀ wz : World, K0 w wz → Calls Tryz.prog 14 #[mxA o.m o.p o.c] wz fun e w' => (∃ (q : Option Addr) (d : Nat), e = .returned (mxA (toM o.m) q d) ∧ w'.ownsRow wz.heap.size 9 1 (.slice q (toM o.m).hops.length d) (toM o.m).hops.length ((toM o.m).hops.map .string)) ∧ K0 wz w' := fun wz kz => to_any o.m o.p o.c wz (ho.str.k0 kz) ho.hl
  have hlx : (toM o.m).hops.length ≤ 20 := by show (o.m.hops.take 20).length ≤ 20; rw [List.length_take]; omega
  have hbx : (toM o.m).bd.size ≤ 33000 := by show (o.m.bd.extract 0 (min o.m.bd.size 33000)).size ≤ 33000; rw [ByteArray.size_extract]; omega
  generalize toM o.m = x at hTo hlx hbx
  have k36 := k35.trans k6
  refine ⟨(hTo w6 (k03.trans k36)).mono fun e w7 ⟨⟨q1, d1, he, ho1⟩, k7⟩ => ⟨_, _, _, _, _, _, _, _, _, _, _, he, .of_k0 k7, fun n5 W8 hW8 => ?_⟩⟩
  have k8 : K0 w7 W8 := hW8.kk rfl
  have g5 : w7.heap.size ≤ n5 := hW8.fresh 0 rfl rfl
  have s34 := k4.size
  have s45 := k5.size
  have s56 := k6.size
  have s67 := k7.size
  have s78 := k8.size
  have kc8 := (k6.trans k7).trans k8
  have own1 : ∀ k, (Value.slice q1 x.hops.length d1).ownBlock = some k → w6.heap.size ≤ k ∧ k < w7.heap.size := fun k e => ⟨own_ge ho1 e, own_lt ho1 e⟩
  refine ⟨(qadd_any2 b' mb' s' last l' x q1 d1 o.now W8 (hQc.k0 kc8) ((strP_own ho1).k0 k8) (fun g oo hg e => by have := strP_base ho1 g oo hg; omega) (own_le ho1) (by omega) (by omega) ⟨by omega, by omega⟩).mono fun e w9 hA => ?_⟩
  have hA' : ∃ (nn ee last' : Int) (l2 : List (Int × Qd)), e = .returned (.tuple #[.int .i64 nn, .int .i64 ee]) ∧ QR w9 b' mb' s' last' l2 ∧ Kp (fun k => k = b' ∨ k = mb') W8 w9 ∧
      ((ee ≠ 0 ∧ nn = 0 ∧ last' = last ∧ l2 = l') ∨ (ee = 0 ∧ nn = last + 1 ∧ last' = last + 1 ∧ ∃ (p' : Option Addr) (c' : Nat), l2 = aset l' (last + 1) ⟨x, p', c', 0, o.now⟩ ∧ ∀ g oo, p' = some ⟨g, oo, none⟩ → W8.heap.size ≤ g)) := by
    rcases hA with ⟨he, hbad, k9⟩ | ⟨_, _, _, he, ⟨p', c', hQ9, hf⟩, k9⟩
    · refine ⟨_, _, _, _, he, (hQc.k0 kc8).k0 k9, k9.mono fun _ _ h => h.elim, .inl ⟨?_, rfl, rfl, rfl⟩⟩
      split
      · assumption
      · split <;> decide
    · exact ⟨_, _, _, _, he, hQ9, k9, .inr ⟨rfl, rfl, rfl, p', c', rfl, hf⟩⟩
  clear hA
  obtain ⟨nn, ee, last', l2, he9, hQ9, k9, hA⟩ := hA'
  refine ⟨_, _, he9, .of_kp k9 (fun z hz e => by simp at hz; omega), fun W10 hW10 => ?_⟩
  have k10 : K0 w9 W10 := hW10.kk rfl
  have k310 : K0 w3 W10 := (((k36.trans k7).trans k8).fresh k9 (fun j hj e => by omega)).trans k10
  have hn310 : W10.heap[n3]? = some (.cells #[.string s', .int .i64 last, .slice q L.length d] 62 (0, 0)) := hW10.cells 1 rfl
  have hk2 : ∀ pp ∈ l2, I64 pp.1 := fun pp hp => by
    rcases hA with ⟨_, _, _, rfl⟩ | ⟨_, _, _, p', c', rfl, _⟩
    · have := hkc pp hp; exact ⟨by omega, by omega⟩
    · rw [aset_new (fun pp hp e => by have := hkc pp hp; omega)] at hp
      rcases List.mem_append.1 hp with hp | hp
      · have := hkc pp hp; exact ⟨by omega, by omega⟩
      · simp at hp; subst hp; exact ⟨by show _ ≤ last + 1; omega, by show last + 1 ≤ _; omega⟩
  refine ⟨fun wx => K0 W10 wx, .refl _ _, ⟨(qequal_any b' mb' s' last' l2 b mb last l W10 (hQ9.k0 k10) (hI.hq.k0 k310) hk2).mono fun e w11 ⟨he, k11⟩ => ⟨_, he, k11, q, L.length, d, gimp_intro fun _ wx k => cell_at (k.blk hn310 (fun h => h)) rfl, ?_⟩⟩⟩
  have hcond : (!((ee == 0) == (last' == last && eqL l2 l))) = true := by
    rcases hA with ⟨h1, _, rfl, rfl⟩ | ⟨rfl, _, rfl, _⟩
    · rw [hEq]; simpa using h1
    · have : (last + 1 == last) = false := by simp; omega
      rw [this]; rfl
  refine bsp_intro (fun _ => ?_) (fun h => by rw [hcond] at h; cases h)
  refine ⟨(qlen_any b mb s' last l w11 (hI.hq.k0 (k310.trans k11))).mono fun e w12 ⟨he, hw⟩ => ?_⟩
  subst hw
  refine ⟨_, he, k11, .of_k0 k11, bsp_intro (fun h => by exfalso; rw [hll] at h; simp at h) (fun _ => ?_)⟩
  have ho11 : w12.ownsRow w6.heap.size 9 1 (.slice q1 x.hops.length d1) x.hops.length (x.hops.map .string) := owns_kp (owns_kp (owns_kp ho1 k8 (fun _ _ h => h)) k9 (fun k hk e => by have := own1 k hk; omega)) (k10.trans k11) (fun _ _ h => h)
  refine ⟨fun vs w' => ∃ (i : Nat) (xs : List Value), vs = [.int .i64 (i : Int)] ∧ i ≤ x.hops.length ∧ w'.ownsRow w6.heap.size 9 1 (.slice q1 x.hops.length d1) x.hops.length xs ∧ Kp (fun k => (Value.slice q1 x.hops.length d1).ownBlock = some k) w12 w',
    fun vs _ => (match vs with | .int _ a :: _ => x.hops.length - a.toNat | _ => 0), ⟨0, _, rfl, by omega, ho11, .refl _ _⟩, ?_⟩
  rintro y wB ⟨i, xs, hv, hi, hoB, kB⟩ hLB
  simp only [List.cons.injEq, Value.int.injEq, true_and, and_true] at hv
  subst hv
  refine bsp_intro (fun hlt => ?_) (fun hge => ?_)
  · have hlt : i < x.hops.length := by simp at hlt; omega
    obtain ⟨g, hg, hgo, hwr, hset⟩ := own_putQ hoB hlt
    have hgb := own1 g hgo
    refine nn_is hg ⟨⟨by omega, by omega⟩, by rw [Int.toNat_natCast]; exact hwr, fun wC hp => ?_⟩
    rw [Int.toNat_natCast] at hp
    exact ⟨.of_kp hp.kp (fun z hz e => by simp at hz; omega), ⟨i + 1, _, by rw [inc64 (by omega)], hlt, hset _ _ hp, kB.trans (hp.kp.mono fun k _ e => by rw [e]; exact hgo)⟩, by rw [inc64 (by omega)]; simp only [Int.toNat_natCast]; omega⟩
  have hQ12 := hQ9.k0 (k10.trans k11)
  have hQB : QR wB b' mb' s' last' l2 := by
    refine ⟨kB.blk hQ12.blk (fun e => by have := own1 b' e; omega), hQ12.map.kp kB (fun e => by have := own1 mb' e; omega), hQ12.ne, fun a yy hy => ⟨fun jj z hz => ?_, (hQ12.str a yy hy).2⟩, hQ12.ok⟩
    obtain ⟨g, oo, hp, hc⟩ := (hQ12.str a yy hy).1 jj z hz
    refine ⟨g, oo, hp, kB.cell' hc (fun e => ?_)⟩
    have hg := own1 g e
    have hold : ∀ yy, aget l' a = some yy → yy.m.hops[jj]? = some z → yy.p = some ⟨g, oo, none⟩ → False := fun yy hy hz hp => by
      obtain ⟨g', oo', hp', hc'⟩ := (hQc.str a yy hy).1 jj z hz
      rw [hp] at hp'
      cases hp'
      have := cell_lt hc'
      omega
    rcases hA with ⟨_, _, _, rfl⟩ | ⟨_, _, _, p', c', rfl, hf⟩
    · exact hold yy hy hz hp
    · rw [aget_aset] at hy
      split at hy
      · cases hy
        have := hf g oo hp
        omega
      · exact hold yy hy hz hp
  have k0B : K0 w wB := ((k03.trans k310).trans k11).fresh kB (fun j hj e => by have := own1 j e; have := k03.size; omega)
  have hnn : I64 nn := by
    rcases hA with ⟨_, rfl, _⟩ | ⟨_, rfl, _⟩
    · exact ⟨by decide, by decide⟩
    · exact ⟨by omega, by omega⟩
  refine ⟨(qget_any b' mb' s' last' l2 nn wB hQB hnn).mono fun e w13 ⟨⟨p', c', he, _, hoG⟩, k13⟩ => ⟨_, _, _, _, _, _, _, _, _, _, _, _, _, he, .of_k0 k13, fun n8 W14 hW14 => ?_⟩⟩
  have k14 : K0 w13 W14 := hW14.kk rfl
  have hc8 := hW14.cells 0 rfl
  have hc1 := hW14.cells 3 rfl
  have k0C := (k0B.trans k13).trans k14
  refine ⟨fun wx => K0 W14 wx, .refl _ _, p', ((aget l2 nn).getD qz).m.hops.length, c', gimp_intro fun _ wx k => cell_at (k.blk hc8 (fun h => h)) rfl, o.m.fu, o.m.fs, o.m.tu, o.m.ts, o.m.n, o.m.d, o.m.sj, o.p, o.m.hops.length, o.c, o.m.bd, gimp_intro fun _ wx k => AtL_block (k.blk hc1 (fun h => h)) rfl, bsp_intro (fun h => ?_) (fun h => ?_)⟩
  · have hm : ((aget l2 nn).getD qz).m.hops = x.hops := by
      rcases hA with ⟨_, rfl, _, rfl⟩ | ⟨_, rfl, _, p', c', rfl, _⟩
      · exfalso
        have : aget l2 0 = none := aget_none.2 (fun pp hp e => by have := hkc pp hp; omega)
        rw [this] at h; cases h
      · rw [aget_aset, if_pos rfl]; rfl
    refine ⟨(hTo W14 k0C).mono fun e w15 ⟨⟨q2, d2, he, ho2⟩, k15⟩ => ⟨_, _, _, _, _, _, _, _, _, _, _, he, k15, ?_⟩⟩
    refine ⟨(r1same_any ((aget l2 nn).getD qz).m.hops x.hops p' c' q2 d2 w15 ((strP_own hoG).k0 (k14.trans k15)) (strP_own ho2) (by rw [hm]; omega)).mono fun e w16 ⟨he, k16⟩ => ⟨_, he, .of_k0 (k15.trans k16), bsp_intro (fun h => by rw [hm] at h; simp at h) (fun _ => ?_)⟩⟩
    have kz := (k0C.trans k15).trans k16
    clear h
    refine ⟨vc_qaddN x.fu x.fs x.tu x.ts x.n x.d x.sj q1 x.hops.length d1 x.bd 0 _ _ (fun n20 W20 hW20 => ⟨_, _, rfl, .of_k0 (hW20.kk rfl), ?_⟩)⟩
    refine ⟨vc_qgetN 1 _ _ (fun n21 W21 hW21 => ⟨_, _, _, _, _, _, _, _, _, _, _, _, _, rfl, .of_k0 (hW21.kk rfl), fun n22 W22 hW22 => ?_⟩)⟩
    have kz := ((kz.trans (hW20.kk rfl)).trans (hW21.kk rfl)).trans (hW22.kk rfl)
    refine ⟨vc_qfailN 1 0 26 true _ _ ⟨_, _, _, rfl, .of_k0 (.refl _ _), bsp_intro (fun _ => ?_) (fun h => absurd h (by decide))⟩⟩
    refine ⟨vc_qdoneN 1 _ _ ⟨_, rfl, .of_k0 (.refl _ _), bsp_intro (fun _ => ?_) (fun h => absurd h (by decide))⟩⟩
    refine ⟨vc_qdueN 0 _ _ (fun n23 W23 hW23 => ⟨_, _, _, rfl, .of_k0 (hW23.kk rfl), bsp_intro (fun _ => ?_) (fun h => absurd h (by decide))⟩)⟩
    have kz := kz.trans (hW23.kk rfl)
    refine ⟨vc_qlenN 0 _ _ ⟨_, rfl, .of_k0 (.refl _ _), bsp_intro (fun _ => ?_) (fun h => absurd h (by decide))⟩⟩
    refine ⟨vc_qcloneN 0 _ _ ⟨_, rfl, .of_k0 (.refl _ _), bsp_intro (fun _ => ?_) (fun h => by cases h)⟩⟩
    refine ⟨(qequal_nil none _).mono fun e w24 ⟨he, k24⟩ => ⟨_, he, .of_k0 k24, bsp_intro (fun _ => ?_) (fun h => by cases h)⟩⟩
    exact ⟨(qequal_nil (some ⟨b, 0, none⟩) _).mono fun e w25 ⟨he, k25⟩ => ⟨_, he, .of_k0 k25, rfl, (kz.trans k24).trans k25⟩⟩
  · refine ⟨.refl _ _, .of_k0 (.refl _ _), ?_⟩
    have kz := k0C
    clear h
    refine ⟨vc_qaddN x.fu x.fs x.tu x.ts x.n x.d x.sj q1 x.hops.length d1 x.bd 0 _ _ (fun n20 W20 hW20 => ⟨_, _, rfl, .of_k0 (hW20.kk rfl), ?_⟩)⟩
    refine ⟨vc_qgetN 1 _ _ (fun n21 W21 hW21 => ⟨_, _, _, _, _, _, _, _, _, _, _, _, _, rfl, .of_k0 (hW21.kk rfl), fun n22 W22 hW22 => ?_⟩)⟩
    have kz := ((kz.trans (hW20.kk rfl)).trans (hW21.kk rfl)).trans (hW22.kk rfl)
    refine ⟨vc_qfailN 1 0 26 true _ _ ⟨_, _, _, rfl, .of_k0 (.refl _ _), bsp_intro (fun _ => ?_) (fun h => absurd h (by decide))⟩⟩
    refine ⟨vc_qdoneN 1 _ _ ⟨_, rfl, .of_k0 (.refl _ _), bsp_intro (fun _ => ?_) (fun h => absurd h (by decide))⟩⟩
    refine ⟨vc_qdueN 0 _ _ (fun n23 W23 hW23 => ⟨_, _, _, rfl, .of_k0 (hW23.kk rfl), bsp_intro (fun _ => ?_) (fun h => absurd h (by decide))⟩)⟩
    have kz := kz.trans (hW23.kk rfl)
    refine ⟨vc_qlenN 0 _ _ ⟨_, rfl, .of_k0 (.refl _ _), bsp_intro (fun _ => ?_) (fun h => absurd h (by decide))⟩⟩
    refine ⟨vc_qcloneN 0 _ _ ⟨_, rfl, .of_k0 (.refl _ _), bsp_intro (fun _ => ?_) (fun h => by cases h)⟩⟩
    refine ⟨(qequal_nil none _).mono fun e w24 ⟨he, k24⟩ => ⟨_, he, .of_k0 k24, bsp_intro (fun _ => ?_) (fun h => by cases h)⟩⟩
    exact ⟨(qequal_nil (some ⟨b, 0, none⟩) _).mono fun e w25 ⟨he, k25⟩ => ⟨_, he, .of_k0 k25, rfl, (kz.trans k24).trans k25⟩⟩

end Go.Proofs.YtmlmdljnfokebaaGreatDoor
