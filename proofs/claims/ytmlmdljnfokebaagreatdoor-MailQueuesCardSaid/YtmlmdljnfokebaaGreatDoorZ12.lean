/- Chapter 49: the contract of the statements' Play: the queue and the reference's queue say the same. A site's name; at most 30 operations are played. -/
import Derived.Test.YtmlmdljnfokebaaGreatDoorZ11
import Derived.Test.YtmlmdljnfokebaaGreatDoorZ10
import Derived.Test.YtmlmdljnfokebaaGreatDoorZ07
import Derived.Test.YtmlmdljnfokebaaGreatDoorProg
import Derived.Test.YtmlmdljnfokebaaGreatDoorZ02
import Derived.Test.YtmlmdljnfokebaaGreatDoorZ04
import Derived.KernelRfl
namespace Go.Proofs.YtmlmdljnfokebaaGreatDoor
open Go.RowKit Go.Maps

theorem AtL.kp {M : Nat → Prop} {w w' : World} {b o : Nat} {cs : List Value} (h : AtL w b o cs) (hk : Kp M w w') (hm : ¬ M b) : AtL w' b o cs := by
  have key : ∀ (cs : List Value) (o : Nat), At w b o cs → At w' b o cs := by
    intro cs
    induction cs with
    | nil => intro o _; trivial
    | cons v r ih =>
      intro o h
      cases r with
      | nil => exact hk.cell' h hm
      | cons u r => exact ⟨hk.cell' h.1 hm, ih (o + 1) h.2⟩
  exact ⟨key cs o h.h⟩
theorem WR.kp {M : Nat → Prop} {w w' : World} {p : Option Addr} {c : Nat} {L : List Wx} (h : WR w p c L) (hk : Kp M w w') (h1 : ∀ g o, p = some ⟨g, o, none⟩ → ¬ M g) (h2 : ∀ x ∈ L, ∀ g o, x.p = some ⟨g, o, none⟩ → ¬ M g) : WR w' p c L :=
  ⟨fun k y hy => by obtain ⟨b, o, hp, ha⟩ := h.row k y hy; exact ⟨b, o, hp, ha.kp hk (h1 b o hp)⟩, fun x hx => (h.str x hx).kp hk (h2 x hx), h.ok, h.le⟩
theorem QR.kp {M : Nat → Prop} {w w' : World} {b mb : Nat} {site : ByteArray} {last : Int} {l : List (Int × Qd)} (h : QR w b mb site last l) (hk : Kp M w w') (hb : ¬ M b) (hm : ¬ M mb) (hg : ∀ g, b < g → ¬ M g) : QR w' b mb site last l :=
  ⟨hk.blk h.blk hb, h.map.kp hk hm, h.ne, fun a x hx => ⟨(h.str a x hx).1.kp hk (fun g o e => hg g ((h.str a x hx).2 g o e).1), (h.str a x hx).2⟩, h.ok⟩
/-- The queue and the reference's, after i operations. -/
structure PlI (w w' : World) (b mb B : Nat) (s : ByteArray) (i : Nat) (last : Int) (l : List (Int × Qd)) (L : List Wx) (q : Option Addr) (d : Nat) : Prop where
  k : K0 w w'
  hq : QR w' b mb s last l
  hw : WR w' q d L
  bq : ∀ g o, q = some ⟨g, o, none⟩ → B ≤ g
  bx : ∀ x ∈ L, ∀ g o, x.p = some ⟨g, o, none⟩ → B ≤ g
  hl : QL last l L
  h0 : 0 ≤ last
  h1 : last ≤ (i : Int)
  h2 : L.length ≤ i
  sz : B ≤ w'.heap.size
theorem pl_fin {w wz w6 : World} {n b mb B i : Nat} {s : ByteArray} {last : Int} {l : List (Int × Qd)} {L : List Wx} {q : Option Addr} {d : Nat} {cs : Array Value} (h : PlI w wz b mb B s i last l L q d)
    (hn : wz.heap[n]? = some (.cells cs 62 (0, 0))) (hcs : cs.size = 3) (gn : w.heap.size ≤ n) (hnb : n < b) (hnm : n ≠ mb) (hnB : n < B) (hp : PutB wz n 0 [.string s, .int .i64 last, .slice q L.length d] w6) :
    w6.heap[n]? = some (.cells #[.string s, .int .i64 last, .slice q L.length d] 62 (0, 0)) ∧ PlI w w6 b mb B s i last l L q d :=
  ⟨hp.full hn (by rw [hcs]; rfl), ⟨put_k0 h.k hp gn, h.hq.kp hp.kp (fun e => by omega) (fun e => hnm e.symm) (fun g hg e => by omega), h.hw.kp hp.kp (fun g o e e2 => by have := h.bq g o e; omega) (fun x hx g o e e2 => by have := h.bx x hx g o e; omega), h.bq, h.bx, h.hl, h.h0, h.h1, h.h2, by rw [hp.size]; exact h.sz⟩⟩
theorem PlI.k0 {w w' w2 : World} {b mb B i : Nat} {s : ByteArray} {last : Int} {l : List (Int × Qd)} {L : List Wx} {q : Option Addr} {d : Nat} (h : PlI w w' b mb B s i last l L q d) (hk : K0 w' w2) : PlI w w2 b mb B s i last l L q d :=
  ⟨h.k.trans hk, h.hq.k0 hk, h.hw.k0 hk, h.bq, h.bx, h.hl, h.h0, h.h1, h.h2, Nat.le_trans h.sz hk.size⟩
theorem PlI.up {w w' : World} {b mb B i : Nat} {s : ByteArray} {last : Int} {l : List (Int × Qd)} {L : List Wx} {q : Option Addr} {d : Nat} (h : PlI w w' b mb B s i last l L q d) : PlI w w' b mb B s (i + 1) last l L q d :=
  ⟨h.k, h.hq, h.hw, h.bq, h.bx, h.hl, h.h0, by have := h.h1; omega, by have := h.h2; omega, h.sz⟩
theorem strP_base {w : World} {base n c : Nat} {t : TypeId} {q : Option Addr} {xs : List Value} (h : w.ownsRow base t 1 (.slice q n c) n xs) : ∀ g o, q = some ⟨g, o, none⟩ → base ≤ g := fun g o e => own_ge h (k := g) (by rw [e]; rfl)
theorem row_base {w : World} {base n c sz : Nat} {t : TypeId} {q : Option Addr} {xs : List Value} (h : w.ownsRow base t sz (.slice q n c) n xs) : ∀ g o, q = some ⟨g, o, none⟩ → base ≤ g := fun g o e => own_ge h (k := g) (by rw [e]; rfl)
set_option maxRecDepth 100000 in
set_option maxHeartbeats 8000000 in
theorem lplay_any (s : ByteArray) (p : Option Addr) (c : Nat) (Os : List OpX) (w : World) (hs : siteE s = 0) (hR : RowA opC 14 w p Os) (hO : ∀ x ∈ Os, OpR w x) (hT : GT w) :
    Calls Tryz.prog 24 #[.string s, .slice p Os.length c] w fun e w' => ∃ (b mb B : Nat) (last : Int) (l : List (Int × Qd)) (L : List Wx) (q : Option Addr) (d : Nat), e = .returned (.tuple #[.pointer (some ⟨b, 0, none⟩), qV s last q L.length d, .bool true]) ∧ PlI w w' b mb B s 30 last l L q d ∧ w.heap.size ≤ b ∧ w.heap.size ≤ mb ∧ w.heap.size ≤ B ∧ b < B ∧ mb < B := by
  refine vc_lplay s p Os.length c w _ (fun n W hW => ?_)
  have kW : K0 w W := hW.kk rfl
  have gn : w.heap.size ≤ n := hW.fresh 0 rfl rfl
  have hnW := block_lt (hW.cells 0 rfl)
  simp only at hnW
  refine ⟨(newq_any s W).mono fun e w1 ⟨hq, k1⟩ => ?_⟩
  rcases hq with ⟨hne, _⟩ | ⟨_, b, mb, he, hQ, gb, gm⟩
  · exact absurd hs hne
  refine ⟨_, _, he, .of_k0 k1, bsp_intro (fun h => by simp at h) (fun _ => fun W2 hW2 => ?_)⟩
  have hn2 : W2.heap[n]? = some (.cells #[.string s, .int .i64 0, .slice none 0 0] 62 (0, 0)) := hW2.cells 0 rfl
  have k02 : K0 w W2 := hW2.k0 (kW.trans k1)
  have hbB := block_lt hQ.blk
  have hmB := hQ.map.lt
  have sW := kW.size
  have sW1 := k1.size
  have hM : ∀ k, (∃ x ∈ [Blk.mk n 62 [.string s, .int .i64 0, .slice none 0 0] (wrM 0)], x.m = 1 ∧ x.n = k) → k = n := fun k ⟨x, hx, _, e⟩ => by simp at hx; subst hx; exact e.symm
  have hQ2 : QR W2 b mb s 0 [] := hQ.kp (hW2.kp.mono fun k _ h => hM k h) (fun e => by omega) (fun e => by omega) (fun g hg e => by omega)
  have sz2 : w1.heap.size ≤ W2.heap.size := hW2.kp.size
  refine ⟨fun vs w' => ∃ (i : Nat) (last : Int) (l : List (Int × Qd)) (L : List Wx) (q : Option Addr) (d : Nat), vs = [.pointer (some ⟨b, 0, none⟩), .int .i64 (i : Int)] ∧ i ≤ 30 ∧ w'.heap[n]? = some (.cells #[.string s, .int .i64 last, .slice q L.length d] 62 (0, 0)) ∧ PlI w w' b mb w1.heap.size s i last l L q d,
    fun vs _ => (match vs with | _ :: .int _ a :: _ => 30 - a.toNat | _ => 0), ⟨0, 0, [], [], none, 0, rfl, by omega, hn2, ⟨k02, hQ2, WR.nil _, (fun g o e => by cases e), (fun x hx => by cases hx), QL.nil, Int.le_refl _, Int.le_refl _, Nat.le_refl _, sz2⟩⟩, ?_⟩
  rintro xp x2 w3 ⟨i, last, l, L, q, d, hv, hi30, hn3, hI⟩
  simp only [List.cons.injEq, Value.int.injEq, Value.pointer.injEq, true_and, and_true] at hv
  obtain ⟨rfl, rfl⟩ := hv
  have hlast : 0 ≤ last ∧ last ≤ 4611686018427387904 := ⟨hI.h0, by have := hI.h1; omega⟩
  have hll : l.length ≤ 30 := by have := hI.hl.len; have := hI.h2; omega
  have hLl : L.length ≤ 1000 := by have := hI.h2; omega
  have gb0 : w.heap.size ≤ b := by omega
  have gm0 : w.heap.size ≤ mb := by omega
  have hnb : n < b := by omega
  have hnm : n ≠ mb := by omega
  have hnB : n < w1.heap.size := by omega
  have hMB : ∀ k, (k = b ∨ k = mb) → k < w1.heap.size ∧ w.heap.size ≤ k ∧ k ≠ n := fun k h => by omega
  refine bsp_intro (fun hlt => ?_) (fun hge => ?_)
  rotate_left
  · -- the end
    refine ⟨s, last, q, L.length, d, fun W4 hW4 => AtL_block ((hW4.kk rfl : K0 w3 W4).blk hn3 (fun h => h)) rfl, fun W4 hW4 => ⟨WrL_block ((hW4.kk rfl : K0 w3 W4).blk hn3 (fun h => h)) (Nat.le_refl 3), fun w5 h5 => ?_⟩⟩
    have k4 : K0 w3 W4 := hW4.kk rfl
    obtain ⟨h6, hI6⟩ := pl_fin (hI.k0 k4) (k4.blk hn3 (fun h => h)) rfl gn hnb hnm hnB h5
    refine ⟨⟨by rw [h5.size]; exact Nat.le_refl _, fun z hz => by cases hz⟩, s, last, q, L.length, d, AtL_block h6 rfl, b, mb, w1.heap.size, last, l, L, q, d, rfl, ⟨hI6.k, hI6.hq, hI6.hw, hI6.bq, hI6.bx, hI6.hl, hI6.h0, by have := hI6.h1; omega, by have := hI6.h2; omega, hI6.sz⟩, gb0, gm0, by omega, hbB, hmB⟩
  simp only [Bool.and_eq_true, decide_eq_true_eq] at hlt
  have hi1 : i < Os.length := by omega
  have hi2 : i < 30 := by omega
  obtain ⟨o, bo, oo, ho, hp, hat⟩ := RowA.get (fun k y hy => (hR.k0 hI.k) k y hy) hi1
  have hOo := (hO o (List.mem_of_getElem? ho)).k0 hI.k
  have hrest : ∀ (w6 : World) (last' : Int) (l' : List (Int × Qd)) (L' : List Wx) (q' : Option Addr) (d' : Nat), w6.heap[n]? = some (.cells #[.string s, .int .i64 last', .slice q' L'.length d'] 62 (0, 0)) → PlI w w6 b mb w1.heap.size s (i + 1) last' l' L' q' d' →
      (∃ (i' : Nat) (last : Int) (l : List (Int × Qd)) (L : List Wx) (q : Option Addr) (d : Nat), [Value.pointer (some ⟨b, 0, none⟩), .int .i64 (IntKind.i64.wrap ((i : Int) + 1))] = [.pointer (some ⟨b, 0, none⟩), .int .i64 (i' : Int)] ∧ i' ≤ 30 ∧ w6.heap[n]? = some (.cells #[.string s, .int .i64 last, .slice q L.length d] 62 (0, 0)) ∧ PlI w w6 b mb w1.heap.size s i' last l L q d) ∧
      (match [Value.pointer (some ⟨b, 0, none⟩), .int .i64 (IntKind.i64.wrap ((i : Int) + 1))] with | _ :: .int _ a :: _ => 30 - a.toNat | _ => 0) < (match [Value.pointer (some ⟨b, 0, none⟩), .int .i64 (i : Int)] with | _ :: .int _ a :: _ => 30 - a.toNat | _ => 0) := fun w6 last' l' L' q' d' h1 h2 => by
    rw [inc64 (by omega)]
    exact ⟨⟨i + 1, last', l', L', q', d', rfl, by omega, h1, h2⟩, by simp only [Int.toNat_natCast]; omega⟩
  refine nn_is hp ⟨⟨by omega, by omega⟩, o.k, o.m.fu, o.m.fs, o.m.tu, o.m.ts, o.m.n, o.m.d, o.m.sj, o.p, o.m.hops.length, o.c, o.m.bd, o.n, o.now, o.code, o.fin, by rw [Int.toNat_natCast]; exact hat, fun n2 => ?_⟩
  refine bsp_intro (fun h0 => fun W4 hW4 => ?_) (fun h0 => bsp_intro (fun h1 => fun W4 hW4 => ?_) (fun h1 => fun W4 hW4 => ?_))
  · -- Add
    have k4 : K0 w3 W4 := hW4.kk rfl
    have g2 : w3.heap.size ≤ n2 := hW4.fresh 0 rfl rfl
    have hn2W := block_lt (hW4.cells 0 rfl)
    simp only at hn2W
    refine ⟨(to_any o.m o.p o.c W4 (hOo.str.k0 k4) hOo.hl).mono fun e w5 ⟨⟨q1, d1, he, ho1⟩, k5⟩ => ⟨_, _, _, _, _, _, _, _, _, _, _, he, .of_k0 k5, fun n4 W6 hW6 => ?_⟩⟩
    have hzx : (toM o.m).fu.size ≤ 4611686018427387904 ∧ (toM o.m).tu.size ≤ 4611686018427387904 := ⟨hOo.z.1, hOo.z.2.2.1⟩
    have hlx : (toM o.m).hops.length ≤ 20 := by show (o.m.hops.take 20).length ≤ 20; rw [List.length_take]; omega
    have hbx : (toM o.m).bd.size ≤ 33000 := by show (o.m.bd.extract 0 (min o.m.bd.size 33000)).size ≤ 33000; rw [ByteArray.size_extract]; omega
    generalize toM o.m = x at *
    have k6 : K0 w5 W6 := hW6.kk rfl
    have g4 : w5.heap.size ≤ n4 := hW6.fresh 0 rfl rfl
    have k36 := (k4.trans k5).trans k6
    have hI6 := hI.k0 k36
    have hn4W := block_lt (hW6.cells 0 rfl)
    simp only at hn4W
    have s45 := k5.size
    have s34 := k4.size
    have hs3 := hI.sz
    have hb6 : W6.heap[n]? = _ := k36.blk hn3 (fun h => h)
    refine ⟨(qadd_any b mb s last l x q1 d1 o.now W6 hI6.hq ((strP_own ho1).k0 k6) (fun g oo hg e => ?_) (own_le ho1) (by omega) (by omega) hlast).mono fun e w7 hA => ?_⟩
    · have := strP_base ho1 g oo hg; omega
    have hkeep : ∀ {u v : World}, Kp (fun k => k = b ∨ k = mb) u v → KeptL [n4, n2] u v := fun hk => .of_kp hk (fun z hz e => by have := hMB z e; simp at hz; omega)
    rcases hA with ⟨he, hbad, k7⟩ | ⟨hc0, hmn, hlen, he, ⟨p5, c5, hQ7⟩, k7⟩
    · refine ⟨_, _, he, .of_k0 k7, fun W8 hW8 => ?_⟩
      have k8 : K0 w7 W8 := hW8.kk rfl
      have hI8 := (hI6.k0 k7).k0 k8
      have hb8 := (k7.trans k8).blk hb6 (fun h => h)
      have hc4 := hW8.cells 0 rfl
      have hc2 := hW8.cells 1 rfl
      refine ⟨fun wx => K0 W8 wx, .refl _ _, s, last, q, L.length, d, fun wx k => AtL_block (k.blk hb8 (fun h => h)) rfl, x.fu, x.fs, x.tu, x.ts, x.n, x.d, x.sj, q1, x.hops.length, d1, x.bd, fun wx k => AtL_block (k.blk hc4 (fun h => h)) rfl, o.now, fun wx k => cell_at (k.blk hc2 (fun h => h)) rfl, ?_⟩
      refine ⟨(of_any x q1 d1 W8 ((strP_own ho1).k0 ((k6.trans k7).trans k8)) (by omega)).mono fun e w9 ⟨⟨q2, d2, he, ho2⟩, k9⟩ => ⟨_, _, _, _, _, _, _, _, _, _, _, he, k9, ?_⟩⟩
      refine ⟨(radd_any s last L q d x q2 d2 o.now w9 (hI8.hw.k0 k9) hLl hlast (strP_own ho2) (own_le ho2) hzx (by omega)).mono fun e w10 ⟨hA2, k10⟩ => ?_⟩
      rcases hA2 with ⟨he, _⟩ | ⟨h1, h2, _⟩
      rotate_left
      · exfalso
        rcases hbad with h | h | h
        · exact h h1
        · rw [h2] at h; cases h
        · omega
      have hI10 := (hI8.k0 k9).k0 k10
      have hb10 := (k9.trans k10).blk hb8 (fun h => h)
      refine ⟨_, _, _, _, _, _, _, he, WrL_block hb10 (Nat.le_refl 3), fun w11 h11 => ⟨⟨by rw [h11.size]; exact (k9.trans k10).size, fun z hz hlt' => ?_⟩, bsp_intro (fun h => by exfalso; simp at h) (fun _ => ?_)⟩⟩
      · have hz : z = n4 ∨ z = n2 := by simpa using hz
        rw [h11.kp.block z (Nat.lt_of_lt_of_le hlt' (k9.trans k10).size) (fun e => by omega), (k9.trans k10).block z hlt' (fun h => h)]
      obtain ⟨h12, hI12⟩ := pl_fin hI10.up hb10 rfl gn hnb hnm hnB h11
      exact hrest _ _ _ _ _ _ h12 hI12
    · refine ⟨_, _, he, hkeep k7, fun W8 hW8 => ?_⟩
      have k8 : K0 w7 W8 := hW8.kk rfl
      have kz : K0 w W8 := (hI6.k.fresh k7 (fun j hj e => by have := hMB j e; omega)).trans k8
      have hb8 := k8.blk (k7.blk hb6 (fun e => (hMB n e).2.2 rfl)) (fun h => h)
      have hW8r := (hI6.hw.kp k7 (fun g o e e2 => by have := hMB g e2; have := hI6.bq g o e; omega) (fun x hx g o e e2 => by have := hMB g e2; have := hI6.bx x hx g o e; omega)).k0 k8
      have hc4 := hW8.cells 0 rfl
      have hc2 := hW8.cells 1 rfl
      have hS1 : StrP W8 q1 x.hops := (((strP_own ho1).k0 k6).kp k7 (fun g oo hg e => by have := hMB g e; have := strP_base ho1 g oo hg; omega)).k0 k8
      have s78 := k8.size
      have s67 := k7.size
      have s56 := k6.size
      refine ⟨fun wx => K0 W8 wx, .refl _ _, s, last, q, L.length, d, fun wx k => AtL_block (k.blk hb8 (fun h => h)) rfl, x.fu, x.fs, x.tu, x.ts, x.n, x.d, x.sj, q1, x.hops.length, d1, x.bd, fun wx k => AtL_block (k.blk hc4 (fun h => h)) rfl, o.now, fun wx k => cell_at (k.blk hc2 (fun h => h)) rfl, ?_⟩
      refine ⟨(of_any x q1 d1 W8 hS1 (by omega)).mono fun e w9 ⟨⟨q2, d2, he, ho2⟩, k9⟩ => ⟨_, _, _, _, _, _, _, _, _, _, _, he, k9, ?_⟩⟩
      refine ⟨(radd_any s last L q d x q2 d2 o.now w9 (hW8r.k0 k9) hLl hlast (strP_own ho2) (own_le ho2) hzx (by omega)).mono fun e w10 ⟨hA2, k10⟩ => ?_⟩
      rcases hA2 with ⟨_, h1⟩ | ⟨_, _, p9, c9, he, ho10⟩
      · exfalso
        rcases h1 with h | h | h
        · exact h hc0
        · rw [hmn] at h; cases h
        · omega
      have hb10 := (k9.trans k10).blk hb8 (fun h => h)
      refine ⟨_, _, _, _, _, _, _, he, WrL_block hb10 (Nat.le_refl 3), fun w11 h11 => ⟨⟨by rw [h11.size]; exact (k9.trans k10).size, fun z hz hlt' => ?_⟩, bsp_intro (fun h => by exfalso; simp at h) (fun _ => ?_)⟩⟩
      · have hz : z = n4 ∨ z = n2 := by simpa using hz
        rw [h11.kp.block z (Nat.lt_of_lt_of_le hlt' (k9.trans k10).size) (fun e => by omega), (k9.trans k10).block z hlt' (fun h => h)]
      have s910 := k9.size
      have hI10 : PlI w w10 b mb w1.heap.size s (i + 1) (last + 1) (aset l (last + 1) ⟨x, p5, c5, 0, o.now⟩) (L ++ [nwx last o.now x q2 d2]) p9 c9 := by
        refine ⟨kz.trans (k9.trans k10), (hQ7.k0 k8).k0 (k9.trans k10), WR.own ho10 (fun y hy => ?_) (fun y hy => ?_), fun g oo e => by have := row_base ho10 g oo e; omega, fun y hy g oo e => ?_, hI.hl.add hlast.1 rfl rfl, by omega, by have := hI.h1; omega, by have := hI.h2; simp; omega, by have := k10.size; omega⟩
        · rcases List.mem_append.1 hy with hy | hy
          · exact (hW8r.str y hy).k0 (k9.trans k10)
          · simp at hy; subst hy; exact (strP_own ho2).k0 k10
        · rcases List.mem_append.1 hy with hy | hy
          · exact hW8r.ok y hy
          · simp at hy; subst hy; exact ⟨hc0, own_le ho2, Int.le_refl _, by show (0 : Int) ≤ 7; omega⟩
        · rcases List.mem_append.1 hy with hy | hy
          · exact hI.bx y hy g oo e
          · simp at hy; subst hy; have := strP_base ho2 g oo e; omega
      obtain ⟨h12, hI12⟩ := pl_fin hI10 hb10 rfl gn hnb hnm hnB h11
      exact hrest _ _ _ _ _ _ h12 hI12
  · -- Done
    have k4 : K0 w3 W4 := hW4.kk rfl
    have g2 : w3.heap.size ≤ n2 := hW4.fresh 0 rfl rfl
    have hI4 := hI.k0 k4
    have hb4 : W4.heap[n]? = _ := k4.blk hn3 (fun h => h)
    have hs3 := hI.sz
    refine ⟨(qdone_any b mb s last l o.n W4 hOo.n hI4.hq).mono fun e w5 ⟨he, hQ5, k5⟩ => ?_⟩
    have hb5 := k5.blk hb4 (fun e => (hMB n e).2.2 rfl)
    have k05 : K0 w w5 := hI4.k.fresh k5 (fun j hj e => by have := hMB j e; omega)
    have hW5 := hI4.hw.kp k5 (fun g o e e2 => by have := hMB g e2; have := hI4.bq g o e; omega) (fun x hx g o e e2 => by have := hMB g e2; have := hI4.bx x hx g o e; omega)
    refine ⟨_, he, .of_kp k5 (fun z hz e => by have := hMB z e; simp at hz; omega), s, last, q, L.length, d, AtL_block hb5 rfl, ?_⟩
    refine ⟨(rdone_any s last L q d o.n w5 hW5 hLl).mono fun e w6 ⟨hA, k6⟩ => ?_⟩
    have hb6 := k6.blk hb5 (fun h => h)
    have s45 := k5.size
    have s56 := k6.size
    have s34 := k4.size
    rcases hA with ⟨he, hno⟩ | ⟨j, y, p6, c6, he, hy, hya, ho6⟩
    · have hnone := hI.hl.no hno
      rw [hnone] at hQ5 ⊢
      refine ⟨_, _, _, _, _, _, he, .of_k0 k6, WrL_block hb6 (Nat.le_refl 3), fun w7 h7 => ⟨.of_kp h7.kp (fun z hz e => by simp at hz; omega), bsp_intro (fun h => by exfalso; simp at h) (fun _ => ?_)⟩⟩
      have hI6 : PlI w w6 b mb w1.heap.size s (i + 1) last l L q d := ⟨k05.trans k6, hQ5.k0 k6, hW5.k0 k6, hI.bq, hI.bx, hI.hl, hI.h0, by have := hI.h1; omega, by have := hI.h2; omega, by omega⟩
      obtain ⟨h12, hI12⟩ := pl_fin hI6 hb6 rfl gn hnb hnm hnB h7
      exact hrest _ _ _ _ _ _ h12 hI12
    · obtain ⟨q0, hget, _⟩ := hI.hl.get hy
      rw [hya] at hget
      rw [hget] at hQ5 ⊢
      refine ⟨_, _, _, _, _, _, he, .of_k0 k6, WrL_block hb6 (Nat.le_refl 3), fun w7 h7 => ⟨.of_kp h7.kp (fun z hz e => by simp at hz; omega), bsp_intro (fun h => by exfalso; simp at h) (fun _ => ?_)⟩⟩
      have hsub : ∀ x ∈ L.eraseIdx j, x ∈ L := fun x hx => (List.eraseIdx_sublist _ _).subset hx
      have hl2 := hI.hl.del hy
      rw [hya] at hl2
      have hI6 : PlI w w6 b mb w1.heap.size s (i + 1) last (adel l o.n) (L.eraseIdx j) p6 c6 := ⟨k05.trans k6, hQ5.k0 k6, WR.own ho6 (fun x hx => (hW5.str x (hsub x hx)).k0 k6) (fun x hx => hW5.ok x (hsub x hx)), fun g oo e => by have := row_base ho6 g oo e; omega, fun x hx => hI.bx x (hsub x hx), hl2, hI.h0, by have := hI.h1; omega, by have := hI.h2; have := (List.eraseIdx_sublist L j).length_le; omega, by omega⟩
      obtain ⟨h12, hI12⟩ := pl_fin hI6 hb6 rfl gn hnb hnm hnB h7
      exact hrest _ _ _ _ _ _ h12 hI12
  · -- Fail
    have k4 : K0 w3 W4 := hW4.kk rfl
    have g2 : w3.heap.size ≤ n2 := hW4.fresh 0 rfl rfl
    have hI4 := hI.k0 k4
    have hb4 : W4.heap[n]? = _ := k4.blk hn3 (fun h => h)
    have hs3 := hI.sz
    have s34 := k4.size
    refine ⟨(qfail_any b mb s last l o.n o.now o.code o.fin W4 hI4.hq hOo.n hOo.code hlast (hT.k0 hI4.k)).mono fun e w5 hF => ?_⟩
    have hF' : ∃ (nn : Int) (is : Bool) (ee last' : Int) (l' : List (Int × Qd)), e = .returned (.tuple #[.int .i64 nn, .bool is, .int .i64 ee]) ∧ QR w5 b mb s last' l' ∧ Kp (fun k => k = b ∨ k = mb) W4 w5 ∧
        ((aget l o.n = none ∧ nn = 0 ∧ is = false ∧ ee = 8 ∧ last' = last ∧ l' = l) ∨
         (∃ x, aget l o.n = some x ∧ (
          (minB o.now = false ∧ nn = 0 ∧ is = false ∧ ee = 13 ∧ last' = last ∧ l' = l) ∨
          (minB o.now = true ∧ o.fin = false ∧ x.f + 1 < 8 ∧ nn = 0 ∧ is = false ∧ ee = 0 ∧ last' = last ∧ l' = aset l o.n ⟨x.m, x.p, x.c, x.f + 1, failD x o.now⟩) ∨
          (minB o.now = true ∧ (o.fin = true ∨ 8 ≤ x.f + 1) ∧ bncM x.m s o.code o.now = none ∧ nn = 0 ∧ is = false ∧ ee = 0 ∧ last' = last ∧ l' = adel l o.n) ∨
          (minB o.now = true ∧ (o.fin = true ∨ 8 ≤ x.f + 1) ∧ ∃ y p' c', bncM x.m s o.code o.now = some y ∧ nn = last + 1 ∧ is = true ∧ ee = 0 ∧ last' = last + 1 ∧ l' = aset (adel l o.n) (last + 1) ⟨y, p', c', 0, o.now⟩)))) := by
      rcases hF with ⟨h1, he, hk⟩ | ⟨x, h1, ⟨h2, he, hk⟩ | ⟨h2, h3, h4, he, hQ, hk⟩ | ⟨h2, h3, h4, he, hQ, hk⟩ | ⟨h2, h3, y, h4, he, ⟨p', c', hQ⟩, hk⟩⟩
      · exact ⟨_, _, _, _, _, he, hI4.hq.k0 hk, hk.mono fun _ _ h => h.elim, .inl ⟨h1, rfl, rfl, rfl, rfl, rfl⟩⟩
      · exact ⟨_, _, _, _, _, he, hI4.hq.k0 hk, hk.mono fun _ _ h => h.elim, .inr ⟨x, h1, .inl ⟨h2, rfl, rfl, rfl, rfl, rfl⟩⟩⟩
      · exact ⟨_, _, _, _, _, he, hQ, hk, .inr ⟨x, h1, .inr (.inl ⟨h2, h3, h4, rfl, rfl, rfl, rfl, rfl⟩)⟩⟩
      · exact ⟨_, _, _, _, _, he, hQ, hk, .inr ⟨x, h1, .inr (.inr (.inl ⟨h2, h3, h4, rfl, rfl, rfl, rfl, rfl⟩))⟩⟩
      · exact ⟨_, _, _, _, _, he, hQ, hk, .inr ⟨x, h1, .inr (.inr (.inr ⟨h2, h3, y, p', c', h4, rfl, rfl, rfl, rfl, rfl⟩))⟩⟩
    clear hF
    obtain ⟨nn, is, ee, last', l', he5, hQ5, k5, hF⟩ := hF'
    have hb5 := k5.blk hb4 (fun e => (hMB n e).2.2 rfl)
    have k05 : K0 w w5 := hI4.k.fresh k5 (fun j hj e => by have := hMB j e; omega)
    have hW5 := hI4.hw.kp k5 (fun g o e e2 => by have := hMB g e2; have := hI4.bq g o e; omega) (fun x hx g o e e2 => by have := hMB g e2; have := hI4.bx x hx g o e; omega)
    refine ⟨_, _, _, he5, .of_kp k5 (fun z hz e => by have := hMB z e; simp at hz; omega), s, last, q, L.length, d, AtL_block hb5 rfl, ?_⟩
    clear he5
    refine ⟨(rfail_any s last L q d o.n o.now o.code o.fin w5 hW5 hLl hI.hl.upW hlast hOo.code).mono fun e w6 ⟨hA, k6⟩ => ?_⟩
    have hb6 := k6.blk hb5 (fun h => h)
    have s45 := k5.size
    have s56 := k6.size
    have hA' : ∃ (L' : List Wx) (q' : Option Addr) (d' : Nat), e = .returned (.tuple #[qV s last' q' L'.length d', .int .i64 nn, .bool is, .int .i64 ee]) ∧ PlI w w6 b mb w1.heap.size s (i + 1) last' l' L' q' d' := by
      have same : ∀ {lx : Int} {ll : List (Int × Qd)}, lx = last → ll = l → QR w5 b mb s lx ll → PlI w w6 b mb w1.heap.size s (i + 1) lx ll L q d := fun e1 e2 hq => by
        subst e1 e2
        exact ⟨k05.trans k6, hq.k0 k6, hW5.k0 k6, hI.bq, hI.bx, hI.hl, hI.h0, by have := hI.h1; omega, by have := hI.h2; omega, by omega⟩
      rcases hA with ⟨he, hno⟩ | ⟨j, y, hy, hya, hA⟩
      · have hnone := hI.hl.no hno
        rcases hF with ⟨_, rfl, rfl, rfl, h1, h2⟩ | ⟨x, h, _⟩
        · exact ⟨L, q, d, by rw [h1]; exact he, same h1 h2 hQ5⟩
        · rw [hnone] at h; cases h
      obtain ⟨x0, hget, hx1, hx2, hx3⟩ := hI.hl.get hy
      rw [hya] at hget
      rcases hF with ⟨h, _⟩ | ⟨x, h, hF⟩
      · rw [hget] at h; cases h
      rw [hget] at h
      cases h
      have hsub : ∀ x ∈ L.eraseIdx j, x ∈ L := fun x hx => (List.eraseIdx_sublist _ _).subset hx
      have hjl : j < L.length := (List.getElem?_eq_some_iff.1 hy).1
      have hym := List.mem_of_getElem? hy
      rcases hA with ⟨a1, he⟩ | ⟨a1, a2, a3, p', c', he, ho6⟩ | ⟨a1, a2, a3, p', c', he, ho6⟩ | ⟨a1, a2, z, a3, p', c', he, ho6⟩
      · rcases hF with ⟨_, rfl, rfl, rfl, h1, h2⟩ | ⟨h, _⟩ | ⟨h, _⟩ | ⟨h, _⟩
        · exact ⟨L, q, d, by rw [h1]; exact he, same h1 h2 hQ5⟩
        all_goals (rw [a1] at h; cases h)
      · rcases hF with ⟨h, _⟩ | ⟨_, _, _, rfl, rfl, rfl, rfl, rfl⟩ | ⟨_, h, _⟩ | ⟨_, h, _⟩
        · rw [a1] at h; cases h
        · refine ⟨_, p', c', he, ⟨k05.trans k6, hQ5.k0 k6, WR.own ho6 (fun u hu => ?_) (fun u hu => ?_), fun g oo e => by have := row_base ho6 g oo e; omega, fun u hu g oo e => ?_, ?_, hI.h0, by have := hI.h1; omega, by have := hI.h2; simp; omega, by omega⟩⟩
          · rcases List.mem_or_eq_of_mem_set hu with hu | rfl
            · exact (hW5.str u hu).k0 k6
            · exact (hW5.str y hym).k0 k6
          · rcases List.mem_or_eq_of_mem_set hu with hu | rfl
            · exact hW5.ok u hu
            · obtain ⟨o1, o2, o3, o4⟩ := hW5.ok y hym
              exact ⟨o1, o2, by show 0 ≤ y.f + 1; omega, by show y.f + 1 ≤ 7; omega⟩
          · rcases List.mem_or_eq_of_mem_set hu with hu | rfl
            · exact hI.bx u hu g oo e
            · exact hI.bx y hym g oo e
          · rw [← hya]
            refine hI.hl.set hy rfl ?_
            show ((failD x0 o.now, x0.f + 1, x0.m) : Int × Int × Ml) = (o.now + 5 * 2 ^ y.f.toNat, y.f + 1, y.m)
            unfold failD
            rw [hx2, hx3]
        · exfalso; rcases h with h | h
          · rw [a2] at h; cases h
          · omega
        · exfalso; rcases h with h | h
          · rw [a2] at h; cases h
          · omega
      · rcases hF with ⟨h, _⟩ | ⟨_, h1, h2, _⟩ | ⟨_, _, _, rfl, rfl, rfl, rfl, rfl⟩ | ⟨_, _, y1, _, _, h, _⟩
        · rw [a1] at h; cases h
        · exfalso; rcases a2 with h | h
          · rw [h1] at h; cases h
          · omega
        · have hl2 := hI.hl.del hy
          rw [hya] at hl2
          exact ⟨_, p', c', he, ⟨k05.trans k6, hQ5.k0 k6, WR.own ho6 (fun x hx => (hW5.str x (hsub x hx)).k0 k6) (fun x hx => hW5.ok x (hsub x hx)), fun g oo e => by have := row_base ho6 g oo e; omega, fun x hx => hI.bx x (hsub x hx), hl2, hI.h0, by have := hI.h1; omega, by have := hI.h2; have := (List.eraseIdx_sublist L j).length_le; omega, by omega⟩⟩
        · rw [hx3, a3] at h; cases h
      · rcases hF with ⟨h, _⟩ | ⟨_, h1, h2, _⟩ | ⟨_, _, h, _⟩ | ⟨_, _, y1, p1, c1, h, rfl, rfl, rfl, rfl, rfl⟩
        · rw [a1] at h; cases h
        · exfalso; rcases a2 with h | h
          · rw [h1] at h; cases h
          · omega
        · rw [hx3, a3] at h; cases h
        · rw [hx3, a3] at h
          cases h
          have hl2 := hI.hl.del hy
          rw [hya] at hl2
          obtain ⟨hz0, hzh, _⟩ := bnc_ok hOo.code a3
          refine ⟨_, p', c', he, ⟨k05.trans k6, hQ5.k0 k6, WR.own ho6 (fun u hu => ?_) (fun u hu => ?_), fun g oo e => by have := row_base ho6 g oo e; omega, fun u hu g oo e => ?_, hl2.add hlast.1 rfl rfl, by omega, by have := hI.h1; omega, by have := hI.h2; have := (List.eraseIdx_sublist L j).length_le; simp; omega, by omega⟩⟩
          · rcases List.mem_append.1 hu with hu | hu
            · exact (hW5.str u (hsub u hu)).k0 k6
            · simp at hu; subst hu; show StrP w6 none z.hops; rw [hzh]; exact strP_nil _ _
          · rcases List.mem_append.1 hu with hu | hu
            · exact hW5.ok u (hsub u hu)
            · simp at hu; subst hu; exact ⟨hz0, by show z.hops.length ≤ 0; rw [hzh]; exact Nat.le_refl _, Int.le_refl _, by show (0 : Int) ≤ 7; omega⟩
          · rcases List.mem_append.1 hu with hu | hu
            · exact hI.bx u (hsub u hu) g oo e
            · simp at hu; subst hu; cases e
    clear hA hF
    obtain ⟨L', q', d', he, hI6⟩ := hA'
    refine ⟨_, _, _, _, _, _, _, _, he, .of_k0 k6, WrL_block hb6 (Nat.le_refl 3), fun w7 h7 => ⟨.of_kp h7.kp (fun z hz e => by simp at hz; omega), bsp_intro (fun h => by exfalso; simp at h) (fun _ => ?_)⟩⟩
    obtain ⟨h12, hI12⟩ := pl_fin hI6 hb6 rfl gn hnb hnm hnB h7
    exact hrest _ _ _ _ _ _ h12 hI12

end Go.Proofs.YtmlmdljnfokebaaGreatDoor

/- The formulas of functions by the symbolic evaluator, and that each gives the call's contract. Written by a program (gen.py). No condition. -/
namespace Go.Proofs.YtmlmdljnfokebaaGreatDoor
set_option maxRecDepth 100000
set_option linter.unusedVariables false

def VC_lretries (fu : ByteArray) (fs : ByteArray) (tu : ByteArray) (ts : ByteArray) (n : Int) (d : Int) (sj : ByteArray) (hp : Option Addr) (hn : Nat) (hc : Nat) (bd : ByteArray) (s : ByteArray) (now : Int) (w : World) (R : Ending → World → Prop) : Prop :=
 ∀ (n_1 : Nat) (W : World),
 Loc w.heap.size
 [Blk.mk n_1 32
 [Value.string fu, Value.string fs, Value.string tu, Value.string ts, Value.int IntKind.i64 n,
 Value.int IntKind.i64 d, Value.string sj, Value.slice hp hn hc, Value.string bd]
 2]
 w W →
 CallsS Tryz.prog 14
 #[Value.agg
 #[Value.string fu, Value.string fs, Value.string tu, Value.string ts, Value.int IntKind.i64 n,
 Value.int IntKind.i64 d, Value.string sj, Value.slice hp hn hc, Value.string bd]]
 W fun (e : Ending) (w' : World) =>
 ∃ (x : ByteArray),
 ∃ (x_1 : ByteArray),
 ∃ (x_2 : ByteArray),
 ∃ (x_3 : ByteArray),
 ∃ (x_4 : Int),
 ∃ (x_5 : Int),
 ∃ (x_6 : ByteArray),
 ∃ (p : Option Addr),
 ∃ (n_2 : Nat),
 ∃ (c : Nat),
 ∃ (x_7 : ByteArray),
 e =
 Ending.returned
 (Value.agg
 #[Value.string x, Value.string x_1, Value.string x_2, Value.string x_3, Value.int IntKind.i64 x_4,
 Value.int IntKind.i64 x_5, Value.string x_6, Value.slice p n_2 c, Value.string x_7]) ∧
 KeptL [n_1] W w' ∧
 ∀ (n_3 : Nat),
 ((0 ≤ if 60 < (↑s.size : Int) then 60 else (↑s.size : Int)) ∧
 (if 60 < (↑s.size : Int) then 60 else (↑s.size : Int)) ≤ (↑s.size : Int)) ∧
 ∀ (W : World),
 Loc w.heap.size
 [Blk.mk n_3 26
 [Value.string x, Value.string x_1, Value.string x_2, Value.string x_3, Value.int IntKind.i64 x_4,
 Value.int IntKind.i64 x_5, Value.string x_6, Value.slice p n_2 c, Value.string x_7]
 (wrM 2),
 Blk.mk n_1 32
 [Value.string fu, Value.string fs, Value.string tu, Value.string ts, Value.int IntKind.i64 n,
 Value.int IntKind.i64 d, Value.string sj, Value.slice hp hn hc, Value.string bd]
 0]
 w' W →
 CallsS Tryz.prog 17
 #[Value.string (s.extract 0 (if 60 < (↑s.size : Int) then 60 else (↑s.size : Int)).toNat)] W
 fun (e : Ending) (w' : World) =>
 ∃ (x_8 : Option Addr),
 ∃ (x_9 : Int),
 e = Ending.returned (Value.tuple #[Value.pointer x_8, Value.int IntKind.i64 x_9]) ∧
 KeptL [n_3, n_1] W w' ∧
 CallsS Tryz.prog 13 #[] w' fun (e : Ending) (w'_1 : World) =>
 ∃ (x_10 : Bool),
 e = Ending.returned (Value.bool x_10) ∧
 KeptL [n_3, n_1] w' w'_1 ∧
 bsp (!x_10 || x_9 != 0 || decide (now < 0) || decide (now > 100000000))
 (CallsS Tryz.prog 13 #[] w'_1 fun (e : Ending) (w' : World) =>
 ∃ (x : Bool),
 e = Ending.returned (Value.bool x) ∧
 KeptL [n_3, n_1] w'_1 w' ∧ R (Ending.returned (Value.bool x)) w')
 (CallsS Tryz.prog 18
 #[Value.pointer x_8,
 Value.agg
 #[Value.string x, Value.string x_1, Value.string x_2, Value.string x_3,
 Value.int IntKind.i64 x_4, Value.int IntKind.i64 x_5, Value.string x_6,
 Value.slice p n_2 c, Value.string x_7],
 Value.int IntKind.i64 now]
 w'_1 fun (e : Ending) (w' : World) =>
 ∃ (x_11 : Int),
 ∃ (x_12 : Int),
 e =
 Ending.returned
 (Value.tuple #[Value.int IntKind.i64 x_11, Value.int IntKind.i64 x_12]) ∧
 KeptL [n_3, n_1] w'_1 w' ∧
 bsp (x_12 != 0)
 (bsp (x_11 == 0)
 (CallsS Tryz.prog 19 #[Value.pointer x_8] w' fun (e : Ending) (w'_2 : World) =>
 ∃ (x : Int),
 e = Ending.returned (Value.int IntKind.i64 x) ∧
 KeptL [n_3, n_1] w' w'_2 ∧
 R (Ending.returned (Value.bool (true && x == 0))) w'_2)
 (KeptL [n_3, n_1] w' w' ∧ R (Ending.returned (Value.bool false)) w'))
 (∃ (I : List Value → World → Prop),
 ∃ (m : List Value → World → Nat),
 I [Value.int IntKind.i64 1, Value.int IntKind.i64 5, Value.int IntKind.i64 now]
 w' ∧
 ∀ (x_13 x_14 x_15 : Int) (w' : World),
 I
 [Value.int IntKind.i64 x_13, Value.int IntKind.i64 x_14,
 Value.int IntKind.i64 x_15]
 w' →
 Loc w.heap.size
 [Blk.mk n_3 26
 [Value.string x, Value.string x_1, Value.string x_2, Value.string x_3,
 Value.int IntKind.i64 x_4, Value.int IntKind.i64 x_5, Value.string x_6,
 Value.slice p n_2 c, Value.string x_7]
 0,
 Blk.mk n_1 32
 [Value.string fu, Value.string fs, Value.string tu, Value.string ts,
 Value.int IntKind.i64 n, Value.int IntKind.i64 d, Value.string sj,
 Value.slice hp hn hc, Value.string bd]
 0]
 w' w' →
 bsp (decide (x_13 ≤ 8))
 (CallsS Tryz.prog 20
 #[Value.pointer x_8, Value.int IntKind.i64 x_11, Value.int IntKind.i64 x_15,
 Value.int IntKind.i64 26, Value.bool false]
 w' fun (e : Ending) (w'_2 : World) =>
 ∃ (x_16 : Int),
 ∃ (x_17 : Bool),
 ∃ (x_18 : Int),
 e =
 Ending.returned
 (Value.tuple
 #[Value.int IntKind.i64 x_16, Value.bool x_17,
 Value.int IntKind.i64 x_18]) ∧
 KeptL [n_3, n_1] w' w'_2 ∧
 bsp (x_18 != 0) (R (Ending.returned (Value.bool false)) w'_2)
 (CallsS Tryz.prog 21 #[Value.pointer x_8, Value.int IntKind.i64 x_11]
 w'_2 fun (e : Ending) (w'_3 : World) =>
 ∃ (x_19 : ByteArray),
 ∃ (x_20 : ByteArray),
 ∃ (x_21 : ByteArray),
 ∃ (x_22 : ByteArray),
 ∃ (x_23 : Int),
 ∃ (x_24 : Int),
 ∃ (x_25 : ByteArray),
 ∃ (p_1 : Option Addr),
 ∃ (n_4 : Nat),
 ∃ (c_1 : Nat),
 ∃ (x_26 : ByteArray),
 ∃ (x_27 : Int),
 ∃ (x_28 : Bool),
 e =
 Ending.returned
 (Value.tuple
 #[Value.agg
 #[Value.string x_19, Value.string x_20,
 Value.string x_21, Value.string x_22,
 Value.int IntKind.i64 x_23,
 Value.int IntKind.i64 x_24, Value.string x_25,
 Value.slice p_1 n_4 c_1, Value.string x_26],
 Value.int IntKind.i64 x_27, Value.bool x_28]) ∧
 KeptL [n_3, n_1] w'_2 w'_3 ∧
 ∀ (n_5 : Nat),
 bsp (x_13 == 8)
 (∃ (x_29 : ByteArray),
 gimp (!x_28)
 (∀ (W : World),
 Loc w.heap.size
 [Blk.mk n_3 26
 [Value.string x, Value.string x_1,
 Value.string x_2, Value.string x_3,
 Value.int IntKind.i64 x_4,
 Value.int IntKind.i64 x_5,
 Value.string x_6, Value.slice p n_2 c,
 Value.string x_7]
 0,
 Blk.mk n_1 32
 [Value.string fu, Value.string fs,
 Value.string tu, Value.string ts,
 Value.int IntKind.i64 n,
 Value.int IntKind.i64 d, Value.string sj,
 Value.slice hp hn hc, Value.string bd]
 0,
 Blk.mk n_5 26
 [Value.string x_19, Value.string x_20,
 Value.string x_21, Value.string x_22,
 Value.int IntKind.i64 x_23,
 Value.int IntKind.i64 x_24,
 Value.string x_25, Value.slice p_1 n_4 c_1,
 Value.string x_26]
 (wrM 2)]
 w'_3 W →
 W.cell? (Addr.mk n_3 0 none) =
 some (Value.string x_29)) ∧
 ∀ (W : World),
 Loc w.heap.size
 [Blk.mk n_3 26
 [Value.string x, Value.string x_1,
 Value.string x_2, Value.string x_3,
 Value.int IntKind.i64 x_4,
 Value.int IntKind.i64 x_5, Value.string x_6,
 Value.slice p n_2 c, Value.string x_7]
 0,
 Blk.mk n_1 32
 [Value.string fu, Value.string fs,
 Value.string tu, Value.string ts,
 Value.int IntKind.i64 n,
 Value.int IntKind.i64 d, Value.string sj,
 Value.slice hp hn hc, Value.string bd]
 0,
 Blk.mk n_5 26
 [Value.string x_19, Value.string x_20,
 Value.string x_21, Value.string x_22,
 Value.int IntKind.i64 x_23,
 Value.int IntKind.i64 x_24,
 Value.string x_25, Value.slice p_1 n_4 c_1,
 Value.string x_26]
 (wrM 2)]
 w'_3 W →
 bsp (!x_28 && x_17 == !x_29.toList == [])
 (bsp
 (x_17 && x_16 == IntKind.i64.wrap (x_11 + 1))
 (CallsS Tryz.prog 19 #[Value.pointer x_8] W
 fun (e : Ending) (w' : World) =>
 ∃ (x : Int),
 e =
 Ending.returned
 (Value.int IntKind.i64 x) ∧
 KeptL [n_3, n_1, n_5] W w' ∧
 bsp (!(true && x == 1))
 (bsp (!x_17 && x_16 == 0)
 (CallsS Tryz.prog 19
 #[Value.pointer x_8] w'
 fun (e : Ending) (w'_4 : World) =>
 ∃ (x : Int),
 e =
 Ending.returned
 (Value.int IntKind.i64 x) ∧
 KeptL [n_3, n_1, n_5] w' w'_4 ∧
 R
 (Ending.returned
 (Value.bool
 (true &&
 (false || true && x == 0))))
 w'_4)
 (KeptL [n_3, n_1, n_5] w' w' ∧
 R
 (Ending.returned
 (Value.bool
 (true && (false || false))))
 w'))
 (KeptL [n_3, n_1, n_5] w' w' ∧
 R
 (Ending.returned
 (Value.bool (true && true)))
 w'))
 (KeptL [n_3, n_1, n_5] W W ∧
 bsp (!x_17 && x_16 == 0)
 (CallsS Tryz.prog 19 #[Value.pointer x_8] W
 fun (e : Ending) (w' : World) =>
 ∃ (x : Int),
 e =
 Ending.returned
 (Value.int IntKind.i64 x) ∧
 KeptL [n_3, n_1, n_5] W w' ∧
 R
 (Ending.returned
 (Value.bool
 (true && (false || true && x == 0))))
 w')
 (KeptL [n_3, n_1, n_5] W W ∧
 R
 (Ending.returned
 (Value.bool (true && (false || false))))
 W)))
 (KeptL [n_3, n_1, n_5] W W ∧
 KeptL [n_3, n_1, n_5] W W ∧
 R (Ending.returned (Value.bool false)) W))
 (∀ (W : World),
 Loc w.heap.size
 [Blk.mk n_3 26
 [Value.string x, Value.string x_1,
 Value.string x_2, Value.string x_3,
 Value.int IntKind.i64 x_4,
 Value.int IntKind.i64 x_5, Value.string x_6,
 Value.slice p n_2 c, Value.string x_7]
 0,
 Blk.mk n_1 32
 [Value.string fu, Value.string fs,
 Value.string tu, Value.string ts,
 Value.int IntKind.i64 n,
 Value.int IntKind.i64 d, Value.string sj,
 Value.slice hp hn hc, Value.string bd]
 0,
 Blk.mk n_5 26
 [Value.string x_19, Value.string x_20,
 Value.string x_21, Value.string x_22,
 Value.int IntKind.i64 x_23,
 Value.int IntKind.i64 x_24, Value.string x_25,
 Value.slice p_1 n_4 c_1, Value.string x_26]
 (wrM 2)]
 w'_3 W →
 bsp
 (!(x_17 || !x_28 ||
 x_27 != IntKind.i64.wrap (x_15 + x_14)))
 (CallsS Tryz.prog 22
 #[Value.pointer x_8,
 Value.int IntKind.i64
 (IntKind.i64.wrap (x_27 - 1))]
 W fun (e : Ending) (w'_4 : World) =>
 ∃ (p : Option Addr),
 ∃ (n : Nat),
 ∃ (c : Nat),
 e = Ending.returned (Value.slice p n c) ∧
 KeptL [n_3, n_1, n_5] W w'_4 ∧
 bsp (!(false || (↑n : Int) != 0))
 (CallsS Tryz.prog 22
 #[Value.pointer x_8,
 Value.int IntKind.i64 x_27]
 w'_4 fun (e : Ending) (w'_5 : World) =>
 ∃ (p : Option Addr),
 ∃ (n : Nat),
 ∃ (c : Nat),
 e =
 Ending.returned
 (Value.slice p n c) ∧
 KeptL [n_3, n_1, n_5] w'_4 w'_5 ∧
 bsp (false || (↑n : Int) != 1)
 (R
 (Ending.returned
 (Value.bool false))
 w'_5)
 (I
 [Value.int IntKind.i64
 (IntKind.i64.wrap (x_13 + 1)),
 Value.int IntKind.i64
 (IntKind.i64.wrap (2 * x_14)),
 Value.int IntKind.i64 x_27]
 w'_5 ∧
 m
 [Value.int IntKind.i64
 (IntKind.i64.wrap (x_13 + 1)),
 Value.int IntKind.i64
 (IntKind.i64.wrap (2 * x_14)),
 Value.int IntKind.i64 x_27]
 w'_5 <
 m
 [Value.int IntKind.i64 x_13,
 Value.int IntKind.i64 x_14,
 Value.int IntKind.i64 x_15]
 w'))
 (KeptL [n_3, n_1, n_5] w'_4 w'_4 ∧
 R (Ending.returned (Value.bool false))
 w'_4))
 (KeptL [n_3, n_1, n_5] W W ∧
 KeptL [n_3, n_1, n_5] W W ∧
 R (Ending.returned (Value.bool false)) W))))
 (R (Ending.returned (Value.bool false)) w')))
theorem vc_lretries (fu : ByteArray) (fs : ByteArray) (tu : ByteArray) (ts : ByteArray) (n : Int) (d : Int) (sj : ByteArray) (hp : Option Addr) (hn : Nat) (hc : Nat) (bd : ByteArray) (s : ByteArray) (now : Int) (w : World) (R : Ending → World → Prop) (h : VC_lretries fu fs tu ts n d sj hp hn hc bd s now w R) : Calls Tryz.prog 5 ([Value.agg
    #[Value.string fu, Value.string fs, Value.string tu, Value.string ts, Value.int IntKind.i64 n,
      Value.int IntKind.i64 d, Value.string sj, Value.slice hp hn hc, Value.string bd],
  Value.string s, Value.int IntKind.i64 now] : List Value).toArray w R := by
  have e : execR2 { P := Tryz.prog, loops := [(10, [(13, Ck.int IntKind.i64), (12, Ck.int IntKind.i64), (2, Ck.int IntKind.i64)])], pur := purM, tails := [], joins := [], boxes := [] } Tryz.f5.results.toList R (Tryz.f5.body.getD .skip) (initF [Value.agg
    #[Value.string fu, Value.string fs, Value.string tu, Value.string ts, Value.int IntKind.i64 n,
      Value.int IntKind.i64 d, Value.string sj, Value.slice hp hn hc, Value.string bd],
  Value.string s,
  Value.int IntKind.i64
    now] (Tryz.f5.ntmps - ([Value.agg
    #[Value.string fu, Value.string fs, Value.string tu, Value.string ts, Value.int IntKind.i64 n,
      Value.int IntKind.i64 d, Value.string sj, Value.slice hp hn hc, Value.string bd],
  Value.string s,
  Value.int IntKind.i64
    now] : List Value).length)) w = VC_lretries fu fs tu ts n d sj hp hn hc bd s now w R := by kernel_rfl
  have hb : Tryz.f5.body = some (Tryz.f5.body.getD .skip) := by kernel_rfl
  exact calls_of_exec2' (P := Tryz.prog) (fn := Tryz.f5) (c := Tryz.f5.body.getD .skip) (args := [Value.agg
    #[Value.string fu, Value.string fs, Value.string tu, Value.string ts, Value.int IntKind.i64 n,
      Value.int IntKind.i64 d, Value.string sj, Value.slice hp hn hc, Value.string bd],
  Value.string s, Value.int IntKind.i64 now]) (w := w) (R := R) purM_ok Tryz.func5 hb e h

def VC_lsound (s : ByteArray) (w : World) (R : Ending → World → Prop) : Prop :=
 (9223372036854775807 - (↑((ByteArray.mk #[64]).size + s.size) : Int)).NonNeg ∧
 CallsS Tryz.prog 35 #[Value.string (ByteArray.mk #[64] ++ s)] w fun (e : Ending) (w' : World) =>
 ∃ (x : ByteArray),
 ∃ (x_1 : ByteArray),
 ∃ (x_2 : Int),
 e = Ending.returned (Value.tuple #[Value.agg #[Value.string x, Value.string x_1], Value.int IntKind.i64 x_2]) ∧
 KeptL [] w w' ∧
 ∀ (n : Nat) (W : World),
 Loc w.heap.size [Blk.mk n 30 [Value.string x, Value.string x_1] (wrM 2)] w' W →
 R (Ending.returned (Value.bool (x_2 == 0))) W
theorem vc_lsound (s : ByteArray) (w : World) (R : Ending → World → Prop) (h : VC_lsound s w R) : Calls Tryz.prog 23 ([Value.string
    s] : List Value).toArray w R := by
  have e : execR2 { P := Tryz.prog, loops := [], pur := purM, tails := [], joins := [], boxes := [] } Tryz.f23.results.toList R (Tryz.f23.body.getD .skip) (initF [Value.string
    s] (Tryz.f23.ntmps - ([Value.string s] : List Value).length)) w = VC_lsound s w R := by kernel_rfl
  have hb : Tryz.f23.body = some (Tryz.f23.body.getD .skip) := by kernel_rfl
  exact calls_of_exec2' (P := Tryz.prog) (fn := Tryz.f23) (c := Tryz.f23.body.getD .skip) (args := [Value.string
    s]) (w := w) (R := R) purM_ok Tryz.func23 hb e h

end Go.Proofs.YtmlmdljnfokebaaGreatDoor

/- Chapter 49: a text is a site's name exactly if its address without a user is one; the contract of the statements' sound. No condition but sizes. -/
namespace Go.Proofs.YtmlmdljnfokebaaGreatDoor
open Go.RowKit

theorem site_perm {s : ByteArray} (h : siteE s = 0) : ∀ j, j < s.size → permB (at8 s j) = true := by
  unfold siteE siteS at h
  split at h
  · exact absurd h (by decide)
  split at h
  · exact absurd h (by decide)
  split at h
  · have h : (6 : Int) = 0 := h
    exact absurd h (by decide)
  rename_i hn
  rw [List.find?_range_eq_none] at hn
  intro j hj
  have := hn j hj
  simpa using this
theorem adr_at (s : ByteArray) : (adrP (⟨#[64]⟩ ++ s)).2 = 0 ↔ siteE s = 0 := by
  have e0 : (⟨#[64]⟩ ++ s : ByteArray) = ⟨#[]⟩ ++ ⟨#[64]⟩ ++ s := by
    rw [show (⟨#[]⟩ ++ ⟨#[64]⟩ : ByteArray) = ⟨#[64]⟩ from rfl]
  have hcnt : cntAt (⟨#[64]⟩ ++ s) = 1 + cntAt s := by
    unfold cntAt Lib.countByte
    rw [ByteArray.data_append, Array.toList_append, List.count_append]; rfl
  have hf : findC 64 (⟨#[]⟩ ++ ⟨#[64]⟩ ++ s) = 0 := (findC_first 64 _).uniq (first_app (c := 64) (a := ⟨#[]⟩) (rest := s) (fun j hj => absurd hj (Nat.not_lt_zero _)))
  have ht : (⟨#[]⟩ ++ ⟨#[64]⟩ ++ s : ByteArray).extract (0 + 1) (⟨#[]⟩ ++ ⟨#[64]⟩ ++ s : ByteArray).size = s := app_tail (c := 64) (a := ⟨#[]⟩) (rest := s)
  have hcs : siteE s = 0 → cntAt s = 0 := fun h => by
    unfold cntAt Lib.countByte
    rw [List.count_eq_zero]
    intro hm
    obtain ⟨j, hj, e⟩ := List.getElem_of_mem hm
    have hj' : j < s.size := by simpa using hj
    have h1 := (getC 64).1 (show s.data.toList[j]? = some 64 by rw [List.getElem?_eq_getElem hj, e])
    have h2 := site_perm h j hj'
    rw [h1.2] at h2
    exact absurd h2 (by decide)
  unfold adrP
  rw [hcnt, e0, hf, ht]
  by_cases hs : siteE s = 0
  · rw [hcs hs, if_neg (by omega), if_neg (by rw [show (⟨#[]⟩ ++ ⟨#[64]⟩ ++ s : ByteArray).extract 0 0 = ⟨#[]⟩ by simp; rfl, user_nil]; decide), if_neg (by rw [hs]; decide)]
    exact ⟨fun _ => hs, fun _ => rfl⟩
  · refine ⟨fun h => absurd ?_ hs, fun h => absurd h hs⟩
    split at h
    · cases h
    split at h
    · cases h
    exact h
theorem lsound_any (s : ByteArray) (w : World) (hs : s.size ≤ 1073741823) :
    Calls Tryz.prog 23 #[.string s] w fun e w' => e = .returned (.bool (decide (siteE s = 0))) ∧ K0 w w' := by
  have hz : (⟨#[64]⟩ ++ s : ByteArray).size ≤ 1073741824 := by rw [ByteArray.size_append, size_one]; omega
  have hz2 : ((⟨#[64]⟩ : ByteArray).size + s.size) ≤ 4611686018427387904 := by rw [size_one]; omega
  have hd := adr_at s
  refine vc_lsound s w _ ⟨nneg hz2, ?_⟩
  have hx := xaddr_any (⟨#[64]⟩ ++ s) w hz
  generalize adrP (⟨#[64]⟩ ++ s) = A at hx hd
  refine ⟨hx.mono fun e w1 ⟨he, k1⟩ => ⟨_, _, _, he, .of_k0 k1, fun n W hW => ⟨?_, k1.trans (hW.kk rfl)⟩⟩⟩
  congr 2
  rw [Bool.eq_iff_iff, beq_iff_eq, decide_eq_true_eq]
  exact hd

end Go.Proofs.YtmlmdljnfokebaaGreatDoor

/- Chapter 49: the contract of Equal of messages. No condition but sizes. -/
namespace Go.Proofs.YtmlmdljnfokebaaGreatDoor
open Go.RowKit Go.Maps

theorem mequal_any (a b : Ml) (p : Option Addr) (c : Nat) (q : Option Addr) (d : Nat) (w : World) (hp : StrP w p a.hops) (hq : StrP w q b.hops) (hl : a.hops.length ≤ 1099511627776) (za : SzM a) (zb : SzM b) :
    Calls Tryz.prog 16 #[mxA a p c, mxA b q d] w fun e w' => e = .returned (.bool (eqM a b)) ∧ K0 w w' := by
  refine vc_mequal a.fu a.fs a.tu a.ts a.n a.d a.sj p a.hops.length c a.bd b.fu b.fs b.tu b.ts b.n b.d b.sj q b.hops.length d b.bd w _ (fun n1 n2 => ?_)
  refine ⟨_, adEq _ _ _ _ za.1 za.2.1 zb.1 zb.2.1, a.tu, a.ts, gimp_intro fun _ W hW => AtL_block (hW.cells 1 rfl) rfl, b.tu, b.ts, gimp_intro fun _ W hW => AtL_block (hW.cells 0 rfl) rfl, _, gimp_intro fun _ => adEq _ _ _ _ za.2.2.1 za.2.2.2 zb.2.2.1 zb.2.2.2, ?_⟩
  refine ⟨a.n, gimp_intro fun _ W hW => cell_at (hW.cells 1 rfl) rfl, b.n, gimp_intro fun _ W hW => cell_at (hW.cells 0 rfl) rfl, a.d, gimp_intro fun _ W hW => cell_at (hW.cells 1 rfl) rfl, b.d, gimp_intro fun _ W hW => cell_at (hW.cells 0 rfl) rfl, ?_⟩
  refine ⟨a.sj, gimp_intro fun _ W hW => cell_at (hW.cells 1 rfl) rfl, b.sj, gimp_intro fun _ W hW => cell_at (hW.cells 0 rfl) rfl, ?_⟩
  refine ⟨p, a.hops.length, c, gimp_intro fun _ W hW => cell_at (hW.cells 1 rfl) rfl, q, b.hops.length, d, gimp_intro fun _ W hW => cell_at (hW.cells 0 rfl) rfl, fun W hW => ?_⟩
  have kW : K0 w W := hW.kk rfl
  have hca := hW.cells 1 rfl
  have hcb := hW.cells 0 rfl
  refine bsp_intro (fun h => ?_) (fun h => ?_)
  · refine ⟨(sequal_any a.hops b.hops p c q d W (hp.k0 kW) (hq.k0 kW) hl).mono fun e w1 ⟨he, k1⟩ => ⟨_, he, .of_k0 k1, a.bd, gimp_intro fun _ => cell_at (k1.blk hca (fun h => h)) rfl, b.bd, gimp_intro fun _ => cell_at (k1.blk hcb (fun h => h)) rfl, ?_, kW.trans k1⟩⟩
    have e1 : eqM a b = (true && decide (a.hops = b.hops) && a.bd.toList == b.bd.toList) := by rw [← h]; rfl
    rw [e1]
  · refine ⟨.refl _ _, a.bd, trivial, b.bd, trivial, ?_, kW⟩
    have e1 : eqM a b = false := by
      unfold eqM
      generalize decide (a.hops = b.hops) = z
      generalize (a.bd.toList == b.bd.toList) = y
      rw [h]; rfl
    rw [e1]; rfl

end Go.Proofs.YtmlmdljnfokebaaGreatDoor

/- Chapter 49: MailQueues on worlds. No condition but the sizes that a reading gives, and the table of powers of ten. -/
namespace Go.Proofs.YtmlmdljnfokebaaGreatDoor
open Go.RowKit Go.Maps

set_option maxRecDepth 100000 in
set_option maxHeartbeats 4000000 in
theorem lqueues_any (s : ByteArray) (p : Option Addr) (c : Nat) (Os : List OpX) (n now : Int) (w : World) (hR : RowA opC 14 w p Os) (hO : ∀ x ∈ Os, OpR w x) (_hl : Os.length ≤ 4611686018427387904) (hn : I64 n) (_hnow : I64 now) (hT : GT w) :
    Calls Tryz.prog 6 #[.string s, .slice p Os.length c, .int .i64 n, .int .i64 now] w fun e w' => e = .returned (.bool true) ∧ K0 w w' := by
  refine vc_lqueues s p Os.length c n now w _ ⟨by split <;> omega, ?_⟩
  have hsz : ∀ k : Nat, k ≤ 60 → (s.extract 0 k).size ≤ 60 := fun k hk => by rw [ByteArray.size_extract]; omega
  have hsz := hsz (if (60 : Int) < (s.size : Int) then (60 : Int) else (s.size : Int)).toNat (by split <;> omega)
  generalize s.extract 0 _ = s' at *
  refine ⟨(known_any w hT).mono fun e w1 ⟨he, k1⟩ => ⟨_, he, .of_k0 k1, bsp_intro (fun h => by simp at h) (fun _ => ?_)⟩⟩
  refine ⟨(lsound_any s' w1 (by omega)).mono fun e w2 ⟨he, k2⟩ => ⟨_, he, .of_k0 k2, bsp_intro (fun h => ?_) (fun h => ?_)⟩⟩
  · have h : siteE s' ≠ 0 := by simpa using h
    refine ⟨(newq_any s' w2).mono fun e w3 ⟨hq, k3⟩ => ?_⟩
    rcases hq with ⟨_, he⟩ | ⟨h0, _⟩
    · exact ⟨_, _, he, .of_k0 k3, by simp [h], (k1.trans k2).trans k3⟩
    · exact absurd h0 h
  have hs0 : siteE s' = 0 := by simpa using h
  have k02 := k1.trans k2
  refine ⟨(lplay_any s' p c Os w2 hs0 (hR.k0 k02) (fun x hx => (hO x hx).k0 k02) (hT.k0 k02)).mono fun e w3 ⟨b, mb, B, last, l, L, q, d, he, hI, _⟩ => ⟨_, _, _, _, _, _, _, he, .of_k0 hI.k, fun n1 W4 hW4 => ?_⟩⟩
  have k4 : K0 w3 W4 := hW4.kk rfl
  have k04 := (k02.trans hI.k).trans k4
  have hb1 : W4.heap[n1]? = some (.cells #[.string s', .int .i64 last, .slice q L.length d] 62 (0, 0)) := hW4.cells 0 rfl
  have hLl : L.length ≤ 1000 := by have := hI.h2; omega
  have hll := hI.hl.len
  refine ⟨fun wx => K0 W4 wx, .refl _ _, q, L.length, d, gimp_intro fun _ wx k => cell_at (k.blk hb1 (fun h => h)) rfl, bsp_intro (fun _ => ?_) (fun h => by simp at h)⟩
  have hQ4 := hI.hq.k0 k4
  have hR4 := hI.hw.k0 k4
  refine ⟨(qlen_any b mb s' last l W4 hQ4).mono fun e w5 ⟨he, hw⟩ => ?_⟩
  subst hw
  refine ⟨_, he, .refl _ _, .of_k0 (.refl _ _), bsp_intro (fun h => by exfalso; rw [hll] at h; simp at h) (fun _ => fun W6 hW6 => ?_)⟩
  have k6 : K0 w5 W6 := hW6.kk rfl
  have hb6 := k6.blk hb1 (fun h => h)
  refine ⟨fun wx => K0 W6 wx, .refl _ _, s', last, q, L.length, d, fun wx k => AtL_block (k.blk hb6 (fun h => h)) rfl, ?_⟩
  refine ⟨(qdue_any b mb s' last l now W6 (hQ4.k0 k6) (by omega)).mono fun e w7 ⟨⟨ns, pa, ca, he, hoN, hpm, hpw⟩, k7⟩ => ⟨_, _, _, he, k7, ?_⟩⟩
  refine ⟨(rdue_any s' last L q d now w7 (hR4.k0 (k6.trans k7)) hLl hI.hl.upW).mono fun e w8 ⟨⟨out, pb, cb, he, hoO, hop, how⟩, k8⟩ => ⟨_, _, _, he, .of_k0 (k7.trans k8), ?_⟩⟩
  have hEq : ns.map (·.1) = out.map (·.n) := hI.hl.due hpm hpw hop how
  have hlen : ns.length = out.length := by have := congrArg List.length hEq; simpa using this
  have hol : out.length ≤ 1000 := by have := hop.length_eq; have h2 : (dueW L now).length ≤ L.length := List.length_filter_le _ _; omega
  have k48 := (k6.trans k7).trans k8
  have hoN8 := owns_kp hoN k8 (fun _ _ h => h)
  refine bsp_intro (fun h => by exfalso; rw [hlen] at h; simp at h) (fun _ => ?_)
  refine ⟨fun vs w' => ∃ i : Nat, vs = [.int .i64 (i : Int)] ∧ i ≤ ns.length ∧ K0 w8 w', fun vs _ => (match vs with | .int _ a :: _ => ns.length - a.toNat | _ => 0), ⟨0, rfl, by omega, .refl _ _⟩, ?_⟩
  rintro x w9 ⟨i, hv, hi, k9⟩ hL9
  simp only [List.cons.injEq, Value.int.injEq, true_and, and_true] at hv
  subst hv
  refine bsp_intro (fun hlt => ?_) (fun hge => ?_)
  · have hlt : i < ns.length := by simp at hlt; omega
    obtain ⟨g, v, hg, hv, hc⟩ := own_cell hoN8 hlt
    obtain ⟨g2, v2, hg2, hv2, hc2⟩ := own_cell hoO (k := i) (by omega)
    rw [List.getElem?_map, Option.map_eq_some_iff] at hv hv2
    obtain ⟨a, ha, rfl⟩ := hv
    obtain ⟨y, hy, rfl⟩ := hv2
    have hay : a.1 = y.n := by
      have h1 := congrArg (fun z => z[i]?) hEq
      simp only [List.getElem?_map, ha, hy, Option.map_some, Option.some.injEq] at h1
      exact h1
    refine nn_is hg ⟨⟨by omega, by omega⟩, a.1, fun W10 hW10 => ?_, nn_is hg2 ⟨⟨by omega, by omega⟩, y.n, fun W10 hW10 => ?_, bsp_intro (fun h => by exfalso; rw [hay] at h; simp at h) (fun _ => fun W10 hW10 => ⟨⟨i + 1, by rw [inc64 (by omega)], hlt, k9.trans (hW10.kk rfl)⟩, by rw [inc64 (by omega)]; simp only [Int.toNat_natCast]; omega⟩)⟩⟩
    · rw [Int.toNat_natCast]; exact (k9.trans (hW10.kk rfl : K0 w9 W10)).cell' hc (fun h => h)
    · rw [Int.toNat_natCast]; exact (k9.trans (hW10.kk rfl : K0 w9 W10)).cell' hc2 (fun h => h)
  have k49 := k48.trans k9
  refine ⟨(qget_any b mb s' last l n w9 (hQ4.k0 k49) hn).mono fun e w10 ⟨⟨p', c', he, _, hoG⟩, k10⟩ => ⟨_, _, _, _, _, _, _, _, _, _, _, _, _, he, .of_k0 k10, fun n7 W11 hW11 => ?_⟩⟩
  have k11 : K0 w10 W11 := hW11.kk rfl
  have k411 := (k49.trans k10).trans k11
  refine ⟨(rfind_any s' last L q d n W11 (hR4.k0 k411) hLl).mono fun e w12 ⟨hA, k12⟩ => ?_⟩
  have hc7 := k12.blk (hW11.cells 0 rfl) (fun h => h)
  rcases hA with ⟨he, hno⟩ | ⟨j, y, he, hy, hya⟩
  · have hnone := hI.hl.no hno
    rw [hnone] at hoG ⊢
    refine ⟨_, he, .of_k0 k12, bsp_intro (fun _ => bsp_intro (fun _ => ?_) (fun h => by simp [qz] at h)) (fun h => by simp at h)⟩
    refine ⟨(mequal_any mz mz p' c' none 0 w12 (strP_nil _ _) (strP_nil _ _) (by decide) ⟨by decide, by decide, by decide, by decide⟩ ⟨by decide, by decide, by decide, by decide⟩).mono fun e w13 ⟨he, k13⟩ => ⟨_, he, .of_k0 k13, ?_, ((k04.trans k411).trans k12).trans k13⟩⟩
    rw [eqM_self]; rfl
  · obtain ⟨q0, hget, hd0, _, hm0⟩ := hI.hl.get hy
    rw [hya] at hget
    obtain ⟨z0, z1, _⟩ := hI.hq.ok n q0 hget
    obtain ⟨y1, y2, y3, y4, y5, y6, y7, y8, y9, y10, y11, y12⟩ := chkM_bd z0
    have hjl : j < L.length := (List.getElem?_eq_some_iff.1 hy).1
    have hym := List.mem_of_getElem? hy
    rw [hget] at hoG hc7 ⊢
    refine ⟨_, he, .of_k0 k12, bsp_intro (fun h => by simp at h; omega) (fun _ => fun W13 hW13 => ?_)⟩
    have k13 : K0 w12 W13 := hW13.kk rfl
    have k413 := (k411.trans k12).trans k13
    have hb13 := k413.blk hb1 (fun h => h)
    have hc13 := k13.blk hc7 (fun h => h)
    obtain ⟨bb, oo, hq, hat⟩ := (hR4.k0 k413).row j y hy
    have hs1 : StrP W13 p' q0.m.hops := (strP_own hoG).k0 ((k11.trans k12).trans k13)
    have hde : (q0.due == y.due) = true := by rw [hd0]; simp
    refine ⟨fun wx => K0 W13 wx, .refl _ _, q, L.length, d, gimp_intro fun _ wx k => cell_at (k.blk hb13 (fun h => h)) rfl, nn_is hq ⟨gimp_intro fun _ => ⟨by omega, by omega⟩, y.due, gimp_intro fun _ wx k => by rw [Int.toNat_natCast]; exact (hat.k0 k).cell (j := 1) rfl, ?_⟩⟩
    refine ⟨q0.m.fu, q0.m.fs, q0.m.tu, q0.m.ts, q0.m.n, q0.m.d, q0.m.sj, p', q0.m.hops.length, c', q0.m.bd, gimp_intro fun _ wx k => AtL_block (k.blk hc13 (fun h => h)) rfl, q, L.length, d, gimp_intro fun _ wx k => cell_at (k.blk hb13 (fun h => h)) rfl, nn_is hq ⟨gimp_intro fun _ => ⟨by omega, by omega⟩, y.m.fu, y.m.fs, y.m.tu, y.m.ts, y.m.n, y.m.d, y.m.sj, y.p, y.m.hops.length, y.c, y.m.bd, gimp_intro fun _ wx k => ?_, bsp_intro (fun _ => ?_) (fun h => ?_)⟩⟩
    · rw [Int.toNat_natCast]
      refine ⟨At_of _ _ fun jj v hv => ?_⟩
      have := (hat.k0 k).cell (j := 3 + jj) (v := v) (by
        have : (wxC y)[3 + jj]? = ((wxC y).drop 3)[jj]? := by rw [List.getElem?_drop]
        rw [this]; exact hv)
      rwa [← Nat.add_assoc] at this
    · refine ⟨(of_any q0.m p' c' W13 hs1 (by omega)).mono fun e w14 ⟨⟨q2, d2, he, ho2⟩, k14⟩ => ⟨_, _, _, _, _, _, _, _, _, _, _, he, k14, ?_⟩⟩
      refine ⟨(xsame_any q0.m y.m q2 d2 y.p y.c w14 (strP_own ho2) ((hR4.str y hym).k0 (k413.trans k14)) (by omega) (szM_of z0) (by rw [← hm0]; exact szM_of z0)).mono fun e w15 ⟨he, k15⟩ => ⟨_, he, .of_k0 (k14.trans k15), ?_, ((k04.trans k413).trans k14).trans k15⟩⟩
      rw [hm0, eqM_self]; rfl
    · exfalso
      simp only [Option.getD_some, Option.isSome_some, Bool.true_and] at h
      rw [hde] at h; cases h

end Go.Proofs.YtmlmdljnfokebaaGreatDoor
