/- The reference's Take, and the statement FeedruleQuotas on worlds: it returns true and leaves what was there as it was. The library's variable MaxLen holds a number. -/
import Derived.Test.YtcpjajjocmpkjaaDoorKnown
import Derived.Test.YtcpjajjocmpkjaaDoorVcLaw
namespace Go.Proofs.YtcpjajjocmpkjaaDoor
open Go.RowKit

def takeR (l d u n now : Int) : (Int × Int × Int) × Int :=
  if n < 0 ∨ 1099511627776 < n then ((l, d, u), 2) else if dateR d now = false then ((l, d, u), 13) else if 0 < l ∧ l < usedR d u now + n then ((l, d, u), 9) else
  if l = 0 then ((0, now / 1440, 0), 0) else ((l, now / 1440, usedR d u now + n), 0)
theorem tdivDay {now : Int} (h0 : 0 ≤ now) (h1 : now ≤ 105190559) : IntKind.i64.wrap (now.tdiv 1440) = now / 1440 := by rw [tdiv_day h0 h1]
set_option maxHeartbeats 400000 in
theorem refTake_any (l d u n now : Int) (w : World) (hl : 0 ≤ l ∧ l ≤ 1099511627776) (hu : 0 ≤ u ∧ u ≤ 1099511627776) : Calls Tryd.prog 20 #[.agg #[.int .i64 l, .int .i64 d, .int .i64 u], .int .i64 n, .int .i64 now] w fun e w' =>
    e = .returned (.tuple #[.agg #[.int .i64 (takeR l d u n now).1.1, .int .i64 (takeR l d u n now).1.2.1, .int .i64 (takeR l d u n now).1.2.2], .int .i64 (takeR l d u n now).2]) ∧ K0 w w' := by
  refine vc_refTake l d u n now w _ ?_
  intro n1 w1 hn1 n2 w2 hn2
  have hb1 := (hn2.kp (fun _ => False)).blk hn1.block (fun h => h)
  have hb2 := hn2.block
  have hk2 : K0 w w2 := (hn1.kp _).trans (hn2.kp _)
  have hge : w.heap.size ≤ n2 := Nat.le_trans (hn1.kp (fun _ => False)).size hn2.ge
  have fin : ∀ (wx : World) (a b c code : Int), K0 w2 wx → takeR l d u n now = ((a, b, c), code) → WrL wx n2 0 3 ∧ ∀ w3, PutB wx n2 0 [.int .i64 a, .int .i64 b, .int .i64 c] w3 → ∃ x y z : Int, AtL w3 n2 0 [.int .i64 x, .int .i64 y, .int .i64 z] ∧
      (Ending.returned (.tuple #[.agg #[.int .i64 x, .int .i64 y, .int .i64 z], .int .i64 code]) = .returned (.tuple #[.agg #[.int .i64 (takeR l d u n now).1.1, .int .i64 (takeR l d u n now).1.2.1, .int .i64 (takeR l d u n now).1.2.2], .int .i64 (takeR l d u n now).2]) ∧ K0 w w3) := fun wx a b c code hk ht => by
    have hb := hk.blk hb2 (fun h => h)
    refine ⟨WrL_block hb (by simp), fun w3 hp => ⟨a, b, c, AtL_block (hp.full hb rfl) rfl, by rw [ht], (hk2.trans hk).fresh hp.kp (fun i hi e => by omega)⟩⟩
  refine bsp_intro (fun h => ?_) (fun h => ?_)
  · have h : n < 0 ∨ 1099511627776 < n := by simp at h; omega
    exact ⟨l, d, u, AtL_block hb1 rfl, fin w2 l d u 2 (.refl _ _) (by simp only [takeR, h, if_true])⟩
  have h : ¬ (n < 0 ∨ 1099511627776 < n) := by simp at h; omega
  refine ⟨l, d, u, AtL_block hb1 rfl, ⟨(refDate_any l d u now w2).mono fun e w3 ⟨he, hk3⟩ => ⟨_, he, ?_⟩⟩⟩
  have hb13 := hk3.blk hb1 (fun h => h)
  refine bsp_intro (fun hd => ?_) (fun hd => ?_)
  · have hd : dateR d now = false := by simpa using hd
    exact ⟨l, d, u, AtL_block hb13 rfl, fin w3 l d u 13 hk3 (by simp only [takeR, h, hd, if_true, if_false])⟩
  have hd : dateR d now = true := by simpa using hd
  obtain ⟨b0, b1, _⟩ := dateR_bd hd
  have hub : 0 ≤ usedR d u now ∧ usedR d u now ≤ 1099511627776 := by unfold usedR; split <;> omega
  have hk3d : K0 w2 w3.drew := hk3.drew
  refine ⟨fun w' => K0 w2 w', hk3d, l, fun w' hk => cell_at (hk.blk hb1 (fun h => h)) rfl, l, d, u, gimp_intro fun _ w' hk => AtL_block (hk.blk hb1 (fun h => h)) rfl, l, gimp_intro fun _ w' hk => cell_at (hk.blk hb1 (fun h => h)) rfl, ?_⟩
  refine bsp_intro (fun hl0 => ⟨(refUsed_any l d u now w3.drew b0 b1).mono fun e w4 ⟨he, hk4⟩ => ⟨_, he, hk3d.trans hk4, ?_⟩⟩) (fun hl0 => ⟨hk3d, l, cell_at (blk_drew hb13) rfl, ?_⟩)
  · have hl0 : 0 < l := by simpa using hl0
    have hk4' := hk3d.trans hk4
    have hb14 := hk4'.blk hb1 (fun h => h)
    rw [wr64 (x := usedR d u now + n) (by omega) (by omega)]
    refine bsp_intro (fun hx => ⟨l, d, u, AtL_block hb14 rfl, ?_⟩) (fun hx => ⟨l, cell_at hb14 rfl, bsp_intro (fun h0 => ?_) (fun h0 => ?_)⟩)
    · have hx : l < usedR d u now + n := by simpa using hx
      exact fin w4 l d u 9 hk4' (by simp [takeR, h, hd, hl0, hx])
    · have h0 : l = 0 := by simpa using h0
      omega
    · have hx : ¬ l < usedR d u now + n := by simpa using hx
      refine ⟨fun w' => K0 w2 w', hk4'.drew, l, fun w' hk => cell_at (hk.blk hb1 (fun h => h)) rfl, l, d, u, fun w' hk => AtL_block (hk.blk hb1 (fun h => h)) rfl, ⟨(refUsed_any l d u now w4.drew b0 b1).mono fun e w5 ⟨he, hk5⟩ => ⟨_, he, hk4'.drew.trans hk5, ?_⟩⟩⟩
      rw [tdivDay b0 b1, wr64 (x := usedR d u now + n) (by omega) (by omega)]
      exact fin w5 _ _ _ 0 (hk4'.drew.trans hk5) (by simp [takeR, h, hd, hx, show ¬ l = 0 by omega])
  · have hl0 : l = 0 := by simp at hl0; omega
    refine bsp_intro (fun h0 => ?_) (fun h0 => absurd h0 (by simp [hl0]))
    rw [tdivDay b0 b1]
    exact fin w3.drew _ _ _ 0 hk3d (by simp [takeR, h, hd, hl0])

/-- A quota and that of the reference. -/
def RelQ (q : Qt) (l d u : Int) : Prop := q.lim = l ∧ 0 ≤ l ∧ l ≤ 1099511627776 ∧ 0 ≤ u ∧ u ≤ 1099511627776 ∧ 0 ≤ d ∧ (q.ch = true → d = q.day ∧ u = q.used) ∧ (q.ch = false → d = 0 ∧ u = 0 ∧ q.used = 0) ∧ (l = 0 → u = 0)
theorem RelQ.used {q : Qt} {l d u : Int} (h : RelQ q l d u) : 0 ≤ q.used ∧ q.used ≤ 1099511627776 := by
  obtain ⟨h1, h2, h3, h4, h5, h6, h7, h8, _⟩ := h
  cases hc : q.ch with
  | true => have := h7 hc; omega
  | false => have := h8 hc; omega
theorem RelQ.on {q : Qt} {l d u now : Int} (h : RelQ q l d u) : (dateR d now = false ∧ onS q now = (0, 0, 13)) ∨ (dateR d now = true ∧ onS q now = (now / 1440, usedR d u now, 0)) := by
  obtain ⟨h1, h2, h3, h4, h5, h6, h7, h8, _⟩ := h
  unfold onS
  by_cases hr : now < 0 ∨ 105190559 < now
  · rw [if_pos hr]
    refine .inl ⟨?_, rfl⟩
    cases hd : dateR d now with
    | false => rfl
    | true => have := dateR_bd hd; omega
  rw [if_neg hr]
  have hd : dateR d now = decide (d ≤ now / 1440) := by
    have a : decide (0 ≤ now) = true := by simp; omega
    have b : decide (now ≤ 105190559) = true := by simp; omega
    simp [dateR, a, b]
  rw [hd]
  cases hc : q.ch with
  | false =>
    obtain ⟨rfl, rfl, _⟩ := h8 hc
    right
    refine ⟨by simp; omega, ?_⟩
    simp only [true_or, if_true]
    unfold usedR
    split <;> rfl
  | true =>
    obtain ⟨rfl, rfl⟩ := h7 hc
    by_cases hlt : q.day < now / 1440
    · right
      refine ⟨by simp; omega, ?_⟩
      rw [if_pos (.inr hlt)]; unfold usedR; rw [if_pos hlt]
    · rw [if_neg (fun h => h.elim (fun h => by cases h) (fun h => hlt h))]
      by_cases hgt : now / 1440 < q.day
      · left
        refine ⟨by simp; omega, ?_⟩
        rw [if_pos hgt]
      · right
        refine ⟨by simp; omega, ?_⟩
        rw [if_neg hgt]; unfold usedR; rw [if_neg hlt]
theorem RelQ.left {q : Qt} {l d u now : Int} (h : RelQ q l d u) : leftS q now = leftR l d u now := by
  unfold leftS leftR
  rw [h.1]
  split
  · rfl
  · rcases h.on (now := now) with ⟨h1, h2⟩ | ⟨h1, h2⟩
    · rw [h1, h2]; rfl
    · rw [h1, h2]; rfl
theorem RelQ.take {q : Qt} {l d u n now : Int} (h : RelQ q l d u) : (takeS q n now).1 = (takeR l d u n now).2 ∧ RelQ (takeS q n now).2 (takeR l d u n now).1.1 (takeR l d u n now).1.2.1 (takeR l d u n now).1.2.2 := by
  have h0 := h
  obtain ⟨h1, h2, h3, h4, h5, h6, h7, h8, h9⟩ := h
  unfold takeS takeR
  by_cases hn : n < 0 ∨ 1099511627776 < n
  · rw [if_pos hn, if_pos hn]; exact ⟨rfl, h0⟩
  rw [if_neg hn, if_neg hn]
  rcases h0.on (now := now) with ⟨e1, e2⟩ | ⟨e1, e2⟩
  · rw [e1, e2]; exact ⟨rfl, h0⟩
  · have hb := dateR_bd e1
    have hub : 0 ≤ usedR d u now ∧ usedR d u now ≤ 1099511627776 := by unfold usedR; split <;> omega
    have hu0 : l = 0 → usedR d u now = 0 := fun e => by unfold usedR; have := h9 e; split <;> omega
    rw [e1, e2, h1]
    simp only [ne_eq, not_true_eq_false, if_false, Bool.true_eq_false]
    by_cases hl : l = 0
    · rw [if_pos hl, if_neg (by omega), if_pos hl]
      have := hu0 hl
      exact ⟨rfl, by simp; omega, by simp, by simp, by simp, by simp, by simp; omega, fun _ => ⟨rfl, by simp; omega⟩, fun h => (by cases h), fun _ => rfl⟩
    · rw [if_neg hl]
      by_cases hx : l < usedR d u now + n
      · rw [if_pos hx, if_pos ⟨by omega, hx⟩]; exact ⟨rfl, h0⟩
      · rw [if_neg hx, if_neg (fun h => hx h.2), if_neg hl]
        exact ⟨rfl, rfl, h2, h3, by simp; omega, by simp; omega, by simp; omega, fun _ => ⟨rfl, rfl⟩, fun h => (by cases h), fun h => absurd h hl⟩

/-- Charges that lie one behind the other. -/
def ChP (w : World) (p : Option Addr) (n : Nat) : Prop := ∀ k, k < n → ∃ (b o : Nat) (x y : Int), p = some ⟨b, o, none⟩ ∧ w.cell? ⟨b, o + k * 2, none⟩ = some (.int .i64 x) ∧ w.cell? ⟨b, o + k * 2 + 1, none⟩ = some (.int .i64 y)
theorem ChP.kp {M : Nat → Prop} {w w' : World} {p : Option Addr} {n : Nat} (h : ChP w p n) (hk : Kp M w w') (hm : ∀ b o, p = some ⟨b, o, none⟩ → ¬ M b) : ChP w' p n := fun k hk' => by
  obtain ⟨b, o, x, y, hp, h1, h2⟩ := h k hk'
  exact ⟨b, o, x, y, hp, hk.cell' h1 (hm b o hp), hk.cell' h2 (hm b o hp)⟩
def QRef (w : World) (b : Nat) (l d u : Int) : Prop := w.heap[b]? = some (.cells #[.int .i64 l, .int .i64 d, .int .i64 u] 52 (0, 0))

set_option maxHeartbeats 1000000 in
theorem quotas_any (lim : Int) (p : Option Addr) (n c : Nat) (at_ : Int) (w : World) (hG : GW w) (hch : ChP w p n) :
    Calls Tryd.prog 5 #[.int .i64 lim, .slice p n c, .int .i64 at_] w fun e w' => e = .returned (.bool true) ∧ K0 w w' := by
  refine vc_quotas lim p n c at_ w _ ?_
  refine ⟨(newQuota_any lim w).mono fun e w1 he => ?_⟩
  rcases he with ⟨hbad, he, rfl⟩ | ⟨hgood, qb, he, hq, hk1, hqb⟩
  · refine ⟨_, _, he, bsp_intro (fun _ => ?_) (fun h => ?_)⟩
    · exact ⟨(known_any w1 hG).mono fun e w2 ⟨he, hk⟩ => ⟨_, he, rfl, hk⟩⟩
    · exfalso; simp at h; omega
  refine ⟨_, _, he, bsp_intro (fun h => ?_) (fun h => ?_)⟩
  · exfalso; simp at h; omega
  have hlim : 0 ≤ lim ∧ lim ≤ 1099511627776 := by omega
  refine ⟨(known_any w1 (hG.kp hk1 (fun h => h))).mono fun e w2 ⟨he, hk2⟩ => ⟨_, he, bsp_intro (fun h => absurd h (by simp)) (fun _ => ?_)⟩⟩
  intro n1 w3 hn3
  refine ⟨WrL_block hn3.block (by simp), fun w4 hp4 => ?_⟩
  have hb4 : QRef w4 n1 lim 0 0 := hp4.full hn3.block rfl
  have hk24 : K0 w2 w4 := (hn3.kp _).fresh hp4.kp (fun i hi e => by have := hn3.ge; omega)
  have hq4 : QAt w4 qb ⟨lim, false, 0, 0⟩ := hk24.blk (hk2.blk hq (fun h => h)) (fun h => h)
  have hk4 : K0 w w4 := (hk1.trans hk2).trans hk24
  have hqn : qb < n1 := Nat.lt_of_lt_of_le (block_lt (hk2.blk hq (fun h => h))) hn3.ge
  refine count1 (min n 60) (by omega) (fun k w' => K0 w w' ∧ ∃ q l d u, QAt w' qb q ∧ QRef w' n1 l d u ∧ RelQ q l d u) ⟨hk4, _, lim, 0, 0, hq4, hb4, rfl, hlim.1, hlim.2, by decide, by decide, by decide, (fun h => by cases h), fun _ => ⟨rfl, rfl, rfl⟩, fun _ => rfl⟩ ?_
  intro I m k w5 hk ⟨hk5, q, l, d, u, hq5, hr5, hrel⟩ next
  refine bsp_intro (fun hlt => ?_) (fun _ => ⟨rfl, hk5⟩)
  have hlt' : k < min n 60 := by simp at hlt; omega
  have hlt : k < n := by omega
  obtain ⟨b, o, x, y, rfl, c1, c2⟩ := hch k hlt
  have e0 : (k : Int).toNat = k := by omega
  rw [e0]
  have hbb : b < w.heap.size := cell_lt c1
  have cx : ∀ wx, K0 w wx → wx.cell? ⟨b, o + k * 2, none⟩ = some (.int .i64 x) := fun wx hk => hk.cell' c1 (fun h => h)
  have cy : ∀ wx, K0 w wx → wx.cell? ⟨b, o + k * 2 + 1, none⟩ = some (.int .i64 y) := fun wx hk => hk.cell' c2 (fun h => h)
  have hin : 0 ≤ (k : Int) ∧ (k : Int) < (n : Int) := by omega
  obtain ⟨htk, hrel'⟩ := hrel.take (n := x) (now := y)
  generalize htr : takeR l d u x y = tr at htk hrel'
  obtain ⟨⟨l', d', u'⟩, code⟩ := tr
  have hl2 := hrel.2.1
  have hl3 := hrel.2.2.1
  have hu2 := hrel.2.2.2.1
  have hu3 := hrel.2.2.2.2.1
  refine ⟨fun vs wx => ∃ n2, vs = [.pointer (some ⟨n2, 0, none⟩), .int .i64 code] ∧ w5.heap.size ≤ n2 ∧ QRef wx n2 l' d' u' ∧ K0 w5 wx, ?_, ?_⟩
  · refine ⟨fun wx => K0 w5.drew wx, .refl _ _, l, d, u, fun wx hkx => AtL_block (hkx.blk (blk_drew hr5) (fun h => h)) rfl, hin, x, fun wx hkx => cx wx (hk5.trans hkx.of_drew), hin, y, fun wx hkx => cy wx (hk5.trans hkx.of_drew), ⟨(refTake_any l d u x y w5.drew ⟨hl2, hl3⟩ ⟨hu2, hu3⟩).mono fun e w6 ⟨he, hk6⟩ => ?_⟩, fun n2 w6 hn6 => ⟨hn6.kp _, ⟨(refTake_any l d u x y w6 ⟨hl2, hl3⟩ ⟨hu2, hu3⟩).mono fun e w7 ⟨he, hk7⟩ => ?_⟩⟩⟩
    · rw [htr] at he
      refine ⟨_, _, _, _, he, fun n2 w7 hn7 => ⟨hk6.trans (hn7.kp _), WrL_block hn7.block (by simp), fun w8 hp8 => ⟨n2, rfl, ?_, hp8.full hn7.block rfl, ?_⟩⟩⟩
      · have := hk6.of_drew.size; have := hn7.ge; omega
      · have := hk6.of_drew.size; have := hn7.ge
        exact (hk6.of_drew.trans (hn7.kp _)).fresh hp8.kp (fun i hi e => by omega)
    · rw [htr] at he
      have hb7 := hk7.blk hn6.block (fun h => h)
      have hge : w5.heap.size ≤ n2 := hn6.ge
      refine ⟨_, _, _, _, he, WrL_block hb7 (by simp), fun w8 hp8 => ⟨n2, rfl, hge, hp8.full hb7 rfl, ?_⟩⟩
      exact ((hn6.kp (fun _ => False)).of_drew.trans hk7).fresh hp8.kp (fun i hi e => by omega)
  · rintro x4 x5 w6 ⟨n2, hv, hn2, hr6, hk6⟩
    simp only [List.cons.injEq, Value.pointer.injEq, Value.int.injEq, true_and, and_true] at hv
    obtain ⟨rfl, rfl⟩ := hv
    have hq6 : QAt w6.drew qb q := blk_drew (hk6.blk hq5 (fun h => h))
    have hr6n : QRef w6.drew n1 l d u := blk_drew (hk6.blk hr5 (fun h => h))
    have hqlt : qb < w5.heap.size := block_lt hq5
    have h1lt : n1 < w5.heap.size := block_lt hr5
    have hwq : w.heap.size ≤ qb := hqb
    refine ⟨fun wx => Kp (· = qb) w6.drew wx, .refl _ _, hin, x, fun wx hkx => ?_, hin, y, fun wx hkx => ?_, ⟨(take_any qb x y q w6.drew hq6 hrel.used).mono fun e w7 ⟨he, hq7, hk7⟩ => ⟨_, he, hk7, ?_⟩⟩⟩
    · exact hkx.cell' (cx _ (hk5.trans hk6).drew) (fun e => by omega)
    · exact hkx.cell' (cy _ (hk5.trans hk6).drew) (fun e => by omega)
    rw [htk]
    have cond : (!(x5 != x5)) = true := by simp
    have hk57 : Kp (· = qb) w5 w7 := (hk6.drew.mono fun _ _ h => h.elim).trans hk7
    have hlu : 0 ≤ l' ∧ l' ≤ 1099511627776 := ⟨hrel'.2.1, hrel'.2.2.1⟩
    have huu : 0 ≤ u' ∧ u' ≤ 1099511627776 := ⟨hrel'.2.2.2.1, hrel'.2.2.2.2.1⟩
    have hr7 : ∀ wx, Kp (· = qb) w6.drew wx → QRef wx n2 l' d' u' := fun wx hkx => hkx.blk (blk_drew hr6) (fun e => by omega)
    have leftOk : ∀ (wx : World) (now : Int), Kp (· = qb) w6.drew wx → QAt wx qb (takeS q x y).2 → Calls Tryd.prog 22 #[.pointer (some ⟨qb, 0, none⟩), .int .i64 now] wx fun e w' => e = .returned (.int .i64 (leftR l' d' u' now)) ∧ Kp (· = qb) w6.drew w' ∧ QAt w' qb (takeS q x y).2 := fun wx now hkx hqx =>
      (left_any qb now _ wx hqx hrel'.used (by rw [hrel'.1]; exact hlu)).mono fun e w' ⟨he, hw⟩ => by
        rw [hrel'.left] at he
        rcases hw with rfl | rfl
        · exact ⟨he, hkx, hqx⟩
        · exact ⟨he, hkx.drew, hqx⟩
    refine ⟨gimp_intro fun _ => hin, y, gimp_intro fun _ wx hkx => hkx.cell' (cy _ (hk5.trans hk6).drew) (fun e => by omega), l', d', u', gimp_intro fun _ wx hkx => AtL_block (hr7 wx hkx) rfl, gimp_intro fun _ => hin, y, gimp_intro fun _ wx hkx => hkx.cell' (cy _ (hk5.trans hk6).drew) (fun e => by omega), bsp_intro (fun _ => ?_) (fun h => absurd (cond.symm.trans h) (by decide))⟩
    refine ⟨(leftOk w7 y hk7 hq7).mono fun e w8 ⟨he, hk8, hq8⟩ => ⟨_, he, hk8, ?_⟩⟩
    refine ⟨(refLeft_any l' d' u' y w8 hlu huu).mono fun e w9 ⟨he, hk9⟩ => ⟨_, he, hk8.trans (hk9.mono fun _ _ h => h.elim), ?_⟩⟩
    have hk9' : Kp (· = qb) w6.drew w9 := hk8.trans (hk9.mono fun _ _ h => h.elim)
    have cond2 : (!(false || (leftR l' d' u' y) != (leftR l' d' u' y))) = true := by simp
    refine ⟨l', d', u', gimp_intro fun _ wx hkx => AtL_block (hr7 wx hkx) rfl, bsp_intro (fun _ => ?_) (fun h => absurd (cond2.symm.trans h) (by decide))⟩
    refine ⟨(leftOk w9 at_ hk9' (hk9.blk hq8 (fun h => h))).mono fun e wa ⟨he, hka, hqa⟩ => ⟨_, he, hka, ?_⟩⟩
    refine ⟨(refLeft_any l' d' u' at_ wa hlu huu).mono fun e wb ⟨he, hkb⟩ => ⟨_, he, bsp_intro (fun h => absurd h (by simp)) (fun _ => ?_)⟩⟩
    have hkb' : Kp (· = qb) w6.drew wb := hka.trans (hkb.mono fun _ _ h => h.elim)
    have hrn1 : QRef wb n1 l d u := hkb'.blk hr6n (fun e => by omega)
    refine ⟨l', d', u', AtL_block (hr7 wb hkb') rfl, WrL_block hrn1 (by simp), fun wc hpc => ?_⟩
    refine next hlt' wc ⟨?_, (takeS q x y).2, l', d', u', hpc.kp.blk (hkb.blk hqa (fun h => h)) (fun e => by omega), hpc.full hrn1 rfl, hrel'⟩
    have : w.heap.size ≤ n1 := Nat.le_trans (Nat.le_of_lt (Nat.lt_of_le_of_lt hqb hqn)) (Nat.le_refl _)
    exact ((hk5.trans hk6.drew).fresh hkb' (fun i hi e => by omega)).fresh hpc.kp (fun i hi e => by omega)

end Go.Proofs.YtcpjajjocmpkjaaDoor
