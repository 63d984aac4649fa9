/- The contracts of the quota's functions (NewQuota, on, Take, Left) and of the reference's (date, used, Take, Left), by plain functions. Where sums are made the numbers are at most 2^40 or in the range of int. -/
import Derived.Test.YtcpjajjocmpkjaaDoorVcChars
import Derived.Test.YtcpjajjocmpkjaaDoorWorld
namespace Go.Proofs.YtcpjajjocmpkjaaDoor
open Go.RowKit

/-- A quota. -/
structure Qt where
  lim : Int
  ch : Bool
  day : Int
  used : Int
/-- A quota in a block of its own. -/
def QAt (w : World) (b : Nat) (q : Qt) : Prop := w.heap[b]? = some (.cells #[.int .i64 q.lim, .bool q.ch, .int .i64 q.day, .int .i64 q.used] 93)
/-- The day of a minute, what was charged on it, the error. -/
def onS (q : Qt) (now : Int) : Int × Int × Int :=
  if now < 0 ∨ 105190559 < now then (0, 0, 13) else
  if q.ch = false ∨ q.day < now / 1440 then (now / 1440, 0, 0) else
  if now / 1440 < q.day then (0, 0, 13) else (now / 1440, q.used, 0)

theorem newQuota_any (n : Int) (w : World) : Calls Tryd.prog 19 #[.int .i64 n] w fun e w' =>
    (n < 0 ∨ 1099511627776 < n) ∧ e = .returned (.tuple #[.pointer none, .int .i64 2]) ∧ w' = w ∨
    ¬ (n < 0 ∨ 1099511627776 < n) ∧ ∃ b, e = .returned (.tuple #[.pointer (some ⟨b, 0, none⟩), .int .i64 0]) ∧ QAt w' b ⟨n, false, 0, 0⟩ ∧ K0 w w' ∧ w.heap.size ≤ b := by
  refine vc_newQuota n w _ ?_
  unfold VC_newQuota
  refine bsp_intro (fun h => ?_) (fun h => ?_)
  · exact .inl ⟨by simpa using h, rfl, rfl⟩
  · intro b w1 hn
    exact .inr ⟨by simpa using h, b, rfl, hn.block, hn.kp _, hn.ge⟩

theorem tdiv_day {now : Int} (h0 : 0 ≤ now) (h1 : now ≤ 105190559) : IntKind.i64.wrap (now.tdiv 1440) = now / 1440 := by
  rw [Int.tdiv_eq_ediv_of_nonneg h0]
  exact wr64 (by omega) (by omega)

theorem on_any (b : Nat) (now : Int) (q : Qt) (w : World) (hq : QAt w b q) : Calls Tryd.prog 45 #[.pointer (some ⟨b, 0, none⟩), .int .i64 now] w fun e w' =>
    e = .returned (.tuple #[.int .i64 (onS q now).1, .int .i64 (onS q now).2.1, .int .i64 (onS q now).2.2]) ∧ (w' = w ∨ w' = w.drew) := by
  refine vc_on b 0 now w _ ?_
  have hc := cell_block hq
  unfold VC_on
  refine bsp_intro (fun h => ?_) (fun h => ?_)
  · have h : now < 0 ∨ 105190559 < now := by simpa using h
    exact ⟨by simp [onS, h], .inl rfl⟩
  · have h : ¬ (now < 0 ∨ 105190559 < now) := by simpa using h
    rw [tdiv_day (by omega) (by omega)]
    refine ⟨q.ch, hc 1, q.day, gimp_intro fun _ => hc 2, bsp_intro (fun h1 => ?_) (fun h1 => ?_)⟩
    · have h1 : q.ch = false ∨ q.day < now / 1440 := by simpa using h1
      exact ⟨by simp [onS, h, h1], .inl rfl⟩
    · have h1 : ¬ (q.ch = false ∨ q.day < now / 1440) := by simpa using h1
      refine ⟨q.day, hc 2, bsp_intro (fun h2 => ?_) (fun h2 => ?_)⟩
      · have h2 : now / 1440 < q.day := by simpa using h2
        exact ⟨by simp [onS, h, h1, h2], .inl rfl⟩
      · have h2 : ¬ now / 1440 < q.day := by simpa using h2
        exact ⟨q.used, hc 3, by simp [onS, h, h1, h2], .inr rfl⟩

/-- The error of a charge, and the quota behind it. -/
def takeS (q : Qt) (n now : Int) : Int × Qt :=
  if n < 0 ∨ 1099511627776 < n then (2, q) else
  if (onS q now).2.2 ≠ 0 then ((onS q now).2.2, q) else
  if q.lim = 0 then (0, ⟨q.lim, true, (onS q now).1, (onS q now).2.1⟩) else
  if q.lim < (onS q now).2.1 + n then (9, q) else (0, ⟨q.lim, true, (onS q now).1, (onS q now).2.1 + n⟩)
theorem onS_used {q : Qt} {now : Int} {B : Int} (hB : 0 ≤ B) (h : 0 ≤ q.used ∧ q.used ≤ B) : 0 ≤ (onS q now).2.1 ∧ (onS q now).2.1 ≤ B := by
  unfold onS
  repeat' split
  all_goals simp
  all_goals omega

/-- Three cells of a quota are written. -/
theorem qput {w w1 w2 w3 : World} {b : Nat} {q : Qt} {d u : Int} (hq : QAt w b q) (h1 : PutB w b 1 [.bool true] w1) (h2 : PutB w1 b 2 [.int .i64 d] w2) (h3 : PutB w2 b 3 [.int .i64 u] w3) :
    QAt w3 b ⟨q.lim, true, d, u⟩ ∧ Kp (· = b) w w3 := by
  refine ⟨?_, (h1.kp.trans h2.kp).trans h3.kp⟩
  have a1 := h1.block hq
  have a2 := h2.block a1
  have a3 := h3.block a2
  simpa [QAt, putL] using a3
theorem take_any (b : Nat) (n now : Int) (q : Qt) (w : World) (hq : QAt w b q) (hu : 0 ≤ q.used ∧ q.used ≤ 1099511627776) : Calls Tryd.prog 21 #[.pointer (some ⟨b, 0, none⟩), .int .i64 n, .int .i64 now] w fun e w' =>
    e = .returned (.int .i64 (takeS q n now).1) ∧ QAt w' b (takeS q n now).2 ∧ Kp (· = b) w w' := by
  refine vc_take b 0 n now w _ ?_
  unfold VC_take
  refine bsp_intro (fun h => ?_) (fun h => ⟨(on_any b now q w hq).mono fun e w' ⟨he, hw'⟩ => ⟨_, _, _, he, ?_⟩⟩)
  · have h : n < 0 ∨ 1099511627776 < n := by simpa using h
    exact ⟨by simp [takeS, h], by simpa [takeS, h] using hq, .refl _ _⟩
  have h : ¬ (n < 0 ∨ 1099511627776 < n) := by simpa using h
  have hq' : QAt w' b q := by rcases hw' with rfl | rfl <;> exact hq
  have hk : Kp (· = b) w w' := by rcases hw' with rfl | rfl; exact .refl _ _; exact (Kp.refl _ _).drew
  have hou := onS_used (now := now) (by omega) hu
  have hc := cell_block hq'
  have wr : ∀ {w : World} {q : Qt} (_ : QAt w b q) (i : Nat), i < 4 → (∃ u, w.cell? ⟨b, i, none⟩ = some u) ∧ w.frozen? ⟨b, i, none⟩ = false := fun hq i hi => by
    refine ⟨?_, frozen_block hq i⟩
    rw [cell_block hq]
    exact ⟨_, Array.getElem?_eq_getElem (by simpa using hi)⟩
  refine bsp_intro (fun h1 => ?_) (fun h1 => ?_)
  · have h1 : (onS q now).2.2 ≠ 0 := by simpa using h1
    exact ⟨by simp [takeS, h, h1], by simpa [takeS, h, h1] using hq', hk⟩
  · have h1 : (onS q now).2.2 = 0 := by simpa using h1
    refine ⟨q.lim, hc 0, bsp_intro (fun h2 => ?_) (fun h2 => ⟨q.lim, hc 0, ?_⟩)⟩
    · have h2 : q.lim = 0 := by simpa using h2
      refine ⟨wr hq' 1 (by omega), fun w1 p1 => ⟨?_, fun w2 p2 => ⟨?_, fun w3 p3 => ?_⟩⟩⟩
      · exact wr (q := ⟨q.lim, true, q.day, q.used⟩) (by simpa [QAt, putL] using p1.block hq') 2 (by omega)
      · exact wr (q := ⟨q.lim, true, _, q.used⟩) (by simpa [QAt, putL] using p2.block (p1.block hq')) 3 (by omega)
      · obtain ⟨r1, r2⟩ := qput hq' p1 p2 p3
        rw [wr64 (by omega) (by omega)] at r1
        exact ⟨by simp [takeS, h, h1, h2], by simpa [takeS, h, h1, h2] using r1, hk.trans r2⟩
    · have h2 : ¬ q.lim = 0 := by simpa using h2
      rw [wr64 (by omega) (by omega)]
      refine bsp_intro (fun h3 => ?_) (fun h3 => ?_)
      · have h3 : q.lim < (onS q now).2.1 + n := by simpa using h3
        exact ⟨by simp [takeS, h, h1, h2, h3], by simpa [takeS, h, h1, h2, h3] using hq', hk⟩
      · have h3 : ¬ q.lim < (onS q now).2.1 + n := by simpa using h3
        refine ⟨wr hq' 1 (by omega), fun w1 p1 => ⟨?_, fun w2 p2 => ⟨?_, fun w3 p3 => ?_⟩⟩⟩
        · exact wr (q := ⟨q.lim, true, q.day, q.used⟩) (by simpa [QAt, putL] using p1.block hq') 2 (by omega)
        · exact wr (q := ⟨q.lim, true, _, q.used⟩) (by simpa [QAt, putL] using p2.block (p1.block hq')) 3 (by omega)
        · obtain ⟨r1, r2⟩ := qput hq' p1 p2 p3
          exact ⟨by simp [takeS, h, h1, h2, h3], by simpa [takeS, h, h1, h2, h3] using r1, hk.trans r2⟩

def leftS (q : Qt) (now : Int) : Int := if q.lim = 0 then -1 else if (onS q now).2.2 ≠ 0 then 0 else q.lim - (onS q now).2.1
theorem left_any (b : Nat) (now : Int) (q : Qt) (w : World) (hq : QAt w b q) (hu : 0 ≤ q.used ∧ q.used ≤ 1099511627776) (hl : 0 ≤ q.lim ∧ q.lim ≤ 1099511627776) : Calls Tryd.prog 22 #[.pointer (some ⟨b, 0, none⟩), .int .i64 now] w fun e w' =>
    e = .returned (.int .i64 (leftS q now)) ∧ (w' = w ∨ w' = w.drew) := by
  refine vc_left b 0 now w _ ?_
  unfold VC_left
  refine ⟨q.lim, cell_block hq 0, bsp_intro (fun h => ?_) (fun h => ⟨(on_any b now q w hq).mono fun e w' ⟨he, hw'⟩ => ⟨_, _, _, he, ?_⟩⟩)⟩
  · have h : q.lim = 0 := by simpa using h
    exact ⟨by simp [leftS, h], .inl rfl⟩
  have h : ¬ q.lim = 0 := by simpa using h
  have hq' : QAt w' b q := by rcases hw' with rfl | rfl <;> exact hq
  have hou := onS_used (now := now) (by omega) hu
  refine bsp_intro (fun h1 => ?_) (fun h1 => ⟨q.lim, cell_block hq' 0, ?_⟩)
  · have h1 : (onS q now).2.2 ≠ 0 := by simpa using h1
    exact ⟨by simp [leftS, h, h1], hw'⟩
  · have h1 : (onS q now).2.2 = 0 := by simpa using h1
    rw [wr64 (by omega) (by omega)]
    exact ⟨by simp [leftS, h, h1], hw'⟩

/-! ### The reference -/
def dateR (d now : Int) : Bool := decide (0 ≤ now) && decide (now ≤ 105190559) && decide (d ≤ now / 1440)
def usedR (d u now : Int) : Int := if d < now / 1440 then 0 else u
theorem refDate_any (l d u now : Int) (w : World) : Calls Tryd.prog 43 #[.agg #[.int .i64 l, .int .i64 d, .int .i64 u], .int .i64 now] w fun e w' => e = .returned (.bool (dateR d now)) ∧ K0 w w' := by
  refine vc_refDate l d u now w _ ?_
  intro n w1 hn
  refine ⟨d, gimp_intro fun _ => cell_block hn.block 1, ?_, hn.kp _⟩
  by_cases h : 0 ≤ now ∧ now ≤ 105190559
  · rw [tdiv_day h.1 h.2]; rfl
  · have : (decide (0 ≤ now) && decide (now ≤ 105190559)) = false := by simpa using h
    simp [dateR, this]
theorem refUsed_any (l d u now : Int) (w : World) (h0 : 0 ≤ now) (h1 : now ≤ 105190559) : Calls Tryd.prog 44 #[.agg #[.int .i64 l, .int .i64 d, .int .i64 u], .int .i64 now] w fun e w' => e = .returned (.int .i64 (usedR d u now)) ∧ K0 w w' := by
  refine vc_refUsed l d u now w _ ?_
  intro n w1 hn
  rw [tdiv_day h0 h1]
  refine ⟨d, cell_block hn.block 1, bsp_intro (fun h => ?_) (fun h => ⟨u, cell_block hn.block 2, ?_⟩)⟩
  · have h : d < now / 1440 := by simpa using h
    exact ⟨by simp [usedR, h], hn.kp _⟩
  · have h : ¬ d < now / 1440 := by simpa using h
    exact ⟨by simp [usedR, h], hn.kp _⟩
def leftR (l d u now : Int) : Int := if l = 0 then -1 else if dateR d now = false then 0 else l - usedR d u now
theorem dateR_bd {d now : Int} (h : dateR d now = true) : 0 ≤ now ∧ now ≤ 105190559 ∧ d ≤ now / 1440 := by
  simp [dateR] at h; omega
theorem refLeft_any (l d u now : Int) (w : World) (hl : 0 ≤ l ∧ l ≤ 1099511627776) (hu : 0 ≤ u ∧ u ≤ 1099511627776) : Calls Tryd.prog 23 #[.agg #[.int .i64 l, .int .i64 d, .int .i64 u], .int .i64 now] w fun e w' => e = .returned (.int .i64 (leftR l d u now)) ∧ K0 w w' := by
  refine vc_refLeft l d u now w _ ?_
  intro n w1 hn
  have hb := hn.block
  refine ⟨l, cell_block hb 0, bsp_intro (fun h => ?_) (fun h => ⟨l, d, u, AtL_block hb rfl, ⟨(refDate_any l d u now w1).mono fun e w' ⟨he, hk⟩ => ⟨_, he, ?_⟩⟩⟩)⟩
  · have h : l = 0 := by simpa using h
    exact ⟨by simp [leftR, h], hn.kp _⟩
  have h : ¬ l = 0 := by simpa using h
  have hk' := (hn.kp (fun _ => False)).trans hk
  refine bsp_intro (fun h1 => ?_) (fun h1 => ?_)
  · have h1 : dateR d now = false := by simpa using h1
    exact ⟨by simp [leftR, h, h1], hk'⟩
  · have h1 : dateR d now = true := by simpa using h1
    obtain ⟨b0, b1, _⟩ := dateR_bd h1
    have hb' := hk.blk hb (fun h => h)
    refine ⟨fun w2 => K0 w'.drew w2, .refl _ _, l, fun w2 h2 => cell_block (h2.blk hb' (fun h => h)) 0, l, d, u, fun w2 h2 => AtL_block (h2.blk hb' (fun h => h)) rfl,
      ⟨(refUsed_any l d u now w'.drew b0 b1).mono fun e w2 ⟨he, h2⟩ => ⟨_, he, h2, ?_⟩⟩⟩
    have hub : 0 ≤ usedR d u now ∧ usedR d u now ≤ 1099511627776 := by unfold usedR; split <;> omega
    rw [wr64 (by omega) (by omega)]
    exact ⟨by simp [leftR, h, h1], hk'.trans h2.of_drew⟩

end Go.Proofs.YtcpjajjocmpkjaaDoor
