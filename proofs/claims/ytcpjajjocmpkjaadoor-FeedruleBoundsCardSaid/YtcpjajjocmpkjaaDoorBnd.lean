/- The statement FeedruleBounds on worlds: it returns true and leaves what was there as it was. The library's variable MaxLen holds a number. -/
import Derived.Test.YtcpjajjocmpkjaaDoorQlaw
import Derived.Test.YtcpjajjocmpkjaaDoorMaps
namespace Go.Proofs.YtcpjajjocmpkjaaDoor
open Go.RowKit Go.Maps

/-- The sums of the days agree with a quota. -/
structure BndI (q : Qt) (lim : Int) (l : List (Int × Int)) : Prop where
  el : q.lim = lim
  pos : 0 < lim ∧ lim ≤ 1099511627776
  used : 0 ≤ q.used ∧ q.used ≤ lim
  le : ∀ d v, aget l d = some v → 0 ≤ v ∧ v ≤ lim
  no : q.ch = false → l = []
  day : q.ch = true → aget l q.day = some q.used ∧ ∀ d, q.day < d → aget l d = none
theorem BndI.take {q : Qt} {lim : Int} {l : List (Int × Int)} (h : BndI q lim l) {n now : Int} (h0 : (takeS q n now).1 = 0) :
    0 ≤ now ∧ now ≤ 105190559 ∧ 0 ≤ n ∧ 0 ≤ (aget l (now / 1440)).getD 0 ∧ (aget l (now / 1440)).getD 0 + n ≤ lim ∧ BndI (takeS q n now).2 lim (aset l (now / 1440) ((aget l (now / 1440)).getD 0 + n)) := by
  obtain ⟨hl, hp, hu, hle, hno, hday⟩ := h
  have hon : (onS q now).2.2 = 0 → 0 ≤ now ∧ now ≤ 105190559 ∧ (onS q now).1 = now / 1440 ∧ (onS q now).2.1 = (aget l (now / 1440)).getD 0 ∧ ∀ d, now / 1440 < d → aget l d = none := by
    unfold onS
    by_cases hr : now < 0 ∨ 105190559 < now
    · rw [if_pos hr]; intro h; cases h
    rw [if_neg hr]
    by_cases hc : q.ch = false ∨ q.day < now / 1440
    · rw [if_pos hc]
      intro _
      have hn : ∀ d, now / 1440 ≤ d → aget l d = none := fun d hd => by
        rcases hc with hc | hc
        · rw [hno hc]; rfl
        · cases hcc : q.ch with
          | false => rw [hno hcc]; rfl
          | true => exact (hday hcc).2 d (by omega)
      refine ⟨by omega, by omega, rfl, ?_, fun d hd => hn d (by omega)⟩
      rw [hn _ (Int.le_refl _)]; rfl
    · rw [if_neg hc]
      have hch : q.ch = true := by
        cases h : q.ch with
        | true => rfl
        | false => exact absurd (.inl h) hc
      split
      · intro h; cases h
      · rename_i hlt
        intro _
        have e : now / 1440 = q.day := by omega
        rw [e]
        refine ⟨by omega, by omega, rfl, ?_, fun d hd => (hday hch).2 d hd⟩
        rw [(hday hch).1]; rfl
  unfold takeS at h0 ⊢
  by_cases hn : n < 0 ∨ 1099511627776 < n
  · rw [if_pos hn] at h0; cases h0
  rw [if_neg hn] at h0 ⊢
  by_cases ho : (onS q now).2.2 ≠ 0
  · rw [if_pos ho] at h0; exact absurd h0 ho
  rw [if_neg ho] at h0 ⊢
  rw [if_neg (by omega)] at h0 ⊢
  by_cases hx : q.lim < (onS q now).2.1 + n
  · rw [if_pos hx] at h0; cases h0
  rw [if_neg hx]
  obtain ⟨h1, h2, h3, h4, h5⟩ := hon (by omega)
  rw [h3, h4]
  rw [h4] at hx
  have hv : 0 ≤ (aget l (now / 1440)).getD 0 := by
    cases hg : aget l (now / 1440) with
    | none => exact Int.le_refl _
    | some v => exact (hle _ _ hg).1
  refine ⟨h1, h2, by omega, hv, by omega, hl, hp, ⟨by simp; omega, by simp; omega⟩, fun d v hd => ?_, (fun h => by cases h), fun _ => ⟨?_, fun d hd => ?_⟩⟩
  · rw [aget_aset] at hd
    split at hd
    · simp at hd; omega
    · exact hle d v hd
  · rw [aget_aset, if_pos rfl]
  · rw [aget_aset, if_neg (fun e => by simp at hd; omega)]
    exact h5 d hd

theorem zeroInt (w : World) : (zeroValue 3).run Tryd.prog w = .ok (.int .i64 0) w := by kernel_rfl
theorem keyInt {a : Int} (h : -9223372036854775808 ≤ a ∧ a ≤ 9223372036854775807) : keyOf Tryd.prog 3 (.int .i64 a) = some (.int .i64 a) := keyOf_int_mk Tryd.underlying3 (by simp [Lit.wf, IntKind.min, IntKind.max, IntKind.bits, IntKind.signed]; omega)
abbrev IntMap (w : World) (b : Nat) (l : List (Int × Int)) : Prop := MapB Tryd.prog 3 (fun a : Int => Value.int .i64 a) w b (amap (Value.int .i64) l)
theorem encInt (x y : Int) (h : Value.int .i64 x = Value.int .i64 y) : x = y := by cases h; rfl
theorem IntMap.look {w : World} {b : Nat} {l : List (Int × Int)} (h : IntMap w b l) {a : Int} (ha : -9223372036854775808 ≤ a ∧ a ≤ 9223372036854775807) : LookP Tryd.prog 61 (.map (some b)) (.int .i64 a) false (.int .i64 ((aget l a).getD 0)) w := by
  have := MapB.look encInt h (int_keyed Tryd.underlying3) Tryd.underlying61 (zeroInt w) (keyInt ha) false
  rw [aget_amap] at this
  cases hg : aget l a with
  | none => rw [hg] at this; exact this
  | some v => rw [hg] at this; exact this
theorem IntMap.upd {w : World} {b : Nat} {l : List (Int × Int)} (h : IntMap w b l) {a : Int} (ha : -9223372036854775808 ≤ a ∧ a ≤ 9223372036854775807) (v : Int) : ∃ w1, UpdP Tryd.prog 61 (.map (some b)) (.int .i64 a) (.int .i64 v) w w1 ∧ IntMap w1 b (aset l a v) ∧ Kp (· = b) w w1 := by
  have := MapB.upd encInt h (int_keyed Tryd.underlying3) Tryd.underlying61 (keyInt ha) (.int .i64 v)
  rw [aset_amap] at this
  exact this

set_option maxHeartbeats 1000000 in
theorem bounds_any (lim : Int) (p : Option Addr) (n c : Nat) (w : World) (hG : GW w) (hch : ChP w p n) :
    Calls Tryd.prog 6 #[.int .i64 lim, .slice p n c] w fun e w' => e = .returned (.bool true) ∧ K0 w w' := by
  refine vc_bounds lim p n c w _ ?_
  refine ⟨(newQuota_any lim w).mono fun e w1 he => ?_⟩
  rcases he with ⟨hbad, he, rfl⟩ | ⟨hgood, qb, he, hq, hk1, hqb⟩
  · refine ⟨_, _, he, ⟨(known_any w1 hG).mono fun e w2 ⟨he, hk2⟩ => ⟨_, he, bsp_intro (fun _ => ?_) (fun h => ?_)⟩⟩⟩
    · exact ⟨(known_any w2 (hG.kp hk2 (fun h => h))).mono fun e w3 ⟨he, hk3⟩ => ⟨_, he, rfl, hk2.trans hk3⟩⟩
    · exfalso; simp at h
  refine ⟨_, _, he, ⟨(known_any w1 (hG.kp hk1 (fun h => h))).mono fun e w2 ⟨he, hk2⟩ => ⟨_, he, bsp_intro (fun _ => ?_) (fun h => ?_)⟩⟩⟩
  · exact ⟨(known_any w2 (hG.kp (hk1.trans hk2) (fun h => h))).mono fun e w3 ⟨he, hk3⟩ => ⟨_, he, rfl, (hk1.trans hk2).trans hk3⟩⟩
  have hlim : 0 < lim ∧ lim ≤ 1099511627776 := by simp at h; omega
  intro n1 w3 hn3
  have hq2 := hk2.blk hq (fun h => h)
  have hk3 : K0 w w3 := (hk1.trans hk2).trans (hn3.kp _)
  have hq3 : QAt w3 qb ⟨lim, false, 0, 0⟩ := (hn3.kp (fun _ => False)).blk hq2 (fun h => h)
  have hqn : qb < n1 := Nat.lt_of_lt_of_le (block_lt hq2) hn3.ge
  have hwn : w.heap.size ≤ n1 := by omega
  refine count1 (min n 60) (by omega) (fun k w' => K0 w w' ∧ ∃ q l, QAt w' qb q ∧ IntMap w' n1 l ∧ BndI q lim l) ⟨hk3, _, [], hq3, hn3.map, rfl, hlim, ⟨by simp, by simp; omega⟩, (fun d v h => by cases h), fun _ => rfl, (fun h => by cases h)⟩ ?_
  intro I m k w5 hk ⟨hk5, q, l, hq5, hm5, hinv⟩ next
  refine bsp_intro (fun hlt => ?_) (fun _ => ⟨rfl, hk5⟩)
  have hlt' : k < min n 60 := by simp at hlt; omega
  have hlt : k < n := by omega
  obtain ⟨b, o, x, y, rfl, c1, c2⟩ := hch k hlt
  have e0 : (k : Int).toNat = k := by omega
  rw [e0]
  have hbb : b < w.heap.size := cell_lt c1
  have hin : 0 ≤ (k : Int) ∧ (k : Int) < (n : Int) := by omega
  have cx : ∀ wx, K0 w wx → wx.cell? ⟨b, o + k * 2, none⟩ = some (.int .i64 x) := fun wx hk => hk.cell' c1 (fun h => h)
  have cy : ∀ wx, K0 w wx → wx.cell? ⟨b, o + k * 2 + 1, none⟩ = some (.int .i64 y) := fun wx hk => hk.cell' c2 (fun h => h)
  refine ⟨hin, x, cx _ hk5.drew, hin, y, cy _ hk5.drew, ⟨(take_any qb x y q w5.drew hq5 ⟨hinv.used.1, by have := hinv.used.2; have := hlim.2; omega⟩).mono fun e w6 ⟨he, hq6, hk6⟩ => ⟨_, he, ?_⟩⟩⟩
  have hk6' : K0 w w6 := hk5.drew.fresh hk6 (fun i hi e => by omega)
  have hm6 : IntMap w6 n1 l := hm5.drew.kp hk6 (fun e => by omega)
  refine bsp_intro (fun hne => ?_) (fun h0 => ?_)
  · have hne : (takeS q x y).1 ≠ 0 := by simpa using hne
    have hsame : (takeS q x y).2 = q := by
      unfold takeS at hne ⊢
      repeat' split
      all_goals first | rfl | (exfalso; apply hne; simp_all)
    rw [hsame] at hq6
    exact next hlt' w6 ⟨hk6', q, l, hq6, hm6, hinv⟩
  have h0 : (takeS q x y).1 = 0 := by simpa using h0
  obtain ⟨y0, y1, x0, v0, v1, hinv'⟩ := hinv.take h0
  have hd : -9223372036854775808 ≤ y / 1440 ∧ y / 1440 ≤ 9223372036854775807 := by omega
  refine ⟨hin, y, cy _ hk6', ?_⟩
  rw [tdivDay y0 y1]
  refine ⟨_, IntMap.look hm6.drew hd, hin, x, cx _ hk6'.drew, ?_⟩
  rw [wr64 (x := (aget l (y / 1440)).getD 0 + x) (by omega) (by have := hlim.2; omega)]
  obtain ⟨w7, hu, hm7, hk7⟩ := IntMap.upd hm6.drew hd ((aget l (y / 1440)).getD 0 + x)
  refine ⟨w7, hu, _, IntMap.look hm7 hd, ?_⟩
  rw [aget_aset, if_pos rfl]
  refine bsp_intro (fun h => ?_) (fun _ => ?_)
  · exfalso; simp at h; omega
  · exact next hlt' w7 ⟨hk6'.drew.fresh hk7 (fun i hi e => by omega), _, _, hk7.blk (blk_drew hq6) (fun e => by omega), hm7, hinv'⟩

end Go.Proofs.YtcpjajjocmpkjaaDoor
