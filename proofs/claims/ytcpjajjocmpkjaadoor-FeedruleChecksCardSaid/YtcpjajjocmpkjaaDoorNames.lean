/- The contracts of msgid.Site, feedrule.isDistribution, and of the reference's Site and word. A word's length is in the range of int. -/
import Derived.Test.YtcpjajjocmpkjaaDoorVcWild
import Derived.Test.YtcpjajjocmpkjaaDoorPlain
namespace Go.Proofs.YtcpjajjocmpkjaaDoor
open Go.RowKit

theorem site_any (s : ByteArray) (w : World) : Calls Tryd.prog 46 #[.string s] w fun e w' => e = .returned (.tuple #[.int .i64 (siteS s).1, .int .i64 (siteS s).2]) ∧ w' = w := by
  refine vc_site s w _ ?_
  unfold VC_site
  rw [toList_nil]
  refine bsp_intro (fun h0 => ?_) (fun h0 => bsp_intro (fun h1 => ?_) (fun h1 => ?_))
  · have h0 : s.size = 0 := by simpa using h0
    exact ⟨by simp [siteS, h0], rfl⟩
  · have h0 : ¬ s.size = 0 := by simpa using h0
    have h1 : (s.size : Int) > 30 := by simpa using h1
    have h1 : 30 < s.size := by omega
    exact ⟨by simp [siteS, h0, h1], rfl⟩
  have h0 : ¬ s.size = 0 := by simpa using h0
  have h1 : ¬ (s.size : Int) > 30 := by simpa using h1
  have h1 : ¬ 30 < s.size := by omega
  refine count1 s.size (by omega) (fun k w' => w' = w ∧ ∀ j, j < k → permB (at8 s j) = true) ⟨rfl, fun j hj => by omega⟩ (fun I m k w' hk ⟨hw, hJ⟩ next => ?_)
  subst hw
  refine bsp_intro (fun hlt => ⟨?_, bsp_intro (fun hp => ?_) (fun hp => ?_)⟩) (fun hge => ?_)
  · have : k < s.size := by simpa using hlt
    omega
  · have hlt : k < s.size := by simpa using hlt
    rw [siteS_byte s k h0 h1 hlt hJ (by simpa using hp)]
    exact ⟨rfl, rfl⟩
  · have hlt : k < s.size := by simpa using hlt
    refine next hlt _ ⟨rfl, fun j hj => ?_⟩
    by_cases hjk : j = k
    · subst hjk; simpa using hp
    · exact hJ j (by omega)
  · have hall : ∀ j, j < s.size → permB (at8 s j) = true := fun j hj => hJ j (by
      have : ¬ k < s.size := by simpa using hge
      omega)
    refine count1 s.size (by omega) (fun k w'' => w'' = w' ∧ ∀ j, j < k → misB s j = false) ⟨rfl, fun j hj => by omega⟩ (fun I m k w'' hk ⟨hw, hJ2⟩ next => ?_)
    subst hw
    have hmis : ∀ (hlt : k < s.size), ((k : Int) == 0 && !lowerB (at8 s (k : Int).toNat) || decide ((k : Int) > 0) && at8 s (k : Int).toNat == 46 && at8 s (IntKind.i64.wrap ((k : Int) - 1)).toNat == 46 ||
        (k : Int) == IntKind.i64.wrap ((s.size : Int) - 1) && (at8 s (k : Int).toNat == 45 || at8 s (k : Int).toNat == 46)) = misB s k := fun hlt => by
      rw [wr64 (by omega) (by omega), wr64 (by omega) (by omega)]
      have e1 : ((k : Int) == 0) = (k == 0) := by rw [Bool.eq_iff_iff]; simp
      have e2 : decide ((k : Int) > 0) = decide (0 < k) := by apply decide_eq_decide.2; omega
      have e3 : ((k : Int) == (s.size : Int) - 1) = (k + 1 == s.size) := by rw [Bool.eq_iff_iff]; simp; omega
      have e4 : ((k : Int) - 1).toNat = k - 1 := by omega
      rw [e1, e2, e3, e4]
      rfl
    refine bsp_intro (fun hlt => ⟨?_, gimp_intro (fun hg => ?_), ?_⟩) (fun hge => ?_)
    · have : k < s.size := by simpa using hlt
      omega
    · have hlt : k < s.size := by simpa using hlt
      have : (k : Int) > 0 := by
        simp only [Bool.and_eq_true, decide_eq_true_eq] at hg
        exact hg.2.1
      rw [wr64 (by omega) (by omega)]
      omega
    · have hlt : k < s.size := by simpa using hlt
      rw [hmis hlt]
      refine bsp_intro (fun hp => ?_) (fun hp => ?_)
      · rw [siteS_name s k h0 h1 hall hlt hJ2 hp]
        exact ⟨rfl, rfl⟩
      · refine next hlt _ ⟨rfl, fun j hj => ?_⟩
        by_cases hjk : j = k
        · subst hjk; exact hp
        · exact hJ2 j (by omega)
    · have hge : ¬ k < s.size := by simpa using hge
      rw [siteS_ok s h0 h1 hall (fun j hj => hJ2 j (by omega))]
      exact ⟨rfl, rfl⟩

theorem dist_step {s : ByteArray} {k : Nat} (h : (!lowerB (at8 s (k : Int).toNat) && !digitB (at8 s (k : Int).toNat) && at8 s (k : Int).toNat != 45) = false) : (lowerB (at8 s k) || digitB (at8 s k) || at8 s k == 45) = true := by
  have h : (!lowerB (at8 s k) && !digitB (at8 s k) && at8 s k != 45) = false := h
  revert h
  cases lowerB (at8 s k) <;> cases digitB (at8 s k) <;> simp
theorem dist_no {s : ByteArray} {k : Nat} (hk : k < s.size) (h : (!lowerB (at8 s (k : Int).toNat) && !digitB (at8 s (k : Int).toNat) && at8 s (k : Int).toNat != 45) = true) : distB s = false := by
  have h : (!lowerB (at8 s k) && !digitB (at8 s k) && at8 s k != 45) = true := h
  unfold distB
  rw [Bool.and_eq_false_iff]
  right
  rw [List.all_eq_false]
  refine ⟨k, List.mem_range.2 hk, ?_⟩
  revert h
  cases lowerB (at8 s k) <;> cases digitB (at8 s k) <;> simp
theorem dist_all {s : ByteArray} (h0 : 0 < s.size) (h1 : s.size ≤ 20) (h : ∀ j, j < s.size → (lowerB (at8 s j) || digitB (at8 s j) || at8 s j == 45) = true) : distB s = true := by
  unfold distB
  simp only [Bool.and_eq_true, decide_eq_true_eq]
  exact ⟨⟨h0, h1⟩, List.all_eq_true.2 fun j hj => h j (List.mem_range.1 hj)⟩
theorem isDist_any (s : ByteArray) (w : World) : Calls Tryd.prog 47 #[.string s] w fun e w' => e = .returned (.bool (distB s)) ∧ w' = w := by
  refine vc_isDist s w _ ?_
  unfold VC_isDist
  rw [toList_nil]
  refine bsp_intro (fun h0 => ?_) (fun h0 => ?_)
  · have h0 : s.size = 0 ∨ (s.size : Int) > 20 := by simpa using h0
    have : distB s = false := by
      unfold distB
      rw [Bool.and_eq_false_iff, Bool.and_eq_false_iff]
      left
      rcases h0 with h0 | h0
      · left; simp [h0]
      · right; simp; omega
    exact ⟨by rw [this], rfl⟩
  have h0 : ¬ (s.size = 0 ∨ (s.size : Int) > 20) := by simpa using h0
  refine count1 s.size (by omega) (fun k w' => w' = w ∧ ∀ j, j < k → (lowerB (at8 s j) || digitB (at8 s j) || at8 s j == 45) = true) ⟨rfl, fun j hj => by omega⟩ (fun I m k w' hk ⟨hw, hJ⟩ next => ?_)
  subst hw
  refine bsp_intro (fun hlt => ⟨?_, bsp_intro (fun hp => ?_) (fun hp => ?_)⟩) (fun hge => ?_)
  · have : k < s.size := by simpa using hlt
    omega
  · have hlt : k < s.size := by simpa using hlt
    exact ⟨by rw [dist_no hlt hp], rfl⟩
  · have hlt : k < s.size := by simpa using hlt
    refine next hlt _ ⟨rfl, fun j hj => ?_⟩
    by_cases hjk : j = k
    · subst hjk; exact dist_step hp
    · exact hJ j (by omega)
  · have hge : ¬ k < s.size := by simpa using hge
    exact ⟨by rw [dist_all (by omega) (by omega) (fun j hj => hJ j (by omega))], rfl⟩

theorem bsp_congr {b c : Bool} {X Y : Prop} (h : b = c) (k : bsp c X Y) : bsp b X Y := h ▸ k
theorem refSite_any (s : ByteArray) (w : World) : Calls Tryd.prog 32 #[.string s] w fun e w' => e = .returned (.tuple #[.int .i64 (siteS s).1, .int .i64 (siteS s).2]) ∧ w' = w := by
  refine vc_ref11Site s w _ ?_
  unfold VC_ref11Site
  rw [toList_nil]
  refine bsp_intro (fun h0 => ?_) (fun h0 => bsp_intro (fun h1 => ?_) (fun h1 => ?_))
  · have h0 : s.size = 0 := by simpa using h0
    exact ⟨by simp [siteS, h0], rfl⟩
  · have h0 : ¬ s.size = 0 := by simpa using h0
    have h1 : (s.size : Int) > 30 := by simpa using h1
    have h1 : 30 < s.size := by omega
    exact ⟨by simp [siteS, h0, h1], rfl⟩
  have h0 : ¬ s.size = 0 := by simpa using h0
  have h1 : ¬ (s.size : Int) > 30 := by simpa using h1
  have h1 : ¬ 30 < s.size := by omega
  refine count1 s.size (by omega) (fun k w' => w' = w ∧ ∀ j, j < k → permB (at8 s j) = true) ⟨rfl, fun j hj => by omega⟩ (fun I m k w' hk ⟨hw, hJ⟩ next => ?_)
  subst hw
  refine bsp_intro (fun hlt => ⟨?_, bsp_intro (fun hp => ?_) (fun hp => ?_)⟩) (fun hge => ?_)
  · have : k < s.size := by simpa using hlt
    omega
  · have hlt : k < s.size := by simpa using hlt
    rw [siteS_byte s k h0 h1 hlt hJ (by have hp : (!permB (at8 s k)) = true := hp; simpa using hp)]
    exact ⟨rfl, rfl⟩
  · have hlt : k < s.size := by simpa using hlt
    refine next hlt _ ⟨rfl, fun j hj => ?_⟩
    by_cases hjk : j = k
    · subst hjk; have hp : (!permB (at8 s j)) = false := hp; simpa using hp
    · exact hJ j (by omega)
  · have hall : ∀ j, j < s.size → permB (at8 s j) = true := fun j hj => hJ j (by
      have : ¬ k < s.size := by simpa using hge
      omega)
    refine count1 s.size (by omega) (fun k w'' => w'' = w' ∧ ∀ j, j < k → misB s j = false) ⟨rfl, fun j hj => by omega⟩ (fun I m k w'' hk ⟨hw, hJ2⟩ next => ?_)
    subst hw
    have hmis : ∀ (hlt : k < s.size), ((k : Int) == 0 && !lowerB (at8 s (k : Int).toNat) || decide ((k : Int) > 0) && at8 s (k : Int).toNat == 46 && at8 s (IntKind.i64.wrap ((k : Int) - 1)).toNat == 46 ||
        (k : Int) == IntKind.i64.wrap ((s.size : Int) - 1) && (at8 s (k : Int).toNat == 45 || at8 s (k : Int).toNat == 46)) = misB s k := fun hlt => by
      rw [wr64 (by omega) (by omega), wr64 (by omega) (by omega)]
      have e1 : ((k : Int) == 0) = (k == 0) := by rw [Bool.eq_iff_iff]; simp
      have e2 : decide ((k : Int) > 0) = decide (0 < k) := by apply decide_eq_decide.2; omega
      have e3 : ((k : Int) == (s.size : Int) - 1) = (k + 1 == s.size) := by rw [Bool.eq_iff_iff]; simp; omega
      have e4 : ((k : Int) - 1).toNat = k - 1 := by omega
      rw [e1, e2, e3, e4]
      rfl
    refine bsp_intro (fun hlt => ⟨?_, gimp_intro (fun hg => ?_), ?_⟩) (fun hge => ?_)
    · have : k < s.size := by simpa using hlt
      omega
    · have hlt : k < s.size := by simpa using hlt
      have : (k : Int) > 0 := by
        simp only [Bool.and_eq_true, decide_eq_true_eq] at hg
        exact hg.2.1
      rw [wr64 (by omega) (by omega)]
      omega
    · have hlt : k < s.size := by simpa using hlt
      refine bsp_congr (hmis hlt) ?_
      refine bsp_intro (fun hp => ?_) (fun hp => ?_)
      · rw [siteS_name s k h0 h1 hall hlt hJ2 hp]
        exact ⟨rfl, rfl⟩
      · refine next hlt _ ⟨rfl, fun j hj => ?_⟩
        by_cases hjk : j = k
        · subst hjk; exact hp
        · exact hJ2 j (by omega)
    · have hge : ¬ k < s.size := by simpa using hge
      rw [siteS_ok s h0 h1 hall (fun j hj => hJ2 j (by omega))]
      exact ⟨rfl, rfl⟩

theorem word_any (s : ByteArray) (hs : (s.size : Int) ≤ 9223372036854775807) (w : World) : Calls Tryd.prog 34 #[.string s] w fun e w' => e = .returned (.bool (distB s)) ∧ w' = w := by
  refine vc_word s w _ ?_
  unfold VC_word
  refine count1 s.size hs (fun k w' => w' = w ∧ ∀ j, j < k → (lowerB (at8 s j) || digitB (at8 s j) || at8 s j == 45) = true) ⟨rfl, fun j hj => by omega⟩ (fun I m k w' hk ⟨hw, hJ⟩ next => ?_)
  subst hw
  have hc : ((decide (at8 s (k : Int).toNat < 97) || decide (at8 s (k : Int).toNat > 122)) && (decide (at8 s (k : Int).toNat < 48) || decide (at8 s (k : Int).toNat > 57)) && at8 s (k : Int).toNat != 45) =
      (!lowerB (at8 s (k : Int).toNat) && !digitB (at8 s (k : Int).toNat) && at8 s (k : Int).toNat != 45) := by
    unfold lowerB digitB
    generalize at8 s (k : Int).toNat = c
    rw [Bool.not_and, Bool.not_and, ← decide_not, ← decide_not, ← decide_not, ← decide_not]
    have e1 : decide (c < 97) = decide (¬ 97 ≤ c) := by apply decide_eq_decide.2; omega
    have e2 : decide (c > 122) = decide (¬ c ≤ 122) := by apply decide_eq_decide.2; omega
    have e3 : decide (c < 48) = decide (¬ 48 ≤ c) := by apply decide_eq_decide.2; omega
    have e4 : decide (c > 57) = decide (¬ c ≤ 57) := by apply decide_eq_decide.2; omega
    rw [e1, e2, e3, e4]
  rw [hc]
  refine bsp_intro (fun hlt => ⟨?_, bsp_intro (fun hp => ?_) (fun hp => ?_)⟩) (fun hge => ?_)
  · have : k < s.size := by simpa using hlt
    omega
  · have hlt : k < s.size := by simpa using hlt
    exact ⟨by rw [dist_no hlt hp], rfl⟩
  · have hlt : k < s.size := by simpa using hlt
    refine next hlt _ ⟨rfl, fun j hj => ?_⟩
    by_cases hjk : j = k
    · subst hjk; exact dist_step hp
    · exact hJ j (by omega)
  · have hge : ¬ k < s.size := by simpa using hge
    refine ⟨?_, rfl⟩
    congr 2
    by_cases hb : 0 < s.size ∧ s.size ≤ 20
    · rw [dist_all hb.1 hb.2 (fun j hj => hJ j (by omega))]
      simp
      omega
    · have : distB s = false := by
        unfold distB
        rw [Bool.and_eq_false_iff]
        left
        simp
        omega
      rw [this]
      simp
      omega

end Go.Proofs.YtcpjajjocmpkjaaDoor
