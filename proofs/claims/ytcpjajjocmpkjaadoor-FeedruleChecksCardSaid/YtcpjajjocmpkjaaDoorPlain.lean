/- Plain functions on texts (no program in sight): the tests of characters, the errors of a site's name, searches for a first index. No condition. -/
import Derived.Test.YtcpjajjocmpkjaaDoorPur1
namespace Go.Proofs.YtcpjajjocmpkjaaDoor

theorem at8_lt (s : ByteArray) (k : Nat) (h : k < s.size) : at8 s k = (s[k].toNat : Int) := by simp [at8, h]
theorem at8_bd (s : ByteArray) (k : Nat) : 0 ≤ at8 s k ∧ at8 s k ≤ 255 := by
  unfold at8
  split
  · have := s[k].toNat_lt; omega
  · omega

theorem find_some (p : Nat → Bool) (n k : Nat) (hk : k < n) (h : ∀ j, j < k → p j = false) (hp : p k = true) : (List.range n).find? p = some k := by
  rw [List.find?_range_eq_some]
  exact ⟨hp, List.mem_range.2 hk, fun j hj => by simp [h j hj]⟩
theorem find_none (p : Nat → Bool) (n : Nat) (h : ∀ j, j < n → p j = false) : (List.range n).find? p = none := by
  rw [List.find?_range_eq_none]
  exact fun j hj => by simp [h j hj]

/-- A character of a site's name is at a place where it can't stand. -/
def misB (s : ByteArray) (i : Nat) : Bool :=
  (i == 0 && !lowerB (at8 s i)) || (decide (0 < i) && at8 s i == 46 && at8 s (i - 1) == 46) || (i + 1 == s.size && (at8 s i == 45 || at8 s i == 46))
/-- The offset of the first error of a site's name and its kind. -/
def siteS (s : ByteArray) : Int × Int :=
  if s.size = 0 then (0, 4) else if 30 < s.size then (30, 5) else
  match (List.range s.size).find? (fun i => !permB (at8 s i)) with
  | some i => ((i : Int), 6)
  | none => match (List.range s.size).find? (misB s) with
    | some i => ((i : Int), 12)
    | none => (0, 0)

theorem siteS_byte (s : ByteArray) (k : Nat) (h0 : ¬ s.size = 0) (h1 : ¬ 30 < s.size) (hk : k < s.size) (h : ∀ j, j < k → permB (at8 s j) = true) (hp : permB (at8 s k) = false) : siteS s = ((k : Int), 6) := by
  have := find_some (fun i => !permB (at8 s i)) s.size k hk (fun j hj => by simp [h j hj]) (by simp [hp])
  simp [siteS, h0, h1, this]
theorem siteS_name (s : ByteArray) (k : Nat) (h0 : ¬ s.size = 0) (h1 : ¬ 30 < s.size) (h : ∀ j, j < s.size → permB (at8 s j) = true) (hk : k < s.size) (hm : ∀ j, j < k → misB s j = false) (hp : misB s k = true) : siteS s = ((k : Int), 12) := by
  have a := find_none (fun i => !permB (at8 s i)) s.size (fun j hj => by simp [h j hj])
  have b := find_some (misB s) s.size k hk hm hp
  simp [siteS, h0, h1, a, b]
theorem siteS_ok (s : ByteArray) (h0 : ¬ s.size = 0) (h1 : ¬ 30 < s.size) (h : ∀ j, j < s.size → permB (at8 s j) = true) (hm : ∀ j, j < s.size → misB s j = false) : siteS s = (0, 0) := by
  have a := find_none (fun i => !permB (at8 s i)) s.size (fun j hj => by simp [h j hj])
  have b := find_none (misB s) s.size hm
  simp [siteS, h0, h1, a, b]

/-- A word is a distribution. -/
def distB (s : ByteArray) : Bool := decide (0 < s.size) && decide (s.size ≤ 20) && (List.range s.size).all (fun i => lowerB (at8 s i) || digitB (at8 s i) || at8 s i == 45)

theorem toList_nil (s : ByteArray) : (s.toList == []) = decide (s.size = 0) := by
  have h : s.toList.length = s.size := by rw [ByteArray.toList_eq]; exact s.data.length_toList
  cases hs : s.toList with
  | nil => rw [hs] at h; have h : s.size = 0 := h.symm; rw [h]; rfl
  | cons a r =>
    rw [hs] at h
    have h : s.size = r.length + 1 := h.symm
    have : ¬ s.size = 0 := by omega
    rw [decide_eq_false this]
    rfl
/-- A loop that counts a slot from 0 up to n. -/
theorem count1 {w : World} {F : (List Value → World → Prop) → (List Value → World → Nat) → Int → World → Prop} (n : Nat) (hn : (n : Int) ≤ 9223372036854775807) (J : Nat → World → Prop) (h0 : J 0 w)
    (step : ∀ (I : List Value → World → Prop) (m : List Value → World → Nat) (k : Nat) (w' : World), k ≤ n → J k w' →
      (k < n → ∀ w'', J (k + 1) w'' → I [.int .i64 (IntKind.i64.wrap (k + 1))] w'' ∧ m [.int .i64 (IntKind.i64.wrap (k + 1))] w'' < m [.int .i64 k] w') → F I m k w') :
    ∃ (I : List Value → World → Prop) (m : List Value → World → Nat), I [.int .i64 0] w ∧ ∀ (x : Int) (w' : World), I [.int .i64 x] w' → F I m x w' := by
  refine ⟨fun vs w' => ∃ k : Nat, vs = [.int .i64 k] ∧ k ≤ n ∧ J k w', fun vs _ => (match vs with | [.int _ x] => n - x.toNat | _ => 0), ⟨0, rfl, by omega, h0⟩, fun x w' ⟨k, hv, hk, hJ⟩ => ?_⟩
  have hx : x = (k : Int) := by simpa using hv
  subst hx
  refine step _ _ k w' hk hJ (fun hlt w'' hJ' => ?_)
  rw [show IntKind.i64.wrap ((k : Int) + 1) = ((k + 1 : Nat) : Int) from by rw [wr64 (by omega) (by omega)]; omega]
  exact ⟨⟨k + 1, rfl, by omega, hJ'⟩, by simp; omega⟩

end Go.Proofs.YtcpjajjocmpkjaaDoor
