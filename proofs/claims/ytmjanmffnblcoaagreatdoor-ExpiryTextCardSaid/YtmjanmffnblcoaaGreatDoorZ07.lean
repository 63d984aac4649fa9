/- Matching by rows (plain): the marks of the program's Match are those of a table of prefixes. No condition. -/
import Derived.Test.YtmjanmffnblcoaaGreatDoorZ06
import Derived.Lib.SplitLaws
import Derived.Lib.CountLaws
import Derived.Lib.CutLaws
import Derived.Lib.ItoaNum
import Derived.Test.YtmjanmffnblcoaaGreatDoorZ04
import Derived.Test.YtmjanmffnblcoaaGreatDoorZ03
import Derived.Maps.Keyed
import Derived.DeepKeys3
import Derived.Test.YtmjanmffnblcoaaGreatDoorZ05
import Derived.Sort.Grow
namespace Go.Proofs.YtmjanmffnblcoaaGreatDoor

def rowS (prev h : Nat → Bool) : Nat → Bool
  | 0 => prev 0
  | k + 1 => prev (k + 1) || (h k && rowS prev h k)
def rowC (prev h : Nat → Bool) : Nat → Bool
  | 0 => false
  | k + 1 => h k && prev k
/-- The first i elements match the first k characters. -/
def pmF (st : Nat → Bool) (h : Nat → Nat → Bool) : Nat → Nat → Bool
  | 0, k => k == 0
  | i + 1, k => if st i = true then rowS (pmF st h i) (h i) k else rowC (pmF st h i) (h i) k
theorem pmF_zero (st : Nat → Bool) (h : Nat → Nat → Bool) (i : Nat) : pmF st h (i + 1) 0 = (st i && pmF st h i 0) := by
  simp only [pmF]; cases st i <;> simp [rowS, rowC]
theorem pmF_succ (st : Nat → Bool) (h : Nat → Nat → Bool) (i k : Nat) : pmF st h (i + 1) (k + 1) = if st i = true then pmF st h i (k + 1) || (h i k && pmF st h (i + 1) k) else h i k && pmF st h i k := by
  simp only [pmF]; cases hs : st i <;> simp [rowS, rowC]
theorem run_pm (els : List El) (s : ByteArray) : ∀ (k j : Nat), runF els s k j = if elS els j = true then pmF (elS els) (fun i k => elH els i (at8 s k)) (j + 1) k else pmF (elS els) (fun i k => elH els i (at8 s k)) j k := by
  intro k
  induction k with
  | zero =>
    have key : ∀ j, spF (elS els) (fun j => j == 0) j = pmF (elS els) (fun i k => elH els i (at8 s k)) j 0 := by
      intro j
      induction j with
      | zero => rfl
      | succ j ih => rw [pmF_zero, spF, ih]; simp
    intro j
    rw [runF, key]
    split
    · rename_i hs; rw [pmF_zero, hs]; simp
    · rfl
  | succ k ih =>
    intro j
    rw [runF]
    induction j with
    | zero =>
      rw [spF]
      simp only [stpF, ih 0]
      cases hs : elS els 0 with
      | true => rw [if_pos rfl, if_pos rfl, pmF_succ, hs, if_pos rfl, Bool.and_comm]; simp [pmF]
      | false => simp [pmF]
    | succ j ihj =>
      rw [spF, ihj]
      have h1 : ((match j + 1 with | 0 => false | i + 1 => !elS els i && runF els s k i && elH els i (at8 s k)) || (elS els j && if elS els j = true then pmF (elS els) (fun i k => elH els i (at8 s k)) (j + 1) (k + 1) else pmF (elS els) (fun i k => elH els i (at8 s k)) j (k + 1))) = pmF (elS els) (fun i k => elH els i (at8 s k)) (j + 1) (k + 1) := by
        simp only [ih j]
        rw [pmF_succ]
        cases hs : elS els j with
        | true => simp
        | false => simp [Bool.and_comm]
      unfold stpF
      rw [Bool.or_assoc, h1, ih (j + 1)]
      cases hs : elS els (j + 1) with
      | true => rw [if_pos rfl, if_pos rfl, pmF_succ _ _ (j + 1), hs, if_pos rfl, Bool.or_comm, Bool.true_and, Bool.and_comm]
      | false => simp
/-- The program's Match by the table. -/
theorem match_pm (els : List El) (s : ByteArray) : matchB els s = pmF (elS els) (fun i k => elH els i (at8 s k)) els.length s.size := by
  unfold matchB
  rw [run_pm, if_neg (by simp [elS])]

end Go.Proofs.YtmjanmffnblcoaaGreatDoor

/- Patterns of the reference (plain): matching by rows agrees with the program's Match, where the elements agree. No condition. -/
namespace Go.Proofs.YtmjanmffnblcoaaGreatDoor

/-- An element of a pattern of the reference. -/
structure RE where
  star : Bool
  set : Nat → Bool
/-- An element and that of the reference. -/
structure RelE (e : El) (r : RE) : Prop where
  star : e.isStar = r.star
  set : r.star = false → ∀ c : Nat, c < 128 → hasB e.chars c = r.set c
  char : ∀ c : Int, 0 ≤ c → c ≤ 255 → hasB e.chars c = true → charB c = true
theorem name_char : ∀ c : Int, 0 ≤ c → c ≤ 255 → hasB nameBytes c = charB c := by
  have h : ∀ n : Fin 256, hasB nameBytes (n.val : Int) = charB (n.val : Int) := by decide +kernel
  intro c h0 h1
  have := h ⟨c.toNat, by omega⟩
  simp only at this
  rw [show ((c.toNat : Nat) : Int) = c by omega] at this
  exact this
theorem charB_lt {c : Int} (h : charB c = true) : 0 ≤ c ∧ c < 128 := by
  simp [charB, lowerB, digitB] at h
  omega
theorem pmF_congr {st st' : Nat → Bool} {h h' : Nat → Nat → Bool} : ∀ (i k : Nat), (∀ j, j < i → st j = st' j) → (∀ j l, j < i → l < k → h j l = h' j l) → pmF st h i k = pmF st' h' i k
  | 0, k, _, _ => rfl
  | i + 1, 0, h1, h2 => by
    rw [pmF_zero, pmF_zero, h1 i (by omega), pmF_congr i 0 (fun j hj => h1 j (by omega)) (fun j l hj hl => by omega)]
  | i + 1, k + 1, h1, h2 => by
    have a := pmF_congr i (k + 1) (fun j hj => h1 j (by omega)) (fun j l hj hl => h2 j l (by omega) hl)
    have b := pmF_congr (i + 1) k h1 (fun j l hj hl => h2 j l hj (by omega))
    have c := pmF_congr i k (fun j hj => h1 j (by omega)) (fun j l hj hl => h2 j l (by omega) (by omega))
    rw [pmF_succ, pmF_succ, h1 i (by omega), h2 i k (by omega) (by omega), a, b, c]
theorem pmF_dead {st : Nat → Bool} {h : Nat → Nat → Bool} {k0 : Nat} (hd : ∀ i, h i k0 = false) : ∀ (i k : Nat), k0 < k → pmF st h i k = false
  | 0, k, hk => by simp [pmF]; omega
  | i + 1, 0, hk => by omega
  | i + 1, k + 1, hk => by
    rw [pmF_succ, pmF_dead hd i (k + 1) hk]
    by_cases e : k = k0
    · subst e; rw [hd i]; simp
    · rw [pmF_dead hd (i + 1) k (by omega), pmF_dead hd i k (by omega)]; simp
def rS (rs : List RE) (j : Nat) : Bool := match rs[j]? with | some r => r.star | none => false
def rH (rs : List RE) (j c : Nat) : Bool := match rs[j]? with | some r => r.set c | none => false
/-- The reference's Match. -/
def rmatchB (rs : List RE) (s : ByteArray) : Bool := (List.range s.size).all (fun i => charB (at8 s i)) && pmF (rS rs) (fun i k => rS rs i || rH rs i (at8 s k).toNat) rs.length s.size
/-- Elements that agree, one by one. -/
structure RelEs (els : List El) (rs : List RE) : Prop where
  len : els.length = rs.length
  at_ : ∀ (j : Nat) (e : El) (r : RE), els[j]? = some e → rs[j]? = some r → RelE e r
theorem RelEs.snoc {els : List El} {rs : List RE} (h : RelEs els rs) {e : El} {r : RE} (hr : RelE e r) : RelEs (els ++ [e]) (rs ++ [r]) := by
  refine ⟨by simp [h.len], fun j e' r' he hr' => ?_⟩
  rw [List.getElem?_append] at he hr'
  rw [← h.len] at hr'
  split at he
  · rename_i hj
    rw [if_pos hj] at hr'
    exact h.at_ j _ _ he hr'
  · rename_i hj
    rw [if_neg hj] at hr'
    cases hjj : j - els.length with
    | zero => rw [hjj] at he hr'; simp at he hr'; subst he; subst hr'; exact hr
    | succ n => rw [hjj] at he; simp at he
theorem rel_match {els : List El} {rs : List RE} (h : RelEs els rs) (s : ByteArray) : matchB els s = rmatchB rs s := by
  rw [match_pm]
  unfold rmatchB
  cases ha : (List.range s.size).all (fun i => charB (at8 s i)) with
  | false =>
    rw [Bool.false_and]
    rw [List.all_eq_false] at ha
    obtain ⟨k0, hk0, hc⟩ := ha
    rw [List.mem_range] at hk0
    refine pmF_dead (k0 := k0) (fun i => ?_) _ _ hk0
    unfold elH
    cases he : els[i]? with
    | none => rfl
    | some e =>
      have hlt : i < rs.length := by rw [← h.len]; exact (List.getElem?_eq_some_iff.1 he).1
      have hr := h.at_ i e _ he (List.getElem?_eq_getElem hlt)
      simp only
      cases hh : hasB e.chars (at8 s k0) with
      | false => rfl
      | true => exact absurd (hr.char _ (at8_bd s k0).1 (at8_bd s k0).2 hh) hc
  | true =>
    rw [Bool.true_and, h.len]
    have hst : ∀ j, elS els j = rS rs j := fun j => by
      unfold elS rS
      rcases Nat.lt_or_ge j els.length with hj | hj
      · have hj' : j < rs.length := by rw [← h.len]; exact hj
        rw [List.getElem?_eq_getElem hj, List.getElem?_eq_getElem hj']
        exact (h.at_ j _ _ (List.getElem?_eq_getElem hj) (List.getElem?_eq_getElem hj')).star
      · rw [List.getElem?_eq_none hj, List.getElem?_eq_none (by rw [← h.len]; exact hj)]
    refine pmF_congr _ _ (fun j _ => hst j) (fun j l hj hl => ?_)
    have hc : charB (at8 s l) = true := List.all_eq_true.1 ha l (List.mem_range.2 hl)
    have hcb := charB_lt hc
    have hj0 : j < els.length := by rw [h.len]; exact hj
    have hr := h.at_ j _ _ (List.getElem?_eq_getElem hj0) (List.getElem?_eq_getElem hj)
    unfold elH rS rH
    rw [List.getElem?_eq_getElem hj0, List.getElem?_eq_getElem hj]
    simp only
    generalize els[j] = e at hr
    generalize rs[j] = r at hr
    cases hs : r.star with
    | true =>
      have : e = .star := by
        have h1 := hr.star
        rw [hs] at h1
        cases e <;> simp [El.isStar] at h1
        rfl
      subst this
      rw [Bool.true_or]
      show hasB nameBytes _ = true
      rw [name_char _ hcb.1 (by omega)]; exact hc
    | false =>
      rw [Bool.false_or]
      have := hr.set hs (at8 s l).toNat (by omega)
      rw [show (((at8 s l).toNat : Nat) : Int) = at8 s l by omega] at this
      exact this

theorem at8_byte {s : ByteArray} {k : Nat} (h : k < s.size) : s.data.toList[k]? = some (at8 s k).toNat.toUInt8 := by
  rw [at8_lt s k h, Array.getElem?_toList, Array.getElem?_eq_getElem (show k < s.data.size from h)]
  congr 1
  show s[k] = _
  rw [Int.toNat_natCast]
  simp
theorem at8_extract (s : ByteArray) (a b j : Nat) (h : a + j < b) (hb : b ≤ s.size) : at8 (s.extract a b) j = at8 s (a + j) := by
  have h1 : j < (s.extract a b).size := by rw [ByteArray.size_extract]; omega
  rw [at8_lt _ _ h1, at8_lt s (a + j) (by omega)]
  rw [ByteArray.getElem_extract h1]

end Go.Proofs.YtmjanmffnblcoaaGreatDoor

/- Plain: a text cut at its first byte c, and at each of them; decimal numbers; the rules of a text. No program in sight. -/
namespace Go.Proofs.YtmjanmffnblcoaaGreatDoor
open Go.RowKit

theorem ixC_hit : ∀ (l : List UInt8) (c : UInt8) (i : Nat), l[i]? = some c → (∀ j, j < i → l[j]? ≠ some c) → Lib.indexByte l c = i
  | [], c, i, h, _ => by simp at h
  | b :: l, c, 0, h, _ => by simp at h; subst h; simp [Lib.indexByte]
  | b :: l, c, i + 1, h, hn => by
    have ih := ixC_hit l c i (by simpa using h) (fun j hj => by have := hn (j + 1) (by omega); simpa using this)
    have hb : ¬ b = c := by have := hn 0 (by omega); simpa using this
    unfold Lib.indexByte
    simp only [ih]
    have : (b == c) = false := by simpa using hb
    simp [this]
theorem ixC_miss : ∀ (l : List UInt8) (c : UInt8), (∀ j : Nat, l[j]? ≠ some c) → Lib.indexByte l c = -1
  | [], c, _ => rfl
  | b :: l, c, hn => by
    have ih := ixC_miss l c (fun j => by have := hn (j + 1); simpa using this)
    have hb : ¬ b = c := by have := hn 0; simpa using this
    unfold Lib.indexByte
    have : (b == c) = false := by simpa using hb
    simp [ih, this]
theorem u8C (c : UInt8) {d : Int} (h0 : 0 ≤ d) (h1 : d ≤ 255) : (d.toNat.toUInt8 = c) ↔ d = (c.toNat : Int) := by
  have hc := c.toNat_lt
  have := byte_inj (c := (c.toNat : Int)) (d := d) (by omega) ⟨h0, h1⟩
  have ec : ((c.toNat : Int)).toNat.toUInt8 = c := by simp
  rw [ec] at this
  constructor
  · intro h
    rw [h] at this
    simpa using this.symm
  · intro h
    rw [h]; exact ec
theorem getC (c : UInt8) {s : ByteArray} {j : Nat} : s.data.toList[j]? = some c ↔ j < s.size ∧ at8 s j = (c.toNat : Int) := by
  rcases Nat.lt_or_ge j s.size with h | h
  · rw [at8_byte h]
    simp only [Option.some.injEq, h, true_and]
    exact u8C c (at8_bd s j).1 (at8_bd s j).2
  · have : s.data.toList[j]? = none := List.getElem?_eq_none (by simpa using h)
    rw [this]
    simp; omega

/-- The place of the first byte c at or behind i, or the text's end. -/
def FirstC (c : UInt8) (s : ByteArray) (a i : Nat) : Prop := a ≤ i ∧ i ≤ s.size ∧ (∀ j, a ≤ j → j < i → at8 s j ≠ (c.toNat : Int)) ∧ (i < s.size → at8 s i = (c.toNat : Int))
theorem FirstC.uniq {c : UInt8} {s : ByteArray} {a i k : Nat} (h : FirstC c s a i) (g : FirstC c s a k) : i = k := by
  obtain ⟨h1, h2, h3, h4⟩ := h
  obtain ⟨g1, g2, g3, g4⟩ := g
  rcases Nat.lt_trichotomy i k with h | h | h
  · exact absurd (h4 (by omega)) (g3 i h1 h)
  · exact h
  · exact absurd (g4 (by omega)) (h3 k g1 h)
def findC (c : UInt8) (s : ByteArray) : Nat := s.data.toList.findIdx (· == c)
theorem findC_first (c : UInt8) (s : ByteArray) : FirstC c s 0 (findC c s) := by
  have hl : s.data.toList.length = s.size := s.data.length_toList
  refine ⟨by omega, by rw [← hl]; exact List.findIdx_le_length, fun j _ hj hc => ?_, fun h => ?_⟩
  · have hj' : j < s.size := by rw [← hl]; exact Nat.lt_of_lt_of_le hj List.findIdx_le_length
    have h1 := (getC c).2 ⟨hj', hc⟩
    obtain ⟨hk, e⟩ := List.getElem?_eq_some_iff.1 h1
    have := List.not_of_lt_findIdx hj
    rw [e] at this
    simp at this
  · have h' : s.data.toList.findIdx (· == c) < s.data.toList.length := by rw [hl]; exact h
    have h1 : (s.data.toList[s.data.toList.findIdx (· == c)] == c) = true := List.findIdx_getElem (w := h')
    refine ((getC c).1 ?_).2
    unfold findC
    rw [List.getElem?_eq_getElem h', beq_iff_eq.1 h1]

theorem cut_hit {c : UInt8} {s : ByteArray} {i : Nat} (h : FirstC c s 0 i) (hi : i < s.size) : Lib.cut s.data.toList [c] = ((s.extract 0 i).data.toList, (s.extract (i + 1) s.size).data.toList, true) := by
  have hx : Lib.index s.data.toList [c] = i := by
    rw [Lib.index_one]
    exact ixC_hit _ _ _ ((getC c).2 ⟨hi, h.2.2.2 hi⟩) (fun j hj hc => h.2.2.1 j (by omega) hj ((getC c).1 hc).2)
  unfold Lib.cut
  rw [hx, if_pos (by omega)]
  rw [Lib.extract_from_zero, Lib.extract_to_end]
  rfl
theorem cut_miss {c : UInt8} {s : ByteArray} {i : Nat} (h : FirstC c s 0 i) (hi : ¬ i < s.size) : Lib.cut s.data.toList [c] = (s.data.toList, [], false) := by
  have hx : Lib.index s.data.toList [c] = -1 := by
    rw [Lib.index_one]
    exact ixC_miss _ _ (fun j hc => h.2.2.1 j (by omega) (by have := ((getC c).1 hc).1; have := h.2.1; omega) ((getC c).1 hc).2)
  unfold Lib.cut
  rw [hx, if_neg (by omega)]

/-- A text cut at each byte c. -/
def partsC (c : UInt8) (s : ByteArray) : List ByteArray := Lib.splitB ⟨#[c]⟩ 0 (Lib.countB s ⟨#[c]⟩) s
theorem partsC_hit {c : UInt8} {s : ByteArray} {i : Nat} (h : FirstC c s 0 i) (hi : i < s.size) : partsC c s = s.extract 0 i :: partsC c (s.extract (i + 1) s.size) := by
  have hx : Lib.indexB s ⟨#[c]⟩ = i := by
    show Lib.index s.data.toList [c] = i
    rw [Lib.index_one]
    exact ixC_hit _ _ _ ((getC c).2 ⟨hi, h.2.2.2 hi⟩) (fun j hj hc => h.2.2.1 j (by omega) hj ((getC c).1 hc).2)
  unfold partsC
  rw [Lib.countB_hit s ⟨#[c]⟩ i (Nat.le_refl 1) hx, Nat.add_comm, Lib.splitB_hit _ _ _ _ i hx]
  rfl
theorem partsC_miss {c : UInt8} {s : ByteArray} {i : Nat} (h : FirstC c s 0 i) (hi : ¬ i < s.size) : partsC c s = [s] := by
  have hx : Lib.indexB s ⟨#[c]⟩ = -1 := by
    show Lib.index s.data.toList [c] = -1
    rw [Lib.index_one]
    exact ixC_miss _ _ (fun j hc => h.2.2.1 j (by omega) (by have := ((getC c).1 hc).1; have := h.2.1; omega) ((getC c).1 hc).2)
  unfold partsC
  exact Lib.splitB_miss _ _ _ _ hx

/-! ### Numbers -/
def nvF (s : ByteArray) : Nat → Int
  | 0 => 0
  | k + 1 => 10 * nvF s k + (at8 s k - 48)
def NumOK (s : ByteArray) : Prop := 0 < s.size ∧ (∀ i, i < s.size → 48 ≤ at8 s i ∧ at8 s i ≤ 57) ∧ (1 < s.size → at8 s 0 ≠ 48)
instance (s : ByteArray) : Decidable (NumOK s) := by unfold NumOK; infer_instance
/-- The number that a text denotes, and the error. -/
def numR (s : ByteArray) (m : Int) : Int × Int := if NumOK s then if m < 0 then (0, 2) else if nvF s s.size ≤ m then (nvF s s.size, 0) else (0, 2) else (0, 3)
theorem nvF_nonneg {s : ByteArray} (h : ∀ i, i < s.size → 48 ≤ at8 s i ∧ at8 s i ≤ 57) : ∀ k, k ≤ s.size → 0 ≤ nvF s k
  | 0, _ => by simp [nvF]
  | k + 1, hk => by
    have := nvF_nonneg h k (by omega)
    have := h k (by omega)
    unfold nvF; omega
theorem nvF_mono {s : ByteArray} (h : ∀ i, i < s.size → 48 ≤ at8 s i ∧ at8 s i ≤ 57) (a : Nat) : ∀ d, a + d ≤ s.size → nvF s a ≤ nvF s (a + d)
  | 0, _ => Int.le_refl _
  | d + 1, hk => by
    have h1 := nvF_mono h a d (by omega)
    have h2 := nvF_nonneg h (a + d) (by omega)
    have h3 := h (a + d) (by omega)
    show _ ≤ 10 * nvF s (a + d) + (at8 s (a + d) - 48)
    omega
theorem nvF_hi {s : ByteArray} (h : ∀ i, i < s.size → 48 ≤ at8 s i ∧ at8 s i ≤ 57) : s.size ≤ 6 → nvF s s.size ≤ 999999 := by
  have key : ∀ k, k ≤ s.size → nvF s k + 1 ≤ 10 ^ k := by
    intro k
    induction k with
    | zero => intro _; simp [nvF]
    | succ k ih =>
      intro hk
      have h1 := ih (by omega)
      have h2 := h k (by omega)
      unfold nvF
      rw [Int.pow_succ]
      omega
  intro h6
  have h1 := key s.size (Nat.le_refl _)
  have h3 : ∀ n : Nat, n < 7 → (10 : Int) ^ n ≤ 1000000 := by decide
  have h2 := h3 s.size (by omega)
  omega
theorem nvF_lo {s : ByteArray} (h : NumOK s) (h6 : 6 < s.size) : 999999 < nvF s s.size := by
  obtain ⟨h0, hd, hz⟩ := h
  have key : ∀ k, k + 1 ≤ s.size → (10 : Int) ^ k ≤ nvF s (k + 1) := by
    intro k
    induction k with
    | zero =>
      intro _
      have h1 := hd 0 h0
      have h2 := hz (by omega)
      simp [nvF]; omega
    | succ k ih =>
      intro hk
      have h1 := ih (by omega)
      have h2 := hd (k + 1) (by omega)
      rw [nvF, Int.pow_succ]
      omega
  have h1 : (10 : Int) ^ 6 ≤ nvF s 7 := key 6 (by omega)
  have h2 := nvF_mono hd 7 (s.size - 7) (by omega)
  rw [show 7 + (s.size - 7) = s.size by omega] at h2
  have h3 : (10 : Int) ^ 6 = 1000000 := by decide
  omega

/-! ### The rules of a text -/
def line1 (t : ByteArray) : Rl ⊕ Int :=
  match partsC 32 t with
  | [a, b, c] => if (numR b 999999).2 ≠ 0 then .inr 3 else if (numR c 999999).2 ≠ 0 then .inr 3 else if rl1 ⟨a, (numR b 999999).1, (numR c 999999).1⟩ ≠ 0 then .inr (rl1 ⟨a, (numR b 999999).1, (numR c 999999).1⟩) else .inl ⟨a, (numR b 999999).1, (numR c 999999).1⟩
  | _ => .inr 3
def parseL : Nat → ByteArray → Nat → List Rl → List Rl × Int × Int
  | 0, _, _, _ => ([], 0, 0)
  | f + 1, s, line, acc =>
    if s.size = 0 then (acc, 0, 0) else
    if findC 10 s = s.size then ([], line, 4) else
    if 64 ≤ acc.length then ([], line, 9) else
    match line1 (s.extract 0 (findC 10 s)) with
    | .inr e => ([], line, e)
    | .inl r => parseL f (s.extract (findC 10 s + 1) s.size) (line + 1) (acc ++ [r])
def parseR (s : ByteArray) : List Rl × Int × Int := parseL (s.size + 1) s 1 []

end Go.Proofs.YtmjanmffnblcoaaGreatDoor

/- Plain: the text of rules, and that it reads as these rules again. No program in sight. -/
namespace Go.Proofs.YtmjanmffnblcoaaGreatDoor
open Go.RowKit

theorem at8_left {a b : ByteArray} {j : Nat} (h : j < a.size) : at8 (a ++ b) j = at8 a j := by
  rw [at8_lt _ _ (by rw [ByteArray.size_append]; omega), at8_lt _ _ h, ByteArray.getElem_append_left h]
theorem at8_right {a b : ByteArray} {j : Nat} (h : j < b.size) : at8 (a ++ b) (a.size + j) = at8 b j := by
  rw [at8_lt _ _ (by rw [ByteArray.size_append]; omega), at8_lt _ _ h, ByteArray.getElem_append_right (by omega)]
  simp only [Nat.add_sub_cancel_left]
theorem at8_one (x : UInt8) : at8 ⟨#[x]⟩ 0 = (x.toNat : Int) := by rw [at8_lt _ 0 (by show 0 < 1; omega)]; rfl
theorem size_one (x : UInt8) : (⟨#[x]⟩ : ByteArray).size = 1 := rfl

/-! ### A number in decimal -/
def decT (u : Nat) : ByteArray := ⟨(Lib.decDigits u).toArray⟩
theorem decT_small {u : Nat} (h : u < 10) : decT u = ⟨#[UInt8.ofNat (48 + u)]⟩ := by unfold decT; rw [Lib.decDigits_one h]
theorem decT_big {u : Nat} (h : ¬ u < 10) : decT u = decT (u / 10) ++ ⟨#[UInt8.ofNat (48 + u % 10)]⟩ := by
  apply ByteArray.ext
  rw [ByteArray.data_append]
  show (Lib.decDigits u).toArray = (Lib.decDigits (u / 10)).toArray ++ #[UInt8.ofNat (48 + u % 10)]
  rw [Lib.decDigits, dif_neg h]
  simp
theorem nvF_left {a b : ByteArray} : ∀ (k : Nat), k ≤ a.size → nvF (a ++ b) k = nvF a k
  | 0, _ => rfl
  | k + 1, h => by
    show 10 * nvF (a ++ b) k + (at8 (a ++ b) k - 48) = 10 * nvF a k + (at8 a k - 48)
    rw [nvF_left k (by omega), at8_left (by omega)]
theorem dig_nat {u : Nat} (h : u < 10) : ((UInt8.ofNat (48 + u)).toNat : Int) = 48 + (u : Int) := by
  rw [UInt8.toNat_ofNat']; omega
theorem decT_ok (u : Nat) : NumOK (decT u) ∧ (0 < u → at8 (decT u) 0 ≠ 48) ∧ nvF (decT u) (decT u).size = u := by
  induction u using Nat.strongRecOn with
  | _ u ih =>
    by_cases h : u < 10
    · rw [decT_small h]
      have hd := dig_nat h
      generalize UInt8.ofNat (48 + u) = x at *
      have e := at8_one x
      refine ⟨⟨by rw [size_one]; omega, fun i hi => ?_, fun h1 => by rw [size_one] at h1; omega⟩, fun hu => by rw [e]; omega, ?_⟩
      · rw [size_one] at hi
        obtain rfl : i = 0 := by omega
        rw [e]; omega
      · rw [size_one]
        show 10 * 0 + (at8 ⟨#[x]⟩ 0 - 48) = _
        rw [e]; omega
    · obtain ⟨⟨i1, i2, i3⟩, i4, i5⟩ := ih (u / 10) (by omega)
      rw [decT_big h]
      have hd := dig_nat (show u % 10 < 10 by omega)
      generalize decT (u / 10) = a at *
      generalize UInt8.ofNat (48 + u % 10) = x at *
      have hs : (a ++ ⟨#[x]⟩ : ByteArray).size = a.size + 1 := by rw [ByteArray.size_append, size_one]
      have e : at8 (a ++ ⟨#[x]⟩) a.size = (x.toNat : Int) := by
        have := at8_right (a := a) (b := ⟨#[x]⟩) (j := 0) (by show 0 < 1; omega)
        rw [Nat.add_zero] at this
        rw [this, at8_one]
      refine ⟨⟨by omega, fun i hi => ?_, fun _ => by rw [at8_left i1]; exact i4 (by omega)⟩, fun _ => by rw [at8_left i1]; exact i4 (by omega), ?_⟩
      · by_cases hi' : i < a.size
        · rw [at8_left hi']; exact i2 i hi'
        · obtain rfl : i = a.size := by omega
          rw [e]; omega
      · rw [hs]
        show 10 * nvF (a ++ ⟨#[x]⟩) a.size + (at8 (a ++ ⟨#[x]⟩) a.size - 48) = _
        rw [nvF_left _ (Nat.le_refl _), e, i5]; omega
theorem decT_len {u : Nat} (h : u ≤ 999999) : (decT u).size ≤ 6 := by
  obtain ⟨h1, _, h3⟩ := decT_ok u
  rcases Nat.lt_or_ge 6 (decT u).size with h6 | h6
  · have := nvF_lo h1 h6
    omega
  · exact h6
theorem numR_dec {u : Nat} (h : u ≤ 999999) : numR (decT u) 999999 = ((u : Int), 0) := by
  obtain ⟨h1, _, h3⟩ := decT_ok u
  unfold numR
  rw [if_pos h1, if_neg (by omega), h3, if_pos (by omega)]

/-! ### A valid pattern has no space and no line feed -/
def OkC (c : Int) : Prop := c ≠ 10 ∧ c ≠ 32
theorem okC_al {c : Int} (h : alB c = true) : OkC c := by
  simp [alB, lowerB, digitB] at h
  constructor <;> omega
theorem okC_name {c : Int} (h : hasB nameBytes c = true) : OkC c := by
  have key : ∀ x ∈ nameBytes.data.toList, x ≠ 10 ∧ x ≠ 32 := by decide
  have hm : c.toNat.toUInt8 ∈ nameBytes.data.toList := by simpa [hasB] using h
  have := key _ hm
  refine ⟨fun e => this.1 ?_, fun e => this.2 ?_⟩ <;> (rw [e]; rfl)
theorem okC_items (s : ByteArray) : ∀ (f k : Nat) (p : Int → Bool), ∀ j, k ≤ j → j < (itemsS s f k p).2 → OkC (at8 s j)
  | 0, k, p, j, h1, h2 => by simp [itemsS] at h2; omega
  | f + 1, k, p, j, h1, h2 => by
    unfold itemsS at h2
    split at h2
    · split at h2
      · rename_i hr
        simp only [rngB, Bool.and_eq_true, decide_eq_true_eq, beq_iff_eq] at hr
        split at h2
        · simp at h2; omega
        · rename_i hb
          have hb : badB (at8 s k) (at8 s (k + 2)) = false := by simpa using hb
          by_cases e0 : j = k
          · rw [e0]; exact okC_al hr.1.1
          by_cases e1 : j = k + 1
          · rw [e1, hr.2]; exact ⟨by decide, by decide⟩
          by_cases e2 : j = k + 2
          · rw [e2]; exact okC_al (badB_not hb hr.1.1).2
          · exact okC_items s f _ _ j (by omega) h2
      · split at h2
        · rename_i hs
          by_cases e0 : j = k
          · rw [e0]
            simp only [singB, Bool.or_eq_true, Bool.and_eq_true, beq_iff_eq] at hs
            rcases hs with (((hs | hs) | hs) | hs) | hs
            · exact okC_al hs
            · exact ⟨by omega, by omega⟩
            · exact ⟨by omega, by omega⟩
            · exact ⟨by omega, by omega⟩
            · exact ⟨by omega, by omega⟩
          · exact okC_items s f _ _ j (by omega) h2
        · simp at h2; omega
    · simp at h2; omega
theorem neg_one {s : ByteArray} (h : negB s = true) : at8 s 0 = 91 ∧ at8 s 1 = 94 := by
  have h2 := hasPrefix_size h
  have b0 := at8_byte (s := s) (k := 0) (by omega)
  have b1 := at8_byte (s := s) (k := 1) (by omega)
  unfold negB at h
  cases hs : s.data.toList with
  | nil => rw [hs] at h; simp [Lib.hasPrefix] at h
  | cons a r => cases r with
    | nil => rw [hs] at h; simp [Lib.hasPrefix] at h
    | cons b r =>
      rw [hs] at h b0 b1
      simp [Lib.hasPrefix] at h
      simp only [List.getElem?_cons_zero, List.getElem?_cons_succ, Option.some.injEq] at b0 b1
      rw [← h.1] at b0
      rw [← h.2] at b1
      exact ⟨(u8C 91 (at8_bd s 0).1 (at8_bd s 0).2).1 b0.symm, (u8C 94 (at8_bd s 1).1 (at8_bd s 1).2).1 b1.symm⟩
theorem okC_cls {s : ByteArray} (h0 : at8 s 0 = 91) (hc : clsN s ≠ 0) : ∀ j, j < clsN s → OkC (at8 s j) := by
  intro j hj
  unfold clsN at hc hj
  split at hc
  · exact absurd rfl hc
  rename_i hn
  rw [if_neg hn] at hj
  have h93 : at8 s (fromN s + (listS s).2) = 93 := Classical.byContradiction fun h => hn (.inr (.inr h))
  by_cases e : j = fromN s + (listS s).2
  · rw [e, h93]; exact ⟨by decide, by decide⟩
  have hf : fromN s ≤ s.size := by
    unfold fromN
    split
    · rename_i h; exact hasPrefix_size h
    · have : 0 < s.size := by
        rcases Nat.eq_zero_or_pos s.size with h | h
        · unfold at8 at h0; rw [dif_neg (by omega)] at h0; cases h0
        · exact h
      omega
  have hz : (restB s).size = s.size - fromN s := by unfold restB; rw [ByteArray.size_extract]; omega
  by_cases hj' : j < fromN s
  · unfold fromN at hj'
    split at hj'
    · rename_i hN
      have := neg_one hN
      by_cases e0 : j = 0
      · rw [e0, h0]; exact ⟨by decide, by decide⟩
      · obtain rfl : j = 1 := by omega
        rw [this.2]; exact ⟨by decide, by decide⟩
    · obtain rfl : j = 0 := by omega
      rw [h0]; exact ⟨by decide, by decide⟩
  · have hlt : j - fromN s < (listS s).2 := by omega
    have hle : (listS s).2 ≤ (restB s).size := itemsS_le _ _ _ _ (by omega)
    have := okC_items (restB s) (restB s).size 0 (fun _ => false) (j - fromN s) (by omega) hlt
    unfold restB at this
    rw [at8_extract s _ _ _ (by omega) (Nat.le_refl _), show fromN s + (j - fromN s) = j by omega] at this
    exact this
theorem okC_comp (s : ByteArray) : ∀ (f k : Nat) (acc els : List El), s.size - k ≤ f → compS s f k acc = .inl els → ∀ j, k ≤ j → j < s.size → OkC (at8 s j)
  | 0, k, acc, els, hf, h, j, h1, h2 => by omega
  | f + 1, k, acc, els, hf, h, j, h1, h2 => by
    have ih := okC_comp s f
    have hk : k < s.size := by omega
    unfold compS at h
    rw [if_pos hk] at h
    split at h
    · rename_i c
      by_cases e : j = k
      · rw [e, beq_iff_eq.1 c]; exact ⟨by decide, by decide⟩
      · exact ih _ _ _ (by omega) h j (by omega) h2
    split at h
    · rename_i c
      by_cases e : j = k
      · rw [e, beq_iff_eq.1 c]; exact ⟨by decide, by decide⟩
      · exact ih _ _ _ (by omega) h j (by omega) h2
    split at h
    · rename_i c
      split at h
      · cases h
      rename_i hc
      have hz : (s.extract k s.size).size = s.size - k := by rw [ByteArray.size_extract]; omega
      have h91 : at8 (s.extract k s.size) 0 = 91 := by rw [at8_extract s _ _ _ (by omega) (Nat.le_refl _), Nat.add_zero]; exact beq_iff_eq.1 c
      by_cases e : j < k + clsN (s.extract k s.size)
      · have := okC_cls h91 hc (j - k) (by omega)
        rw [at8_extract s _ _ _ (by omega) (Nat.le_refl _), show k + (j - k) = j by omega] at this
        exact this
      · exact ih _ _ _ (by omega) h j (by omega) h2
    split at h
    · rename_i c
      by_cases e : j = k
      · rw [e]; exact okC_name c
      · exact ih _ _ _ (by omega) h j (by omega) h2
    · cases h
theorem okC_pat {s : ByteArray} {els : List El} (h : compileR s = .inl els) : s.size ≤ 80 ∧ 0 < s.size ∧ ∀ j, j < s.size → OkC (at8 s j) := by
  unfold compileR at h
  split at h
  · cases h
  split at h
  · cases h
  · exact ⟨by omega, by omega, fun j hj => okC_comp s s.size 0 [] els (by omega) h j (by omega) hj⟩

/-! ### The text of rules -/
def bdT (r : Rl) : ByteArray := r.pat ++ ⟨#[32]⟩ ++ decT r.lo.toNat ++ ⟨#[32]⟩ ++ decT r.hi.toNat
def lnT (r : Rl) : ByteArray := bdT r ++ ⟨#[10]⟩
def txtF : List Rl → ByteArray
  | [] => ⟨#[]⟩
  | r :: l => lnT r ++ txtF l
theorem txtF_snoc (r : Rl) : ∀ (l : List Rl), txtF (l ++ [r]) = txtF l ++ lnT r
  | [] => by show lnT r ++ ByteArray.empty = ByteArray.empty ++ lnT r; simp
  | x :: l => by show lnT x ++ txtF (l ++ [r]) = lnT x ++ txtF l ++ lnT r; rw [txtF_snoc r l, ByteArray.append_assoc]

theorem first_app {c : UInt8} {a rest : ByteArray} (h : ∀ j, j < a.size → at8 a j ≠ (c.toNat : Int)) : FirstC c (a ++ ⟨#[c]⟩ ++ rest) 0 a.size := by
  refine ⟨by omega, by rw [ByteArray.size_append, ByteArray.size_append]; omega, fun j _ hj => ?_, fun _ => ?_⟩
  · rw [ByteArray.append_assoc, at8_left hj]; exact h j hj
  · rw [ByteArray.append_assoc]
    have := at8_right (a := a) (b := ⟨#[c]⟩ ++ rest) (j := 0) (by rw [ByteArray.size_append, size_one]; omega)
    rw [Nat.add_zero] at this
    rw [this, at8_left (by show 0 < 1; omega)]
    exact at8_one c
theorem app_size {c : UInt8} {a rest : ByteArray} : (a ++ ⟨#[c]⟩ ++ rest).size = a.size + 1 + rest.size := by rw [ByteArray.size_append, ByteArray.size_append, size_one]
theorem app_head {c : UInt8} {a rest : ByteArray} : (a ++ ⟨#[c]⟩ ++ rest).extract 0 a.size = a := by
  rw [ByteArray.append_assoc, ByteArray.extract_append_eq_left rfl]
theorem app_tail {c : UInt8} {a rest : ByteArray} : (a ++ ⟨#[c]⟩ ++ rest).extract (a.size + 1) (a ++ ⟨#[c]⟩ ++ rest).size = rest :=
  ByteArray.extract_append_eq_right (by rw [ByteArray.size_append, size_one]) (by rw [ByteArray.size_append])
theorem parts_app {c : UInt8} {a rest : ByteArray} (h : ∀ j, j < a.size → at8 a j ≠ (c.toNat : Int)) : partsC c (a ++ ⟨#[c]⟩ ++ rest) = a :: partsC c rest := by
  rw [partsC_hit (first_app h) (by rw [app_size]; omega), app_head, app_tail]
theorem parts_none {c : UInt8} {a : ByteArray} (h : ∀ j, j < a.size → at8 a j ≠ (c.toNat : Int)) : partsC c a = [a] :=
  partsC_miss (i := a.size) ⟨by omega, by omega, fun j _ hj => h j hj, fun h => by omega⟩ (by omega)
theorem decT_no {u : Nat} {c : UInt8} (hc : c.toNat < 48) : ∀ j, j < (decT u).size → at8 (decT u) j ≠ (c.toNat : Int) := fun j hj e => by
  have := (decT_ok u).1.2.1 j hj
  omega
theorem rl1_fit {r : Rl} (h : rl1 r = 0) : (r.pat.size ≤ 80 ∧ 0 < r.pat.size ∧ ∀ j, j < r.pat.size → OkC (at8 r.pat j)) ∧ 0 ≤ r.lo ∧ r.lo ≤ 36500 ∧ 0 ≤ r.hi ∧ r.hi ≤ 36500 := by
  unfold rl1 at h
  split at h
  · cases h
  · rename_i els hc
    split at h
    · cases h
    · exact ⟨okC_pat hc, by omega, by omega, by omega, by omega⟩
theorem at8_app_no {a b : ByteArray} {x : Int} (ha : ∀ j, j < a.size → at8 a j ≠ x) (hb : ∀ j, j < b.size → at8 b j ≠ x) : ∀ j, j < (a ++ b).size → at8 (a ++ b) j ≠ x := fun j hj => by
  rw [ByteArray.size_append] at hj
  by_cases h : j < a.size
  · rw [at8_left h]; exact ha j h
  · have := at8_right (a := a) (b := b) (j := j - a.size) (by omega)
    rw [show a.size + (j - a.size) = j by omega] at this
    rw [this]; exact hb _ (by omega)
theorem one_no {c : UInt8} {x : Int} (h : (c.toNat : Int) ≠ x) : ∀ j, j < (⟨#[c]⟩ : ByteArray).size → at8 ⟨#[c]⟩ j ≠ x := fun j hj => by
  rw [size_one] at hj
  obtain rfl : j = 0 := by omega
  rw [at8_one]; exact h
theorem bdT_no {r : Rl} (h : rl1 r = 0) : ∀ j, j < (bdT r).size → at8 (bdT r) j ≠ ((10 : UInt8).toNat : Int) :=
  at8_app_no (at8_app_no (at8_app_no (at8_app_no (fun j hj => ((rl1_fit h).1.2.2 j hj).1) (one_no (by decide))) (decT_no (by decide))) (one_no (by decide))) (decT_no (by decide))
theorem bdT_size {r : Rl} (h : rl1 r = 0) : (bdT r).size ≤ 94 := by
  obtain ⟨⟨h1, _, _⟩, h2, h3, h4, h5⟩ := rl1_fit h
  unfold bdT
  have a := decT_len (u := r.lo.toNat) (by omega)
  have b := decT_len (u := r.hi.toNat) (by omega)
  simp only [ByteArray.size_append, size_one]
  omega
theorem line_bd {r : Rl} (h : rl1 r = 0) : line1 (bdT r) = .inl r := by
  obtain ⟨⟨_, _, h1⟩, h2, h3, h4, h5⟩ := rl1_fit h
  have e : partsC 32 (bdT r) = [r.pat, decT r.lo.toNat, decT r.hi.toNat] := by
    unfold bdT
    rw [show r.pat ++ ⟨#[32]⟩ ++ decT r.lo.toNat ++ ⟨#[32]⟩ ++ decT r.hi.toNat = r.pat ++ ⟨#[32]⟩ ++ (decT r.lo.toNat ++ ⟨#[32]⟩ ++ decT r.hi.toNat) by simp only [ByteArray.append_assoc]]
    rw [parts_app (c := 32) (fun j hj => (h1 j hj).2), parts_app (c := 32) (decT_no (by decide)), parts_none (c := 32) (decT_no (by decide))]
  unfold line1
  rw [e]
  simp only
  rw [numR_dec (by omega), numR_dec (by omega)]
  have el : ((r.lo.toNat : Nat) : Int) = r.lo := by omega
  have eh : ((r.hi.toNat : Nat) : Int) = r.hi := by omega
  simp only [el, eh]
  rw [if_neg (by decide), if_neg (by decide), if_neg (by rw [h]; decide)]
theorem rlF_cons {r : Rl} {l : List Rl} (h : rlF (r :: l) = 0) : rl1 r = 0 ∧ rlF l = 0 := by
  unfold rlF at h
  split at h
  · rename_i h1; exact absurd h h1
  · rename_i h1; exact ⟨by omega, h⟩
theorem txtF_size : ∀ {l : List Rl}, rlF l = 0 → l.length ≤ (txtF l).size ∧ (txtF l).size ≤ 95 * l.length
  | [], _ => ⟨Nat.le_refl _, Nat.le_refl _⟩
  | r :: l, h => by
    obtain ⟨h1, h2⟩ := rlF_cons h
    have ih := txtF_size h2
    have hb := bdT_size h1
    have e : (txtF (r :: l)).size = (bdT r).size + 1 + (txtF l).size := app_size
    rw [e, List.length_cons]; omega
theorem parse_txt : ∀ (l : List Rl) (f line : Nat) (acc : List Rl), l.length < f → acc.length + l.length ≤ 64 → rlF l = 0 → parseL f (txtF l) line acc = (acc ++ l, 0, 0)
  | _, 0, _, _, hf, _, _ => absurd hf (by omega)
  | [], f + 1, line, acc, _, _, _ => by
    unfold parseL
    rw [if_pos (show (txtF []).size = 0 from rfl), List.append_nil]
  | r :: l, f + 1, line, acc, hf, h64, h => by
    obtain ⟨h1, h2⟩ := rlF_cons h
    have e : txtF (r :: l) = bdT r ++ ⟨#[10]⟩ ++ txtF l := rfl
    have hz : (bdT r ++ ⟨#[10]⟩ ++ txtF l).size = (bdT r).size + 1 + (txtF l).size := app_size
    have ef : findC 10 (bdT r ++ ⟨#[10]⟩ ++ txtF l) = (bdT r).size := (findC_first 10 _).uniq (first_app (bdT_no h1))
    simp only [List.length_cons] at hf h64
    unfold parseL
    rw [e, ef, if_neg (by omega), if_neg (by omega), if_neg (by omega), app_head, app_tail, line_bd h1]
    simp only
    rw [parse_txt l f (line + 1) (acc ++ [r]) (by omega) (by simp; omega) h2]
    simp
theorem parse_back {l : List Rl} (h : chkR l = 0) : parseR (txtF l) = (l, 0, 0) := by
  unfold chkR at h
  split at h
  · cases h
  · have := txtF_size h
    unfold parseR
    rw [parse_txt l _ 1 [] (by omega) (by simp; omega) h]
    rfl

end Go.Proofs.YtmjanmffnblcoaaGreatDoor

/- Rows of elements that can be read. Generic: no program, no condition. -/
namespace Go.Proofs.YtmjanmffnblcoaaGreatDoor
open Go.RowKit

/-- Elements that lie one behind the other. -/
def RowA {α : Type} (f : α → List Value) (L : Nat) (w : World) (p : Option Addr) (l : List α) : Prop := ∀ k y, l[k]? = some y → ∃ b o, p = some ⟨b, o, none⟩ ∧ AtL w b (o + k * L) (f y)
section
variable {α : Type} {f : α → List Value} {L : Nat} {w w' : World} {p : Option Addr} {l : List α}
theorem RowA.k0 (h : RowA f L w p l) (hk : K0 w w') : RowA f L w' p l := fun k y hy => by
  obtain ⟨b, o, h1, h2⟩ := h k y hy
  exact ⟨b, o, h1, h2.k0 hk⟩
theorem RowA.get (h : RowA f L w p l) {k : Nat} (hk : k < l.length) : ∃ y b o, l[k]? = some y ∧ p = some ⟨b, o, none⟩ ∧ AtL w b (o + k * L) (f y) := by
  obtain ⟨y, hy⟩ : ∃ y, l[k]? = some y := ⟨_, List.getElem?_eq_getElem hk⟩
  obtain ⟨b, o, h1, h2⟩ := h k y hy
  exact ⟨y, b, o, hy, h1, h2⟩
theorem RowA.own {base : Nat} {e : TypeId} {n c : Nat} (h : w.ownsRow base e L (.slice p n c) n (l.flatMap f)) (hl : ∀ y, (f y).length = L) (h0 : 0 < L) : RowA f L w p l := fun k y hy => by
  obtain ⟨g, h1, h2⟩ := own_at f h (fun y _ => hl y) h0 hy
  exact ⟨g, 0, h1, h2⟩
theorem RowA.nil : RowA f L w p [] := fun k y hy => by simp at hy
end
theorem AtL.cell {w : World} {b o : Nat} {cs : List Value} (h : AtL w b o cs) {j : Nat} {v : Value} (hj : cs[j]? = some v) : w.cell? ⟨b, o + j, none⟩ = some v := At_get _ _ h.h j v hj
theorem AtL.one {w : World} {b o : Nat} {v : Value} (h : AtL w b o [v]) : w.cell? ⟨b, o, none⟩ = some v := by simpa using h.cell (j := 0) rfl
theorem StrP.get {w : World} {p : Option Addr} {zs : List ByteArray} (h : StrP w p zs) {k : Nat} (hk : k < zs.length) : ∃ z b o, zs[k]? = some z ∧ p = some ⟨b, o, none⟩ ∧ w.cell? ⟨b, o + k, none⟩ = some (.string z) := by
  obtain ⟨y, hy⟩ : ∃ y, zs[k]? = some y := ⟨_, List.getElem?_eq_getElem hk⟩
  obtain ⟨b, o, h1, h2⟩ := h k y hy
  exact ⟨y, b, o, hy, h1, h2⟩
theorem StrP.k0 {w w' : World} {p : Option Addr} {zs : List ByteArray} (h : StrP w p zs) (hk : K0 w w') : StrP w' p zs := h.kp hk (fun _ _ _ h => h)
theorem inc64 {i : Nat} (h : i < 9223372036854775807) : IntKind.i64.wrap ((i : Int) + 1) = ((i + 1 : Nat) : Int) := by rw [wr64 (by omega) (by omega)]; omega
theorem take_snoc {α : Type} {l : List α} {i : Nat} {x : α} (h : l[i]? = some x) : l.take (i + 1) = l.take i ++ [x] := by rw [List.take_add_one, h]; rfl
/-- A block of the function's own is written. -/
theorem put_k0 {w w1 w2 : World} {b o : Nat} {cs : List Value} (h : K0 w w1) (hp : PutB w1 b o cs w2) (hb : w.heap.size ≤ b) : K0 w w2 := Kp.fresh h hp.kp (fun i hi e => by omega)
theorem put_kept {w1 w2 : World} {b o : Nat} {cs : List Value} {l : List Nat} (hp : PutB w1 b o cs w2) (hb : ∀ n ∈ l, n ≠ b) : KeptL l w1 w2 := .of_kp hp.kp (fun n hn e => hb n hn e)
theorem PutB.blk {w1 w2 : World} {b o : Nat} {cs : List Value} (hp : PutB w1 b o cs w2) {n : Nat} {x : Obj} (h : w1.heap[n]? = some x) (hb : n ≠ b) : w2.heap[n]? = some x := hp.kp.blk h (fun e => hb e)
end Go.Proofs.YtmjanmffnblcoaaGreatDoor

/- Maps in the program's memory: their entries as a list, looked up, written, struck. Generic: no program, no condition. -/
namespace Go.Proofs.YtmjanmffnblcoaaGreatDoor
open Go.RowKit Go.Maps

section
variable {α : Type} [DecidableEq α]
def aget {β : Type} : List (α × β) → α → Option β
  | [], _ => none
  | (b, v) :: r, a => if b = a then some v else aget r a
def aset {β : Type} : List (α × β) → α → β → List (α × β)
  | [], a, v => [(a, v)]
  | (b, u) :: r, a, v => if b = a then (a, v) :: r else (b, u) :: aset r a v
def adel {β : Type} (l : List (α × β)) (a : α) : List (α × β) := l.filter fun p => !decide (p.1 = a)
variable {β : Type}
theorem aget_aset (l : List (α × β)) (a c : α) (v : β) : aget (aset l a v) c = if a = c then some v else aget l c := by
  induction l with
  | nil => simp [aset, aget]
  | cons p r ih =>
    obtain ⟨b, u⟩ := p
    unfold aset
    by_cases h : b = a
    · subst h
      simp only [if_pos]
      unfold aget
      split <;> rfl
    · rw [if_neg h]
      simp only [aget]
      rw [ih]
      by_cases h1 : b = c
      · subst h1
        rw [if_pos rfl, if_neg (fun e => h e.symm), if_pos rfl]
      · rw [if_neg h1, if_neg h1]
theorem aget_none {l : List (α × β)} {a : α} : aget l a = none ↔ ∀ p ∈ l, p.1 ≠ a := by
  induction l with
  | nil => simp [aget]
  | cons p r ih =>
    obtain ⟨b, u⟩ := p
    unfold aget
    by_cases h : b = a
    · simp [h]
    · rw [if_neg h, ih]
      simp [h]
theorem aget_mem {l : List (α × β)} {a : α} {v : β} (h : aget l a = some v) : (a, v) ∈ l := by
  induction l with
  | nil => simp [aget] at h
  | cons p r ih =>
    obtain ⟨b, u⟩ := p
    unfold aget at h
    by_cases h' : b = a
    · rw [if_pos h'] at h
      simp at h; subst h; subst h'; simp
    · rw [if_neg h'] at h
      exact List.mem_cons_of_mem _ (ih h)
theorem aget_at {l : List (α × β)} (hd : l.Pairwise fun p q => p.1 ≠ q.1) {a : α} {v : β} (h : (a, v) ∈ l) : aget l a = some v := by
  induction l with
  | nil => cases h
  | cons p r ih =>
    obtain ⟨b, u⟩ := p
    obtain ⟨h1, h2⟩ := List.pairwise_cons.1 hd
    unfold aget
    rcases List.mem_cons.1 h with e | e
    · cases e; rw [if_pos rfl]
    · rw [if_neg (h1 _ e)]; exact ih h2 e
theorem aset_new {l : List (α × β)} {a : α} {v : β} (h : ∀ p ∈ l, p.1 ≠ a) : aset l a v = l ++ [(a, v)] := by
  induction l with
  | nil => rfl
  | cons p r ih =>
    obtain ⟨b, u⟩ := p
    unfold aset
    rw [if_neg (h (b, u) (by simp)), ih fun q hq => h q (by simp [hq])]
    rfl
theorem aset_old {l : List (α × β)} (hd : l.Pairwise fun p q => p.1 ≠ q.1) {a : α} {v u : β} {j : Nat} (hj : l[j]? = some (a, u)) : aset l a v = l.set j (a, v) := by
  induction l generalizing j with
  | nil => simp at hj
  | cons p r ih =>
    obtain ⟨b, x⟩ := p
    obtain ⟨h1, h2⟩ := List.pairwise_cons.1 hd
    unfold aset
    cases j with
    | zero =>
      simp at hj
      rw [if_pos hj.1]; rfl
    | succ j =>
      have hj' : r[j]? = some (a, u) := by simpa using hj
      rw [if_neg (h1 _ (List.mem_of_getElem? hj')), ih h2 hj']
      rfl
theorem aset_keys {l : List (α × β)} (a : α) (v : β) : ∀ p ∈ aset l a v, p = (a, v) ∨ (p ∈ l ∧ p.1 ≠ a) ∨ (p ∈ l) := by
  induction l with
  | nil => intro p hp; simp [aset] at hp; exact .inl hp
  | cons q r ih =>
    obtain ⟨b, u⟩ := q
    intro p hp
    unfold aset at hp
    split at hp
    · rcases List.mem_cons.1 hp with h | h
      · exact .inl h
      · exact .inr (.inr (by simp [h]))
    · rcases List.mem_cons.1 hp with h | h
      · exact .inr (.inr (by simp [h]))
      · rcases ih p h with h | h | h
        · exact .inl h
        · exact .inr (.inr (by simp [h.1]))
        · exact .inr (.inr (by simp [h]))
theorem aset_dis {l : List (α × β)} (hd : l.Pairwise fun p q => p.1 ≠ q.1) (a : α) (v : β) : (aset l a v).Pairwise fun p q => p.1 ≠ q.1 := by
  induction l with
  | nil => simp [aset]
  | cons q r ih =>
    obtain ⟨b, u⟩ := q
    obtain ⟨h1, h2⟩ := List.pairwise_cons.1 hd
    unfold aset
    split
    · rename_i h
      subst h
      exact List.pairwise_cons.2 ⟨h1, h2⟩
    · rename_i h
      refine List.pairwise_cons.2 ⟨fun p hp => ?_, ih h2⟩
      rcases aset_keys a v p hp with e | e | e
      · rw [e]; exact h
      · exact h1 _ e.1
      · exact h1 _ e
theorem aset_length (l : List (α × β)) (a : α) (v : β) : (aset l a v).length ≤ l.length + 1 := by
  induction l with
  | nil => simp [aset]
  | cons q r ih => obtain ⟨b, u⟩ := q; unfold aset; split <;> simp; exact ih
end

/-- The entries with their values as they lie. -/
def amap {α β γ : Type} (f : β → γ) (l : List (α × β)) : List (α × γ) := l.map fun p => (p.1, f p.2)
theorem aset_amap {α β γ : Type} [DecidableEq α] (f : β → γ) (l : List (α × β)) (a : α) (v : β) : aset (amap f l) a (f v) = amap f (aset l a v) := by
  induction l with
  | nil => rfl
  | cons p r ih =>
    obtain ⟨b, u⟩ := p
    show aset ((b, f u) :: amap f r) a (f v) = _
    unfold aset
    split
    · rfl
    · rw [ih]; rfl
theorem aget_amap {α β γ : Type} [DecidableEq α] (f : β → γ) (l : List (α × β)) (a : α) : aget (amap f l) a = (aget l a).map f := by
  induction l with
  | nil => rfl
  | cons p r ih =>
    obtain ⟨b, u⟩ := p
    show aget ((b, f u) :: amap f r) a = _
    unfold aget
    split
    · rfl
    · rw [ih]

/-- Block b is a map with these entries, in the order of their making; a key lies as enc says. -/
structure MapB {α : Type} (P : Program) (k : TypeId) (enc : α → Value) (w : World) (b : Nat) (l : List (α × Value)) : Prop where
  blk : ∃ es clock, w.heap[b]? = some (.map es clock) ∧ es.toList.map (fun e => (e.key, e.val)) = l.map (fun p => (enc p.1, p.2))
  key : ∀ p ∈ l, ∃ kl, keyOf P k (enc p.1) = some kl
  dis : l.Pairwise fun p q => p.1 ≠ q.1

section
variable {α : Type} {P : Program} {k t e : TypeId} {enc : α → Value} {w w1 : World} {b : Nat} {l : List (α × Value)}
theorem MapB.lt (h : MapB P k enc w b l) : b < w.heap.size := by obtain ⟨es, c, hb, _⟩ := h.blk; exact block_lt hb
theorem MapB.kp {M : Nat → Prop} {w' : World} (h : MapB P k enc w b l) (hk : Kp M w w') (hm : ¬ M b) : MapB P k enc w' b l := by
  obtain ⟨es, c, hb, he⟩ := h.blk
  exact ⟨⟨es, c, hk.blk hb hm, he⟩, h.key, h.dis⟩
theorem MapB.drew (h : MapB P k enc w b l) : MapB P k enc w.drew b l := ⟨h.blk, h.key, h.dis⟩
theorem NewB.map {c : Nat} (h : NewB w (.map #[] c) b w1) : MapB P k enc w1 b ([] : List (α × Value)) :=
  ⟨⟨#[], c, h.block, rfl⟩, (fun p hp => by cases hp), .nil⟩

variable [DecidableEq α] (hinj : ∀ x y, enc x = enc y → x = y)
include hinj
theorem map_find (K : Keyed P k) {es : List MapEntry} (he : es.map (fun e => (e.key, e.val)) = l.map (fun p => (enc p.1, p.2))) (hkey : ∀ p ∈ l, ∃ kl, keyOf P k (enc p.1) = some kl) (hdis : l.Pairwise fun p q => p.1 ≠ q.1)
    {a : α} {kl : Lit} (ha : keyOf P k (enc a) = some kl) :
    (aget l a = none ∧ (Instr.findKey k (enc a) es).run P w = .ok none w) ∨
    (∃ j v u, aget l a = some v ∧ (Instr.findKey k (enc a) es).run P w = .ok (some (j, v)) w ∧ l[j]? = some (a, v) ∧ es[j]? = some u ∧ u.key = enc a) := by
  have hm : ∀ x ∈ es, ∃ p ∈ l, x.key = enc p.1 ∧ x.val = p.2 := fun x hx => by
    have : (x.key, x.val) ∈ es.map (fun e => (e.key, e.val)) := List.mem_map.2 ⟨x, hx, rfl⟩
    rw [he] at this
    obtain ⟨p, hp, e⟩ := List.mem_map.1 this
    simp at e
    exact ⟨p, hp, e.1.symm, e.2.symm⟩
  rcases K.find w ha es (fun x hx => by
    obtain ⟨p, hp, h1, _⟩ := hm x hx
    rw [h1]; exact hkey p hp) with ⟨h1, h2⟩ | ⟨j, u, h1, h2, h3⟩
  · refine .inl ⟨aget_none.2 fun p hp hpa => ?_, h1⟩
    have : (enc p.1, p.2) ∈ l.map (fun p => (enc p.1, p.2)) := List.mem_map.2 ⟨p, hp, rfl⟩
    rw [← he] at this
    obtain ⟨x, hx, e⟩ := List.mem_map.1 this
    simp at e
    exact h2 x hx (by rw [e.1, hpa])
  · have h4 : (es.map (fun e => (e.key, e.val)))[j]? = some (u.key, u.val) := by simp [h2]
    rw [he] at h4
    simp only [List.getElem?_map, Option.map_eq_some_iff] at h4
    obtain ⟨p, hp, e⟩ := h4
    simp at e
    obtain ⟨pa, pv⟩ := p
    have ea : pa = a := hinj _ _ (e.1.trans h3)
    subst ea
    have ev : pv = u.val := e.2
    subst ev
    exact .inr ⟨j, _, u, aget_at hdis (List.mem_of_getElem? hp), h1, hp, h2, h3⟩
/-- A look into a map. -/
theorem MapB.look (h : MapB P k enc w b l) (K : Keyed P k) (ht : P.underlying t = some (.map k e)) {z : Value} (hz : (zeroValue e).run P w = .ok z w) {a : α} {kl : Lit} (ha : keyOf P k (enc a) = some kl) (ok : Bool) :
    LookP P t (.map (some b)) (enc a) ok (match ok with | true => .tuple #[(aget l a).getD z, .bool (aget l a).isSome] | false => (aget l a).getD z) w := by
  obtain ⟨es, c, hb, he⟩ := h.blk
  constructor
  rcases map_find hinj K he h.key h.dis ha (w := w) with ⟨h1, h2⟩ | ⟨j, v, u, h1, h2, _⟩
  · rw [h1]
    cases ok <;> simp [Instr.lookup, run_underlying ht, MapKept.run_getObj_map hb, K.check w _ ha, h2, hz, Result.andThen]
  · rw [h1]
    cases ok <;> simp [Instr.lookup, run_underlying ht, MapKept.run_getObj_map hb, K.check w _ ha, h2, Result.andThen]
/-- An entry of a map is written. -/
theorem MapB.upd (h : MapB P k enc w b l) (K : Keyed P k) (ht : P.underlying t = some (.map k e)) {a : α} {kl : Lit} (ha : keyOf P k (enc a) = some kl) (v : Value) :
    ∃ w1, UpdP P t (.map (some b)) (enc a) v w w1 ∧ MapB P k enc w1 b (aset l a v) ∧ Kp (· = b) w w1 := by
  obtain ⟨es, c, hb, he⟩ := h.blk
  have hkp : ∀ o, Kp (· = b) w (ChangeMaps.setBlock w b o) := fun o => ⟨rfl, rfl, rfl, by simp [ChangeMaps.setBlock], fun i _ hi => ChangeMaps.heap_setBlock_other hb _ (fun e => hi (by rw [e]))⟩
  have hkeys : ∀ p ∈ aset l a v, ∃ kl, keyOf P k (enc p.1) = some kl := fun p hp => by
    rcases aset_keys a v p hp with e | e | e
    · rw [e]; exact ⟨_, ha⟩
    · exact h.key p e.1
    · exact h.key p e
  rcases map_find hinj K he h.key h.dis ha (w := w) with ⟨h1, h2⟩ | ⟨j, x, u, h1, h2, h3, h4, h5⟩
  · refine ⟨ChangeMaps.setBlock w b (.map (es.push ⟨enc a, v, c⟩) (c + 1)), ⟨?_⟩, ⟨⟨_, _, ChangeMaps.heap_setBlock_same hb _, ?_⟩, hkeys, aset_dis h.dis a v⟩, hkp _⟩
    · simp [Instr.mapUpdate, run_underlying ht, MapKept.run_getObj_map hb, K.check w _ ha, h2, MapKept.run_setObj_map _ hb, Result.andThen, ChangeMaps.setBlock]
    · rw [aset_new (aget_none.1 h1)]
      simp [he]
  · refine ⟨ChangeMaps.setBlock w b (.map (es.modify j fun e' => { e' with key := enc a, val := v }) c), ⟨?_⟩, ⟨⟨_, _, ChangeMaps.heap_setBlock_same hb _, ?_⟩, hkeys, aset_dis h.dis a v⟩, hkp _⟩
    · have hj : es[j]? = some u := by simpa using h4
      simp [Instr.mapUpdate, run_underlying ht, MapKept.run_getObj_map hb, K.check w _ ha, h2, hj, h5, K.stays w ha, MapKept.run_setObj_map _ hb, Result.andThen, ChangeMaps.setBlock]
    · rw [aset_old h.dis h3, List.map_set, ← he, Array.toList_modify, ChangeMaps.modify_eq_set _ _ _ _ h4, List.map_set]
end

end Go.Proofs.YtmjanmffnblcoaaGreatDoor

/- Arrays of bytes as keys of maps, and their comparison. Generic: no program. -/
namespace Go.Proofs.YtmjanmffnblcoaaGreatDoor
open Go.RowKit Go.Maps

theorem mapM_some {α β : Type} {f : α → Option β} {g : α → β} : ∀ (l : List α), (∀ x ∈ l, f x = some (g x)) → l.mapM f = some (l.map g)
  | [], _ => by simp
  | x :: l, h => by
    rw [List.mapM_cons, h x (by simp), mapM_some l fun y hy => h y (by simp [hy])]
    rfl
section
variable {P : Program} {t e : TypeId} {n : Nat}
/-- An array of bytes. -/
def byA (l : List Int) : Value := .agg (l.map (Value.int .u8)).toArray
theorem byA_inj (x y : List Int) (h : byA x = byA y) : x = y := by
  unfold byA at h
  simp only [Value.agg.injEq] at h
  have h : x.map (Value.int .u8) = y.map (Value.int .u8) := congrArg Array.toList h
  exact (List.map_inj_right (fun a b h => by cases h; rfl)).1 h
theorem keyLits_bytes (ht : P.underlying t = some (.array n e)) (he : P.underlying e = some (.int .u8)) (hc : P.cellsOf e = 1) (hct : P.cellsOf t = n) {l : List Int} (hl : l.length = n) (hb : ∀ x ∈ l, 0 ≤ x ∧ x ≤ 255) (D : Nat) :
    P.keyLits (D + 2) t (l.map (Value.int .u8)) = some (l.map (Lit.int .u8)) := by
  unfold Program.keyLits
  rw [ht]
  simp only
  rw [if_pos (by rw [List.length_map, hl, hct]), mapM_some (g := fun i => [Lit.int .u8 (l.getD i 0)]) _ (fun i hi => ?_)]
  · simp only [Option.map_some, Option.some.injEq]
    have h1 : ∀ r : List Nat, (r.map fun i => [Lit.int .u8 (l.getD i 0)]).flatten = r.map fun i => Lit.int .u8 (l.getD i 0) := fun r => by
      induction r with
      | nil => rfl
      | cons a r ih => rw [List.map_cons, List.map_cons, List.flatten_cons, ih]; rfl
    rw [h1]
    apply List.ext_getElem?
    intro j
    rw [List.getElem?_map, List.getElem?_map]
    rcases Nat.lt_or_ge j n with h | h
    · rw [List.getElem?_range h, List.getElem?_eq_getElem (by omega)]
      simp [List.getD_eq_getElem?_getD, hl, h]
    · rw [List.getElem?_eq_none (by simpa using h), List.getElem?_eq_none (by omega)]
      rfl
  · have hi : i < n := List.mem_range.1 hi
    have : ((l.map (Value.int .u8)).drop (i * P.cellsOf e)).take (P.cellsOf e) = [.int .u8 (l.getD i 0)] := by
      rw [hc, Nat.mul_one, List.drop_eq_getElem_cons (by rw [List.length_map]; omega)]
      simp [List.getD_eq_getElem?_getD, hl, hi]
    rw [this]
    unfold Program.keyLits
    rw [he]
    simp only
    have hx := hb (l.getD i 0) (by
      rw [List.getD_eq_getElem?_getD, List.getElem?_eq_getElem (by omega)]
      simp)
    generalize l.getD i 0 = v at hx
    have hw : (Lit.int .u8 v).wf = true := by simp [Lit.wf, IntKind.min, IntKind.max, IntKind.bits, IntKind.signed]; omega
    simp [hw]
theorem keyOf_bytes (ht : P.underlying t = some (.array n e)) (he : P.underlying e = some (.int .u8)) (hc : P.cellsOf e = 1) (hct : P.cellsOf t = n) (hkt : P.keyType t = true) (hD : 1 ≤ P.types.size) {l : List Int} (hl : l.length = n) (hb : ∀ x ∈ l, 0 ≤ x ∧ x ≤ 255) :
    keyOf P t (byA l) = some (.string (keyBytes (l.map (Lit.int .u8)))) := by
  unfold keyOf
  rw [ht]
  simp only
  have hf : (byA l).formed P t = true := by
    unfold byA Value.formed
    rw [ht]
    simp [hl, hct]
  rw [hkt, hf]
  have hk := keyLits_bytes ht he hc hct hl hb (P.types.size - 1)
  rw [show P.types.size - 1 + 2 = P.types.size + 1 by omega] at hk
  have : (byA l).cells.toList = l.map (Value.int .u8) := by simp [byA, Value.cells]
  rw [this, hk]
  rfl
theorem eq_bytes (ht : P.underlying t = some (.array n e)) (he : P.underlying e = some (.int .u8)) (hc : P.cellsOf e = 1) (hct : P.cellsOf t = n) (hkt : P.keyType t = true) (hD : 1 ≤ P.types.size) (hkm : P.keyTypeAt 3 t = true) (hg : P.eqGuardType P.depth t = false) {l l' : List Int} (hl : l.length = n) (hb : ∀ x ∈ l, 0 ≤ x ∧ x ≤ 255) (hl' : l'.length = n) (hb' : ∀ x ∈ l', 0 ≤ x ∧ x ≤ 255) :
    EqP P t (byA l) (byA l') (decide (l = l')) := by
  refine ⟨fun w => ?_, hg, _, _, rfl, rfl⟩
  obtain ⟨r, hr, hi⟩ := run_equal_deep w (m := 3) (by omega) hkm (by rw [ht]) (keyOf_bytes ht he hc hct hkt hD hl hb) (keyOf_bytes ht he hc hct hkt hD hl' hb')
  rw [hr]
  congr 1
  rw [Bool.eq_iff_iff, hi, decide_eq_true_eq]
  constructor
  · intro h
    have h : keyBytes (l.map (Lit.int .u8)) = keyBytes (l'.map (Lit.int .u8)) := by simpa using h
    have := keyLits_inj (keyLits_bytes ht he hc hct hl hb 0) (keyLits_bytes ht he hc hct hl' hb' 0) h
    exact (List.map_inj_right (fun a b h => by cases h; rfl)).1 this
  · rintro rfl; rfl
end
end Go.Proofs.YtmjanmffnblcoaaGreatDoor

/- Identities: arrays of 32 bytes as lists, as keys, compared. No condition. -/
namespace Go.Proofs.YtmjanmffnblcoaaGreatDoor
open Go.RowKit Go.Sort Go.Maps

/-- The numbers of an array of 32 bytes. -/
def idI (f : Nat → Int) : List Int := (List.range 32).map f
/-- Its bytes. -/
def idB (f : Nat → Int) : List UInt8 := (idI f).map fun x => x.toNat.toUInt8
theorem arrI_idI (f : Nat → Int) : arrI .u8 f 32 0 = (idI f).map (Value.int .u8) := rfl
theorem idI_get (f : Nat → Int) {j : Nat} (h : j < 32) : (idI f)[j]? = some (f j) := by simp [idI, h]
theorem arrI_get (k : IntKind) (f : Nat → Int) : ∀ (n i j : Nat), j < n → (arrI k f n i)[j]? = some (.int k (f (i + j)))
  | 0, _, j, h => by omega
  | n + 1, i, 0, _ => by simp [arrI]
  | n + 1, i, j + 1, h => by
    simp only [arrI, List.getElem?_cons_succ]
    rw [arrI_get k f n (i + 1) j (by omega)]
    congr 3; omega
/-- Only draws and new blocks. -/
theorem grow_of {w w' : World} (h : K0 w w') (hd : w.drawn ≤ w'.drawn) : ∃ q os', w' = grow (w.drewN q) os' := by
  refine ⟨w'.drawn - w.drawn, w'.heap.extract w.heap.size w'.heap.size, ?_⟩
  have hh : w'.heap = w.heap ++ w'.heap.extract w.heap.size w'.heap.size := by
    apply Array.ext_getElem?
    intro i
    rw [Array.getElem?_append]
    split
    · rename_i hi; exact h.block i hi (fun h => h)
    · rename_i hi
      rw [Array.getElem?_extract]
      have := h.size
      by_cases hl : i < w'.heap.size
      · rw [if_pos (by omega)]; congr 1; omega
      · rw [if_neg (by omega)]; exact Array.getElem?_eq_none (by omega)
  have h1 := h.os
  have h2 := h.tape
  have h3 := h.output
  obtain ⟨hp, tp, dr, os, out⟩ := w
  obtain ⟨hp', tp', dr', os', out'⟩ := w'
  simp only at hh h1 h2 h3 hd
  subst h1 h2 h3
  simp only [grow, World.drewN]
  congr 1
  omega
theorem aget_trues {α : Type} [DecidableEq α] (acc : List α) (a : α) : aget (acc.map fun x => (x, Value.bool true)) a = if a ∈ acc then some (.bool true) else none := by
  induction acc with
  | nil => rfl
  | cons y r ih =>
    rw [List.map_cons]
    unfold aget
    by_cases h : y = a
    · subst h; simp
    · rw [if_neg h, ih]
      simp only [List.mem_cons]
      have : ¬ a = y := fun e => h e.symm
      simp [this]
theorem zeroBool (w : World) : (zeroValue 4).run Tryz.prog w = .ok (.bool false) w := by kernel_rfl
theorem idKeyed : Keyed Tryz.prog 42 := Keyed.of_law (deep_law (m := 3) (by omega) (by kernel_rfl) (by kernel_rfl) (by kernel_rfl))
theorem idKey {l : List Int} (hl : l.length = 32) (hb : ∀ x ∈ l, 0 ≤ x ∧ x ≤ 255) : keyOf Tryz.prog 42 (byA l) = some (.string (keyBytes (l.map (Lit.int .u8)))) :=
  keyOf_bytes Tryz.underlying42 Tryz.underlying5 (by kernel_rfl) (by kernel_rfl) (by kernel_rfl) (by decide +kernel) hl hb
theorem idEq {l l' : List Int} (hl : l.length = 32) (hb : ∀ x ∈ l, 0 ≤ x ∧ x ≤ 255) (hl' : l'.length = 32) (hb' : ∀ x ∈ l', 0 ≤ x ∧ x ≤ 255) : EqP Tryz.prog 42 (byA l) (byA l') (decide (l = l')) :=
  eq_bytes Tryz.underlying42 Tryz.underlying5 (by kernel_rfl) (by kernel_rfl) (by kernel_rfl) (by decide +kernel) (by kernel_rfl) (by kernel_rfl) hl hb hl' hb'
theorem idI_len (f : Nat → Int) : (idI f).length = 32 := by simp [idI]
theorem idI_bd {f : Nat → Int} (h : ∀ j, 0 ≤ f j ∧ f j ≤ 255) : ∀ x ∈ idI f, 0 ≤ x ∧ x ≤ 255 := fun x hx => by
  obtain ⟨j, _, rfl⟩ := List.mem_map.1 hx
  exact h j

end Go.Proofs.YtmjanmffnblcoaaGreatDoor
