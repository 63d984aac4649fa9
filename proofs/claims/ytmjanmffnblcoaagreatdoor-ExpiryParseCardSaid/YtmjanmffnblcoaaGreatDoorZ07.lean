/- Matching by rows (plain): the marks of the program's Match are those of a table of prefixes. No condition. -/
import Derived.Test.YtmjanmffnblcoaaGreatDoorZ06
import Derived.Lib.SplitLaws
import Derived.Lib.CountLaws
import Derived.Lib.CutLaws
import Derived.Test.YtmjanmffnblcoaaGreatDoorZ04
import Derived.Test.YtmjanmffnblcoaaGreatDoorZ03
import Derived.Maps.Keyed
import Derived.DeepKeys3
import Derived.Sort.Grow
import Derived.Test.YtmjanmffnblcoaaGreatDoorProg
import Derived.Test.YtmjanmffnblcoaaGreatDoorZ02
import Derived.KernelRfl
namespace Go.Proofs.YtmjanmffnblcoaaGreatDoor

def rowS (prev h : Nat → Bool) : Nat → Bool
  | 0 => prev 0
  | k + 1 => prev (k + 1) || (h k && rowS prev h k)
def rowC (prev h : Nat → Bool) : Nat → Bool
  | 0 => false
  | k + 1 => h k && prev k
/-- The first i elements match the first k characters. -/
def pmF (st : Nat → Bool) (h : Nat → Nat → Bool) : Nat → Nat → Bool
  | 0, k => k == 0
  | i + 1, k => if st i = true then rowS (pmF st h i) (h i) k else rowC (pmF st h i) (h i) k
theorem pmF_zero (st : Nat → Bool) (h : Nat → Nat → Bool) (i : Nat) : pmF st h (i + 1) 0 = (st i && pmF st h i 0) := by
  simp only [pmF]; cases st i <;> simp [rowS, rowC]
theorem pmF_succ (st : Nat → Bool) (h : Nat → Nat → Bool) (i k : Nat) : pmF st h (i + 1) (k + 1) = if st i = true then pmF st h i (k + 1) || (h i k && pmF st h (i + 1) k) else h i k && pmF st h i k := by
  simp only [pmF]; cases hs : st i <;> simp [rowS, rowC]
theorem run_pm (els : List El) (s : ByteArray) : ∀ (k j : Nat), runF els s k j = if elS els j = true then pmF (elS els) (fun i k => elH els i (at8 s k)) (j + 1) k else pmF (elS els) (fun i k => elH els i (at8 s k)) j k := by
  intro k
  induction k with
  | zero =>
    have key : ∀ j, spF (elS els) (fun j => j == 0) j = pmF (elS els) (fun i k => elH els i (at8 s k)) j 0 := by
      intro j
      induction j with
      | zero => rfl
      | succ j ih => rw [pmF_zero, spF, ih]; simp
    intro j
    rw [runF, key]
    split
    · rename_i hs; rw [pmF_zero, hs]; simp
    · rfl
  | succ k ih =>
    intro j
    rw [runF]
    induction j with
    | zero =>
      rw [spF]
      simp only [stpF, ih 0]
      cases hs : elS els 0 with
      | true => rw [if_pos rfl, if_pos rfl, pmF_succ, hs, if_pos rfl, Bool.and_comm]; simp [pmF]
      | false => simp [pmF]
    | succ j ihj =>
      rw [spF, ihj]
      have h1 : ((match j + 1 with | 0 => false | i + 1 => !elS els i && runF els s k i && elH els i (at8 s k)) || (elS els j && if elS els j = true then pmF (elS els) (fun i k => elH els i (at8 s k)) (j + 1) (k + 1) else pmF (elS els) (fun i k => elH els i (at8 s k)) j (k + 1))) = pmF (elS els) (fun i k => elH els i (at8 s k)) (j + 1) (k + 1) := by
        simp only [ih j]
        rw [pmF_succ]
        cases hs : elS els j with
        | true => simp
        | false => simp [Bool.and_comm]
      unfold stpF
      rw [Bool.or_assoc, h1, ih (j + 1)]
      cases hs : elS els (j + 1) with
      | true => rw [if_pos rfl, if_pos rfl, pmF_succ _ _ (j + 1), hs, if_pos rfl, Bool.or_comm, Bool.true_and, Bool.and_comm]
      | false => simp
/-- The program's Match by the table. -/
theorem match_pm (els : List El) (s : ByteArray) : matchB els s = pmF (elS els) (fun i k => elH els i (at8 s k)) els.length s.size := by
  unfold matchB
  rw [run_pm, if_neg (by simp [elS])]

end Go.Proofs.YtmjanmffnblcoaaGreatDoor

/- Patterns of the reference (plain): matching by rows agrees with the program's Match, where the elements agree. No condition. -/
namespace Go.Proofs.YtmjanmffnblcoaaGreatDoor

/-- An element of a pattern of the reference. -/
structure RE where
  star : Bool
  set : Nat → Bool
/-- An element and that of the reference. -/
structure RelE (e : El) (r : RE) : Prop where
  star : e.isStar = r.star
  set : r.star = false → ∀ c : Nat, c < 128 → hasB e.chars c = r.set c
  char : ∀ c : Int, 0 ≤ c → c ≤ 255 → hasB e.chars c = true → charB c = true
theorem name_char : ∀ c : Int, 0 ≤ c → c ≤ 255 → hasB nameBytes c = charB c := by
  have h : ∀ n : Fin 256, hasB nameBytes (n.val : Int) = charB (n.val : Int) := by decide +kernel
  intro c h0 h1
  have := h ⟨c.toNat, by omega⟩
  simp only at this
  rw [show ((c.toNat : Nat) : Int) = c by omega] at this
  exact this
theorem charB_lt {c : Int} (h : charB c = true) : 0 ≤ c ∧ c < 128 := by
  simp [charB, lowerB, digitB] at h
  omega
theorem pmF_congr {st st' : Nat → Bool} {h h' : Nat → Nat → Bool} : ∀ (i k : Nat), (∀ j, j < i → st j = st' j) → (∀ j l, j < i → l < k → h j l = h' j l) → pmF st h i k = pmF st' h' i k
  | 0, k, _, _ => rfl
  | i + 1, 0, h1, h2 => by
    rw [pmF_zero, pmF_zero, h1 i (by omega), pmF_congr i 0 (fun j hj => h1 j (by omega)) (fun j l hj hl => by omega)]
  | i + 1, k + 1, h1, h2 => by
    have a := pmF_congr i (k + 1) (fun j hj => h1 j (by omega)) (fun j l hj hl => h2 j l (by omega) hl)
    have b := pmF_congr (i + 1) k h1 (fun j l hj hl => h2 j l hj (by omega))
    have c := pmF_congr i k (fun j hj => h1 j (by omega)) (fun j l hj hl => h2 j l (by omega) (by omega))
    rw [pmF_succ, pmF_succ, h1 i (by omega), h2 i k (by omega) (by omega), a, b, c]
theorem pmF_dead {st : Nat → Bool} {h : Nat → Nat → Bool} {k0 : Nat} (hd : ∀ i, h i k0 = false) : ∀ (i k : Nat), k0 < k → pmF st h i k = false
  | 0, k, hk => by simp [pmF]; omega
  | i + 1, 0, hk => by omega
  | i + 1, k + 1, hk => by
    rw [pmF_succ, pmF_dead hd i (k + 1) hk]
    by_cases e : k = k0
    · subst e; rw [hd i]; simp
    · rw [pmF_dead hd (i + 1) k (by omega), pmF_dead hd i k (by omega)]; simp
def rS (rs : List RE) (j : Nat) : Bool := match rs[j]? with | some r => r.star | none => false
def rH (rs : List RE) (j c : Nat) : Bool := match rs[j]? with | some r => r.set c | none => false
/-- The reference's Match. -/
def rmatchB (rs : List RE) (s : ByteArray) : Bool := (List.range s.size).all (fun i => charB (at8 s i)) && pmF (rS rs) (fun i k => rS rs i || rH rs i (at8 s k).toNat) rs.length s.size
/-- Elements that agree, one by one. -/
structure RelEs (els : List El) (rs : List RE) : Prop where
  len : els.length = rs.length
  at_ : ∀ (j : Nat) (e : El) (r : RE), els[j]? = some e → rs[j]? = some r → RelE e r
theorem RelEs.snoc {els : List El} {rs : List RE} (h : RelEs els rs) {e : El} {r : RE} (hr : RelE e r) : RelEs (els ++ [e]) (rs ++ [r]) := by
  refine ⟨by simp [h.len], fun j e' r' he hr' => ?_⟩
  rw [List.getElem?_append] at he hr'
  rw [← h.len] at hr'
  split at he
  · rename_i hj
    rw [if_pos hj] at hr'
    exact h.at_ j _ _ he hr'
  · rename_i hj
    rw [if_neg hj] at hr'
    cases hjj : j - els.length with
    | zero => rw [hjj] at he hr'; simp at he hr'; subst he; subst hr'; exact hr
    | succ n => rw [hjj] at he; simp at he
theorem rel_match {els : List El} {rs : List RE} (h : RelEs els rs) (s : ByteArray) : matchB els s = rmatchB rs s := by
  rw [match_pm]
  unfold rmatchB
  cases ha : (List.range s.size).all (fun i => charB (at8 s i)) with
  | false =>
    rw [Bool.false_and]
    rw [List.all_eq_false] at ha
    obtain ⟨k0, hk0, hc⟩ := ha
    rw [List.mem_range] at hk0
    refine pmF_dead (k0 := k0) (fun i => ?_) _ _ hk0
    unfold elH
    cases he : els[i]? with
    | none => rfl
    | some e =>
      have hlt : i < rs.length := by rw [← h.len]; exact (List.getElem?_eq_some_iff.1 he).1
      have hr := h.at_ i e _ he (List.getElem?_eq_getElem hlt)
      simp only
      cases hh : hasB e.chars (at8 s k0) with
      | false => rfl
      | true => exact absurd (hr.char _ (at8_bd s k0).1 (at8_bd s k0).2 hh) hc
  | true =>
    rw [Bool.true_and, h.len]
    have hst : ∀ j, elS els j = rS rs j := fun j => by
      unfold elS rS
      rcases Nat.lt_or_ge j els.length with hj | hj
      · have hj' : j < rs.length := by rw [← h.len]; exact hj
        rw [List.getElem?_eq_getElem hj, List.getElem?_eq_getElem hj']
        exact (h.at_ j _ _ (List.getElem?_eq_getElem hj) (List.getElem?_eq_getElem hj')).star
      · rw [List.getElem?_eq_none hj, List.getElem?_eq_none (by rw [← h.len]; exact hj)]
    refine pmF_congr _ _ (fun j _ => hst j) (fun j l hj hl => ?_)
    have hc : charB (at8 s l) = true := List.all_eq_true.1 ha l (List.mem_range.2 hl)
    have hcb := charB_lt hc
    have hj0 : j < els.length := by rw [h.len]; exact hj
    have hr := h.at_ j _ _ (List.getElem?_eq_getElem hj0) (List.getElem?_eq_getElem hj)
    unfold elH rS rH
    rw [List.getElem?_eq_getElem hj0, List.getElem?_eq_getElem hj]
    simp only
    generalize els[j] = e at hr
    generalize rs[j] = r at hr
    cases hs : r.star with
    | true =>
      have : e = .star := by
        have h1 := hr.star
        rw [hs] at h1
        cases e <;> simp [El.isStar] at h1
        rfl
      subst this
      rw [Bool.true_or]
      show hasB nameBytes _ = true
      rw [name_char _ hcb.1 (by omega)]; exact hc
    | false =>
      rw [Bool.false_or]
      have := hr.set hs (at8 s l).toNat (by omega)
      rw [show (((at8 s l).toNat : Nat) : Int) = at8 s l by omega] at this
      exact this

theorem at8_byte {s : ByteArray} {k : Nat} (h : k < s.size) : s.data.toList[k]? = some (at8 s k).toNat.toUInt8 := by
  rw [at8_lt s k h, Array.getElem?_toList, Array.getElem?_eq_getElem (show k < s.data.size from h)]
  congr 1
  show s[k] = _
  rw [Int.toNat_natCast]
  simp
theorem at8_extract (s : ByteArray) (a b j : Nat) (h : a + j < b) (hb : b ≤ s.size) : at8 (s.extract a b) j = at8 s (a + j) := by
  have h1 : j < (s.extract a b).size := by rw [ByteArray.size_extract]; omega
  rw [at8_lt _ _ h1, at8_lt s (a + j) (by omega)]
  rw [ByteArray.getElem_extract h1]

end Go.Proofs.YtmjanmffnblcoaaGreatDoor

/- Plain: a text cut at its first byte c, and at each of them; decimal numbers; the rules of a text. No program in sight. -/
namespace Go.Proofs.YtmjanmffnblcoaaGreatDoor
open Go.RowKit

theorem ixC_hit : ∀ (l : List UInt8) (c : UInt8) (i : Nat), l[i]? = some c → (∀ j, j < i → l[j]? ≠ some c) → Lib.indexByte l c = i
  | [], c, i, h, _ => by simp at h
  | b :: l, c, 0, h, _ => by simp at h; subst h; simp [Lib.indexByte]
  | b :: l, c, i + 1, h, hn => by
    have ih := ixC_hit l c i (by simpa using h) (fun j hj => by have := hn (j + 1) (by omega); simpa using this)
    have hb : ¬ b = c := by have := hn 0 (by omega); simpa using this
    unfold Lib.indexByte
    simp only [ih]
    have : (b == c) = false := by simpa using hb
    simp [this]
theorem ixC_miss : ∀ (l : List UInt8) (c : UInt8), (∀ j : Nat, l[j]? ≠ some c) → Lib.indexByte l c = -1
  | [], c, _ => rfl
  | b :: l, c, hn => by
    have ih := ixC_miss l c (fun j => by have := hn (j + 1); simpa using this)
    have hb : ¬ b = c := by have := hn 0; simpa using this
    unfold Lib.indexByte
    have : (b == c) = false := by simpa using hb
    simp [ih, this]
theorem u8C (c : UInt8) {d : Int} (h0 : 0 ≤ d) (h1 : d ≤ 255) : (d.toNat.toUInt8 = c) ↔ d = (c.toNat : Int) := by
  have hc := c.toNat_lt
  have := byte_inj (c := (c.toNat : Int)) (d := d) (by omega) ⟨h0, h1⟩
  have ec : ((c.toNat : Int)).toNat.toUInt8 = c := by simp
  rw [ec] at this
  constructor
  · intro h
    rw [h] at this
    simpa using this.symm
  · intro h
    rw [h]; exact ec
theorem getC (c : UInt8) {s : ByteArray} {j : Nat} : s.data.toList[j]? = some c ↔ j < s.size ∧ at8 s j = (c.toNat : Int) := by
  rcases Nat.lt_or_ge j s.size with h | h
  · rw [at8_byte h]
    simp only [Option.some.injEq, h, true_and]
    exact u8C c (at8_bd s j).1 (at8_bd s j).2
  · have : s.data.toList[j]? = none := List.getElem?_eq_none (by simpa using h)
    rw [this]
    simp; omega

/-- The place of the first byte c at or behind i, or the text's end. -/
def FirstC (c : UInt8) (s : ByteArray) (a i : Nat) : Prop := a ≤ i ∧ i ≤ s.size ∧ (∀ j, a ≤ j → j < i → at8 s j ≠ (c.toNat : Int)) ∧ (i < s.size → at8 s i = (c.toNat : Int))
theorem FirstC.uniq {c : UInt8} {s : ByteArray} {a i k : Nat} (h : FirstC c s a i) (g : FirstC c s a k) : i = k := by
  obtain ⟨h1, h2, h3, h4⟩ := h
  obtain ⟨g1, g2, g3, g4⟩ := g
  rcases Nat.lt_trichotomy i k with h | h | h
  · exact absurd (h4 (by omega)) (g3 i h1 h)
  · exact h
  · exact absurd (g4 (by omega)) (h3 k g1 h)
def findC (c : UInt8) (s : ByteArray) : Nat := s.data.toList.findIdx (· == c)
theorem findC_first (c : UInt8) (s : ByteArray) : FirstC c s 0 (findC c s) := by
  have hl : s.data.toList.length = s.size := s.data.length_toList
  refine ⟨by omega, by rw [← hl]; exact List.findIdx_le_length, fun j _ hj hc => ?_, fun h => ?_⟩
  · have hj' : j < s.size := by rw [← hl]; exact Nat.lt_of_lt_of_le hj List.findIdx_le_length
    have h1 := (getC c).2 ⟨hj', hc⟩
    obtain ⟨hk, e⟩ := List.getElem?_eq_some_iff.1 h1
    have := List.not_of_lt_findIdx hj
    rw [e] at this
    simp at this
  · have h' : s.data.toList.findIdx (· == c) < s.data.toList.length := by rw [hl]; exact h
    have h1 : (s.data.toList[s.data.toList.findIdx (· == c)] == c) = true := List.findIdx_getElem (w := h')
    refine ((getC c).1 ?_).2
    unfold findC
    rw [List.getElem?_eq_getElem h', beq_iff_eq.1 h1]

theorem cut_hit {c : UInt8} {s : ByteArray} {i : Nat} (h : FirstC c s 0 i) (hi : i < s.size) : Lib.cut s.data.toList [c] = ((s.extract 0 i).data.toList, (s.extract (i + 1) s.size).data.toList, true) := by
  have hx : Lib.index s.data.toList [c] = i := by
    rw [Lib.index_one]
    exact ixC_hit _ _ _ ((getC c).2 ⟨hi, h.2.2.2 hi⟩) (fun j hj hc => h.2.2.1 j (by omega) hj ((getC c).1 hc).2)
  unfold Lib.cut
  rw [hx, if_pos (by omega)]
  rw [Lib.extract_from_zero, Lib.extract_to_end]
  rfl
theorem cut_miss {c : UInt8} {s : ByteArray} {i : Nat} (h : FirstC c s 0 i) (hi : ¬ i < s.size) : Lib.cut s.data.toList [c] = (s.data.toList, [], false) := by
  have hx : Lib.index s.data.toList [c] = -1 := by
    rw [Lib.index_one]
    exact ixC_miss _ _ (fun j hc => h.2.2.1 j (by omega) (by have := ((getC c).1 hc).1; have := h.2.1; omega) ((getC c).1 hc).2)
  unfold Lib.cut
  rw [hx, if_neg (by omega)]

/-- A text cut at each byte c. -/
def partsC (c : UInt8) (s : ByteArray) : List ByteArray := Lib.splitB ⟨#[c]⟩ 0 (Lib.countB s ⟨#[c]⟩) s
theorem partsC_hit {c : UInt8} {s : ByteArray} {i : Nat} (h : FirstC c s 0 i) (hi : i < s.size) : partsC c s = s.extract 0 i :: partsC c (s.extract (i + 1) s.size) := by
  have hx : Lib.indexB s ⟨#[c]⟩ = i := by
    show Lib.index s.data.toList [c] = i
    rw [Lib.index_one]
    exact ixC_hit _ _ _ ((getC c).2 ⟨hi, h.2.2.2 hi⟩) (fun j hj hc => h.2.2.1 j (by omega) hj ((getC c).1 hc).2)
  unfold partsC
  rw [Lib.countB_hit s ⟨#[c]⟩ i (Nat.le_refl 1) hx, Nat.add_comm, Lib.splitB_hit _ _ _ _ i hx]
  rfl
theorem partsC_miss {c : UInt8} {s : ByteArray} {i : Nat} (h : FirstC c s 0 i) (hi : ¬ i < s.size) : partsC c s = [s] := by
  have hx : Lib.indexB s ⟨#[c]⟩ = -1 := by
    show Lib.index s.data.toList [c] = -1
    rw [Lib.index_one]
    exact ixC_miss _ _ (fun j hc => h.2.2.1 j (by omega) (by have := ((getC c).1 hc).1; have := h.2.1; omega) ((getC c).1 hc).2)
  unfold partsC
  exact Lib.splitB_miss _ _ _ _ hx

/-! ### Numbers -/
def nvF (s : ByteArray) : Nat → Int
  | 0 => 0
  | k + 1 => 10 * nvF s k + (at8 s k - 48)
def NumOK (s : ByteArray) : Prop := 0 < s.size ∧ (∀ i, i < s.size → 48 ≤ at8 s i ∧ at8 s i ≤ 57) ∧ (1 < s.size → at8 s 0 ≠ 48)
instance (s : ByteArray) : Decidable (NumOK s) := by unfold NumOK; infer_instance
/-- The number that a text denotes, and the error. -/
def numR (s : ByteArray) (m : Int) : Int × Int := if NumOK s then if m < 0 then (0, 2) else if nvF s s.size ≤ m then (nvF s s.size, 0) else (0, 2) else (0, 3)
theorem nvF_nonneg {s : ByteArray} (h : ∀ i, i < s.size → 48 ≤ at8 s i ∧ at8 s i ≤ 57) : ∀ k, k ≤ s.size → 0 ≤ nvF s k
  | 0, _ => by simp [nvF]
  | k + 1, hk => by
    have := nvF_nonneg h k (by omega)
    have := h k (by omega)
    unfold nvF; omega
theorem nvF_mono {s : ByteArray} (h : ∀ i, i < s.size → 48 ≤ at8 s i ∧ at8 s i ≤ 57) (a : Nat) : ∀ d, a + d ≤ s.size → nvF s a ≤ nvF s (a + d)
  | 0, _ => Int.le_refl _
  | d + 1, hk => by
    have h1 := nvF_mono h a d (by omega)
    have h2 := nvF_nonneg h (a + d) (by omega)
    have h3 := h (a + d) (by omega)
    show _ ≤ 10 * nvF s (a + d) + (at8 s (a + d) - 48)
    omega
theorem nvF_hi {s : ByteArray} (h : ∀ i, i < s.size → 48 ≤ at8 s i ∧ at8 s i ≤ 57) : s.size ≤ 6 → nvF s s.size ≤ 999999 := by
  have key : ∀ k, k ≤ s.size → nvF s k + 1 ≤ 10 ^ k := by
    intro k
    induction k with
    | zero => intro _; simp [nvF]
    | succ k ih =>
      intro hk
      have h1 := ih (by omega)
      have h2 := h k (by omega)
      unfold nvF
      rw [Int.pow_succ]
      omega
  intro h6
  have h1 := key s.size (Nat.le_refl _)
  have h3 : ∀ n : Nat, n < 7 → (10 : Int) ^ n ≤ 1000000 := by decide
  have h2 := h3 s.size (by omega)
  omega
theorem nvF_lo {s : ByteArray} (h : NumOK s) (h6 : 6 < s.size) : 999999 < nvF s s.size := by
  obtain ⟨h0, hd, hz⟩ := h
  have key : ∀ k, k + 1 ≤ s.size → (10 : Int) ^ k ≤ nvF s (k + 1) := by
    intro k
    induction k with
    | zero =>
      intro _
      have h1 := hd 0 h0
      have h2 := hz (by omega)
      simp [nvF]; omega
    | succ k ih =>
      intro hk
      have h1 := ih (by omega)
      have h2 := hd (k + 1) (by omega)
      rw [nvF, Int.pow_succ]
      omega
  have h1 : (10 : Int) ^ 6 ≤ nvF s 7 := key 6 (by omega)
  have h2 := nvF_mono hd 7 (s.size - 7) (by omega)
  rw [show 7 + (s.size - 7) = s.size by omega] at h2
  have h3 : (10 : Int) ^ 6 = 1000000 := by decide
  omega

/-! ### The rules of a text -/
def line1 (t : ByteArray) : Rl ⊕ Int :=
  match partsC 32 t with
  | [a, b, c] => if (numR b 999999).2 ≠ 0 then .inr 3 else if (numR c 999999).2 ≠ 0 then .inr 3 else if rl1 ⟨a, (numR b 999999).1, (numR c 999999).1⟩ ≠ 0 then .inr (rl1 ⟨a, (numR b 999999).1, (numR c 999999).1⟩) else .inl ⟨a, (numR b 999999).1, (numR c 999999).1⟩
  | _ => .inr 3
def parseL : Nat → ByteArray → Nat → List Rl → List Rl × Int × Int
  | 0, _, _, _ => ([], 0, 0)
  | f + 1, s, line, acc =>
    if s.size = 0 then (acc, 0, 0) else
    if findC 10 s = s.size then ([], line, 4) else
    if 64 ≤ acc.length then ([], line, 9) else
    match line1 (s.extract 0 (findC 10 s)) with
    | .inr e => ([], line, e)
    | .inl r => parseL f (s.extract (findC 10 s + 1) s.size) (line + 1) (acc ++ [r])
def parseR (s : ByteArray) : List Rl × Int × Int := parseL (s.size + 1) s 1 []

end Go.Proofs.YtmjanmffnblcoaaGreatDoor

/- Rows of elements that can be read. Generic: no program, no condition. -/
namespace Go.Proofs.YtmjanmffnblcoaaGreatDoor
open Go.RowKit

/-- Elements that lie one behind the other. -/
def RowA {α : Type} (f : α → List Value) (L : Nat) (w : World) (p : Option Addr) (l : List α) : Prop := ∀ k y, l[k]? = some y → ∃ b o, p = some ⟨b, o, none⟩ ∧ AtL w b (o + k * L) (f y)
section
variable {α : Type} {f : α → List Value} {L : Nat} {w w' : World} {p : Option Addr} {l : List α}
theorem RowA.k0 (h : RowA f L w p l) (hk : K0 w w') : RowA f L w' p l := fun k y hy => by
  obtain ⟨b, o, h1, h2⟩ := h k y hy
  exact ⟨b, o, h1, h2.k0 hk⟩
theorem RowA.get (h : RowA f L w p l) {k : Nat} (hk : k < l.length) : ∃ y b o, l[k]? = some y ∧ p = some ⟨b, o, none⟩ ∧ AtL w b (o + k * L) (f y) := by
  obtain ⟨y, hy⟩ : ∃ y, l[k]? = some y := ⟨_, List.getElem?_eq_getElem hk⟩
  obtain ⟨b, o, h1, h2⟩ := h k y hy
  exact ⟨y, b, o, hy, h1, h2⟩
theorem RowA.own {base : Nat} {e : TypeId} {n c : Nat} (h : w.ownsRow base e L (.slice p n c) n (l.flatMap f)) (hl : ∀ y, (f y).length = L) (h0 : 0 < L) : RowA f L w p l := fun k y hy => by
  obtain ⟨g, h1, h2⟩ := own_at f h (fun y _ => hl y) h0 hy
  exact ⟨g, 0, h1, h2⟩
theorem RowA.nil : RowA f L w p [] := fun k y hy => by simp at hy
end
theorem AtL.cell {w : World} {b o : Nat} {cs : List Value} (h : AtL w b o cs) {j : Nat} {v : Value} (hj : cs[j]? = some v) : w.cell? ⟨b, o + j, none⟩ = some v := At_get _ _ h.h j v hj
theorem AtL.one {w : World} {b o : Nat} {v : Value} (h : AtL w b o [v]) : w.cell? ⟨b, o, none⟩ = some v := by simpa using h.cell (j := 0) rfl
theorem StrP.get {w : World} {p : Option Addr} {zs : List ByteArray} (h : StrP w p zs) {k : Nat} (hk : k < zs.length) : ∃ z b o, zs[k]? = some z ∧ p = some ⟨b, o, none⟩ ∧ w.cell? ⟨b, o + k, none⟩ = some (.string z) := by
  obtain ⟨y, hy⟩ : ∃ y, zs[k]? = some y := ⟨_, List.getElem?_eq_getElem hk⟩
  obtain ⟨b, o, h1, h2⟩ := h k y hy
  exact ⟨y, b, o, hy, h1, h2⟩
theorem StrP.k0 {w w' : World} {p : Option Addr} {zs : List ByteArray} (h : StrP w p zs) (hk : K0 w w') : StrP w' p zs := h.kp hk (fun _ _ _ h => h)
theorem inc64 {i : Nat} (h : i < 9223372036854775807) : IntKind.i64.wrap ((i : Int) + 1) = ((i + 1 : Nat) : Int) := by rw [wr64 (by omega) (by omega)]; omega
theorem take_snoc {α : Type} {l : List α} {i : Nat} {x : α} (h : l[i]? = some x) : l.take (i + 1) = l.take i ++ [x] := by rw [List.take_add_one, h]; rfl
/-- A block of the function's own is written. -/
theorem put_k0 {w w1 w2 : World} {b o : Nat} {cs : List Value} (h : K0 w w1) (hp : PutB w1 b o cs w2) (hb : w.heap.size ≤ b) : K0 w w2 := Kp.fresh h hp.kp (fun i hi e => by omega)
theorem put_kept {w1 w2 : World} {b o : Nat} {cs : List Value} {l : List Nat} (hp : PutB w1 b o cs w2) (hb : ∀ n ∈ l, n ≠ b) : KeptL l w1 w2 := .of_kp hp.kp (fun n hn e => hb n hn e)
theorem PutB.blk {w1 w2 : World} {b o : Nat} {cs : List Value} (hp : PutB w1 b o cs w2) {n : Nat} {x : Obj} (h : w1.heap[n]? = some x) (hb : n ≠ b) : w2.heap[n]? = some x := hp.kp.blk h (fun e => hb e)
end Go.Proofs.YtmjanmffnblcoaaGreatDoor

/- Maps in the program's memory: their entries as a list, looked up, written, struck. Generic: no program, no condition. -/
namespace Go.Proofs.YtmjanmffnblcoaaGreatDoor
open Go.RowKit Go.Maps

section
variable {α : Type} [DecidableEq α]
def aget {β : Type} : List (α × β) → α → Option β
  | [], _ => none
  | (b, v) :: r, a => if b = a then some v else aget r a
def aset {β : Type} : List (α × β) → α → β → List (α × β)
  | [], a, v => [(a, v)]
  | (b, u) :: r, a, v => if b = a then (a, v) :: r else (b, u) :: aset r a v
def adel {β : Type} (l : List (α × β)) (a : α) : List (α × β) := l.filter fun p => !decide (p.1 = a)
variable {β : Type}
theorem aget_aset (l : List (α × β)) (a c : α) (v : β) : aget (aset l a v) c = if a = c then some v else aget l c := by
  induction l with
  | nil => simp [aset, aget]
  | cons p r ih =>
    obtain ⟨b, u⟩ := p
    unfold aset
    by_cases h : b = a
    · subst h
      simp only [if_pos]
      unfold aget
      split <;> rfl
    · rw [if_neg h]
      simp only [aget]
      rw [ih]
      by_cases h1 : b = c
      · subst h1
        rw [if_pos rfl, if_neg (fun e => h e.symm), if_pos rfl]
      · rw [if_neg h1, if_neg h1]
theorem aget_none {l : List (α × β)} {a : α} : aget l a = none ↔ ∀ p ∈ l, p.1 ≠ a := by
  induction l with
  | nil => simp [aget]
  | cons p r ih =>
    obtain ⟨b, u⟩ := p
    unfold aget
    by_cases h : b = a
    · simp [h]
    · rw [if_neg h, ih]
      simp [h]
theorem aget_mem {l : List (α × β)} {a : α} {v : β} (h : aget l a = some v) : (a, v) ∈ l := by
  induction l with
  | nil => simp [aget] at h
  | cons p r ih =>
    obtain ⟨b, u⟩ := p
    unfold aget at h
    by_cases h' : b = a
    · rw [if_pos h'] at h
      simp at h; subst h; subst h'; simp
    · rw [if_neg h'] at h
      exact List.mem_cons_of_mem _ (ih h)
theorem aget_at {l : List (α × β)} (hd : l.Pairwise fun p q => p.1 ≠ q.1) {a : α} {v : β} (h : (a, v) ∈ l) : aget l a = some v := by
  induction l with
  | nil => cases h
  | cons p r ih =>
    obtain ⟨b, u⟩ := p
    obtain ⟨h1, h2⟩ := List.pairwise_cons.1 hd
    unfold aget
    rcases List.mem_cons.1 h with e | e
    · cases e; rw [if_pos rfl]
    · rw [if_neg (h1 _ e)]; exact ih h2 e
theorem aset_new {l : List (α × β)} {a : α} {v : β} (h : ∀ p ∈ l, p.1 ≠ a) : aset l a v = l ++ [(a, v)] := by
  induction l with
  | nil => rfl
  | cons p r ih =>
    obtain ⟨b, u⟩ := p
    unfold aset
    rw [if_neg (h (b, u) (by simp)), ih fun q hq => h q (by simp [hq])]
    rfl
theorem aset_old {l : List (α × β)} (hd : l.Pairwise fun p q => p.1 ≠ q.1) {a : α} {v u : β} {j : Nat} (hj : l[j]? = some (a, u)) : aset l a v = l.set j (a, v) := by
  induction l generalizing j with
  | nil => simp at hj
  | cons p r ih =>
    obtain ⟨b, x⟩ := p
    obtain ⟨h1, h2⟩ := List.pairwise_cons.1 hd
    unfold aset
    cases j with
    | zero =>
      simp at hj
      rw [if_pos hj.1]; rfl
    | succ j =>
      have hj' : r[j]? = some (a, u) := by simpa using hj
      rw [if_neg (h1 _ (List.mem_of_getElem? hj')), ih h2 hj']
      rfl
theorem aset_keys {l : List (α × β)} (a : α) (v : β) : ∀ p ∈ aset l a v, p = (a, v) ∨ (p ∈ l ∧ p.1 ≠ a) ∨ (p ∈ l) := by
  induction l with
  | nil => intro p hp; simp [aset] at hp; exact .inl hp
  | cons q r ih =>
    obtain ⟨b, u⟩ := q
    intro p hp
    unfold aset at hp
    split at hp
    · rcases List.mem_cons.1 hp with h | h
      · exact .inl h
      · exact .inr (.inr (by simp [h]))
    · rcases List.mem_cons.1 hp with h | h
      · exact .inr (.inr (by simp [h]))
      · rcases ih p h with h | h | h
        · exact .inl h
        · exact .inr (.inr (by simp [h.1]))
        · exact .inr (.inr (by simp [h]))
theorem aset_dis {l : List (α × β)} (hd : l.Pairwise fun p q => p.1 ≠ q.1) (a : α) (v : β) : (aset l a v).Pairwise fun p q => p.1 ≠ q.1 := by
  induction l with
  | nil => simp [aset]
  | cons q r ih =>
    obtain ⟨b, u⟩ := q
    obtain ⟨h1, h2⟩ := List.pairwise_cons.1 hd
    unfold aset
    split
    · rename_i h
      subst h
      exact List.pairwise_cons.2 ⟨h1, h2⟩
    · rename_i h
      refine List.pairwise_cons.2 ⟨fun p hp => ?_, ih h2⟩
      rcases aset_keys a v p hp with e | e | e
      · rw [e]; exact h
      · exact h1 _ e.1
      · exact h1 _ e
theorem aset_length (l : List (α × β)) (a : α) (v : β) : (aset l a v).length ≤ l.length + 1 := by
  induction l with
  | nil => simp [aset]
  | cons q r ih => obtain ⟨b, u⟩ := q; unfold aset; split <;> simp; exact ih
end

/-- The entries with their values as they lie. -/
def amap {α β γ : Type} (f : β → γ) (l : List (α × β)) : List (α × γ) := l.map fun p => (p.1, f p.2)
theorem aset_amap {α β γ : Type} [DecidableEq α] (f : β → γ) (l : List (α × β)) (a : α) (v : β) : aset (amap f l) a (f v) = amap f (aset l a v) := by
  induction l with
  | nil => rfl
  | cons p r ih =>
    obtain ⟨b, u⟩ := p
    show aset ((b, f u) :: amap f r) a (f v) = _
    unfold aset
    split
    · rfl
    · rw [ih]; rfl
theorem aget_amap {α β γ : Type} [DecidableEq α] (f : β → γ) (l : List (α × β)) (a : α) : aget (amap f l) a = (aget l a).map f := by
  induction l with
  | nil => rfl
  | cons p r ih =>
    obtain ⟨b, u⟩ := p
    show aget ((b, f u) :: amap f r) a = _
    unfold aget
    split
    · rfl
    · rw [ih]

/-- Block b is a map with these entries, in the order of their making; a key lies as enc says. -/
structure MapB {α : Type} (P : Program) (k : TypeId) (enc : α → Value) (w : World) (b : Nat) (l : List (α × Value)) : Prop where
  blk : ∃ es clock, w.heap[b]? = some (.map es clock) ∧ es.toList.map (fun e => (e.key, e.val)) = l.map (fun p => (enc p.1, p.2))
  key : ∀ p ∈ l, ∃ kl, keyOf P k (enc p.1) = some kl
  dis : l.Pairwise fun p q => p.1 ≠ q.1

section
variable {α : Type} {P : Program} {k t e : TypeId} {enc : α → Value} {w w1 : World} {b : Nat} {l : List (α × Value)}
theorem MapB.lt (h : MapB P k enc w b l) : b < w.heap.size := by obtain ⟨es, c, hb, _⟩ := h.blk; exact block_lt hb
theorem MapB.kp {M : Nat → Prop} {w' : World} (h : MapB P k enc w b l) (hk : Kp M w w') (hm : ¬ M b) : MapB P k enc w' b l := by
  obtain ⟨es, c, hb, he⟩ := h.blk
  exact ⟨⟨es, c, hk.blk hb hm, he⟩, h.key, h.dis⟩
theorem MapB.drew (h : MapB P k enc w b l) : MapB P k enc w.drew b l := ⟨h.blk, h.key, h.dis⟩
theorem NewB.map {c : Nat} (h : NewB w (.map #[] c) b w1) : MapB P k enc w1 b ([] : List (α × Value)) :=
  ⟨⟨#[], c, h.block, rfl⟩, (fun p hp => by cases hp), .nil⟩

variable [DecidableEq α] (hinj : ∀ x y, enc x = enc y → x = y)
include hinj
theorem map_find (K : Keyed P k) {es : List MapEntry} (he : es.map (fun e => (e.key, e.val)) = l.map (fun p => (enc p.1, p.2))) (hkey : ∀ p ∈ l, ∃ kl, keyOf P k (enc p.1) = some kl) (hdis : l.Pairwise fun p q => p.1 ≠ q.1)
    {a : α} {kl : Lit} (ha : keyOf P k (enc a) = some kl) :
    (aget l a = none ∧ (Instr.findKey k (enc a) es).run P w = .ok none w) ∨
    (∃ j v u, aget l a = some v ∧ (Instr.findKey k (enc a) es).run P w = .ok (some (j, v)) w ∧ l[j]? = some (a, v) ∧ es[j]? = some u ∧ u.key = enc a) := by
  have hm : ∀ x ∈ es, ∃ p ∈ l, x.key = enc p.1 ∧ x.val = p.2 := fun x hx => by
    have : (x.key, x.val) ∈ es.map (fun e => (e.key, e.val)) := List.mem_map.2 ⟨x, hx, rfl⟩
    rw [he] at this
    obtain ⟨p, hp, e⟩ := List.mem_map.1 this
    simp at e
    exact ⟨p, hp, e.1.symm, e.2.symm⟩
  rcases K.find w ha es (fun x hx => by
    obtain ⟨p, hp, h1, _⟩ := hm x hx
    rw [h1]; exact hkey p hp) with ⟨h1, h2⟩ | ⟨j, u, h1, h2, h3⟩
  · refine .inl ⟨aget_none.2 fun p hp hpa => ?_, h1⟩
    have : (enc p.1, p.2) ∈ l.map (fun p => (enc p.1, p.2)) := List.mem_map.2 ⟨p, hp, rfl⟩
    rw [← he] at this
    obtain ⟨x, hx, e⟩ := List.mem_map.1 this
    simp at e
    exact h2 x hx (by rw [e.1, hpa])
  · have h4 : (es.map (fun e => (e.key, e.val)))[j]? = some (u.key, u.val) := by simp [h2]
    rw [he] at h4
    simp only [List.getElem?_map, Option.map_eq_some_iff] at h4
    obtain ⟨p, hp, e⟩ := h4
    simp at e
    obtain ⟨pa, pv⟩ := p
    have ea : pa = a := hinj _ _ (e.1.trans h3)
    subst ea
    have ev : pv = u.val := e.2
    subst ev
    exact .inr ⟨j, _, u, aget_at hdis (List.mem_of_getElem? hp), h1, hp, h2, h3⟩
/-- A look into a map. -/
theorem MapB.look (h : MapB P k enc w b l) (K : Keyed P k) (ht : P.underlying t = some (.map k e)) {z : Value} (hz : (zeroValue e).run P w = .ok z w) {a : α} {kl : Lit} (ha : keyOf P k (enc a) = some kl) (ok : Bool) :
    LookP P t (.map (some b)) (enc a) ok (match ok with | true => .tuple #[(aget l a).getD z, .bool (aget l a).isSome] | false => (aget l a).getD z) w := by
  obtain ⟨es, c, hb, he⟩ := h.blk
  constructor
  rcases map_find hinj K he h.key h.dis ha (w := w) with ⟨h1, h2⟩ | ⟨j, v, u, h1, h2, _⟩
  · rw [h1]
    cases ok <;> simp [Instr.lookup, run_underlying ht, MapKept.run_getObj_map hb, K.check w _ ha, h2, hz, Result.andThen]
  · rw [h1]
    cases ok <;> simp [Instr.lookup, run_underlying ht, MapKept.run_getObj_map hb, K.check w _ ha, h2, Result.andThen]
/-- An entry of a map is written. -/
theorem MapB.upd (h : MapB P k enc w b l) (K : Keyed P k) (ht : P.underlying t = some (.map k e)) {a : α} {kl : Lit} (ha : keyOf P k (enc a) = some kl) (v : Value) :
    ∃ w1, UpdP P t (.map (some b)) (enc a) v w w1 ∧ MapB P k enc w1 b (aset l a v) ∧ Kp (· = b) w w1 := by
  obtain ⟨es, c, hb, he⟩ := h.blk
  have hkp : ∀ o, Kp (· = b) w (ChangeMaps.setBlock w b o) := fun o => ⟨rfl, rfl, rfl, by simp [ChangeMaps.setBlock], fun i _ hi => ChangeMaps.heap_setBlock_other hb _ (fun e => hi (by rw [e]))⟩
  have hkeys : ∀ p ∈ aset l a v, ∃ kl, keyOf P k (enc p.1) = some kl := fun p hp => by
    rcases aset_keys a v p hp with e | e | e
    · rw [e]; exact ⟨_, ha⟩
    · exact h.key p e.1
    · exact h.key p e
  rcases map_find hinj K he h.key h.dis ha (w := w) with ⟨h1, h2⟩ | ⟨j, x, u, h1, h2, h3, h4, h5⟩
  · refine ⟨ChangeMaps.setBlock w b (.map (es.push ⟨enc a, v, c⟩) (c + 1)), ⟨?_⟩, ⟨⟨_, _, ChangeMaps.heap_setBlock_same hb _, ?_⟩, hkeys, aset_dis h.dis a v⟩, hkp _⟩
    · simp [Instr.mapUpdate, run_underlying ht, MapKept.run_getObj_map hb, K.check w _ ha, h2, MapKept.run_setObj_map _ hb, Result.andThen, ChangeMaps.setBlock]
    · rw [aset_new (aget_none.1 h1)]
      simp [he]
  · refine ⟨ChangeMaps.setBlock w b (.map (es.modify j fun e' => { e' with key := enc a, val := v }) c), ⟨?_⟩, ⟨⟨_, _, ChangeMaps.heap_setBlock_same hb _, ?_⟩, hkeys, aset_dis h.dis a v⟩, hkp _⟩
    · have hj : es[j]? = some u := by simpa using h4
      simp [Instr.mapUpdate, run_underlying ht, MapKept.run_getObj_map hb, K.check w _ ha, h2, hj, h5, K.stays w ha, MapKept.run_setObj_map _ hb, Result.andThen, ChangeMaps.setBlock]
    · rw [aset_old h.dis h3, List.map_set, ← he, Array.toList_modify, ChangeMaps.modify_eq_set _ _ _ _ h4, List.map_set]
end

end Go.Proofs.YtmjanmffnblcoaaGreatDoor

/- Arrays of bytes as keys of maps, and their comparison. Generic: no program. -/
namespace Go.Proofs.YtmjanmffnblcoaaGreatDoor
open Go.RowKit Go.Maps

theorem mapM_some {α β : Type} {f : α → Option β} {g : α → β} : ∀ (l : List α), (∀ x ∈ l, f x = some (g x)) → l.mapM f = some (l.map g)
  | [], _ => by simp
  | x :: l, h => by
    rw [List.mapM_cons, h x (by simp), mapM_some l fun y hy => h y (by simp [hy])]
    rfl
section
variable {P : Program} {t e : TypeId} {n : Nat}
/-- An array of bytes. -/
def byA (l : List Int) : Value := .agg (l.map (Value.int .u8)).toArray
theorem byA_inj (x y : List Int) (h : byA x = byA y) : x = y := by
  unfold byA at h
  simp only [Value.agg.injEq] at h
  have h : x.map (Value.int .u8) = y.map (Value.int .u8) := congrArg Array.toList h
  exact (List.map_inj_right (fun a b h => by cases h; rfl)).1 h
theorem keyLits_bytes (ht : P.underlying t = some (.array n e)) (he : P.underlying e = some (.int .u8)) (hc : P.cellsOf e = 1) (hct : P.cellsOf t = n) {l : List Int} (hl : l.length = n) (hb : ∀ x ∈ l, 0 ≤ x ∧ x ≤ 255) (D : Nat) :
    P.keyLits (D + 2) t (l.map (Value.int .u8)) = some (l.map (Lit.int .u8)) := by
  unfold Program.keyLits
  rw [ht]
  simp only
  rw [if_pos (by rw [List.length_map, hl, hct]), mapM_some (g := fun i => [Lit.int .u8 (l.getD i 0)]) _ (fun i hi => ?_)]
  · simp only [Option.map_some, Option.some.injEq]
    have h1 : ∀ r : List Nat, (r.map fun i => [Lit.int .u8 (l.getD i 0)]).flatten = r.map fun i => Lit.int .u8 (l.getD i 0) := fun r => by
      induction r with
      | nil => rfl
      | cons a r ih => rw [List.map_cons, List.map_cons, List.flatten_cons, ih]; rfl
    rw [h1]
    apply List.ext_getElem?
    intro j
    rw [List.getElem?_map, List.getElem?_map]
    rcases Nat.lt_or_ge j n with h | h
    · rw [List.getElem?_range h, List.getElem?_eq_getElem (by omega)]
      simp [List.getD_eq_getElem?_getD, hl, h]
    · rw [List.getElem?_eq_none (by simpa using h), List.getElem?_eq_none (by omega)]
      rfl
  · have hi : i < n := List.mem_range.1 hi
    have : ((l.map (Value.int .u8)).drop (i * P.cellsOf e)).take (P.cellsOf e) = [.int .u8 (l.getD i 0)] := by
      rw [hc, Nat.mul_one, List.drop_eq_getElem_cons (by rw [List.length_map]; omega)]
      simp [List.getD_eq_getElem?_getD, hl, hi]
    rw [this]
    unfold Program.keyLits
    rw [he]
    simp only
    have hx := hb (l.getD i 0) (by
      rw [List.getD_eq_getElem?_getD, List.getElem?_eq_getElem (by omega)]
      simp)
    generalize l.getD i 0 = v at hx
    have hw : (Lit.int .u8 v).wf = true := by simp [Lit.wf, IntKind.min, IntKind.max, IntKind.bits, IntKind.signed]; omega
    simp [hw]
theorem keyOf_bytes (ht : P.underlying t = some (.array n e)) (he : P.underlying e = some (.int .u8)) (hc : P.cellsOf e = 1) (hct : P.cellsOf t = n) (hkt : P.keyType t = true) (hD : 1 ≤ P.types.size) {l : List Int} (hl : l.length = n) (hb : ∀ x ∈ l, 0 ≤ x ∧ x ≤ 255) :
    keyOf P t (byA l) = some (.string (keyBytes (l.map (Lit.int .u8)))) := by
  unfold keyOf
  rw [ht]
  simp only
  have hf : (byA l).formed P t = true := by
    unfold byA Value.formed
    rw [ht]
    simp [hl, hct]
  rw [hkt, hf]
  have hk := keyLits_bytes ht he hc hct hl hb (P.types.size - 1)
  rw [show P.types.size - 1 + 2 = P.types.size + 1 by omega] at hk
  have : (byA l).cells.toList = l.map (Value.int .u8) := by simp [byA, Value.cells]
  rw [this, hk]
  rfl
theorem eq_bytes (ht : P.underlying t = some (.array n e)) (he : P.underlying e = some (.int .u8)) (hc : P.cellsOf e = 1) (hct : P.cellsOf t = n) (hkt : P.keyType t = true) (hD : 1 ≤ P.types.size) (hkm : P.keyTypeAt 3 t = true) (hg : P.eqGuardType P.depth t = false) {l l' : List Int} (hl : l.length = n) (hb : ∀ x ∈ l, 0 ≤ x ∧ x ≤ 255) (hl' : l'.length = n) (hb' : ∀ x ∈ l', 0 ≤ x ∧ x ≤ 255) :
    EqP P t (byA l) (byA l') (decide (l = l')) := by
  refine ⟨fun w => ?_, hg, _, _, rfl, rfl⟩
  obtain ⟨r, hr, hi⟩ := run_equal_deep w (m := 3) (by omega) hkm (by rw [ht]) (keyOf_bytes ht he hc hct hkt hD hl hb) (keyOf_bytes ht he hc hct hkt hD hl' hb')
  rw [hr]
  congr 1
  rw [Bool.eq_iff_iff, hi, decide_eq_true_eq]
  constructor
  · intro h
    have h : keyBytes (l.map (Lit.int .u8)) = keyBytes (l'.map (Lit.int .u8)) := by simpa using h
    have := keyLits_inj (keyLits_bytes ht he hc hct hl hb 0) (keyLits_bytes ht he hc hct hl' hb' 0) h
    exact (List.map_inj_right (fun a b h => by cases h; rfl)).1 this
  · rintro rfl; rfl
end
end Go.Proofs.YtmjanmffnblcoaaGreatDoor

/- Identities: arrays of 32 bytes as lists, as keys, compared. No condition. -/
namespace Go.Proofs.YtmjanmffnblcoaaGreatDoor
open Go.RowKit Go.Sort Go.Maps

/-- The numbers of an array of 32 bytes. -/
def idI (f : Nat → Int) : List Int := (List.range 32).map f
/-- Its bytes. -/
def idB (f : Nat → Int) : List UInt8 := (idI f).map fun x => x.toNat.toUInt8
theorem arrI_idI (f : Nat → Int) : arrI .u8 f 32 0 = (idI f).map (Value.int .u8) := rfl
theorem idI_get (f : Nat → Int) {j : Nat} (h : j < 32) : (idI f)[j]? = some (f j) := by simp [idI, h]
theorem arrI_get (k : IntKind) (f : Nat → Int) : ∀ (n i j : Nat), j < n → (arrI k f n i)[j]? = some (.int k (f (i + j)))
  | 0, _, j, h => by omega
  | n + 1, i, 0, _ => by simp [arrI]
  | n + 1, i, j + 1, h => by
    simp only [arrI, List.getElem?_cons_succ]
    rw [arrI_get k f n (i + 1) j (by omega)]
    congr 3; omega
/-- Only draws and new blocks. -/
theorem grow_of {w w' : World} (h : K0 w w') (hd : w.drawn ≤ w'.drawn) : ∃ q os', w' = grow (w.drewN q) os' := by
  refine ⟨w'.drawn - w.drawn, w'.heap.extract w.heap.size w'.heap.size, ?_⟩
  have hh : w'.heap = w.heap ++ w'.heap.extract w.heap.size w'.heap.size := by
    apply Array.ext_getElem?
    intro i
    rw [Array.getElem?_append]
    split
    · rename_i hi; exact h.block i hi (fun h => h)
    · rename_i hi
      rw [Array.getElem?_extract]
      have := h.size
      by_cases hl : i < w'.heap.size
      · rw [if_pos (by omega)]; congr 1; omega
      · rw [if_neg (by omega)]; exact Array.getElem?_eq_none (by omega)
  have h1 := h.os
  have h2 := h.tape
  have h3 := h.output
  obtain ⟨hp, tp, dr, os, out⟩ := w
  obtain ⟨hp', tp', dr', os', out'⟩ := w'
  simp only at hh h1 h2 h3 hd
  subst h1 h2 h3
  simp only [grow, World.drewN]
  congr 1
  omega
theorem aget_trues {α : Type} [DecidableEq α] (acc : List α) (a : α) : aget (acc.map fun x => (x, Value.bool true)) a = if a ∈ acc then some (.bool true) else none := by
  induction acc with
  | nil => rfl
  | cons y r ih =>
    rw [List.map_cons]
    unfold aget
    by_cases h : y = a
    · subst h; simp
    · rw [if_neg h, ih]
      simp only [List.mem_cons]
      have : ¬ a = y := fun e => h e.symm
      simp [this]
theorem zeroBool (w : World) : (zeroValue 4).run Tryz.prog w = .ok (.bool false) w := by kernel_rfl
theorem idKeyed : Keyed Tryz.prog 42 := Keyed.of_law (deep_law (m := 3) (by omega) (by kernel_rfl) (by kernel_rfl) (by kernel_rfl))
theorem idKey {l : List Int} (hl : l.length = 32) (hb : ∀ x ∈ l, 0 ≤ x ∧ x ≤ 255) : keyOf Tryz.prog 42 (byA l) = some (.string (keyBytes (l.map (Lit.int .u8)))) :=
  keyOf_bytes Tryz.underlying42 Tryz.underlying5 (by kernel_rfl) (by kernel_rfl) (by kernel_rfl) (by decide +kernel) hl hb
theorem idEq {l l' : List Int} (hl : l.length = 32) (hb : ∀ x ∈ l, 0 ≤ x ∧ x ≤ 255) (hl' : l'.length = 32) (hb' : ∀ x ∈ l', 0 ≤ x ∧ x ≤ 255) : EqP Tryz.prog 42 (byA l) (byA l') (decide (l = l')) :=
  eq_bytes Tryz.underlying42 Tryz.underlying5 (by kernel_rfl) (by kernel_rfl) (by kernel_rfl) (by decide +kernel) (by kernel_rfl) (by kernel_rfl) hl hb hl' hb'
theorem idI_len (f : Nat → Int) : (idI f).length = 32 := by simp [idI]
theorem idI_bd {f : Nat → Int} (h : ∀ j, 0 ≤ f j ∧ f j ≤ 255) : ∀ x ∈ idI f, 0 ≤ x ∧ x ≤ 255 := fun x hx => by
  obtain ⟨j, _, rfl⟩ := List.mem_map.1 hx
  exact h j

end Go.Proofs.YtmjanmffnblcoaaGreatDoor

/- The formulas of functions by the symbolic evaluator, and that each gives the call's contract. Written by a program (gen.py). No condition. -/
namespace Go.Proofs.YtmjanmffnblcoaaGreatDoor
set_option maxRecDepth 100000
set_option linter.unusedVariables false

def VC_ecompile (p : Option Addr) (n : Nat) (c : Nat) (w : World) (R : Ending → World → Prop) : Prop :=
 ∀ (n_1 : Nat),
 bsp (decide ((↑n : Int) > 64))
 (∀ (W : World),
 Loc w.heap.size [Blk.mk n_1 74 [Value.slice none 0 0, Value.slice none 0 0] (wrM 2)] w W →
 R
 (Ending.returned (Value.tuple #[Value.agg #[Value.slice none 0 0, Value.slice none 0 0], Value.int IntKind.i64 9]))
 W)
 (∀ (n_2 : Nat) (W : World),
 Loc w.heap.size
 [Blk.mk n_2 74 [Value.slice p n c, Value.slice none 0 0] (wrM 2),
 Blk.mk n_1 74 [Value.slice none 0 0, Value.slice none 0 0] 2]
 w W →
 ∃ (I : List Value → World → Prop),
 ∃ (m : List Value → World → Nat),
 I [Value.int IntKind.i64 0] W ∧
 ∀ (x : Int) (w' : World),
 I [Value.int IntKind.i64 x] w' →
 bsp (decide (x < (↑n : Int)))
 (nn true p fun (b o : Nat) =>
 (0 ≤ x ∧ x < (↑n : Int)) ∧
 ∃ (x_1 : ByteArray),
 ∃ (x_2 : Int),
 ∃ (x_3 : Int),
 AtL w' b (o + x.toNat * 3) [Value.string x_1, Value.int IntKind.i64 x_2, Value.int IntKind.i64 x_3] ∧
 ∀ (n : Nat) (W : World),
 Loc w.heap.size
 [Blk.mk n 40 [Value.string x_1, Value.int IntKind.i64 x_2, Value.int IntKind.i64 x_3] (wrM 2)] w' W →
 CallsS Tryz.prog 37 #[Value.string x_1] W fun (e : Ending) (w'_1 : World) =>
 ∃ (x_4 : Option Addr),
 ∃ (x_5 : Int),
 ∃ (x_6 : Int),
 e =
 Ending.returned
 (Value.tuple #[Value.pointer x_4, Value.int IntKind.i64 x_5, Value.int IntKind.i64 x_6]) ∧
 KeptL [n] W w'_1 ∧
 bsp (x_6 != 0)
 (WrL w'_1 n_1 0 2 ∧
 ∀ (w1 : World),
 PutB w'_1 n_1 0 [Value.slice none 0 0, Value.slice none 0 0] w1 →
 KeptL [n] w'_1 w1 ∧
 ∃ (p : Option Addr),
 ∃ (n : Nat),
 ∃ (c : Nat),
 ∃ (p_1 : Option Addr),
 ∃ (n_3 : Nat),
 ∃ (c_1 : Nat),
 AtL w1 n_1 0 [Value.slice p n c, Value.slice p_1 n_3 c_1] ∧
 R
 (Ending.returned
 (Value.tuple
 #[Value.agg #[Value.slice p n c, Value.slice p_1 n_3 c_1],
 Value.int IntKind.i64 3]))
 w1)
 (∃ (x_7 : Int),
 gimp (!decide (x_2 < 0))
 (w'_1.cell? (Addr.mk n (0 + 1) none) = some (Value.int IntKind.i64 x_7)) ∧
 ∃ (x_8 : Int),
 gimp (!decide (x_2 < 0))
 (w'_1.cell? (Addr.mk n (0 + 2) none) = some (Value.int IntKind.i64 x_8)) ∧
 ∃ (x_9 : Int),
 gimp (!(decide (x_2 < 0) || decide (x_7 > x_8)))
 (w'_1.cell? (Addr.mk n (0 + 2) none) = some (Value.int IntKind.i64 x_9)) ∧
 bsp (decide (x_2 < 0) || decide (x_7 > x_8) || decide (x_9 > 36500))
 (WrL w'_1 n_1 0 2 ∧
 ∀ (w1 : World),
 PutB w'_1 n_1 0 [Value.slice none 0 0, Value.slice none 0 0] w1 →
 KeptL [n] w'_1 w1 ∧
 ∃ (p : Option Addr),
 ∃ (n : Nat),
 ∃ (c : Nat),
 ∃ (p_1 : Option Addr),
 ∃ (n_3 : Nat),
 ∃ (c_1 : Nat),
 AtL w1 n_1 0 [Value.slice p n c, Value.slice p_1 n_3 c_1] ∧
 R
 (Ending.returned
 (Value.tuple
 #[Value.agg #[Value.slice p n c, Value.slice p_1 n_3 c_1],
 Value.int IntKind.i64 2]))
 w1)
 (∃ (p : Option Addr),
 ∃ (n_3 : Nat),
 ∃ (c : Nat),
 w'_1.cell? (Addr.mk n_2 (0 + 1) none) = some (Value.slice p n_3 c) ∧
 ∀ (n_4 : Nat) (W : World),
 Loc w.heap.size
 [Blk.mk n_4 94 [Value.pointer x_4] 2,
 Blk.mk n 40
 [Value.string x_1, Value.int IntKind.i64 x_2, Value.int IntKind.i64 x_3] 0]
 w'_1 W →
 ∃ (base : Nat),
 ∃ (xs : List Value),
 W.ownsRow base 94 1 (Value.slice p n_3 c) n_3 xs ∧
 n_3 + 1 ≤ 9223372036854775807 ∧
 (n_3 + 1) * 8 ≤ 140737488355328 ∧
 base ≤ W.heap.size ∧
 ∀ (p' : Option Addr) (c' : Nat) (w'_2 : World),
 w'_2.ownsRow base 94 1 (Value.slice p' (n_3 + 1) c') (n_3 + 1)
 (xs ++ [Value.pointer x_4]) →
 W.grownBy w'_2 (Value.slice p n_3 c).ownBlock →
 (n_3 + 1 ≤ c → p' = p ∧ c' = c) →
 KeptL [n] W w'_2 ∧
 ((∃ (u : Value), w'_2.cell? (Addr.mk n_2 (0 + 1) none) = some u) ∧
 w'_2.frozen? (Addr.mk n_2 (0 + 1) none) = false) ∧
 ∀ (w1 : World),
 PutB w'_2 n_2 (0 + 1) [Value.slice p' (n_3 + 1) c'] w1 →
 KeptL [n] w'_2 w1 ∧
 I [Value.int IntKind.i64 (IntKind.i64.wrap (x + 1))] w1 ∧
 m [Value.int IntKind.i64 (IntKind.i64.wrap (x + 1))] w1 <
 m [Value.int IntKind.i64 x] w')))
 (∃ (p : Option Addr),
 ∃ (n : Nat),
 ∃ (c : Nat),
 ∃ (p_1 : Option Addr),
 ∃ (n_3 : Nat),
 ∃ (c_1 : Nat),
 AtL w' n_2 0 [Value.slice p n c, Value.slice p_1 n_3 c_1] ∧
 WrL w' n_1 0 2 ∧
 ∀ (w1 : World),
 PutB w' n_1 0 [Value.slice p n c, Value.slice p_1 n_3 c_1] w1 →
 KeptL [] w' w1 ∧
 ∃ (p : Option Addr),
 ∃ (n : Nat),
 ∃ (c : Nat),
 ∃ (p_2 : Option Addr),
 ∃ (n_4 : Nat),
 ∃ (c_2 : Nat),
 AtL w1 n_1 0 [Value.slice p n c, Value.slice p_2 n_4 c_2] ∧
 R
 (Ending.returned
 (Value.tuple
 #[Value.agg #[Value.slice p n c, Value.slice p_2 n_4 c_2], Value.int IntKind.i64 0]))
 w1))
theorem vc_ecompile (p : Option Addr) (n : Nat) (c : Nat) (w : World) (R : Ending → World → Prop) (h : VC_ecompile p n c w R) : Calls Tryz.prog 25 ([Value.slice
    p n c] : List Value).toArray w R := by
  have e : execR2 { P := Tryz.prog, loops := [(5, [(18, Ck.int IntKind.i64)])], pur := pur0, tails := [], joins := [], boxes := [] } Tryz.f25.results.toList R (Tryz.f25.body.getD .skip) (initF [Value.slice
    p n c] (Tryz.f25.ntmps - ([Value.slice p n c] : List Value).length)) w = VC_ecompile p n c w R := by kernel_rfl
  have hb : Tryz.f25.body = some (Tryz.f25.body.getD .skip) := by kernel_rfl
  exact calls_of_exec2' (P := Tryz.prog) (fn := Tryz.f25) (c := Tryz.f25.body.getD .skip) (args := [Value.slice p n
    c]) (w := w) (R := R) pur0_ok Tryz.func25 hb e h

def VC_eof (p : Option Addr) (n : Nat) (c : Nat) (q : Option Addr) (k : Nat) (d : Nat) (g : ByteArray) (w : World) (R : Ending → World → Prop) : Prop :=
 ∀ (n_1 n_2 : Nat) (W : World),
 Loc w.heap.size
 [Blk.mk n_2 40 [Value.string (ByteArray.mk #[]), Value.int IntKind.i64 0, Value.int IntKind.i64 0] 2,
 Blk.mk n_1 74 [Value.slice p n c, Value.slice q k d] 2]
 w W →
 ∃ (I : List Value → World → Prop),
 ∃ (m : List Value → World → Nat),
 I [Value.int IntKind.i64 (IntKind.i64.wrap ((↑n : Int) - 1))] W ∧
 ∀ (x : Int) (w' : World),
 I [Value.int IntKind.i64 x] w' →
 Loc w.heap.size [Blk.mk n_1 74 [Value.slice p n c, Value.slice q k d] 0] w' w' →
 bsp (decide (x ≥ 0))
 (nn true q fun (b o : Nat) =>
 (0 ≤ x ∧ x < (↑k : Int)) ∧
 ∃ (x_1 : Option Addr),
 w'.cell? (Addr.mk b (o + x.toNat) none) = some (Value.pointer x_1) ∧
 CallsS Tryz.prog 70 #[Value.pointer x_1, Value.string g] w' fun (e : Ending) (w'_1 : World) =>
 ∃ (x_2 : Bool),
 e = Ending.returned (Value.bool x_2) ∧
 KeptL [n_1] w' w'_1 ∧
 bsp x_2
 (nn true p fun (b o : Nat) =>
 (0 ≤ x ∧ x < (↑n : Int)) ∧
 ∃ (x_3 : ByteArray),
 ∃ (x_4 : Int),
 ∃ (x_5 : Int),
 AtL w'_1 b (o + x.toNat * 3)
 [Value.string x_3, Value.int IntKind.i64 x_4, Value.int IntKind.i64 x_5] ∧
 WrL w'_1 n_2 0 3 ∧
 ∀ (w1 : World),
 PutB w'_1 n_2 0 [Value.string x_3, Value.int IntKind.i64 x_4, Value.int IntKind.i64 x_5] w1 →
 KeptL [n_1] w'_1 w1 ∧
 ∃ (x : ByteArray),
 ∃ (x_6 : Int),
 ∃ (x_7 : Int),
 AtL w1 n_2 0 [Value.string x, Value.int IntKind.i64 x_6, Value.int IntKind.i64 x_7] ∧
 R
 (Ending.returned
 (Value.agg #[Value.string x, Value.int IntKind.i64 x_6, Value.int IntKind.i64 x_7]))
 w1)
 (I [Value.int IntKind.i64 (IntKind.i64.wrap (x - 1))] w'_1 ∧
 m [Value.int IntKind.i64 (IntKind.i64.wrap (x - 1))] w'_1 < m [Value.int IntKind.i64 x] w'))
 (WrL w' n_2 0 3 ∧
 ∀ (w1 : World),
 PutB w' n_2 0 [Value.string (ByteArray.mk #[]), Value.int IntKind.i64 0, Value.int IntKind.i64 36500] w1 →
 KeptL [n_1] w' w1 ∧
 ∃ (x : ByteArray),
 ∃ (x_1 : Int),
 ∃ (x_2 : Int),
 AtL w1 n_2 0 [Value.string x, Value.int IntKind.i64 x_1, Value.int IntKind.i64 x_2] ∧
 R (Ending.returned (Value.agg #[Value.string x, Value.int IntKind.i64 x_1, Value.int IntKind.i64 x_2]))
 w1)
theorem vc_eof (p : Option Addr) (n : Nat) (c : Nat) (q : Option Addr) (k : Nat) (d : Nat) (g : ByteArray) (w : World) (R : Ending → World → Prop) (h : VC_eof p n c q k d g w R) : Calls Tryz.prog 53 ([Value.agg
    #[Value.slice p n c, Value.slice q k d],
  Value.string g] : List Value).toArray w R := by
  have e : execR2 { P := Tryz.prog, loops := [(2, [(5, Ck.int IntKind.i64)])], pur := pur0, tails := [], joins := [], boxes := [] } Tryz.f53.results.toList R (Tryz.f53.body.getD .skip) (initF [Value.agg
    #[Value.slice p n c, Value.slice q k d],
  Value.string
    g] (Tryz.f53.ntmps - ([Value.agg #[Value.slice p n c, Value.slice q k d],
  Value.string g] : List Value).length)) w = VC_eof p n c q k d g w R := by kernel_rfl
  have hb : Tryz.f53.body = some (Tryz.f53.body.getD .skip) := by kernel_rfl
  exact calls_of_exec2' (P := Tryz.prog) (fn := Tryz.f53) (c := Tryz.f53.body.getD .skip) (args := [Value.agg
    #[Value.slice p n c, Value.slice q k d],
  Value.string g]) (w := w) (R := R) pur0_ok Tryz.func53 hb e h

def VC_edays (p : Option Addr) (n : Nat) (c : Nat) (q : Option Addr) (k : Nat) (d : Nat) (id : Nat → Int) (dt : Int) (ar : Int) (gp : Option Addr) (gn : Nat) (gc : Nat) (by_ : Int) (ct : Int) (hp : Option Addr) (hn : Nat) (hc : Nat) (wd : Bool) (w : World) (R : Ending → World → Prop) : Prop :=
 ∀ (n_1 n_2 : Nat),
 bsp ((↑gn : Int) == 0)
 (∀ (W : World),
 Loc w.heap.size
 [Blk.mk n_2 46
 (arrI IntKind.u8 id 32 0 ++ [Value.int IntKind.i64 dt, Value.int IntKind.i64 ar,
 Value.slice gp gn gc, Value.int IntKind.i64 by_, Value.int IntKind.i64 ct, Value.slice hp hn hc, Value.bool wd])
 2,
 Blk.mk n_1 74 [Value.slice p n c, Value.slice q k d] 2]
 w W →
 R (Ending.returned (Value.tuple #[Value.int IntKind.i64 0, Value.int IntKind.i64 36500])) W)
 (∀ (W : World),
 Loc w.heap.size
 [Blk.mk n_2 46
 (arrI IntKind.u8 id 32 0 ++ [Value.int IntKind.i64 dt, Value.int IntKind.i64 ar,
 Value.slice gp gn gc, Value.int IntKind.i64 by_, Value.int IntKind.i64 ct, Value.slice hp hn hc, Value.bool wd])
 2,
 Blk.mk n_1 74 [Value.slice p n c, Value.slice q k d] 2]
 w W →
 ∃ (I : List Value → World → Prop),
 ∃ (m : List Value → World → Nat),
 I [Value.int IntKind.i64 0, Value.int IntKind.i64 0, Value.int IntKind.i64 0] W ∧
 ∀ (x x_1 x_2 : Int) (w' : World),
 I [Value.int IntKind.i64 x, Value.int IntKind.i64 x_1, Value.int IntKind.i64 x_2] w' →
 Loc w.heap.size
 [Blk.mk n_2 46
 (arrI IntKind.u8 id 32 0 ++ [Value.int IntKind.i64 dt,
 Value.int IntKind.i64 ar, Value.slice gp gn gc, Value.int IntKind.i64 by_, Value.int IntKind.i64 ct,
 Value.slice hp hn hc, Value.bool wd])
 0,
 Blk.mk n_1 74 [Value.slice p n c, Value.slice q k d] 0]
 w' w' →
 bsp (decide (x < (↑gn : Int)))
 (nn true gp fun (b o : Nat) =>
 (0 ≤ x ∧ x < (↑gn : Int)) ∧
 ∃ (x_3 : ByteArray),
 w'.cell? (Addr.mk b (o + x.toNat) none) = some (Value.string x_3) ∧
 CallsS Tryz.prog 53 #[Value.agg #[Value.slice p n c, Value.slice q k d], Value.string x_3] w'
 fun (e : Ending) (w'_1 : World) =>
 ∃ (x_4 : ByteArray),
 ∃ (x_5 : Int),
 ∃ (x_6 : Int),
 e =
 Ending.returned
 (Value.agg #[Value.string x_4, Value.int IntKind.i64 x_5, Value.int IntKind.i64 x_6]) ∧
 KeptL [n_2, n_1] w' w'_1 ∧
 ∀ (n_3 : Nat) (W : World),
 Loc w.heap.size
 [Blk.mk n_2 46
 (arrI IntKind.u8 id 32 0 ++ [Value.int IntKind.i64 dt,
 Value.int IntKind.i64 ar, Value.slice gp gn gc, Value.int IntKind.i64 by_,
 Value.int IntKind.i64 ct, Value.slice hp hn hc, Value.bool wd])
 0,
 Blk.mk n_1 74 [Value.slice p n c, Value.slice q k d] 0,
 Blk.mk n_3 40 [Value.string x_4, Value.int IntKind.i64 x_5, Value.int IntKind.i64 x_6] (wrM 2)]
 w'_1 W →
 I
 [Value.int IntKind.i64 (IntKind.i64.wrap (x + 1)),
 Value.int IntKind.i64 (if x_6 > x_1 then x_6 else x_1),
 Value.int IntKind.i64 (if x_5 > x_2 then x_5 else x_2)]
 W ∧
 m
 [Value.int IntKind.i64 (IntKind.i64.wrap (x + 1)),
 Value.int IntKind.i64 (if x_6 > x_1 then x_6 else x_1),
 Value.int IntKind.i64 (if x_5 > x_2 then x_5 else x_2)]
 W <
 m [Value.int IntKind.i64 x, Value.int IntKind.i64 x_1, Value.int IntKind.i64 x_2] w')
 (R (Ending.returned (Value.tuple #[Value.int IntKind.i64 x_2, Value.int IntKind.i64 x_1])) w'))
theorem vc_edays (p : Option Addr) (n : Nat) (c : Nat) (q : Option Addr) (k : Nat) (d : Nat) (id : Nat → Int) (dt : Int) (ar : Int) (gp : Option Addr) (gn : Nat) (gc : Nat) (by_ : Int) (ct : Int) (hp : Option Addr) (hn : Nat) (hc : Nat) (wd : Bool) (w : World) (R : Ending → World → Prop) (h : VC_edays p n c q k d id dt ar gp gn gc by_ ct hp hn hc wd w R) : Calls Tryz.prog 30 ([Value.agg
    #[Value.slice p n c, Value.slice q k d],
  Value.agg
    (arrI IntKind.u8 id 32 0 ++
        [Value.int IntKind.i64 dt, Value.int IntKind.i64 ar, Value.slice gp gn gc, Value.int IntKind.i64 by_,
          Value.int IntKind.i64 ct, Value.slice hp hn hc, Value.bool wd]).toArray] : List Value).toArray w R := by
  have e : execR2 { P := Tryz.prog, loops := [(4, [(16, Ck.int IntKind.i64), (5, Ck.int IntKind.i64), (4, Ck.int IntKind.i64)])], pur := pur0, tails := [], joins := [], boxes := [] } Tryz.f30.results.toList R (Tryz.f30.body.getD .skip) (initF [Value.agg
    #[Value.slice p n c, Value.slice q k d],
  Value.agg
    (arrI IntKind.u8 id 32 0 ++
        [Value.int IntKind.i64 dt, Value.int IntKind.i64 ar, Value.slice gp gn gc, Value.int IntKind.i64 by_,
          Value.int IntKind.i64 ct, Value.slice hp hn hc,
          Value.bool
            wd]).toArray] (Tryz.f30.ntmps - ([Value.agg #[Value.slice p n c, Value.slice q k d],
  Value.agg
    (arrI IntKind.u8 id 32 0 ++
        [Value.int IntKind.i64 dt, Value.int IntKind.i64 ar, Value.slice gp gn gc, Value.int IntKind.i64 by_,
          Value.int IntKind.i64 ct, Value.slice hp hn hc,
          Value.bool
            wd]).toArray] : List Value).length)) w = VC_edays p n c q k d id dt ar gp gn gc by_ ct hp hn hc wd w R := by kernel_rfl
  have hb : Tryz.f30.body = some (Tryz.f30.body.getD .skip) := by kernel_rfl
  exact calls_of_exec2' (P := Tryz.prog) (fn := Tryz.f30) (c := Tryz.f30.body.getD .skip) (args := [Value.agg
    #[Value.slice p n c, Value.slice q k d],
  Value.agg
    (arrI IntKind.u8 id 32 0 ++
        [Value.int IntKind.i64 dt, Value.int IntKind.i64 ar, Value.slice gp gn gc, Value.int IntKind.i64 by_,
          Value.int IntKind.i64 ct, Value.slice hp hn hc,
          Value.bool wd]).toArray]) (w := w) (R := R) pur0_ok Tryz.func30 hb e h

def VC_echeck (p : Option Addr) (n : Nat) (c : Nat) (w : World) (R : Ending → World → Prop) : Prop :=
 CallsS Tryz.prog 25 #[Value.slice p n c] w fun (e : Ending) (w' : World) =>
 ∃ (p : Option Addr),
 ∃ (n : Nat),
 ∃ (c : Nat),
 ∃ (p_1 : Option Addr),
 ∃ (n_1 : Nat),
 ∃ (c_1 : Nat),
 ∃ (x : Int),
 e =
 Ending.returned
 (Value.tuple #[Value.agg #[Value.slice p n c, Value.slice p_1 n_1 c_1], Value.int IntKind.i64 x]) ∧
 KeptL [] w w' ∧
 ∀ (n_2 : Nat) (W : World),
 Loc w.heap.size [Blk.mk n_2 74 [Value.slice p n c, Value.slice p_1 n_1 c_1] (wrM 2)] w' W →
 R (Ending.returned (Value.int IntKind.i64 x)) W
theorem vc_echeck (p : Option Addr) (n : Nat) (c : Nat) (w : World) (R : Ending → World → Prop) (h : VC_echeck p n c w R) : Calls Tryz.prog 19 ([Value.slice
    p n c] : List Value).toArray w R := by
  have e : execR2 { P := Tryz.prog, loops := [], pur := pur0, tails := [], joins := [], boxes := [] } Tryz.f19.results.toList R (Tryz.f19.body.getD .skip) (initF [Value.slice
    p n c] (Tryz.f19.ntmps - ([Value.slice p n c] : List Value).length)) w = VC_echeck p n c w R := by kernel_rfl
  have hb : Tryz.f19.body = some (Tryz.f19.body.getD .skip) := by kernel_rfl
  exact calls_of_exec2' (P := Tryz.prog) (fn := Tryz.f19) (c := Tryz.f19.body.getD .skip) (args := [Value.slice p n
    c]) (w := w) (R := R) pur0_ok Tryz.func19 hb e h

def VC_eleast (p : Option Addr) (n : Nat) (c : Nat) (id : Nat → Int) (dt : Int) (ar : Int) (gp : Option Addr) (gn : Nat) (gc : Nat) (by_ : Int) (ct : Int) (hp : Option Addr) (hn : Nat) (hc : Nat) (wd : Bool) (w : World) (R : Ending → World → Prop) : Prop :=
 ∀ (n_1 : Nat) (W : World),
 Loc w.heap.size
 [Blk.mk n_1 46
 (arrI IntKind.u8 id 32 0 ++ [Value.int IntKind.i64 dt, Value.int IntKind.i64 ar,
 Value.slice gp gn gc, Value.int IntKind.i64 by_, Value.int IntKind.i64 ct, Value.slice hp hn hc, Value.bool wd])
 2]
 w W →
 CallsS Tryz.prog 25 #[Value.slice p n c] W fun (e : Ending) (w' : World) =>
 ∃ (p : Option Addr),
 ∃ (n : Nat),
 ∃ (c : Nat),
 ∃ (p_1 : Option Addr),
 ∃ (n_2 : Nat),
 ∃ (c_1 : Nat),
 ∃ (x : Int),
 e =
 Ending.returned
 (Value.tuple #[Value.agg #[Value.slice p n c, Value.slice p_1 n_2 c_1], Value.int IntKind.i64 x]) ∧
 KeptL [n_1] W w' ∧
 ∀ (n_3 : Nat),
 bsp (x != 0)
 (∀ (W : World),
 Loc w.heap.size
 [Blk.mk n_3 74 [Value.slice p n c, Value.slice p_1 n_2 c_1] (wrM 2),
 Blk.mk n_1 46
 (arrI IntKind.u8 id 32 0 ++ [Value.int IntKind.i64 dt,
 Value.int IntKind.i64 ar, Value.slice gp gn gc, Value.int IntKind.i64 by_, Value.int IntKind.i64 ct,
 Value.slice hp hn hc, Value.bool wd])
 0]
 w' W →
 R (Ending.returned (Value.int IntKind.i64 0)) W)
 (∀ (W : World),
 Loc w.heap.size
 [Blk.mk n_3 74 [Value.slice p n c, Value.slice p_1 n_2 c_1] (wrM 2),
 Blk.mk n_1 46
 (arrI IntKind.u8 id 32 0 ++ [Value.int IntKind.i64 dt,
 Value.int IntKind.i64 ar, Value.slice gp gn gc, Value.int IntKind.i64 by_, Value.int IntKind.i64 ct,
 Value.slice hp hn hc, Value.bool wd])
 0]
 w' W →
 CallsS Tryz.prog 30
 #[Value.agg #[Value.slice p n c, Value.slice p_1 n_2 c_1],
 Value.agg
 (arrI IntKind.u8 id 32 0 ++ [Value.int IntKind.i64 dt,
 Value.int IntKind.i64 ar, Value.slice gp gn gc, Value.int IntKind.i64 by_, Value.int IntKind.i64 ct,
 Value.slice hp hn hc, Value.bool wd]).toArray]
 W fun (e : Ending) (w' : World) =>
 ∃ (x : Int),
 ∃ (x_1 : Int),
 e = Ending.returned (Value.tuple #[Value.int IntKind.i64 x, Value.int IntKind.i64 x_1]) ∧
 KeptL [n_3, n_1] W w' ∧ R (Ending.returned (Value.int IntKind.i64 x)) w')
theorem vc_eleast (p : Option Addr) (n : Nat) (c : Nat) (id : Nat → Int) (dt : Int) (ar : Int) (gp : Option Addr) (gn : Nat) (gc : Nat) (by_ : Int) (ct : Int) (hp : Option Addr) (hn : Nat) (hc : Nat) (wd : Bool) (w : World) (R : Ending → World → Prop) (h : VC_eleast p n c id dt ar gp gn gc by_ ct hp hn hc wd w R) : Calls Tryz.prog 13 ([Value.slice
    p n c,
  Value.agg
    (arrI IntKind.u8 id 32 0 ++
        [Value.int IntKind.i64 dt, Value.int IntKind.i64 ar, Value.slice gp gn gc, Value.int IntKind.i64 by_,
          Value.int IntKind.i64 ct, Value.slice hp hn hc, Value.bool wd]).toArray] : List Value).toArray w R := by
  have e : execR2 { P := Tryz.prog, loops := [], pur := pur0, tails := [], joins := [], boxes := [] } Tryz.f13.results.toList R (Tryz.f13.body.getD .skip) (initF [Value.slice
    p n c,
  Value.agg
    (arrI IntKind.u8 id 32 0 ++
        [Value.int IntKind.i64 dt, Value.int IntKind.i64 ar, Value.slice gp gn gc, Value.int IntKind.i64 by_,
          Value.int IntKind.i64 ct, Value.slice hp hn hc,
          Value.bool
            wd]).toArray] (Tryz.f13.ntmps - ([Value.slice p n c,
  Value.agg
    (arrI IntKind.u8 id 32 0 ++
        [Value.int IntKind.i64 dt, Value.int IntKind.i64 ar, Value.slice gp gn gc, Value.int IntKind.i64 by_,
          Value.int IntKind.i64 ct, Value.slice hp hn hc,
          Value.bool
            wd]).toArray] : List Value).length)) w = VC_eleast p n c id dt ar gp gn gc by_ ct hp hn hc wd w R := by kernel_rfl
  have hb : Tryz.f13.body = some (Tryz.f13.body.getD .skip) := by kernel_rfl
  exact calls_of_exec2' (P := Tryz.prog) (fn := Tryz.f13) (c := Tryz.f13.body.getD .skip) (args := [Value.slice p n c,
  Value.agg
    (arrI IntKind.u8 id 32 0 ++
        [Value.int IntKind.i64 dt, Value.int IntKind.i64 ar, Value.slice gp gn gc, Value.int IntKind.i64 by_,
          Value.int IntKind.i64 ct, Value.slice hp hn hc,
          Value.bool wd]).toArray]) (w := w) (R := R) pur0_ok Tryz.func13 hb e h

def VC_emost (p : Option Addr) (n : Nat) (c : Nat) (id : Nat → Int) (dt : Int) (ar : Int) (gp : Option Addr) (gn : Nat) (gc : Nat) (by_ : Int) (ct : Int) (hp : Option Addr) (hn : Nat) (hc : Nat) (wd : Bool) (w : World) (R : Ending → World → Prop) : Prop :=
 ∀ (n_1 : Nat) (W : World),
 Loc w.heap.size
 [Blk.mk n_1 46
 (arrI IntKind.u8 id 32 0 ++ [Value.int IntKind.i64 dt, Value.int IntKind.i64 ar,
 Value.slice gp gn gc, Value.int IntKind.i64 by_, Value.int IntKind.i64 ct, Value.slice hp hn hc, Value.bool wd])
 2]
 w W →
 CallsS Tryz.prog 25 #[Value.slice p n c] W fun (e : Ending) (w' : World) =>
 ∃ (p : Option Addr),
 ∃ (n : Nat),
 ∃ (c : Nat),
 ∃ (p_1 : Option Addr),
 ∃ (n_2 : Nat),
 ∃ (c_1 : Nat),
 ∃ (x : Int),
 e =
 Ending.returned
 (Value.tuple #[Value.agg #[Value.slice p n c, Value.slice p_1 n_2 c_1], Value.int IntKind.i64 x]) ∧
 KeptL [n_1] W w' ∧
 ∀ (n_3 : Nat),
 bsp (x != 0)
 (∀ (W : World),
 Loc w.heap.size
 [Blk.mk n_3 74 [Value.slice p n c, Value.slice p_1 n_2 c_1] (wrM 2),
 Blk.mk n_1 46
 (arrI IntKind.u8 id 32 0 ++ [Value.int IntKind.i64 dt,
 Value.int IntKind.i64 ar, Value.slice gp gn gc, Value.int IntKind.i64 by_, Value.int IntKind.i64 ct,
 Value.slice hp hn hc, Value.bool wd])
 0]
 w' W →
 R (Ending.returned (Value.int IntKind.i64 0)) W)
 (∀ (W : World),
 Loc w.heap.size
 [Blk.mk n_3 74 [Value.slice p n c, Value.slice p_1 n_2 c_1] (wrM 2),
 Blk.mk n_1 46
 (arrI IntKind.u8 id 32 0 ++ [Value.int IntKind.i64 dt,
 Value.int IntKind.i64 ar, Value.slice gp gn gc, Value.int IntKind.i64 by_, Value.int IntKind.i64 ct,
 Value.slice hp hn hc, Value.bool wd])
 0]
 w' W →
 CallsS Tryz.prog 30
 #[Value.agg #[Value.slice p n c, Value.slice p_1 n_2 c_1],
 Value.agg
 (arrI IntKind.u8 id 32 0 ++ [Value.int IntKind.i64 dt,
 Value.int IntKind.i64 ar, Value.slice gp gn gc, Value.int IntKind.i64 by_, Value.int IntKind.i64 ct,
 Value.slice hp hn hc, Value.bool wd]).toArray]
 W fun (e : Ending) (w' : World) =>
 ∃ (x : Int),
 ∃ (x_1 : Int),
 e = Ending.returned (Value.tuple #[Value.int IntKind.i64 x, Value.int IntKind.i64 x_1]) ∧
 KeptL [n_3, n_1] W w' ∧ R (Ending.returned (Value.int IntKind.i64 x_1)) w')
theorem vc_emost (p : Option Addr) (n : Nat) (c : Nat) (id : Nat → Int) (dt : Int) (ar : Int) (gp : Option Addr) (gn : Nat) (gc : Nat) (by_ : Int) (ct : Int) (hp : Option Addr) (hn : Nat) (hc : Nat) (wd : Bool) (w : World) (R : Ending → World → Prop) (h : VC_emost p n c id dt ar gp gn gc by_ ct hp hn hc wd w R) : Calls Tryz.prog 14 ([Value.slice
    p n c,
  Value.agg
    (arrI IntKind.u8 id 32 0 ++
        [Value.int IntKind.i64 dt, Value.int IntKind.i64 ar, Value.slice gp gn gc, Value.int IntKind.i64 by_,
          Value.int IntKind.i64 ct, Value.slice hp hn hc, Value.bool wd]).toArray] : List Value).toArray w R := by
  have e : execR2 { P := Tryz.prog, loops := [], pur := pur0, tails := [], joins := [], boxes := [] } Tryz.f14.results.toList R (Tryz.f14.body.getD .skip) (initF [Value.slice
    p n c,
  Value.agg
    (arrI IntKind.u8 id 32 0 ++
        [Value.int IntKind.i64 dt, Value.int IntKind.i64 ar, Value.slice gp gn gc, Value.int IntKind.i64 by_,
          Value.int IntKind.i64 ct, Value.slice hp hn hc,
          Value.bool
            wd]).toArray] (Tryz.f14.ntmps - ([Value.slice p n c,
  Value.agg
    (arrI IntKind.u8 id 32 0 ++
        [Value.int IntKind.i64 dt, Value.int IntKind.i64 ar, Value.slice gp gn gc, Value.int IntKind.i64 by_,
          Value.int IntKind.i64 ct, Value.slice hp hn hc,
          Value.bool
            wd]).toArray] : List Value).length)) w = VC_emost p n c id dt ar gp gn gc by_ ct hp hn hc wd w R := by kernel_rfl
  have hb : Tryz.f14.body = some (Tryz.f14.body.getD .skip) := by kernel_rfl
  exact calls_of_exec2' (P := Tryz.prog) (fn := Tryz.f14) (c := Tryz.f14.body.getD .skip) (args := [Value.slice p n c,
  Value.agg
    (arrI IntKind.u8 id 32 0 ++
        [Value.int IntKind.i64 dt, Value.int IntKind.i64 ar, Value.slice gp gn gc, Value.int IntKind.i64 by_,
          Value.int IntKind.i64 ct, Value.slice hp hn hc,
          Value.bool wd]).toArray]) (w := w) (R := R) pur0_ok Tryz.func14 hb e h

def VC_eheld (id : Nat → Int) (dt : Int) (ar : Int) (gp : Option Addr) (gn : Nat) (gc : Nat) (by_ : Int) (ct : Int) (hp : Option Addr) (hn : Nat) (hc : Nat) (wd : Bool) (f : FuncId) (fa : Array Value) (fb : Array Value) (w : World) (R : Ending → World → Prop) : Prop :=
 ∀ (n : Nat),
 ∃ (p : Option Addr),
 ∃ (n_1 : Nat),
 ∃ (c : Nat),
 (∀ (W : World),
 Loc w.heap.size
 [Blk.mk n 46
 (arrI IntKind.u8 id 32 0 ++ [Value.int IntKind.i64 dt,
 Value.int IntKind.i64 ar, Value.slice gp gn gc, Value.int IntKind.i64 by_, Value.int IntKind.i64 ct,
 Value.slice hp hn hc, Value.bool wd])
 2]
 w W →
 W.cell? (Addr.mk n (0 + 37) none) = some (Value.slice p n_1 c)) ∧
 ∀ (W : World),
 Loc w.heap.size
 [Blk.mk n 46
 (arrI IntKind.u8 id 32 0 ++ [Value.int IntKind.i64 dt,
 Value.int IntKind.i64 ar, Value.slice gp gn gc, Value.int IntKind.i64 by_, Value.int IntKind.i64 ct,
 Value.slice hp hn hc, Value.bool wd])
 2]
 w W →
 CallsS Tryz.prog 93 #[Value.slice p n_1 c, Value.func (Fn.func f) fa fb] W fun (e : Ending) (w' : World) =>
 ∃ (x : Bool),
 e = Ending.returned (Value.bool x) ∧ KeptL [n] W w' ∧ R (Ending.returned (Value.bool (true && x))) w'
theorem vc_eheld (id : Nat → Int) (dt : Int) (ar : Int) (gp : Option Addr) (gn : Nat) (gc : Nat) (by_ : Int) (ct : Int) (hp : Option Addr) (hn : Nat) (hc : Nat) (wd : Bool) (f : FuncId) (fa : Array Value) (fb : Array Value) (w : World) (R : Ending → World → Prop) (h : VC_eheld id dt ar gp gn gc by_ ct hp hn hc wd f fa fb w R) : Calls Tryz.prog 68 ([Value.agg
    (arrI IntKind.u8 id 32 0 ++
        [Value.int IntKind.i64 dt, Value.int IntKind.i64 ar, Value.slice gp gn gc, Value.int IntKind.i64 by_,
          Value.int IntKind.i64 ct, Value.slice hp hn hc, Value.bool wd]).toArray,
  Value.func (Fn.func f) fa fb] : List Value).toArray w R := by
  have e : execR2 { P := Tryz.prog, loops := [], pur := pur0, tails := [], joins := [], boxes := [] } Tryz.f68.results.toList R (Tryz.f68.body.getD .skip) (initF [Value.agg
    (arrI IntKind.u8 id 32 0 ++
        [Value.int IntKind.i64 dt, Value.int IntKind.i64 ar, Value.slice gp gn gc, Value.int IntKind.i64 by_,
          Value.int IntKind.i64 ct, Value.slice hp hn hc, Value.bool wd]).toArray,
  Value.func (Fn.func f) fa
    fb] (Tryz.f68.ntmps - ([Value.agg
    (arrI IntKind.u8 id 32 0 ++
        [Value.int IntKind.i64 dt, Value.int IntKind.i64 ar, Value.slice gp gn gc, Value.int IntKind.i64 by_,
          Value.int IntKind.i64 ct, Value.slice hp hn hc, Value.bool wd]).toArray,
  Value.func (Fn.func f) fa
    fb] : List Value).length)) w = VC_eheld id dt ar gp gn gc by_ ct hp hn hc wd f fa fb w R := by kernel_rfl
  have hb : Tryz.f68.body = some (Tryz.f68.body.getD .skip) := by kernel_rfl
  exact calls_of_exec2' (P := Tryz.prog) (fn := Tryz.f68) (c := Tryz.f68.body.getD .skip) (args := [Value.agg
    (arrI IntKind.u8 id 32 0 ++
        [Value.int IntKind.i64 dt, Value.int IntKind.i64 ar, Value.slice gp gn gc, Value.int IntKind.i64 by_,
          Value.int IntKind.i64 ct, Value.slice hp hn hc, Value.bool wd]).toArray,
  Value.func (Fn.func f) fa fb]) (w := w) (R := R) pur0_ok Tryz.func68 hb e h

def VC_eheldN (id : Nat → Int) (dt : Int) (ar : Int) (gp : Option Addr) (gn : Nat) (gc : Nat) (by_ : Int) (ct : Int) (hp : Option Addr) (hn : Nat) (hc : Nat) (wd : Bool) (w : World) (R : Ending → World → Prop) : Prop :=
 ∀ (n : Nat),
 ∃ (p : Option Addr),
 ∃ (n_1 : Nat),
 ∃ (c : Nat),
 True ∧
 ∀ (W : World),
 Loc w.heap.size
 [Blk.mk n 46
 (arrI IntKind.u8 id 32 0 ++ [Value.int IntKind.i64 dt,
 Value.int IntKind.i64 ar, Value.slice gp gn gc, Value.int IntKind.i64 by_, Value.int IntKind.i64 ct,
 Value.slice hp hn hc, Value.bool wd])
 2]
 w W →
 KeptL [n] W W ∧ R (Ending.returned (Value.bool false)) W
theorem vc_eheldN (id : Nat → Int) (dt : Int) (ar : Int) (gp : Option Addr) (gn : Nat) (gc : Nat) (by_ : Int) (ct : Int) (hp : Option Addr) (hn : Nat) (hc : Nat) (wd : Bool) (w : World) (R : Ending → World → Prop) (h : VC_eheldN id dt ar gp gn gc by_ ct hp hn hc wd w R) : Calls Tryz.prog 68 ([Value.agg
    (arrI IntKind.u8 id 32 0 ++
        [Value.int IntKind.i64 dt, Value.int IntKind.i64 ar, Value.slice gp gn gc, Value.int IntKind.i64 by_,
          Value.int IntKind.i64 ct, Value.slice hp hn hc, Value.bool wd]).toArray,
  Value.nilFunc] : List Value).toArray w R := by
  have e : execR2 { P := Tryz.prog, loops := [], pur := pur0, tails := [], joins := [], boxes := [] } Tryz.f68.results.toList R (Tryz.f68.body.getD .skip) (initF [Value.agg
    (arrI IntKind.u8 id 32 0 ++
        [Value.int IntKind.i64 dt, Value.int IntKind.i64 ar, Value.slice gp gn gc, Value.int IntKind.i64 by_,
          Value.int IntKind.i64 ct, Value.slice hp hn hc, Value.bool wd]).toArray,
  Value.nilFunc] (Tryz.f68.ntmps - ([Value.agg
    (arrI IntKind.u8 id 32 0 ++
        [Value.int IntKind.i64 dt, Value.int IntKind.i64 ar, Value.slice gp gn gc, Value.int IntKind.i64 by_,
          Value.int IntKind.i64 ct, Value.slice hp hn hc, Value.bool wd]).toArray,
  Value.nilFunc] : List Value).length)) w = VC_eheldN id dt ar gp gn gc by_ ct hp hn hc wd w R := by kernel_rfl
  have hb : Tryz.f68.body = some (Tryz.f68.body.getD .skip) := by kernel_rfl
  exact calls_of_exec2' (P := Tryz.prog) (fn := Tryz.f68) (c := Tryz.f68.body.getD .skip) (args := [Value.agg
    (arrI IntKind.u8 id 32 0 ++
        [Value.int IntKind.i64 dt, Value.int IntKind.i64 ar, Value.slice gp gn gc, Value.int IntKind.i64 by_,
          Value.int IntKind.i64 ct, Value.slice hp hn hc, Value.bool wd]).toArray,
  Value.nilFunc]) (w := w) (R := R) pur0_ok Tryz.func68 hb e h

def VC_econt (p : Option Addr) (n : Nat) (c : Nat) (f : FuncId) (fa : Array Value) (fb : Array Value) (w : World) (R : Ending → World → Prop) : Prop :=
 CallsS Tryz.prog 113 #[Value.slice p n c, Value.func (Fn.func f) fa fb] w fun (e : Ending) (w' : World) =>
 ∃ (x : Int),
 e = Ending.returned (Value.int IntKind.i64 x) ∧ KeptL [] w w' ∧ R (Ending.returned (Value.bool (decide (x ≥ 0)))) w'
theorem vc_econt (p : Option Addr) (n : Nat) (c : Nat) (f : FuncId) (fa : Array Value) (fb : Array Value) (w : World) (R : Ending → World → Prop) (h : VC_econt p n c f fa fb w R) : Calls Tryz.prog 93 ([Value.slice
    p n c,
  Value.func (Fn.func f) fa fb] : List Value).toArray w R := by
  have e : execR2 { P := Tryz.prog, loops := [], pur := pur0, tails := [], joins := [], boxes := [] } Tryz.f93.results.toList R (Tryz.f93.body.getD .skip) (initF [Value.slice
    p n c,
  Value.func (Fn.func f) fa
    fb] (Tryz.f93.ntmps - ([Value.slice p n c,
  Value.func (Fn.func f) fa fb] : List Value).length)) w = VC_econt p n c f fa fb w R := by kernel_rfl
  have hb : Tryz.f93.body = some (Tryz.f93.body.getD .skip) := by kernel_rfl
  exact calls_of_exec2' (P := Tryz.prog) (fn := Tryz.f93) (c := Tryz.f93.body.getD .skip) (args := [Value.slice p n c,
  Value.func (Fn.func f) fa fb]) (w := w) (R := R) pur0_ok Tryz.func93 hb e h

def VC_eidxI (p : Option Addr) (n : Nat) (c : Nat) (f : FuncId) (fa : Array Value) (fb : Array Value) (w : World) (R : Ending → World → Prop) : Prop :=
 ∃ (I : List Value → World → Prop),
 ∃ (m : List Value → World → Nat),
 I [Value.int IntKind.i64 0] w ∧
 ∀ (x : Int) (w' : World),
 I [Value.int IntKind.i64 x] w' →
 bsp (decide (x < (↑n : Int)))
 (nn true p fun (b o : Nat) =>
 (0 ≤ x ∧ x < (↑n : Int)) ∧
 ∃ (f_1 : Nat → Int),
 AtL w' b (o + x.toNat * 32)
 (arrI IntKind.u8 f_1 32 0) ∧
 ∃ (f_2 : Nat),
 ∃ (a : Array Value),
 ∃ (b : Array Value),
 Value.func (Fn.func f) fa fb = Value.func (Fn.func f_2) a b ∧
 okFn Tryz.prog f_2 = true ∧
 CallsS Tryz.prog f_2
 (appA a
 [Value.agg
 (arrI IntKind.u8 f_1 32 0).toArray]
 b)
 w' fun (e : Ending) (w'_1 : World) =>
 ∃ (x_1 : Bool),
 e = Ending.returned (Value.bool x_1) ∧
 KeptL [] w' w'_1 ∧
 bsp x_1 (R (Ending.returned (Value.int IntKind.i64 x)) w'_1)
 (I [Value.int IntKind.i64 (IntKind.i64.wrap (x + 1))] w'_1 ∧
 m [Value.int IntKind.i64 (IntKind.i64.wrap (x + 1))] w'_1 < m [Value.int IntKind.i64 x] w'))
 (R (Ending.returned (Value.int IntKind.i64 (-1))) w')
theorem vc_eidxI (p : Option Addr) (n : Nat) (c : Nat) (f : FuncId) (fa : Array Value) (fb : Array Value) (w : World) (R : Ending → World → Prop) (h : VC_eidxI p n c f fa fb w R) : Calls Tryz.prog 113 ([Value.slice
    p n c,
  Value.func (Fn.func f) fa fb] : List Value).toArray w R := by
  have e : execR2 { P := Tryz.prog, loops := [(2, [(8, Ck.int IntKind.i64)])], pur := pur0, tails := [], joins := [], boxes := [] } Tryz.f113.results.toList R (Tryz.f113.body.getD .skip) (initF [Value.slice
    p n c,
  Value.func (Fn.func f) fa
    fb] (Tryz.f113.ntmps - ([Value.slice p n c,
  Value.func (Fn.func f) fa fb] : List Value).length)) w = VC_eidxI p n c f fa fb w R := by kernel_rfl
  have hb : Tryz.f113.body = some (Tryz.f113.body.getD .skip) := by kernel_rfl
  exact calls_of_exec2' (P := Tryz.prog) (fn := Tryz.f113) (c := Tryz.f113.body.getD .skip) (args := [Value.slice p n c,
  Value.func (Fn.func f) fa fb]) (w := w) (R := R) pur0_ok Tryz.func113 hb e h

end Go.Proofs.YtmjanmffnblcoaaGreatDoor

/- Chapter 42: the contracts of compile, of, days, Check, Least and Most. No condition but sizes. -/
namespace Go.Proofs.YtmjanmffnblcoaaGreatDoor
open Go.RowKit

def rlC (r : Rl) : List Value := [.string r.pat, .int .i64 r.lo, .int .i64 r.hi]
theorem rlC_length (r : Rl) : (rlC r).length = 3 := rfl
def ptrV (b : Nat) : Value := .pointer (some ⟨b, 0, none⟩)
/-- An article in the memory. -/
structure AX where
  id : Nat → Int
  dt : Int
  ar : Int
  gp : Option Addr
  gc : Nat
  gs : List ByteArray
  by_ : Int
  ct : Int
  hp : Option Addr
  hc : Nat
  hs : List (Nat → Int)
  wd : Bool
abbrev idL (f : Nat → Int) : List Value := arrI .u8 f 32 0
def axC (x : AX) : List Value := arrI .u8 x.id 32 0 ++ ([.int .i64 x.dt, .int .i64 x.ar, .slice x.gp x.gs.length x.gc, .int .i64 x.by_, .int .i64 x.ct, .slice x.hp x.hs.length x.hc, .bool x.wd] : List Value)
structure AXR (w : World) (x : AX) : Prop where
  gs : StrP w x.gp x.gs
  hs : RowA idL 32 w x.hp x.hs
theorem AXR.k0 {w w' : World} {x : AX} (h : AXR w x) (hk : K0 w w') : AXR w' x := ⟨h.gs.k0 hk, h.hs.k0 hk⟩
def AX.pl (x : AX) : Ar := ⟨idI x.id, x.dt, x.ar, x.gs, x.by_, x.ct, x.hs.map idI, x.wd⟩
theorem rlF_app : ∀ a b : List Rl, rlF (a ++ b) = if rlF a ≠ 0 then rlF a else rlF b
  | [], b => by simp [rlF]
  | x :: a, b => by
    have e : ∀ (y : Rl) (l : List Rl), rlF (y :: l) = if rl1 y ≠ 0 then rl1 y else rlF l := fun _ _ => rfl
    rw [List.cons_append, e, e, rlF_app a b]
    by_cases h : rl1 x = 0
    · simp [h]
    · simp [h]
theorem rlF_hit {L : List Rl} {i : Nat} {r : Rl} (h : rlF (L.take i) = 0) (hr : L[i]? = some r) (h1 : rl1 r ≠ 0) : rlF L = rl1 r := by
  have hi : i < L.length := (List.getElem?_eq_some_iff.1 hr).1
  have e : L = L.take i ++ r :: L.drop (i + 1) := by
    conv => lhs; rw [← List.take_append_drop i L]
    rw [List.drop_eq_getElem_cons hi]
    rw [List.getElem?_eq_getElem hi] at hr
    simp at hr
    rw [hr]
  rw [e, rlF_app, if_neg (by simpa using h)]
  unfold rlF
  rw [if_pos h1]
theorem rlF_next {L : List Rl} {i : Nat} {r : Rl} (h : rlF (L.take i) = 0) (hr : L[i]? = some r) (h1 : rl1 r = 0) : rlF (L.take (i + 1)) = 0 := by
  rw [take_snoc hr, rlF_app, if_neg (by simpa using h)]
  unfold rlF
  rw [if_neg (by simpa using h1)]; rfl

/-- The patterns of rules in the memory. -/
structure RlsR (N : Nat) (w : World) (q : Option Addr) (d : Nat) (L : List Rl) (bs : List Nat) : Prop where
  own : w.ownsRow N 94 1 (.slice q bs.length d) bs.length (bs.map ptrV)
  pat : ∀ (k b : Nat) (r : Rl), bs[k]? = some b → L[k]? = some r → PatR (fun k => N ≤ k) w b r.pat (elsOf r)
theorem RlsR.k0 {N : Nat} {w w' : World} {q : Option Addr} {d : Nat} {L : List Rl} {bs : List Nat} (h : RlsR N w q d L bs) (hk : K0 w w') : RlsR N w' q d L bs :=
  ⟨owns_kp h.own hk (fun _ _ h => h), fun k b r h1 h2 => (h.pat k b r h1 h2).kp hk (fun _ _ _ h => h)⟩
theorem elsOf_len (r : Rl) : (elsOf r).length ≤ 80 := by
  unfold elsOf
  split
  · rename_i e h; exact compileR_len h
  · simp

set_option maxHeartbeats 1000000 in
theorem ecompile_any (L : List Rl) (p : Option Addr) (c : Nat) (w : World) (hR : RowA rlC 3 w p L) :
    Calls Tryz.prog 25 #[.slice p L.length c] w fun e w' => K0 w w' ∧
      ((chkR L = 0 ∧ ∃ q d bs, e = .returned (.tuple #[.agg #[.slice p L.length c, .slice q L.length d], .int .i64 0]) ∧ bs.length = L.length ∧ RlsR w.heap.size w' q d L bs)
       ∨ (chkR L ≠ 0 ∧ e = .returned (.tuple #[.agg #[.slice none 0 0, .slice none 0 0], .int .i64 (chkR L)]))) := by
  refine vc_ecompile p L.length c w _ ?_
  intro n1
  refine bsp_intro (fun h => fun W hW => ?_) (fun h => ?_)
  · have h : 64 < L.length := by simp at h; omega
    have e : chkR L = 9 := by unfold chkR; rw [if_pos h]
    exact ⟨hW.kk rfl, .inr ⟨by rw [e]; decide, by rw [e]⟩⟩
  have h : L.length ≤ 64 := by simp at h; omega
  have eC : chkR L = rlF L := by unfold chkR; rw [if_neg (by omega)]
  rw [eC]
  intro n2 W hW
  have kW : K0 w W := hW.kk rfl
  have g1 : w.heap.size ≤ n1 := hW.fresh 1 rfl rfl
  have g2 : w.heap.size ≤ n2 := hW.fresh 0 rfl rfl
  have hne : n1 ≠ n2 := hW.apart 1 0 rfl rfl (by decide)
  refine ⟨fun vs w' => ∃ (i : Nat) (q : Option Addr) (d : Nat) (bs : List Nat), vs = [.int .i64 (i : Int)] ∧ i ≤ L.length ∧ rlF (L.take i) = 0 ∧ bs.length = i ∧ w'.heap[n2]? = some (.cells #[.slice p L.length c, .slice q i d] 74 (0, 0)) ∧ w'.heap[n1]? = some (.cells #[.slice none 0 0, .slice none 0 0] 74 (0, 0)) ∧ RlsR w.heap.size w' q d L bs ∧ K0 w w',
    fun vs _ => (match vs with | .int _ x :: _ => L.length - x.toNat | _ => 0), ⟨0, none, 0, [], rfl, by omega, rfl, rfl, hW.cells 0 rfl, hW.cells 1 rfl, ⟨World.ownsRow_nil _ _ _ _, fun k b r h _ => by simp at h⟩, kW⟩, ?_⟩
  rintro x w1 ⟨i, q, d, bs, hv, hi, hok, hbs, hb2, hb1, hrl, k1⟩
  simp only [List.cons.injEq, Value.int.injEq, true_and, and_true] at hv
  subst hv
  have hn1 : n1 < w1.heap.size := block_lt hb1
  have hn2 : n2 < w1.heap.size := block_lt hb2
  refine bsp_intro (fun hlt => ?_) (fun hge => ?_)
  · have hlt : i < L.length := by simp at hlt; omega
    obtain ⟨r, b, o, hr, rfl, hat⟩ := (hR.k0 k1).get hlt
    show (0 ≤ (i : Int) ∧ (i : Int) < (L.length : Int)) ∧ _
    rw [Int.toNat_natCast]
    refine ⟨by omega, r.pat, r.lo, r.hi, hat, fun n W1 hW1 => ?_⟩
    have kk1 : K0 w1 W1 := hW1.kk rfl
    have gn : w1.heap.size ≤ n := hW1.fresh 0 rfl rfl
    refine ⟨(compile_any r.pat W1).mono fun e w2 ⟨hk2, he⟩ => ?_⟩
    have k12 : K0 w1 w2 := kk1.trans hk2
    have kw2 : K0 w w2 := k1.trans k12
    have hb1' := k12.blk hb1 (fun h => h)
    have hb2' := k12.blk hb2 (fun h => h)
    have hbn := hk2.blk (hW1.cells 0 rfl) (fun h => h)
    have hnW : n < w2.heap.size := block_lt hbn
    -- an error
    have fail : ∀ x : Int, x ≠ 0 → rl1 r = x → WrL w2 n1 0 2 ∧ rlF L = x ∧ ∀ (w3 : World), PutB w2 n1 0 [Value.slice none 0 0, Value.slice none 0 0] w3 → KeptL [n] w2 w3 ∧ AtL w3 n1 0 [Value.slice none 0 0, Value.slice none 0 0] ∧ K0 w w3 := by
      intro x hx hrx
      have hF : rlF L = x := by rw [rlF_hit hok hr (by rw [hrx]; exact hx), hrx]
      exact ⟨WrL_block hb1' (Nat.le_refl 2), hF, fun w3 hp => ⟨put_kept hp (fun m hm => by simp at hm; omega), AtL_block (hp.full hb1' rfl) rfl, put_k0 kw2 hp g1⟩⟩
    cases hc : compileR r.pat with
    | inr oe =>
      obtain ⟨o', e'⟩ := oe
      rw [hc] at he
      have hne0 := (compileR_off _ _ _ hc).2
      refine ⟨_, _, _, he, .of_k0 hk2, bsp_intro (fun _ => ?_) (fun h => ?_)⟩
      · obtain ⟨f1, hF, f2⟩ := fail 3 (by decide) (by unfold rl1; rw [hc])
        refine ⟨f1, fun w3 hp => ?_⟩
        obtain ⟨a1, a2, a3⟩ := f2 w3 hp
        exact ⟨a1, _, _, _, _, _, _, a2, a3, .inr ⟨by rw [hF]; decide, by rw [hF]⟩⟩
      · exfalso; simp at h; exact hne0 h
    | inl els =>
      rw [hc] at he
      obtain ⟨bp, he, hpat⟩ := he
      refine ⟨_, _, _, he, .of_k0 hk2, bsp_intro (fun h => by simp at h) (fun _ => ?_)⟩
      refine ⟨r.lo, gimp_intro fun _ => cell_at hbn rfl, r.hi, gimp_intro fun _ => cell_at hbn rfl, r.hi, gimp_intro fun _ => cell_at hbn rfl, bsp_intro (fun hbad => ?_) (fun hgood => ?_)⟩
      · obtain ⟨f1, hF, f2⟩ := fail 2 (by decide) (by
          unfold rl1
          rw [hc]
          simp only
          rw [if_pos]
          simp at hbad
          omega)
        refine ⟨f1, fun w3 hp => ?_⟩
        obtain ⟨a1, a2, a3⟩ := f2 w3 hp
        exact ⟨a1, _, _, _, _, _, _, a2, a3, .inr ⟨by rw [hF]; decide, by rw [hF]⟩⟩
      · have hr1 : rl1 r = 0 := by
          unfold rl1
          rw [hc]
          simp only
          rw [if_neg]
          simp at hgood
          omega
        refine ⟨q, i, d, cell_at hb2' rfl, fun n4 W4 hW4 => ?_⟩
        have k24 : K0 w2 W4 := hW4.kk rfl
        have kw4 : K0 w W4 := kw2.trans k24
        have ho4 := owns_kp hrl.own (k12.trans k24) (fun _ _ h => h)
        rw [hbs] at ho4
        refine ⟨w.heap.size, _, ho4, by omega, by omega, kw4.size, fun p' c' w5 ho5 hg5 _ => ?_⟩
        have hk5 := kp_grown hg5
        have kw5 : K0 w w5 := kw4.fresh hk5 (fun j hj e => by have := own_ge ho4 e; omega)
        have nrow : ∀ (m : Nat) (c : Array Value) (t : TypeId) (f : Nat × Nat), t ≠ 94 → W4.heap[m]? = some (.cells c t f) → ¬ (Value.slice q i d).ownBlock = some m := fun m c t f ht hm e => by
          obtain ⟨c', h'⟩ := own_type ho4 e
          rw [hm] at h'
          simp at h'
          exact ht h'.2.1
        have hb2'' := hk5.blk (k24.blk hb2' (fun h => h)) (nrow n2 _ _ _ (by decide) (k24.blk hb2' (fun h => h)))
        have hb1'' := hk5.blk (k24.blk hb1' (fun h => h)) (nrow n1 _ _ _ (by decide) (k24.blk hb1' (fun h => h)))
        have hbn'' := nrow n _ 40 _ (by decide) (k24.blk hbn (fun h => h))
        refine ⟨.of_kp hk5 (fun m hm => by simp at hm; subst hm; exact hbn''), cell_wr hb2'' (Nat.le_refl 2), fun w6 hp6 => ?_⟩
        have hl5 : L.length - (i + 1) < L.length - i := by omega
        refine ⟨put_kept hp6 (fun m hm => by simp at hm; omega), ⟨i + 1, p', c', bs ++ [bp], by rw [inc64 (by omega)], hlt, rlF_next hok hr hr1, by simp [hbs], ?_, hp6.blk hb1'' hne, ⟨?_, ?_⟩, put_k0 kw5 hp6 g2⟩, ?_⟩
        · rw [hp6.block hb2'']; rfl
        · have := owns_kp ho5 hp6.kp (fun k hk e => by
            obtain ⟨c9, h9⟩ := own_type ho5 hk
            subst e
            rw [hb2''] at h9
            simp at h9)
          simpa [ptrV, hbs] using this
        · have keep : ∀ {b' : Nat} {s : ByteArray} {els : List El}, PatR (fun k => w.heap.size ≤ k) W4 b' s els → PatR (fun k => w.heap.size ≤ k) w6 b' s els := fun h4 =>
            (h4.kpT hk5 (fun k cc t f e hh => by
              obtain ⟨c9, h9⟩ := own_type ho4 e
              rw [hh] at h9
              simp at h9
              rw [h9.2.1]
              exact ⟨by decide, by decide⟩)).kpT hp6.kp (fun k cc t f e hh => by
              subst e
              rw [hb2''] at hh
              simp at hh
              rw [← hh.2.1]
              exact ⟨by decide, by decide⟩)
          intro k b' r' hb' hr'
          rcases Nat.lt_or_ge k bs.length with hk | hk
          · rw [List.getElem?_append_left hk] at hb'
            exact keep ((hrl.pat k b' r' hb' hr').kp (k12.trans k24) (fun _ _ _ h => h))
          · rw [List.getElem?_append_right hk] at hb'
            have hk0 : k - bs.length = 0 := by
              have := (List.getElem?_eq_some_iff.1 hb').1
              simp at this
              omega
            rw [hk0] at hb'
            simp at hb'
            subst hb'
            have : k = i := by omega
            subst this
            rw [hr] at hr'
            simp at hr'
            subst hr'
            have he : elsOf r = els := by unfold elsOf; rw [hc]
            rw [he]
            exact keep ((hpat.mono (fun k hk _ => Nat.le_trans (k1.trans kk1).size hk)).kp k24 (fun _ _ _ h => h))
        · rw [inc64 (by omega)]; simp only [Int.toNat_natCast]; exact hl5
  · have hi : i = L.length := by simp at hge; omega
    have hF : rlF L = 0 := by rw [hi, List.take_length] at hok; exact hok
    refine ⟨_, _, _, _, _, _, AtL_block hb2 rfl, WrL_block hb1 (by decide), fun w3 hp => ⟨put_kept hp (fun m hm => by cases hm), _, _, _, _, _, _, AtL_block (hp.full hb1 rfl) rfl, put_k0 k1 hp g1, .inl ⟨hF, q, d, bs, by rw [hi], by omega, ?_, ?_⟩⟩⟩
    · refine owns_kp hrl.own hp.kp (fun k hk e => by
        obtain ⟨c9, h9⟩ := own_type hrl.own hk
        subst e
        rw [hb1] at h9
        simp at h9)
    · intro k b' r' hb' hr'
      refine (hrl.pat k b' r' hb' hr').kpT hp.kp (fun k cc t f e hh => by
        subst e
        rw [hb1] at hh
        simp at hh
        rw [← hh.2.1]
        exact ⟨by decide, by decide⟩)

end Go.Proofs.YtmjanmffnblcoaaGreatDoor

/- Chapter 42: the contracts of of, days, Check, Least and Most. Names have at most 2^63 bytes. -/
namespace Go.Proofs.YtmjanmffnblcoaaGreatDoor
open Go.RowKit

theorem eof_any {N : Nat} (L : List Rl) (p : Option Addr) (c : Nat) (q : Option Addr) (d : Nat) (bs : List Nat) (g : ByteArray) (w : World) (hR : RowA rlC 3 w p L) (hP : RlsR N w q d L bs) (hb : bs.length = L.length) (hL : L.length ≤ 64) (hg : g.size ≤ 9223372036854775807) :
    Calls Tryz.prog 53 #[.agg #[.slice p L.length c, .slice q L.length d], .string g] w fun e w' => (∃ s : ByteArray, e = .returned (.agg #[.string s, .int .i64 (ofR L g).1, .int .i64 (ofR L g).2])) ∧ K0 w w' := by
  refine vc_eof p L.length c q L.length d g w _ ?_
  intro n1 n2 W hW
  have kW : K0 w W := hW.kk rfl
  have hne : n2 ≠ n1 := hW.apart 0 1 rfl rfl (by decide)
  have g2 : w.heap.size ≤ n2 := hW.fresh 0 rfl rfl
  refine ⟨fun vs w' => ∃ i : Nat, vs = [.int .i64 ((i : Int) - 1)] ∧ i ≤ L.length ∧ ofR (L.take i) g = ofR L g ∧ w'.heap[n2]? = some (.cells #[.string ⟨#[]⟩, .int .i64 0, .int .i64 0] 40 (0, 0)) ∧ K0 w w',
    fun vs _ => (match vs with | .int _ x :: _ => (x + 1).toNat | _ => 0), ⟨L.length, by rw [wr64 (by omega) (by omega)], by omega, by rw [List.take_length], hW.cells 0 rfl, kW⟩, ?_⟩
  rintro x w1 ⟨i, hv, hi, hof, hb2, k1⟩ hL1
  simp only [List.cons.injEq, Value.int.injEq, true_and, and_true] at hv
  subst hv
  refine bsp_intro (fun hlt => ?_) (fun hge => ?_)
  · have hlt : 0 < i := by simp at hlt; omega
    obtain ⟨r, b, o, hr, rfl, hat⟩ := (hR.k0 k1).get (k := i - 1) (by omega)
    obtain ⟨bp, hbp⟩ : ∃ bp, bs[i - 1]? = some bp := ⟨_, List.getElem?_eq_getElem (by omega)⟩
    have hP1 := hP.k0 k1
    obtain ⟨gq, hq, hcq⟩ := own_cellL hP1.own (i := i - 1) (v := ptrV bp) (by rw [List.getElem?_map, hbp]; rfl)
    subst hq
    have e1 : ((i : Int) - 1).toNat = i - 1 := by omega
    show (0 ≤ (i : Int) - 1 ∧ (i : Int) - 1 < (L.length : Int)) ∧ _
    rw [e1]
    refine ⟨by omega, some ⟨bp, 0, none⟩, by rw [Nat.zero_add]; exact hcq, ?_⟩
    refine ⟨(match_any (hP1.pat _ _ _ hbp hr) (by have := elsOf_len r; omega) g hg).mono fun e w2 ⟨he, hk2⟩ => ⟨_, he, .of_k0 hk2, ?_⟩⟩
    have htk : L.take i = L.take (i - 1) ++ [r] := by
      have := take_snoc hr
      rwa [show i - 1 + 1 = i by omega] at this
    rw [htk, ofR_snoc] at hof
    have hb2' := hk2.blk hb2 (fun h => h)
    refine bsp_intro (fun hm => ?_) (fun hm => ?_)
    · have hm : hitR r g = true := hm
      rw [if_pos hm] at hof
      show (0 ≤ (i : Int) - 1 ∧ (i : Int) - 1 < (L.length : Int)) ∧ _
      refine ⟨by omega, r.pat, r.lo, r.hi, hat.k0 hk2, WrL_block hb2' (Nat.le_refl 3), fun w3 hp => ⟨put_kept hp (fun m hm => by simp at hm; omega), _, _, _, AtL_block (hp.full hb2' rfl) rfl, ⟨_, by rw [← hof]⟩, put_k0 (k1.trans hk2) hp g2⟩⟩
    · have hm : ¬ hitR r g = true := by
        have hm : hitR r g = false := hm
        simp [hm]
      rw [if_neg hm] at hof
      exact ⟨⟨i - 1, by rw [wr64 (by omega) (by omega)]; congr 2; omega, by omega, hof, hb2', k1.trans hk2⟩, by rw [wr64 (by omega) (by omega)]; simp only; omega⟩
  · have h0 : i = 0 := by simp at hge; omega
    subst h0
    refine ⟨WrL_block hb2 (Nat.le_refl 3), fun w3 hp => ⟨put_kept hp (fun m hm => by simp at hm; omega), _, _, _, AtL_block (hp.full hb2 rfl) rfl, ⟨_, by rw [← hof]; rfl⟩, put_k0 k1 hp g2⟩⟩

theorem daysF_cons (L : List Rl) (g : ByteArray) (gs : List ByteArray) (y : Int × Int) : daysF L (g :: gs) y = daysF L gs (max y.1 (ofR L g).1, max y.2 (ofR L g).2) := rfl
theorem edays_any {N : Nat} (L : List Rl) (p : Option Addr) (c : Nat) (q : Option Addr) (d : Nat) (bs : List Nat) (x : AX) (w : World) (hR : RowA rlC 3 w p L) (hP : RlsR N w q d L bs) (hb : bs.length = L.length) (hL : L.length ≤ 64) (hx : StrP w x.gp x.gs) (hl : x.gs.length ≤ 1048576) (hz : ∀ z ∈ x.gs, z.size ≤ 9223372036854775807) :
    Calls Tryz.prog 30 #[.agg #[.slice p L.length c, .slice q L.length d], .agg (axC x).toArray] w fun e w' => e = .returned (.tuple #[.int .i64 (daysR L x.gs).1, .int .i64 (daysR L x.gs).2]) ∧ K0 w w' := by
  refine vc_edays p L.length c q L.length d x.id x.dt x.ar x.gp x.gs.length x.gc x.by_ x.ct x.hp x.hs.length x.hc x.wd w _ ?_
  intro n1 n2
  refine bsp_intro (fun h => fun W hW => ?_) (fun h => fun W hW => ?_)
  · have h : x.gs = [] := by simpa using h
    exact ⟨by unfold daysR; rw [if_pos h], hW.kk rfl⟩
  have h : ¬ x.gs = [] := by simpa using h
  have eD : daysR L x.gs = daysF L x.gs (0, 0) := by unfold daysR; rw [if_neg h]
  rw [eD]
  have kW : K0 w W := hW.kk rfl
  refine ⟨fun vs w' => ∃ (i : Nat) (y : Int × Int), vs = [.int .i64 (i : Int), .int .i64 y.2, .int .i64 y.1] ∧ i ≤ x.gs.length ∧ daysF L (x.gs.drop i) y = daysF L x.gs (0, 0) ∧ K0 w w' ∧ w'.heap[n2]? = some (.cells (axC x).toArray 46 (0, 0)) ∧ w'.heap[n1]? = some (.cells #[.slice p L.length c, .slice q L.length d] 74 (0, 0)),
    fun vs _ => (match vs with | .int _ x1 :: _ => x.gs.length - x1.toNat | _ => 0), ⟨0, (0, 0), rfl, by omega, rfl, kW, hW.cells 0 rfl, hW.cells 1 rfl⟩, ?_⟩
  rintro x1 x2 x3 w1 ⟨i, y, hv, hi, hd, k1, hb2, hb1⟩ hL1
  simp only [List.cons.injEq, Value.int.injEq, true_and, and_true] at hv
  obtain ⟨rfl, rfl, rfl⟩ := hv
  refine bsp_intro (fun hlt => ?_) (fun hge => ?_)
  · have hlt : i < x.gs.length := by simp at hlt; omega
    obtain ⟨z, b, o, hzi, hgp, hc⟩ := (hx.k0 k1).get hlt
    rw [hgp]
    show (0 ≤ (i : Int) ∧ (i : Int) < (x.gs.length : Int)) ∧ _
    rw [Int.toNat_natCast]
    refine ⟨by omega, z, hc, ⟨(eof_any L p c q d bs z w1 (hR.k0 k1) (hP.k0 k1) hb hL (hz z (List.mem_of_getElem? hzi))).mono fun e w2 ⟨⟨s, he⟩, hk2⟩ => ⟨_, _, _, he, .of_k0 hk2, fun n3 W3 hW3 => ?_⟩⟩⟩
    have k3 : K0 w1 W3 := hk2.trans (hW3.kk rfl)
    refine ⟨⟨i + 1, (max y.1 (ofR L z).1, max y.2 (ofR L z).2), ?_, hlt, ?_, k1.trans k3, k3.blk hb2 (fun h => h), k3.blk hb1 (fun h => h)⟩, ?_⟩
    · rw [inc64 (by omega)]
      congr 2
      · simp only [Value.int.injEq, true_and]; split <;> omega
      · simp only [List.cons.injEq, Value.int.injEq, true_and, and_true]; split <;> omega
    · rw [← hd]
      have : x.gs.drop i = z :: x.gs.drop (i + 1) := by
        rw [List.drop_eq_getElem_cons hlt]
        rw [List.getElem?_eq_getElem hlt] at hzi
        simp at hzi
        rw [hzi]
      rw [this, daysF_cons]
    · rw [inc64 (by omega)]; simp only [Int.toNat_natCast]; omega
  · have hi : i = x.gs.length := by simp at hge; omega
    rw [hi, List.drop_length] at hd
    exact ⟨by rw [← hd]; rfl, k1⟩

theorem echeck_any (L : List Rl) (p : Option Addr) (c : Nat) (w : World) (hR : RowA rlC 3 w p L) :
    Calls Tryz.prog 19 #[.slice p L.length c] w fun e w' => e = .returned (.int .i64 (chkR L)) ∧ K0 w w' := by
  refine vc_echeck p L.length c w _ ⟨(ecompile_any L p c w hR).mono fun e w1 ⟨k1, he⟩ => ?_⟩
  rcases he with ⟨h0, q, d, bs, he, _⟩ | ⟨h0, he⟩
  · exact ⟨_, _, _, _, _, _, _, he, .of_k0 k1, fun n W hW => ⟨by rw [h0], k1.trans (hW.kk rfl)⟩⟩
  · exact ⟨_, _, _, _, _, _, _, he, .of_k0 k1, fun n W hW => ⟨rfl, k1.trans (hW.kk rfl)⟩⟩
theorem chkR_len {L : List Rl} (h : chkR L = 0) : L.length ≤ 64 := by
  unfold chkR at h
  split at h
  · cases h
  · omega
theorem eleast_any (L : List Rl) (p : Option Addr) (c : Nat) (x : AX) (w : World) (hR : RowA rlC 3 w p L) (hx : StrP w x.gp x.gs) (hl : x.gs.length ≤ 1048576) (hz : ∀ z ∈ x.gs, z.size ≤ 9223372036854775807) :
    Calls Tryz.prog 13 #[.slice p L.length c, .agg (axC x).toArray] w fun e w' => e = .returned (.int .i64 (if chkR L = 0 then (daysR L x.gs).1 else 0)) ∧ K0 w w' := by
  refine vc_eleast p L.length c x.id x.dt x.ar x.gp x.gs.length x.gc x.by_ x.ct x.hp x.hs.length x.hc x.wd w _ ?_
  intro n1 W hW
  have kW : K0 w W := hW.kk rfl
  refine ⟨(ecompile_any L p c W (hR.k0 kW)).mono fun e w1 ⟨k1, he⟩ => ?_⟩
  rcases he with ⟨h0, q, d, bs, he, hbs, hP⟩ | ⟨h0, he⟩
  · refine ⟨_, _, _, _, _, _, _, he, .of_k0 k1, fun n3 => bsp_intro (fun h => by simp at h) (fun _ W3 hW3 => ?_)⟩
    have k3 : K0 W W3 := k1.trans (hW3.kk rfl)
    exact ⟨(edays_any L p c q d bs x W3 (hR.k0 (kW.trans k3)) (hP.k0 (hW3.kk rfl)) hbs (chkR_len h0) (hx.k0 (kW.trans k3)) hl hz).mono fun e w4 ⟨he, k4⟩ => ⟨_, _, he, .of_k0 k4, by rw [if_pos h0], (kW.trans k3).trans k4⟩⟩
  · refine ⟨_, _, _, _, _, _, _, he, .of_k0 k1, fun n3 => bsp_intro (fun _ W3 hW3 => ⟨by rw [if_neg h0], (kW.trans k1).trans (hW3.kk rfl)⟩) (fun h => by simp at h; exact absurd h h0)⟩
theorem emost_any (L : List Rl) (p : Option Addr) (c : Nat) (x : AX) (w : World) (hR : RowA rlC 3 w p L) (hx : StrP w x.gp x.gs) (hl : x.gs.length ≤ 1048576) (hz : ∀ z ∈ x.gs, z.size ≤ 9223372036854775807) :
    Calls Tryz.prog 14 #[.slice p L.length c, .agg (axC x).toArray] w fun e w' => e = .returned (.int .i64 (if chkR L = 0 then (daysR L x.gs).2 else 0)) ∧ K0 w w' := by
  refine vc_emost p L.length c x.id x.dt x.ar x.gp x.gs.length x.gc x.by_ x.ct x.hp x.hs.length x.hc x.wd w _ ?_
  intro n1 W hW
  have kW : K0 w W := hW.kk rfl
  refine ⟨(ecompile_any L p c W (hR.k0 kW)).mono fun e w1 ⟨k1, he⟩ => ?_⟩
  rcases he with ⟨h0, q, d, bs, he, hbs, hP⟩ | ⟨h0, he⟩
  · refine ⟨_, _, _, _, _, _, _, he, .of_k0 k1, fun n3 => bsp_intro (fun h => by simp at h) (fun _ W3 hW3 => ?_)⟩
    have k3 : K0 W W3 := k1.trans (hW3.kk rfl)
    exact ⟨(edays_any L p c q d bs x W3 (hR.k0 (kW.trans k3)) (hP.k0 (hW3.kk rfl)) hbs (chkR_len h0) (hx.k0 (kW.trans k3)) hl hz).mono fun e w4 ⟨he, k4⟩ => ⟨_, _, he, .of_k0 k4, by rw [if_pos h0], (kW.trans k3).trans k4⟩⟩
  · refine ⟨_, _, _, _, _, _, _, he, .of_k0 k1, fun n3 => bsp_intro (fun _ W3 hW3 => ⟨by rw [if_neg h0], (kW.trans k1).trans (hW3.kk rfl)⟩) (fun h => by simp at h; exact absurd h h0)⟩

end Go.Proofs.YtmjanmffnblcoaaGreatDoor
