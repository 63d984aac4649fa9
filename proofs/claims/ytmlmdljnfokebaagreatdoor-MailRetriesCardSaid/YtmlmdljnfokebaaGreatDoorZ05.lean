/- Plain: bytes of texts, a text cut at its first byte c, numbers in decimal. No program in sight. -/
import Derived.Test.YtmlmdljnfokebaaGreatDoorZ04
import Derived.Lib.SplitLaws
import Derived.Lib.CountLaws
import Derived.Lib.CutLaws
import Derived.Lib.ItoaNum
import Derived.Test.YtmlmdljnfokebaaGreatDoorProg
import Derived.Test.YtmlmdljnfokebaaGreatDoorZ02
import Derived.KernelRfl
import Derived.Lib.SlicesS
namespace Go.Proofs.YtmlmdljnfokebaaGreatDoor
open Go.RowKit

theorem at8_byte {s : ByteArray} {k : Nat} (h : k < s.size) : s.data.toList[k]? = some (at8 s k).toNat.toUInt8 := by
  rw [at8_lt s k h, Array.getElem?_toList, Array.getElem?_eq_getElem (show k < s.data.size from h)]
  congr 1
  show s[k] = _
  rw [Int.toNat_natCast]
  simp
theorem at8_extract (s : ByteArray) (a b j : Nat) (h : a + j < b) (hb : b ≤ s.size) : at8 (s.extract a b) j = at8 s (a + j) := by
  have h1 : j < (s.extract a b).size := by rw [ByteArray.size_extract]; omega
  rw [at8_lt _ _ h1, at8_lt s (a + j) (by omega)]
  rw [ByteArray.getElem_extract h1]

theorem byte_inj {c d : Int} (hc : 0 ≤ c ∧ c ≤ 255) (hd : 0 ≤ d ∧ d ≤ 255) : (d.toNat.toUInt8 == c.toNat.toUInt8) = decide (d = c) := by
  rw [Bool.eq_iff_iff]
  simp only [beq_iff_eq, decide_eq_true_eq]
  constructor
  · intro h
    have h1 : d.toNat.toUInt8.toNat = c.toNat.toUInt8.toNat := by rw [h]
    rw [UInt8.toNat_ofNat', UInt8.toNat_ofNat'] at h1
    omega
  · rintro rfl; rfl
theorem ixC_hit : ∀ (l : List UInt8) (c : UInt8) (i : Nat), l[i]? = some c → (∀ j, j < i → l[j]? ≠ some c) → Lib.indexByte l c = i
  | [], c, i, h, _ => by simp at h
  | b :: l, c, 0, h, _ => by simp at h; subst h; simp [Lib.indexByte]
  | b :: l, c, i + 1, h, hn => by
    have ih := ixC_hit l c i (by simpa using h) (fun j hj => by have := hn (j + 1) (by omega); simpa using this)
    have hb : ¬ b = c := by have := hn 0 (by omega); simpa using this
    unfold Lib.indexByte
    simp only [ih]
    have : (b == c) = false := by simpa using hb
    simp [this]
theorem ixC_miss : ∀ (l : List UInt8) (c : UInt8), (∀ j : Nat, l[j]? ≠ some c) → Lib.indexByte l c = -1
  | [], c, _ => rfl
  | b :: l, c, hn => by
    have ih := ixC_miss l c (fun j => by have := hn (j + 1); simpa using this)
    have hb : ¬ b = c := by have := hn 0; simpa using this
    unfold Lib.indexByte
    have : (b == c) = false := by simpa using hb
    simp [ih, this]
theorem u8C (c : UInt8) {d : Int} (h0 : 0 ≤ d) (h1 : d ≤ 255) : (d.toNat.toUInt8 = c) ↔ d = (c.toNat : Int) := by
  have hc := c.toNat_lt
  have := byte_inj (c := (c.toNat : Int)) (d := d) (by omega) ⟨h0, h1⟩
  have ec : ((c.toNat : Int)).toNat.toUInt8 = c := by simp
  rw [ec] at this
  constructor
  · intro h
    rw [h] at this
    simpa using this.symm
  · intro h
    rw [h]; exact ec
theorem getC (c : UInt8) {s : ByteArray} {j : Nat} : s.data.toList[j]? = some c ↔ j < s.size ∧ at8 s j = (c.toNat : Int) := by
  rcases Nat.lt_or_ge j s.size with h | h
  · rw [at8_byte h]
    simp only [Option.some.injEq, h, true_and]
    exact u8C c (at8_bd s j).1 (at8_bd s j).2
  · have : s.data.toList[j]? = none := List.getElem?_eq_none (by simpa using h)
    rw [this]
    simp; omega

/-- The place of the first byte c at or behind i, or the text's end. -/
def FirstC (c : UInt8) (s : ByteArray) (a i : Nat) : Prop := a ≤ i ∧ i ≤ s.size ∧ (∀ j, a ≤ j → j < i → at8 s j ≠ (c.toNat : Int)) ∧ (i < s.size → at8 s i = (c.toNat : Int))
theorem FirstC.uniq {c : UInt8} {s : ByteArray} {a i k : Nat} (h : FirstC c s a i) (g : FirstC c s a k) : i = k := by
  obtain ⟨h1, h2, h3, h4⟩ := h
  obtain ⟨g1, g2, g3, g4⟩ := g
  rcases Nat.lt_trichotomy i k with h | h | h
  · exact absurd (h4 (by omega)) (g3 i h1 h)
  · exact h
  · exact absurd (g4 (by omega)) (h3 k g1 h)
def findC (c : UInt8) (s : ByteArray) : Nat := s.data.toList.findIdx (· == c)
theorem findC_first (c : UInt8) (s : ByteArray) : FirstC c s 0 (findC c s) := by
  have hl : s.data.toList.length = s.size := s.data.length_toList
  refine ⟨by omega, by rw [← hl]; exact List.findIdx_le_length, fun j _ hj hc => ?_, fun h => ?_⟩
  · have hj' : j < s.size := by rw [← hl]; exact Nat.lt_of_lt_of_le hj List.findIdx_le_length
    have h1 := (getC c).2 ⟨hj', hc⟩
    obtain ⟨hk, e⟩ := List.getElem?_eq_some_iff.1 h1
    have := List.not_of_lt_findIdx hj
    rw [e] at this
    simp at this
  · have h' : s.data.toList.findIdx (· == c) < s.data.toList.length := by rw [hl]; exact h
    have h1 : (s.data.toList[s.data.toList.findIdx (· == c)] == c) = true := List.findIdx_getElem (w := h')
    refine ((getC c).1 ?_).2
    unfold findC
    rw [List.getElem?_eq_getElem h', beq_iff_eq.1 h1]

theorem cut_hit {c : UInt8} {s : ByteArray} {i : Nat} (h : FirstC c s 0 i) (hi : i < s.size) : Lib.cut s.data.toList [c] = ((s.extract 0 i).data.toList, (s.extract (i + 1) s.size).data.toList, true) := by
  have hx : Lib.index s.data.toList [c] = i := by
    rw [Lib.index_one]
    exact ixC_hit _ _ _ ((getC c).2 ⟨hi, h.2.2.2 hi⟩) (fun j hj hc => h.2.2.1 j (by omega) hj ((getC c).1 hc).2)
  unfold Lib.cut
  rw [hx, if_pos (by omega)]
  rw [Lib.extract_from_zero, Lib.extract_to_end]
  rfl
theorem cut_miss {c : UInt8} {s : ByteArray} {i : Nat} (h : FirstC c s 0 i) (hi : ¬ i < s.size) : Lib.cut s.data.toList [c] = (s.data.toList, [], false) := by
  have hx : Lib.index s.data.toList [c] = -1 := by
    rw [Lib.index_one]
    exact ixC_miss _ _ (fun j hc => h.2.2.1 j (by omega) (by have := ((getC c).1 hc).1; have := h.2.1; omega) ((getC c).1 hc).2)
  unfold Lib.cut
  rw [hx, if_neg (by omega)]

/-- A text cut at each byte c. -/
def partsC (c : UInt8) (s : ByteArray) : List ByteArray := Lib.splitB ⟨#[c]⟩ 0 (Lib.countB s ⟨#[c]⟩) s
theorem partsC_hit {c : UInt8} {s : ByteArray} {i : Nat} (h : FirstC c s 0 i) (hi : i < s.size) : partsC c s = s.extract 0 i :: partsC c (s.extract (i + 1) s.size) := by
  have hx : Lib.indexB s ⟨#[c]⟩ = i := by
    show Lib.index s.data.toList [c] = i
    rw [Lib.index_one]
    exact ixC_hit _ _ _ ((getC c).2 ⟨hi, h.2.2.2 hi⟩) (fun j hj hc => h.2.2.1 j (by omega) hj ((getC c).1 hc).2)
  unfold partsC
  rw [Lib.countB_hit s ⟨#[c]⟩ i (Nat.le_refl 1) hx, Nat.add_comm, Lib.splitB_hit _ _ _ _ i hx]
  rfl
theorem partsC_miss {c : UInt8} {s : ByteArray} {i : Nat} (h : FirstC c s 0 i) (hi : ¬ i < s.size) : partsC c s = [s] := by
  have hx : Lib.indexB s ⟨#[c]⟩ = -1 := by
    show Lib.index s.data.toList [c] = -1
    rw [Lib.index_one]
    exact ixC_miss _ _ (fun j hc => h.2.2.1 j (by omega) (by have := ((getC c).1 hc).1; have := h.2.1; omega) ((getC c).1 hc).2)
  unfold partsC
  exact Lib.splitB_miss _ _ _ _ hx

/-! ### Numbers -/
def nvF (s : ByteArray) : Nat → Int
  | 0 => 0
  | k + 1 => 10 * nvF s k + (at8 s k - 48)
def NumOK (s : ByteArray) : Prop := 0 < s.size ∧ (∀ i, i < s.size → 48 ≤ at8 s i ∧ at8 s i ≤ 57) ∧ (1 < s.size → at8 s 0 ≠ 48)
instance (s : ByteArray) : Decidable (NumOK s) := by unfold NumOK; infer_instance
/-- The number that a text denotes, and the error. -/
def numR (s : ByteArray) (m : Int) : Int × Int := if NumOK s then if m < 0 then (0, 2) else if nvF s s.size ≤ m then (nvF s s.size, 0) else (0, 2) else (0, 3)
theorem nvF_nonneg {s : ByteArray} (h : ∀ i, i < s.size → 48 ≤ at8 s i ∧ at8 s i ≤ 57) : ∀ k, k ≤ s.size → 0 ≤ nvF s k
  | 0, _ => by simp [nvF]
  | k + 1, hk => by
    have := nvF_nonneg h k (by omega)
    have := h k (by omega)
    unfold nvF; omega
theorem nvF_mono {s : ByteArray} (h : ∀ i, i < s.size → 48 ≤ at8 s i ∧ at8 s i ≤ 57) (a : Nat) : ∀ d, a + d ≤ s.size → nvF s a ≤ nvF s (a + d)
  | 0, _ => Int.le_refl _
  | d + 1, hk => by
    have h1 := nvF_mono h a d (by omega)
    have h2 := nvF_nonneg h (a + d) (by omega)
    have h3 := h (a + d) (by omega)
    show _ ≤ 10 * nvF s (a + d) + (at8 s (a + d) - 48)
    omega
theorem nvF_hi {s : ByteArray} (h : ∀ i, i < s.size → 48 ≤ at8 s i ∧ at8 s i ≤ 57) : s.size ≤ 6 → nvF s s.size ≤ 999999 := by
  have key : ∀ k, k ≤ s.size → nvF s k + 1 ≤ 10 ^ k := by
    intro k
    induction k with
    | zero => intro _; simp [nvF]
    | succ k ih =>
      intro hk
      have h1 := ih (by omega)
      have h2 := h k (by omega)
      unfold nvF
      rw [Int.pow_succ]
      omega
  intro h6
  have h1 := key s.size (Nat.le_refl _)
  have h3 : ∀ n : Nat, n < 7 → (10 : Int) ^ n ≤ 1000000 := by decide
  have h2 := h3 s.size (by omega)
  omega
theorem nvF_lo {s : ByteArray} (h : NumOK s) (h6 : 6 < s.size) : 999999 < nvF s s.size := by
  obtain ⟨h0, hd, hz⟩ := h
  have key : ∀ k, k + 1 ≤ s.size → (10 : Int) ^ k ≤ nvF s (k + 1) := by
    intro k
    induction k with
    | zero =>
      intro _
      have h1 := hd 0 h0
      have h2 := hz (by omega)
      simp [nvF]; omega
    | succ k ih =>
      intro hk
      have h1 := ih (by omega)
      have h2 := hd (k + 1) (by omega)
      rw [nvF, Int.pow_succ]
      omega
  have h1 : (10 : Int) ^ 6 ≤ nvF s 7 := key 6 (by omega)
  have h2 := nvF_mono hd 7 (s.size - 7) (by omega)
  rw [show 7 + (s.size - 7) = s.size by omega] at h2
  have h3 : (10 : Int) ^ 6 = 1000000 := by decide
  omega

theorem at8_left {a b : ByteArray} {j : Nat} (h : j < a.size) : at8 (a ++ b) j = at8 a j := by
  rw [at8_lt _ _ (by rw [ByteArray.size_append]; omega), at8_lt _ _ h, ByteArray.getElem_append_left h]
theorem at8_right {a b : ByteArray} {j : Nat} (h : j < b.size) : at8 (a ++ b) (a.size + j) = at8 b j := by
  rw [at8_lt _ _ (by rw [ByteArray.size_append]; omega), at8_lt _ _ h, ByteArray.getElem_append_right (by omega)]
  simp only [Nat.add_sub_cancel_left]
theorem at8_one (x : UInt8) : at8 ⟨#[x]⟩ 0 = (x.toNat : Int) := by rw [at8_lt _ 0 (by show 0 < 1; omega)]; rfl
theorem size_one (x : UInt8) : (⟨#[x]⟩ : ByteArray).size = 1 := rfl

/-! ### A number in decimal -/
def decT (u : Nat) : ByteArray := ⟨(Lib.decDigits u).toArray⟩
theorem decT_small {u : Nat} (h : u < 10) : decT u = ⟨#[UInt8.ofNat (48 + u)]⟩ := by unfold decT; rw [Lib.decDigits_one h]
theorem decT_big {u : Nat} (h : ¬ u < 10) : decT u = decT (u / 10) ++ ⟨#[UInt8.ofNat (48 + u % 10)]⟩ := by
  apply ByteArray.ext
  rw [ByteArray.data_append]
  show (Lib.decDigits u).toArray = (Lib.decDigits (u / 10)).toArray ++ #[UInt8.ofNat (48 + u % 10)]
  rw [Lib.decDigits, dif_neg h]
  simp
theorem nvF_left {a b : ByteArray} : ∀ (k : Nat), k ≤ a.size → nvF (a ++ b) k = nvF a k
  | 0, _ => rfl
  | k + 1, h => by
    show 10 * nvF (a ++ b) k + (at8 (a ++ b) k - 48) = 10 * nvF a k + (at8 a k - 48)
    rw [nvF_left k (by omega), at8_left (by omega)]
theorem dig_nat {u : Nat} (h : u < 10) : ((UInt8.ofNat (48 + u)).toNat : Int) = 48 + (u : Int) := by
  rw [UInt8.toNat_ofNat']; omega
theorem decT_ok (u : Nat) : NumOK (decT u) ∧ (0 < u → at8 (decT u) 0 ≠ 48) ∧ nvF (decT u) (decT u).size = u := by
  induction u using Nat.strongRecOn with
  | _ u ih =>
    by_cases h : u < 10
    · rw [decT_small h]
      have hd := dig_nat h
      generalize UInt8.ofNat (48 + u) = x at *
      have e := at8_one x
      refine ⟨⟨by rw [size_one]; omega, fun i hi => ?_, fun h1 => by rw [size_one] at h1; omega⟩, fun hu => by rw [e]; omega, ?_⟩
      · rw [size_one] at hi
        obtain rfl : i = 0 := by omega
        rw [e]; omega
      · rw [size_one]
        show 10 * 0 + (at8 ⟨#[x]⟩ 0 - 48) = _
        rw [e]; omega
    · obtain ⟨⟨i1, i2, i3⟩, i4, i5⟩ := ih (u / 10) (by omega)
      rw [decT_big h]
      have hd := dig_nat (show u % 10 < 10 by omega)
      generalize decT (u / 10) = a at *
      generalize UInt8.ofNat (48 + u % 10) = x at *
      have hs : (a ++ ⟨#[x]⟩ : ByteArray).size = a.size + 1 := by rw [ByteArray.size_append, size_one]
      have e : at8 (a ++ ⟨#[x]⟩) a.size = (x.toNat : Int) := by
        have := at8_right (a := a) (b := ⟨#[x]⟩) (j := 0) (by show 0 < 1; omega)
        rw [Nat.add_zero] at this
        rw [this, at8_one]
      refine ⟨⟨by omega, fun i hi => ?_, fun _ => by rw [at8_left i1]; exact i4 (by omega)⟩, fun _ => by rw [at8_left i1]; exact i4 (by omega), ?_⟩
      · by_cases hi' : i < a.size
        · rw [at8_left hi']; exact i2 i hi'
        · obtain rfl : i = a.size := by omega
          rw [e]; omega
      · rw [hs]
        show 10 * nvF (a ++ ⟨#[x]⟩) a.size + (at8 (a ++ ⟨#[x]⟩) a.size - 48) = _
        rw [nvF_left _ (Nat.le_refl _), e, i5]; omega
theorem decT_len {u : Nat} (h : u ≤ 999999) : (decT u).size ≤ 6 := by
  obtain ⟨h1, _, h3⟩ := decT_ok u
  rcases Nat.lt_or_ge 6 (decT u).size with h6 | h6
  · have := nvF_lo h1 h6
    omega
  · exact h6
theorem numR_dec {u : Nat} (h : u ≤ 999999) : numR (decT u) 999999 = ((u : Int), 0) := by
  obtain ⟨h1, _, h3⟩ := decT_ok u
  unfold numR
  rw [if_pos h1, if_neg (by omega), h3, if_pos (by omega)]

theorem first_app {c : UInt8} {a rest : ByteArray} (h : ∀ j, j < a.size → at8 a j ≠ (c.toNat : Int)) : FirstC c (a ++ ⟨#[c]⟩ ++ rest) 0 a.size := by
  refine ⟨by omega, by rw [ByteArray.size_append, ByteArray.size_append]; omega, fun j _ hj => ?_, fun _ => ?_⟩
  · rw [ByteArray.append_assoc, at8_left hj]; exact h j hj
  · rw [ByteArray.append_assoc]
    have := at8_right (a := a) (b := ⟨#[c]⟩ ++ rest) (j := 0) (by rw [ByteArray.size_append, size_one]; omega)
    rw [Nat.add_zero] at this
    rw [this, at8_left (by show 0 < 1; omega)]
    exact at8_one c
theorem app_size {c : UInt8} {a rest : ByteArray} : (a ++ ⟨#[c]⟩ ++ rest).size = a.size + 1 + rest.size := by rw [ByteArray.size_append, ByteArray.size_append, size_one]
theorem app_head {c : UInt8} {a rest : ByteArray} : (a ++ ⟨#[c]⟩ ++ rest).extract 0 a.size = a := by
  rw [ByteArray.append_assoc, ByteArray.extract_append_eq_left rfl]
theorem app_tail {c : UInt8} {a rest : ByteArray} : (a ++ ⟨#[c]⟩ ++ rest).extract (a.size + 1) (a ++ ⟨#[c]⟩ ++ rest).size = rest :=
  ByteArray.extract_append_eq_right (by rw [ByteArray.size_append, size_one]) (by rw [ByteArray.size_append])
theorem parts_app {c : UInt8} {a rest : ByteArray} (h : ∀ j, j < a.size → at8 a j ≠ (c.toNat : Int)) : partsC c (a ++ ⟨#[c]⟩ ++ rest) = a :: partsC c rest := by
  rw [partsC_hit (first_app h) (by rw [app_size]; omega), app_head, app_tail]
theorem parts_none {c : UInt8} {a : ByteArray} (h : ∀ j, j < a.size → at8 a j ≠ (c.toNat : Int)) : partsC c a = [a] :=
  partsC_miss (i := a.size) ⟨by omega, by omega, fun j _ hj => h j hj, fun h => by omega⟩ (by omega)
theorem at8_app_no {a b : ByteArray} {x : Int} (ha : ∀ j, j < a.size → at8 a j ≠ x) (hb : ∀ j, j < b.size → at8 b j ≠ x) : ∀ j, j < (a ++ b).size → at8 (a ++ b) j ≠ x := fun j hj => by
  rw [ByteArray.size_append] at hj
  by_cases h : j < a.size
  · rw [at8_left h]; exact ha j h
  · have := at8_right (a := a) (b := b) (j := j - a.size) (by omega)
    rw [show a.size + (j - a.size) = j by omega] at this
    rw [this]; exact hb _ (by omega)
theorem one_no {c : UInt8} {x : Int} (h : (c.toNat : Int) ≠ x) : ∀ j, j < (⟨#[c]⟩ : ByteArray).size → at8 ⟨#[c]⟩ j ≠ x := fun j hj => by
  rw [size_one] at hj
  obtain rfl : j = 0 := by omega
  rw [at8_one]; exact h

end Go.Proofs.YtmlmdljnfokebaaGreatDoor

/- The empty environment of pure functions. No condition. -/
namespace Go.Proofs.YtmlmdljnfokebaaGreatDoor
def pur0 (_ : FuncId) (_ : List Value) : Option (Option Prop × Value) := none
theorem pur0_ok {l : List (Nat × List (Nat × Ck))} {t : List (Nat × Nat)} {j : List (Nat × List (Nat × Ck))} {b : List (Nat × Unit)} {r : List (Nat × TypeId)} : PurOK { P := Tryz.prog, loops := l, pur := pur0, tails := t, joins := j, boxes := b, rngs := r } := fun f args p v h => by simp [pur0] at h
end Go.Proofs.YtmlmdljnfokebaaGreatDoor

/- The formulas of functions by the symbolic evaluator, and that each gives the call's contract. Written by a program (gen.py). No condition. -/
namespace Go.Proofs.YtmlmdljnfokebaaGreatDoor
set_option maxRecDepth 100000
set_option linter.unusedVariables false

def VC_aIsLower (c : Int) (w : World) (R : Ending → World → Prop) : Prop :=
 R (Ending.returned (Value.bool (decide (c ≥ 97) && decide (c ≤ 122)))) w
theorem vc_aIsLower (c : Int) (w : World) (R : Ending → World → Prop) (h : VC_aIsLower c w R) : Calls Tryz.prog 94 ([Value.int
    IntKind.u8 c] : List Value).toArray w R := by
  have e : execR { P := Tryz.prog, loops := [], pur := pur0, tails := [], joins := [], boxes := [] } Tryz.f94.results.toList R (Tryz.f94.body.getD .skip) (initF [Value.int
    IntKind.u8
    c] (Tryz.f94.ntmps - ([Value.int IntKind.u8 c] : List Value).length)) w = VC_aIsLower c w R := by kernel_rfl
  have hb : Tryz.f94.body = some (Tryz.f94.body.getD .skip) := by kernel_rfl
  exact calls_of_exec' (P := Tryz.prog) (fn := Tryz.f94) (c := Tryz.f94.body.getD .skip) (args := [Value.int IntKind.u8
    c]) (w := w) (R := R) pur0_ok Tryz.func94 hb e h

def VC_aIsDigit (c : Int) (w : World) (R : Ending → World → Prop) : Prop :=
 R (Ending.returned (Value.bool (decide (c ≥ 48) && decide (c ≤ 57)))) w
theorem vc_aIsDigit (c : Int) (w : World) (R : Ending → World → Prop) (h : VC_aIsDigit c w R) : Calls Tryz.prog 116 ([Value.int
    IntKind.u8 c] : List Value).toArray w R := by
  have e : execR { P := Tryz.prog, loops := [], pur := pur0, tails := [], joins := [], boxes := [] } Tryz.f116.results.toList R (Tryz.f116.body.getD .skip) (initF [Value.int
    IntKind.u8
    c] (Tryz.f116.ntmps - ([Value.int IntKind.u8 c] : List Value).length)) w = VC_aIsDigit c w R := by kernel_rfl
  have hb : Tryz.f116.body = some (Tryz.f116.body.getD .skip) := by kernel_rfl
  exact calls_of_exec' (P := Tryz.prog) (fn := Tryz.f116) (c := Tryz.f116.body.getD .skip) (args := [Value.int
    IntKind.u8 c]) (w := w) (R := R) pur0_ok Tryz.func116 hb e h

def VC_aIsUpper (c : Int) (w : World) (R : Ending → World → Prop) : Prop :=
 R (Ending.returned (Value.bool (decide (c ≥ 65) && decide (c ≤ 90)))) w
theorem vc_aIsUpper (c : Int) (w : World) (R : Ending → World → Prop) (h : VC_aIsUpper c w R) : Calls Tryz.prog 159 ([Value.int
    IntKind.u8 c] : List Value).toArray w R := by
  have e : execR { P := Tryz.prog, loops := [], pur := pur0, tails := [], joins := [], boxes := [] } Tryz.f159.results.toList R (Tryz.f159.body.getD .skip) (initF [Value.int
    IntKind.u8
    c] (Tryz.f159.ntmps - ([Value.int IntKind.u8 c] : List Value).length)) w = VC_aIsUpper c w R := by kernel_rfl
  have hb : Tryz.f159.body = some (Tryz.f159.body.getD .skip) := by kernel_rfl
  exact calls_of_exec' (P := Tryz.prog) (fn := Tryz.f159) (c := Tryz.f159.body.getD .skip) (args := [Value.int
    IntKind.u8 c]) (w := w) (R := R) pur0_ok Tryz.func159 hb e h

def VC_aIsVisible (c : Int) (w : World) (R : Ending → World → Prop) : Prop :=
 R (Ending.returned (Value.bool (decide (c ≥ 33) && decide (c ≤ 126)))) w
theorem vc_aIsVisible (c : Int) (w : World) (R : Ending → World → Prop) (h : VC_aIsVisible c w R) : Calls Tryz.prog 78 ([Value.int
    IntKind.u8 c] : List Value).toArray w R := by
  have e : execR { P := Tryz.prog, loops := [], pur := pur0, tails := [], joins := [], boxes := [] } Tryz.f78.results.toList R (Tryz.f78.body.getD .skip) (initF [Value.int
    IntKind.u8
    c] (Tryz.f78.ntmps - ([Value.int IntKind.u8 c] : List Value).length)) w = VC_aIsVisible c w R := by kernel_rfl
  have hb : Tryz.f78.body = some (Tryz.f78.body.getD .skip) := by kernel_rfl
  exact calls_of_exec' (P := Tryz.prog) (fn := Tryz.f78) (c := Tryz.f78.body.getD .skip) (args := [Value.int IntKind.u8
    c]) (w := w) (R := R) pur0_ok Tryz.func78 hb e h

def VC_aIsBlank (c : Int) (w : World) (R : Ending → World → Prop) : Prop :=
 R (Ending.returned (Value.bool (c == 32 || c == 9))) w
theorem vc_aIsBlank (c : Int) (w : World) (R : Ending → World → Prop) (h : VC_aIsBlank c w R) : Calls Tryz.prog 108 ([Value.int
    IntKind.u8 c] : List Value).toArray w R := by
  have e : execR { P := Tryz.prog, loops := [], pur := pur0, tails := [], joins := [], boxes := [] } Tryz.f108.results.toList R (Tryz.f108.body.getD .skip) (initF [Value.int
    IntKind.u8
    c] (Tryz.f108.ntmps - ([Value.int IntKind.u8 c] : List Value).length)) w = VC_aIsBlank c w R := by kernel_rfl
  have hb : Tryz.f108.body = some (Tryz.f108.body.getD .skip) := by kernel_rfl
  exact calls_of_exec' (P := Tryz.prog) (fn := Tryz.f108) (c := Tryz.f108.body.getD .skip) (args := [Value.int
    IntKind.u8 c]) (w := w) (R := R) pur0_ok Tryz.func108 hb e h

def VC_r1Lowercase (c : Int) (w : World) (R : Ending → World → Prop) : Prop :=
 R (Ending.returned (Value.bool (decide (c ≥ 97) && decide (c ≤ 122)))) w
theorem vc_r1Lowercase (c : Int) (w : World) (R : Ending → World → Prop) (h : VC_r1Lowercase c w R) : Calls Tryz.prog 119 ([Value.int
    IntKind.u8 c] : List Value).toArray w R := by
  have e : execR { P := Tryz.prog, loops := [], pur := pur0, tails := [], joins := [], boxes := [] } Tryz.f119.results.toList R (Tryz.f119.body.getD .skip) (initF [Value.int
    IntKind.u8
    c] (Tryz.f119.ntmps - ([Value.int IntKind.u8 c] : List Value).length)) w = VC_r1Lowercase c w R := by kernel_rfl
  have hb : Tryz.f119.body = some (Tryz.f119.body.getD .skip) := by kernel_rfl
  exact calls_of_exec' (P := Tryz.prog) (fn := Tryz.f119) (c := Tryz.f119.body.getD .skip) (args := [Value.int
    IntKind.u8 c]) (w := w) (R := R) pur0_ok Tryz.func119 hb e h

def VC_r1Digit (c : Int) (w : World) (R : Ending → World → Prop) : Prop :=
 R (Ending.returned (Value.bool (decide (c ≥ 48) && decide (c ≤ 57)))) w
theorem vc_r1Digit (c : Int) (w : World) (R : Ending → World → Prop) (h : VC_r1Digit c w R) : Calls Tryz.prog 76 ([Value.int
    IntKind.u8 c] : List Value).toArray w R := by
  have e : execR { P := Tryz.prog, loops := [], pur := pur0, tails := [], joins := [], boxes := [] } Tryz.f76.results.toList R (Tryz.f76.body.getD .skip) (initF [Value.int
    IntKind.u8
    c] (Tryz.f76.ntmps - ([Value.int IntKind.u8 c] : List Value).length)) w = VC_r1Digit c w R := by kernel_rfl
  have hb : Tryz.f76.body = some (Tryz.f76.body.getD .skip) := by kernel_rfl
  exact calls_of_exec' (P := Tryz.prog) (fn := Tryz.f76) (c := Tryz.f76.body.getD .skip) (args := [Value.int IntKind.u8
    c]) (w := w) (R := R) pur0_ok Tryz.func76 hb e h

def VC_r1Uppercase (c : Int) (w : World) (R : Ending → World → Prop) : Prop :=
 R (Ending.returned (Value.bool (decide (c ≥ 65) && decide (c ≤ 90)))) w
theorem vc_r1Uppercase (c : Int) (w : World) (R : Ending → World → Prop) (h : VC_r1Uppercase c w R) : Calls Tryz.prog 120 ([Value.int
    IntKind.u8 c] : List Value).toArray w R := by
  have e : execR { P := Tryz.prog, loops := [], pur := pur0, tails := [], joins := [], boxes := [] } Tryz.f120.results.toList R (Tryz.f120.body.getD .skip) (initF [Value.int
    IntKind.u8
    c] (Tryz.f120.ntmps - ([Value.int IntKind.u8 c] : List Value).length)) w = VC_r1Uppercase c w R := by kernel_rfl
  have hb : Tryz.f120.body = some (Tryz.f120.body.getD .skip) := by kernel_rfl
  exact calls_of_exec' (P := Tryz.prog) (fn := Tryz.f120) (c := Tryz.f120.body.getD .skip) (args := [Value.int
    IntKind.u8 c]) (w := w) (R := R) pur0_ok Tryz.func120 hb e h

def VC_r1Visible (c : Int) (w : World) (R : Ending → World → Prop) : Prop :=
 R (Ending.returned (Value.bool (decide (c ≥ 33) && decide (c ≤ 126)))) w
theorem vc_r1Visible (c : Int) (w : World) (R : Ending → World → Prop) (h : VC_r1Visible c w R) : Calls Tryz.prog 70 ([Value.int
    IntKind.u8 c] : List Value).toArray w R := by
  have e : execR { P := Tryz.prog, loops := [], pur := pur0, tails := [], joins := [], boxes := [] } Tryz.f70.results.toList R (Tryz.f70.body.getD .skip) (initF [Value.int
    IntKind.u8
    c] (Tryz.f70.ntmps - ([Value.int IntKind.u8 c] : List Value).length)) w = VC_r1Visible c w R := by kernel_rfl
  have hb : Tryz.f70.body = some (Tryz.f70.body.getD .skip) := by kernel_rfl
  exact calls_of_exec' (P := Tryz.prog) (fn := Tryz.f70) (c := Tryz.f70.body.getD .skip) (args := [Value.int IntKind.u8
    c]) (w := w) (R := R) pur0_ok Tryz.func70 hb e h

def VC_r1Blank (c : Int) (w : World) (R : Ending → World → Prop) : Prop :=
 R (Ending.returned (Value.bool (c == 32 || c == 9))) w
theorem vc_r1Blank (c : Int) (w : World) (R : Ending → World → Prop) (h : VC_r1Blank c w R) : Calls Tryz.prog 71 ([Value.int
    IntKind.u8 c] : List Value).toArray w R := by
  have e : execR { P := Tryz.prog, loops := [], pur := pur0, tails := [], joins := [], boxes := [] } Tryz.f71.results.toList R (Tryz.f71.body.getD .skip) (initF [Value.int
    IntKind.u8
    c] (Tryz.f71.ntmps - ([Value.int IntKind.u8 c] : List Value).length)) w = VC_r1Blank c w R := by kernel_rfl
  have hb : Tryz.f71.body = some (Tryz.f71.body.getD .skip) := by kernel_rfl
  exact calls_of_exec' (P := Tryz.prog) (fn := Tryz.f71) (c := Tryz.f71.body.getD .skip) (args := [Value.int IntKind.u8
    c]) (w := w) (R := R) pur0_ok Tryz.func71 hb e h

def VC_misMinute (c : Int) (w : World) (R : Ending → World → Prop) : Prop :=
 R (Ending.returned (Value.bool (decide (c ≥ 0) && decide (c ≤ 105190559)))) w
theorem vc_misMinute (c : Int) (w : World) (R : Ending → World → Prop) (h : VC_misMinute c w R) : Calls Tryz.prog 50 ([Value.int
    IntKind.i64 c] : List Value).toArray w R := by
  have e : execR { P := Tryz.prog, loops := [], pur := pur0, tails := [], joins := [], boxes := [] } Tryz.f50.results.toList R (Tryz.f50.body.getD .skip) (initF [Value.int
    IntKind.i64
    c] (Tryz.f50.ntmps - ([Value.int IntKind.i64 c] : List Value).length)) w = VC_misMinute c w R := by kernel_rfl
  have hb : Tryz.f50.body = some (Tryz.f50.body.getD .skip) := by kernel_rfl
  exact calls_of_exec' (P := Tryz.prog) (fn := Tryz.f50) (c := Tryz.f50.body.getD .skip) (args := [Value.int IntKind.i64
    c]) (w := w) (R := R) pur0_ok Tryz.func50 hb e h

def VC_r49minute (c : Int) (w : World) (R : Ending → World → Prop) : Prop :=
 R (Ending.returned (Value.bool (decide (c ≥ 0) && decide (c ≤ 105190559)))) w
theorem vc_r49minute (c : Int) (w : World) (R : Ending → World → Prop) (h : VC_r49minute c w R) : Calls Tryz.prog 87 ([Value.int
    IntKind.i64 c] : List Value).toArray w R := by
  have e : execR { P := Tryz.prog, loops := [], pur := pur0, tails := [], joins := [], boxes := [] } Tryz.f87.results.toList R (Tryz.f87.body.getD .skip) (initF [Value.int
    IntKind.i64
    c] (Tryz.f87.ntmps - ([Value.int IntKind.i64 c] : List Value).length)) w = VC_r49minute c w R := by kernel_rfl
  have hb : Tryz.f87.body = some (Tryz.f87.body.getD .skip) := by kernel_rfl
  exact calls_of_exec' (P := Tryz.prog) (fn := Tryz.f87) (c := Tryz.f87.body.getD .skip) (args := [Value.int IntKind.i64
    c]) (w := w) (R := R) pur0_ok Tryz.func87 hb e h

def VC_aIsLetter (c : Int) (w : World) (R : Ending → World → Prop) : Prop :=
 CallsS Tryz.prog 94 #[Value.int IntKind.u8 c] w fun (e : Ending) (w' : World) =>
 ∃ (x : Bool),
 e = Ending.returned (Value.bool x) ∧
 bsp (!x)
 (CallsS Tryz.prog 159 #[Value.int IntKind.u8 c] w' fun (e : Ending) (w' : World) =>
 ∃ (x : Bool), e = Ending.returned (Value.bool x) ∧ R (Ending.returned (Value.bool (false || x))) w')
 (R (Ending.returned (Value.bool true)) w')
theorem vc_aIsLetter (c : Int) (w : World) (R : Ending → World → Prop) (h : VC_aIsLetter c w R) : Calls Tryz.prog 141 ([Value.int
    IntKind.u8 c] : List Value).toArray w R := by
  have e : execR { P := Tryz.prog, loops := [], pur := pur0, tails := [], joins := [], boxes := [] } Tryz.f141.results.toList R (Tryz.f141.body.getD .skip) (initF [Value.int
    IntKind.u8
    c] (Tryz.f141.ntmps - ([Value.int IntKind.u8 c] : List Value).length)) w = VC_aIsLetter c w R := by kernel_rfl
  have hb : Tryz.f141.body = some (Tryz.f141.body.getD .skip) := by kernel_rfl
  exact calls_of_exec' (P := Tryz.prog) (fn := Tryz.f141) (c := Tryz.f141.body.getD .skip) (args := [Value.int
    IntKind.u8 c]) (w := w) (R := R) pur0_ok Tryz.func141 hb e h

def VC_gisPermitted (c : Int) (w : World) (R : Ending → World → Prop) : Prop :=
 CallsS Tryz.prog 94 #[Value.int IntKind.u8 c] w fun (e : Ending) (w' : World) =>
 ∃ (x : Bool),
 e = Ending.returned (Value.bool x) ∧
 bsp (!x)
 (CallsS Tryz.prog 116 #[Value.int IntKind.u8 c] w' fun (e : Ending) (w' : World) =>
 ∃ (x : Bool),
 e = Ending.returned (Value.bool x) ∧ R (Ending.returned (Value.bool (false || x || c == 45 || c == 46))) w')
 (R (Ending.returned (Value.bool (true || c == 45 || c == 46))) w')
theorem vc_gisPermitted (c : Int) (w : World) (R : Ending → World → Prop) (h : VC_gisPermitted c w R) : Calls Tryz.prog 93 ([Value.int
    IntKind.u8 c] : List Value).toArray w R := by
  have e : execR { P := Tryz.prog, loops := [], pur := pur0, tails := [], joins := [], boxes := [] } Tryz.f93.results.toList R (Tryz.f93.body.getD .skip) (initF [Value.int
    IntKind.u8
    c] (Tryz.f93.ntmps - ([Value.int IntKind.u8 c] : List Value).length)) w = VC_gisPermitted c w R := by kernel_rfl
  have hb : Tryz.f93.body = some (Tryz.f93.body.getD .skip) := by kernel_rfl
  exact calls_of_exec' (P := Tryz.prog) (fn := Tryz.f93) (c := Tryz.f93.body.getD .skip) (args := [Value.int IntKind.u8
    c]) (w := w) (R := R) pur0_ok Tryz.func93 hb e h

end Go.Proofs.YtmlmdljnfokebaaGreatDoor

/- Functions without an effect, chapter 49: tests of bytes and of minutes. No condition. -/
namespace Go.Proofs.YtmlmdljnfokebaaGreatDoor
open Go.RowKit

def upperB (c : Int) : Bool := decide (65 ≤ c) && decide (c ≤ 90)
def visB (c : Int) : Bool := decide (33 ≤ c) && decide (c ≤ 126)
def blankB (c : Int) : Bool := c == 32 || c == 9
def letterB (c : Int) : Bool := lowerB c || upperB c
def minB (x : Int) : Bool := decide (0 ≤ x) && decide (x ≤ 105190559)
theorem aIsLower_any (c : Int) (w : World) : Calls Tryz.prog 94 #[.int .u8 c] w fun e w' => e = .returned (.bool (lowerB c)) ∧ w' = w := vc_aIsLower c w _ ⟨rfl, rfl⟩
theorem aIsDigit_any (c : Int) (w : World) : Calls Tryz.prog 116 #[.int .u8 c] w fun e w' => e = .returned (.bool (digitB c)) ∧ w' = w := vc_aIsDigit c w _ ⟨rfl, rfl⟩
theorem aIsUpper_any (c : Int) (w : World) : Calls Tryz.prog 159 #[.int .u8 c] w fun e w' => e = .returned (.bool (upperB c)) ∧ w' = w := vc_aIsUpper c w _ ⟨rfl, rfl⟩
theorem aIsVisible_any (c : Int) (w : World) : Calls Tryz.prog 78 #[.int .u8 c] w fun e w' => e = .returned (.bool (visB c)) ∧ w' = w := vc_aIsVisible c w _ ⟨rfl, rfl⟩
theorem aIsBlank_any (c : Int) (w : World) : Calls Tryz.prog 108 #[.int .u8 c] w fun e w' => e = .returned (.bool (blankB c)) ∧ w' = w := vc_aIsBlank c w _ ⟨rfl, rfl⟩
theorem r1Lowercase_any (c : Int) (w : World) : Calls Tryz.prog 119 #[.int .u8 c] w fun e w' => e = .returned (.bool (lowerB c)) ∧ w' = w := vc_r1Lowercase c w _ ⟨rfl, rfl⟩
theorem r1Digit_any (c : Int) (w : World) : Calls Tryz.prog 76 #[.int .u8 c] w fun e w' => e = .returned (.bool (digitB c)) ∧ w' = w := vc_r1Digit c w _ ⟨rfl, rfl⟩
theorem r1Uppercase_any (c : Int) (w : World) : Calls Tryz.prog 120 #[.int .u8 c] w fun e w' => e = .returned (.bool (upperB c)) ∧ w' = w := vc_r1Uppercase c w _ ⟨rfl, rfl⟩
theorem r1Visible_any (c : Int) (w : World) : Calls Tryz.prog 70 #[.int .u8 c] w fun e w' => e = .returned (.bool (visB c)) ∧ w' = w := vc_r1Visible c w _ ⟨rfl, rfl⟩
theorem r1Blank_any (c : Int) (w : World) : Calls Tryz.prog 71 #[.int .u8 c] w fun e w' => e = .returned (.bool (blankB c)) ∧ w' = w := vc_r1Blank c w _ ⟨rfl, rfl⟩
theorem misMinute_any (c : Int) (w : World) : Calls Tryz.prog 50 #[.int .i64 c] w fun e w' => e = .returned (.bool (minB c)) ∧ w' = w := vc_misMinute c w _ ⟨rfl, rfl⟩
theorem r49minute_any (c : Int) (w : World) : Calls Tryz.prog 87 #[.int .i64 c] w fun e w' => e = .returned (.bool (minB c)) ∧ w' = w := vc_r49minute c w _ ⟨rfl, rfl⟩
theorem aIsLetter_any (c : Int) (w : World) : Calls Tryz.prog 141 #[.int .u8 c] w fun e w' => e = .returned (.bool (letterB c)) ∧ w' = w := by
  refine vc_aIsLetter c w _ ⟨(aIsLower_any c w).mono fun e w' ⟨he, hw⟩ => ⟨_, he, ?_⟩⟩
  subst hw
  refine bsp_intro (fun h => ⟨(aIsUpper_any c w').mono fun e w' ⟨he, hw⟩ => ⟨_, he, ?_, hw⟩⟩) (fun h => ⟨?_, rfl⟩)
  · have h : lowerB c = false := by simpa using h
    simp [letterB, h]
  · have h : lowerB c = true := by simpa using h
    simp [letterB, h]
theorem gisPermitted_any (c : Int) (w : World) : Calls Tryz.prog 93 #[.int .u8 c] w fun e w' => e = .returned (.bool (permB c)) ∧ w' = w := by
  refine vc_gisPermitted c w _ ⟨(aIsLower_any c w).mono fun e w' ⟨he, hw⟩ => ⟨_, he, ?_⟩⟩
  subst hw
  refine bsp_intro (fun h => ⟨(aIsDigit_any c w').mono fun e w' ⟨he, hw⟩ => ⟨_, he, ?_, hw⟩⟩) (fun h => ⟨?_, rfl⟩)
  · have h : lowerB c = false := by simpa using h
    simp [permB, h]
  · have h : lowerB c = true := by simpa using h
    simp [permB, h]

def purM (f : FuncId) (args : List Value) : Option (Option Prop × Value) :=
  match f with
  | 94 => (match args with | [.int .u8 c] => some (none, .bool (lowerB c)) | _ => none)
  | 116 => (match args with | [.int .u8 c] => some (none, .bool (digitB c)) | _ => none)
  | 159 => (match args with | [.int .u8 c] => some (none, .bool (upperB c)) | _ => none)
  | 78 => (match args with | [.int .u8 c] => some (none, .bool (visB c)) | _ => none)
  | 108 => (match args with | [.int .u8 c] => some (none, .bool (blankB c)) | _ => none)
  | 119 => (match args with | [.int .u8 c] => some (none, .bool (lowerB c)) | _ => none)
  | 76 => (match args with | [.int .u8 c] => some (none, .bool (digitB c)) | _ => none)
  | 120 => (match args with | [.int .u8 c] => some (none, .bool (upperB c)) | _ => none)
  | 70 => (match args with | [.int .u8 c] => some (none, .bool (visB c)) | _ => none)
  | 71 => (match args with | [.int .u8 c] => some (none, .bool (blankB c)) | _ => none)
  | 50 => (match args with | [.int .i64 c] => some (none, .bool (minB c)) | _ => none)
  | 87 => (match args with | [.int .i64 c] => some (none, .bool (minB c)) | _ => none)
  | 141 => (match args with | [.int .u8 c] => some (none, .bool (letterB c)) | _ => none)
  | 93 => (match args with | [.int .u8 c] => some (none, .bool (permB c)) | _ => none)
  | _ => none
theorem purM_ok {l : List (Nat × List (Nat × Ck))} {t : List (Nat × Nat)} {j : List (Nat × List (Nat × Ck))} {b : List (Nat × Unit)} {r : List (Nat × TypeId)} : PurOK { P := Tryz.prog, loops := l, pur := purM, tails := t, joins := j, boxes := b, rngs := r } := fun f args p v h _ => by
  have key : ∀ (f : FuncId) (fn : Func), Tryz.prog.funcs[f]? = some fn → (fn.name == "runtime.NumGoroutine") = false → fn.body.isNone = false → ∃ fn, Tryz.prog.funcs[f]? = some fn ∧ (fn.name == "runtime.NumGoroutine") = false ∧ fn.body.isNone = false := fun f fn h1 h2 h3 => ⟨fn, h1, h2, h3⟩
  simp only [purM] at h
  split at h
  · split at h
    · simp at h; obtain ⟨rfl, rfl⟩ := h; exact ⟨fun w => aIsLower_any _ w, key _ _ Tryz.func94 (by decide) (by decide)⟩
    · simp at h
  · split at h
    · simp at h; obtain ⟨rfl, rfl⟩ := h; exact ⟨fun w => aIsDigit_any _ w, key _ _ Tryz.func116 (by decide) (by decide)⟩
    · simp at h
  · split at h
    · simp at h; obtain ⟨rfl, rfl⟩ := h; exact ⟨fun w => aIsUpper_any _ w, key _ _ Tryz.func159 (by decide) (by decide)⟩
    · simp at h
  · split at h
    · simp at h; obtain ⟨rfl, rfl⟩ := h; exact ⟨fun w => aIsVisible_any _ w, key _ _ Tryz.func78 (by decide) (by decide)⟩
    · simp at h
  · split at h
    · simp at h; obtain ⟨rfl, rfl⟩ := h; exact ⟨fun w => aIsBlank_any _ w, key _ _ Tryz.func108 (by decide) (by decide)⟩
    · simp at h
  · split at h
    · simp at h; obtain ⟨rfl, rfl⟩ := h; exact ⟨fun w => r1Lowercase_any _ w, key _ _ Tryz.func119 (by decide) (by decide)⟩
    · simp at h
  · split at h
    · simp at h; obtain ⟨rfl, rfl⟩ := h; exact ⟨fun w => r1Digit_any _ w, key _ _ Tryz.func76 (by decide) (by decide)⟩
    · simp at h
  · split at h
    · simp at h; obtain ⟨rfl, rfl⟩ := h; exact ⟨fun w => r1Uppercase_any _ w, key _ _ Tryz.func120 (by decide) (by decide)⟩
    · simp at h
  · split at h
    · simp at h; obtain ⟨rfl, rfl⟩ := h; exact ⟨fun w => r1Visible_any _ w, key _ _ Tryz.func70 (by decide) (by decide)⟩
    · simp at h
  · split at h
    · simp at h; obtain ⟨rfl, rfl⟩ := h; exact ⟨fun w => r1Blank_any _ w, key _ _ Tryz.func71 (by decide) (by decide)⟩
    · simp at h
  · split at h
    · simp at h; obtain ⟨rfl, rfl⟩ := h; exact ⟨fun w => misMinute_any _ w, key _ _ Tryz.func50 (by decide) (by decide)⟩
    · simp at h
  · split at h
    · simp at h; obtain ⟨rfl, rfl⟩ := h; exact ⟨fun w => r49minute_any _ w, key _ _ Tryz.func87 (by decide) (by decide)⟩
    · simp at h
  · split at h
    · simp at h; obtain ⟨rfl, rfl⟩ := h; exact ⟨fun w => aIsLetter_any _ w, key _ _ Tryz.func141 (by decide) (by decide)⟩
    · simp at h
  · split at h
    · simp at h; obtain ⟨rfl, rfl⟩ := h; exact ⟨fun w => gisPermitted_any _ w, key _ _ Tryz.func93 (by decide) (by decide)⟩
    · simp at h
  · simp at h

end Go.Proofs.YtmlmdljnfokebaaGreatDoor

/- Chapter 49, plain: users, words, squeezed texts, messages and their first errors. No program in sight. -/
namespace Go.Proofs.YtmlmdljnfokebaaGreatDoor
open Go.RowKit

/-! ### Runs of bytes -/
/-- The first place at or behind a whose byte is not of the class, or the text's end. -/
def SkipTo (p : Int → Bool) (s : ByteArray) (a i : Nat) : Prop := a ≤ i ∧ i ≤ s.size ∧ (∀ j, a ≤ j → j < i → p (at8 s j) = true) ∧ (i < s.size → p (at8 s i) = false)
theorem SkipTo.uniq {p : Int → Bool} {s : ByteArray} {a i k : Nat} (h : SkipTo p s a i) (g : SkipTo p s a k) : i = k := by
  obtain ⟨h1, h2, h3, h4⟩ := h
  obtain ⟨g1, g2, g3, g4⟩ := g
  rcases Nat.lt_trichotomy i k with h | h | h
  · have := g3 i h1 h; rw [h4 (by omega)] at this; cases this
  · exact h
  · have := h3 k g1 h; rw [g4 (by omega)] at this; cases this
def skipF (p : Int → Bool) (s : ByteArray) : Nat → Nat → Nat
  | 0, i => i
  | f + 1, i => if i < s.size ∧ p (at8 s i) = true then skipF p s f (i + 1) else i
theorem skipF_to (p : Int → Bool) (s : ByteArray) : ∀ (f i : Nat), i ≤ s.size → s.size - i ≤ f → SkipTo p s i (skipF p s f i)
  | 0, i, h, hf => ⟨Nat.le_refl _, h, fun j h1 h2 => by unfold skipF at h2; omega, fun h1 => by unfold skipF at h1; omega⟩
  | f + 1, i, h, hf => by
    unfold skipF
    split
    · rename_i hp
      obtain ⟨h1, h2, h3, h4⟩ := skipF_to p s f (i + 1) (by omega) (by omega)
      refine ⟨by omega, h2, fun j j1 j2 => ?_, h4⟩
      by_cases e : j = i
      · rw [e]; exact hp.2
      · exact h3 j (by omega) j2
    · rename_i hp
      refine ⟨Nat.le_refl _, h, fun j j1 j2 => by omega, fun hlt => ?_⟩
      cases hq : p (at8 s i) with
      | false => rfl
      | true => exact absurd ⟨hlt, hq⟩ hp
def skipN (p : Int → Bool) (s : ByteArray) (i : Nat) : Nat := skipF p s s.size i
theorem skipN_to (p : Int → Bool) (s : ByteArray) {i : Nat} (h : i ≤ s.size) : SkipTo p s i (skipN p s i) := skipF_to p s _ i h (by omega)

/-! ### Words -/
def blackB (c : Int) : Bool := !blankB c
def wordsF (s : ByteArray) : Nat → Nat → List ByteArray
  | 0, _ => []
  | f + 1, i => if i < s.size then
      (if skipN blankB s i < skipN blackB s (skipN blankB s i) then s.extract (skipN blankB s i) (skipN blackB s (skipN blankB s i)) :: wordsF s f (skipN blackB s (skipN blankB s i))
       else wordsF s f (skipN blackB s (skipN blankB s i)))
    else []
/-- The words of a text. -/
def words (s : ByteArray) : List ByteArray := wordsF s s.size 0
/-- Texts with a byte between them. -/
def joinT (c : UInt8) : List ByteArray → ByteArray
  | [] => ⟨#[]⟩
  | x :: r => r.foldl (fun a y => a ++ ⟨#[c]⟩ ++ y) x
theorem joinT_snoc (c : UInt8) {l : List ByteArray} (h : l ≠ []) (y : ByteArray) : joinT c (l ++ [y]) = joinT c l ++ ⟨#[c]⟩ ++ y := by
  cases l with
  | nil => exact absurd rfl h
  | cons x r => show (r ++ [y]).foldl _ x = _; rw [List.foldl_append]; rfl
def squeeze (s : ByteArray) : ByteArray := joinT 32 (words s)
def prtB (c : Int) : Bool := visB c || c == 32
def prtS (s : ByteArray) : Bool := (List.range s.size).all fun i => prtB (at8 s i)
/-- The offset of the first byte that can't be printed, or -1. -/
def prtN (s : ByteArray) : Int := if skipN prtB s 0 = s.size then -1 else (skipN prtB s 0 : Nat)

/-! ### Messages -/
def userC (c : Int) : Bool := lowerB c || digitB c || c == 45 || c == 95 || c == 46 || c == 43
def userB (s : ByteArray) : Bool := decide (s.size ≤ 40) && (List.range s.size).all fun i => userC (at8 s i)
theorem all_at {s : ByteArray} {p : Int → Bool} : ((List.range s.size).all fun i => p (at8 s i)) = true ↔ ∀ i, i < s.size → p (at8 s i) = true := by
  rw [List.all_eq_true]
  exact ⟨fun h i hi => h i (List.mem_range.2 hi), fun h i hi => h i (List.mem_range.1 hi)⟩
def siteE (s : ByteArray) : Int := (siteS s).2
/-- A message. -/
structure Ml where
  fu : ByteArray
  fs : ByteArray
  tu : ByteArray
  ts : ByteArray
  n : Int
  d : Int
  sj : ByteArray
  hops : List ByteArray
  bd : ByteArray
def subjE (s : ByteArray) : Int := if 200 < s.size then 5 else if prtS s = false then 6 else if squeeze s ≠ s then 3 else 0
def hopsE : List ByteArray → List ByteArray → Int
  | _, [] => 0
  | seen, h :: r => if siteE h ≠ 0 then siteE h else if Lib.containsS seen h = true then 24 else hopsE (seen ++ [h]) r
def envE (m : Ml) : Int :=
  if userB m.fu = false then 12 else if siteE m.fs ≠ 0 then siteE m.fs else if userB m.tu = false ∨ m.tu.size = 0 then 12 else if siteE m.ts ≠ 0 then siteE m.ts
  else if m.n < 0 ∨ 2147483647 < m.n then 2 else if minB m.d = false then 13 else 0
/-- The first error of a message, or 0. -/
def chkM (m : Ml) : Int :=
  if envE m ≠ 0 then envE m else if subjE m.sj ≠ 0 then subjE m.sj else if 16 < m.hops.length then 9 else if hopsE [] m.hops ≠ 0 then hopsE [] m.hops else if 32768 < m.bd.size then 5 else 0

end Go.Proofs.YtmlmdljnfokebaaGreatDoor

/- Rows of elements that can be read. Generic: no program, no condition. -/
namespace Go.Proofs.YtmlmdljnfokebaaGreatDoor
open Go.RowKit

/-- Elements that lie one behind the other. -/
def RowA {α : Type} (f : α → List Value) (L : Nat) (w : World) (p : Option Addr) (l : List α) : Prop := ∀ k y, l[k]? = some y → ∃ b o, p = some ⟨b, o, none⟩ ∧ AtL w b (o + k * L) (f y)
section
variable {α : Type} {f : α → List Value} {L : Nat} {w w' : World} {p : Option Addr} {l : List α}
theorem RowA.k0 (h : RowA f L w p l) (hk : K0 w w') : RowA f L w' p l := fun k y hy => by
  obtain ⟨b, o, h1, h2⟩ := h k y hy
  exact ⟨b, o, h1, h2.k0 hk⟩
theorem RowA.get (h : RowA f L w p l) {k : Nat} (hk : k < l.length) : ∃ y b o, l[k]? = some y ∧ p = some ⟨b, o, none⟩ ∧ AtL w b (o + k * L) (f y) := by
  obtain ⟨y, hy⟩ : ∃ y, l[k]? = some y := ⟨_, List.getElem?_eq_getElem hk⟩
  obtain ⟨b, o, h1, h2⟩ := h k y hy
  exact ⟨y, b, o, hy, h1, h2⟩
theorem RowA.own {base : Nat} {e : TypeId} {n c : Nat} (h : w.ownsRow base e L (.slice p n c) n (l.flatMap f)) (hl : ∀ y, (f y).length = L) (h0 : 0 < L) : RowA f L w p l := fun k y hy => by
  obtain ⟨g, h1, h2⟩ := own_at f h (fun y _ => hl y) h0 hy
  exact ⟨g, 0, h1, h2⟩
theorem RowA.nil : RowA f L w p [] := fun k y hy => by simp at hy
end
theorem AtL.cell {w : World} {b o : Nat} {cs : List Value} (h : AtL w b o cs) {j : Nat} {v : Value} (hj : cs[j]? = some v) : w.cell? ⟨b, o + j, none⟩ = some v := At_get _ _ h.h j v hj
theorem AtL.one {w : World} {b o : Nat} {v : Value} (h : AtL w b o [v]) : w.cell? ⟨b, o, none⟩ = some v := by simpa using h.cell (j := 0) rfl
theorem StrP.get {w : World} {p : Option Addr} {zs : List ByteArray} (h : StrP w p zs) {k : Nat} (hk : k < zs.length) : ∃ z b o, zs[k]? = some z ∧ p = some ⟨b, o, none⟩ ∧ w.cell? ⟨b, o + k, none⟩ = some (.string z) := by
  obtain ⟨y, hy⟩ : ∃ y, zs[k]? = some y := ⟨_, List.getElem?_eq_getElem hk⟩
  obtain ⟨b, o, h1, h2⟩ := h k y hy
  exact ⟨y, b, o, hy, h1, h2⟩
theorem StrP.k0 {w w' : World} {p : Option Addr} {zs : List ByteArray} (h : StrP w p zs) (hk : K0 w w') : StrP w' p zs := h.kp hk (fun _ _ _ h => h)
theorem inc64 {i : Nat} (h : i < 9223372036854775807) : IntKind.i64.wrap ((i : Int) + 1) = ((i + 1 : Nat) : Int) := by rw [wr64 (by omega) (by omega)]; omega
theorem take_snoc {α : Type} {l : List α} {i : Nat} {x : α} (h : l[i]? = some x) : l.take (i + 1) = l.take i ++ [x] := by rw [List.take_add_one, h]; rfl
/-- A block of the function's own is written. -/
theorem put_k0 {w w1 w2 : World} {b o : Nat} {cs : List Value} (h : K0 w w1) (hp : PutB w1 b o cs w2) (hb : w.heap.size ≤ b) : K0 w w2 := Kp.fresh h hp.kp (fun i hi e => by omega)
theorem put_kept {w1 w2 : World} {b o : Nat} {cs : List Value} {l : List Nat} (hp : PutB w1 b o cs w2) (hb : ∀ n ∈ l, n ≠ b) : KeptL l w1 w2 := .of_kp hp.kp (fun n hn e => hb n hn e)
theorem PutB.blk {w1 w2 : World} {b o : Nat} {cs : List Value} (hp : PutB w1 b o cs w2) {n : Nat} {x : Obj} (h : w1.heap[n]? = some x) (hb : n ≠ b) : w2.heap[n]? = some x := hp.kp.blk h (fun e => hb e)
end Go.Proofs.YtmlmdljnfokebaaGreatDoor

/- The formulas of functions by the symbolic evaluator, and that each gives the call's contract. Written by a program (gen.py). No condition. -/
namespace Go.Proofs.YtmlmdljnfokebaaGreatDoor
set_option maxRecDepth 100000
set_option linter.unusedVariables false

def VC_site (s : ByteArray) (w : World) (R : Ending → World → Prop) : Prop :=
 bsp (s.toList == []) (R (Ending.returned (Value.tuple #[Value.int IntKind.i64 0, Value.int IntKind.i64 4])) w)
 (bsp (decide ((↑s.size : Int) > 30))
 (R (Ending.returned (Value.tuple #[Value.int IntKind.i64 30, Value.int IntKind.i64 5])) w)
 (∃ (I : List Value → World → Prop),
 ∃ (m : List Value → World → Nat),
 I [Value.int IntKind.i64 0] w ∧
 ∀ (x : Int) (w' : World),
 I [Value.int IntKind.i64 x] w' →
 bsp (decide (x < (↑s.size : Int)))
 ((0 ≤ x ∧ x < (↑s.size : Int)) ∧
 bsp (!permB (at8 s x.toNat))
 (R (Ending.returned (Value.tuple #[Value.int IntKind.i64 x, Value.int IntKind.i64 6])) w')
 (I [Value.int IntKind.i64 (IntKind.i64.wrap (x + 1))] w' ∧
 m [Value.int IntKind.i64 (IntKind.i64.wrap (x + 1))] w' < m [Value.int IntKind.i64 x] w'))
 (∃ (I : List Value → World → Prop),
 ∃ (m : List Value → World → Nat),
 I [Value.int IntKind.i64 0] w' ∧
 ∀ (x : Int) (w' : World),
 I [Value.int IntKind.i64 x] w' →
 bsp (decide (x < (↑s.size : Int)))
 ((0 ≤ x ∧ x < (↑s.size : Int)) ∧
 gimp (!(x == 0 && !lowerB (at8 s x.toNat)) && (decide (x > 0) && at8 s x.toNat == 46))
 (0 ≤ IntKind.i64.wrap (x - 1) ∧ IntKind.i64.wrap (x - 1) < (↑s.size : Int)) ∧
 bsp
 (x == 0 && !lowerB (at8 s x.toNat) ||
 decide (x > 0) && at8 s x.toNat == 46 && at8 s (IntKind.i64.wrap (x - 1)).toNat == 46 ||
 x == IntKind.i64.wrap ((↑s.size : Int) - 1) && (at8 s x.toNat == 45 || at8 s x.toNat == 46))
 (R (Ending.returned (Value.tuple #[Value.int IntKind.i64 x, Value.int IntKind.i64 12])) w')
 (I [Value.int IntKind.i64 (IntKind.i64.wrap (x + 1))] w' ∧
 m [Value.int IntKind.i64 (IntKind.i64.wrap (x + 1))] w' < m [Value.int IntKind.i64 x] w'))
 (R (Ending.returned (Value.tuple #[Value.int IntKind.i64 0, Value.int IntKind.i64 0])) w'))))
theorem vc_site (s : ByteArray) (w : World) (R : Ending → World → Prop) (h : VC_site s w R) : Calls Tryz.prog 49 ([Value.string
    s] : List Value).toArray w R := by
  have e : execR { P := Tryz.prog, loops := [(6, [(17, Ck.int IntKind.i64)]), (12, [(29, Ck.int IntKind.i64)])], pur := purM, tails := [], joins := [], boxes := [] } Tryz.f49.results.toList R (Tryz.f49.body.getD .skip) (initF [Value.string
    s] (Tryz.f49.ntmps - ([Value.string s] : List Value).length)) w = VC_site s w R := by kernel_rfl
  have hb : Tryz.f49.body = some (Tryz.f49.body.getD .skip) := by kernel_rfl
  exact calls_of_exec' (P := Tryz.prog) (fn := Tryz.f49) (c := Tryz.f49.body.getD .skip) (args := [Value.string
    s]) (w := w) (R := R) purM_ok Tryz.func49 hb e h

def VC_ref11Site (s : ByteArray) (w : World) (R : Ending → World → Prop) : Prop :=
 bsp (s.toList == []) (R (Ending.returned (Value.tuple #[Value.int IntKind.i64 0, Value.int IntKind.i64 4])) w)
 (bsp (decide ((↑s.size : Int) > 30))
 (R (Ending.returned (Value.tuple #[Value.int IntKind.i64 30, Value.int IntKind.i64 5])) w)
 (∃ (I : List Value → World → Prop),
 ∃ (m : List Value → World → Nat),
 I [Value.int IntKind.i64 0] w ∧
 ∀ (x : Int) (w' : World),
 I [Value.int IntKind.i64 x] w' →
 bsp (decide (x < (↑s.size : Int)))
 ((0 ≤ x ∧ x < (↑s.size : Int)) ∧
 bsp
 (!(decide (at8 s x.toNat ≥ 97) && decide (at8 s x.toNat ≤ 122) ||
 decide (at8 s x.toNat ≥ 48) && decide (at8 s x.toNat ≤ 57) ||
 at8 s x.toNat == 45 ||
 at8 s x.toNat == 46))
 (R (Ending.returned (Value.tuple #[Value.int IntKind.i64 x, Value.int IntKind.i64 6])) w')
 (I [Value.int IntKind.i64 (IntKind.i64.wrap (x + 1))] w' ∧
 m [Value.int IntKind.i64 (IntKind.i64.wrap (x + 1))] w' < m [Value.int IntKind.i64 x] w'))
 (∃ (I : List Value → World → Prop),
 ∃ (m : List Value → World → Nat),
 I [Value.int IntKind.i64 0] w' ∧
 ∀ (x : Int) (w' : World),
 I [Value.int IntKind.i64 x] w' →
 bsp (decide (x < (↑s.size : Int)))
 ((0 ≤ x ∧ x < (↑s.size : Int)) ∧
 gimp
 (!(x == 0 && !(decide (at8 s x.toNat ≥ 97) && decide (at8 s x.toNat ≤ 122))) &&
 (decide (x > 0) && at8 s x.toNat == 46))
 (0 ≤ IntKind.i64.wrap (x - 1) ∧ IntKind.i64.wrap (x - 1) < (↑s.size : Int)) ∧
 bsp
 (x == 0 && !(decide (at8 s x.toNat ≥ 97) && decide (at8 s x.toNat ≤ 122)) ||
 decide (x > 0) && at8 s x.toNat == 46 && at8 s (IntKind.i64.wrap (x - 1)).toNat == 46 ||
 x == IntKind.i64.wrap ((↑s.size : Int) - 1) && (at8 s x.toNat == 45 || at8 s x.toNat == 46))
 (R (Ending.returned (Value.tuple #[Value.int IntKind.i64 x, Value.int IntKind.i64 12])) w')
 (I [Value.int IntKind.i64 (IntKind.i64.wrap (x + 1))] w' ∧
 m [Value.int IntKind.i64 (IntKind.i64.wrap (x + 1))] w' < m [Value.int IntKind.i64 x] w'))
 (R (Ending.returned (Value.tuple #[Value.int IntKind.i64 0, Value.int IntKind.i64 0])) w'))))
theorem vc_ref11Site (s : ByteArray) (w : World) (R : Ending → World → Prop) (h : VC_ref11Site s w R) : Calls Tryz.prog 121 ([Value.string
    s] : List Value).toArray w R := by
  have e : execR { P := Tryz.prog, loops := [(6, [(4, Ck.int IntKind.i64)]), (12, [(6, Ck.int IntKind.i64)])], pur := purM, tails := [], joins := [], boxes := [] } Tryz.f121.results.toList R (Tryz.f121.body.getD .skip) (initF [Value.string
    s] (Tryz.f121.ntmps - ([Value.string s] : List Value).length)) w = VC_ref11Site s w R := by kernel_rfl
  have hb : Tryz.f121.body = some (Tryz.f121.body.getD .skip) := by kernel_rfl
  exact calls_of_exec' (P := Tryz.prog) (fn := Tryz.f121) (c := Tryz.f121.body.getD .skip) (args := [Value.string
    s]) (w := w) (R := R) purM_ok Tryz.func121 hb e h

def VC_skip (s : ByteArray) (k : Int) (f : FuncId) (fa : Array Value) (fb : Array Value) (w : World) (R : Ending → World → Prop) : Prop :=
 ∃ (I : List Value → World → Prop),
 ∃ (m : List Value → World → Nat),
 I [Value.int IntKind.i64 k] w ∧
 ∀ (x : Int) (w' : World),
 I [Value.int IntKind.i64 x] w' →
 gimp (decide (x < (↑s.size : Int))) (0 ≤ x ∧ x < (↑s.size : Int)) ∧
 bsp (decide (x < (↑s.size : Int)))
 (∃ (f_1 : Nat),
 ∃ (a : Array Value),
 ∃ (b : Array Value),
 Value.func (Fn.func f) fa fb = Value.func (Fn.func f_1) a b ∧
 okFn Tryz.prog f_1 = true ∧
 CallsS Tryz.prog f_1 (appA a [Value.int IntKind.u8 (at8 s x.toNat)] b) w' fun (e : Ending) (w'_1 : World) =>
 ∃ (x_1 : Bool),
 e = Ending.returned (Value.bool x_1) ∧
 KeptL [] w' w'_1 ∧
 bsp (true && x_1)
 (I [Value.int IntKind.i64 (IntKind.i64.wrap (x + 1))] w'_1 ∧
 m [Value.int IntKind.i64 (IntKind.i64.wrap (x + 1))] w'_1 < m [Value.int IntKind.i64 x] w')
 (R (Ending.returned (Value.int IntKind.i64 x)) w'_1))
 (KeptL [] w' w' ∧ R (Ending.returned (Value.int IntKind.i64 x)) w')
theorem vc_skip (s : ByteArray) (k : Int) (f : FuncId) (fa : Array Value) (fb : Array Value) (w : World) (R : Ending → World → Prop) (h : VC_skip s k f fa fb w R) : Calls Tryz.prog 115 ([Value.string
    s,
  Value.int IntKind.i64 k, Value.func (Fn.func f) fa fb] : List Value).toArray w R := by
  have e : execR2 { P := Tryz.prog, loops := [(1, [(1, Ck.int IntKind.i64)])], pur := purM, tails := [], joins := [], boxes := [] } Tryz.f115.results.toList R (Tryz.f115.body.getD .skip) (initF [Value.string
    s,
  Value.int IntKind.i64 k,
  Value.func (Fn.func f) fa
    fb] (Tryz.f115.ntmps - ([Value.string s, Value.int IntKind.i64 k,
  Value.func (Fn.func f) fa fb] : List Value).length)) w = VC_skip s k f fa fb w R := by kernel_rfl
  have hb : Tryz.f115.body = some (Tryz.f115.body.getD .skip) := by kernel_rfl
  exact calls_of_exec2' (P := Tryz.prog) (fn := Tryz.f115) (c := Tryz.f115.body.getD .skip) (args := [Value.string s,
  Value.int IntKind.i64 k, Value.func (Fn.func f) fa fb]) (w := w) (R := R) purM_ok Tryz.func115 hb e h

def VC_wordsC (x : Int) (y : Int) (b : Nat) (o : Nat) (b1 : Nat) (o1 : Nat) (w : World) (R : Ending → World → Prop) : Prop :=
 bsp (decide (y > x))
 (∀ (W : World),
 Loc w.heap.size [] w W →
 ∃ (S : World → Prop),
 S W ∧
 ∃ (p : Option Addr),
 ∃ (n : Nat),
 ∃ (c : Nat),
 (∀ (w' : World), S w' → w'.cell? (Addr.mk b o none) = some (Value.slice p n c)) ∧
 ∃ (x_1 : ByteArray),
 (∀ (w' : World), S w' → w'.cell? (Addr.mk b1 o1 none) = some (Value.string x_1)) ∧
 (0 ≤ x ∧ x ≤ y ∧ y ≤ (↑x_1.size : Int)) ∧
 ∀ (n_1 : Nat) (w1 : World),
 NewB W (Obj.cells #[Value.string (x_1.extract x.toNat y.toNat)] 9) n_1 w1 →
 S w1 ∧
 ∃ (base : Nat),
 ∃ (xs : List Value),
 ∃ (news : List Value),
 w1.ownsRow base 9 1 (Value.slice p n c) n xs ∧
 news.length = 1 ∧
 SrcP w1 (some (Addr.mk n_1 0 none)) news ∧
 n + 1 ≤ 9223372036854775807 ∧
 (n + 1) * 16 ≤ 140737488355328 ∧
 base ≤ w1.heap.size ∧
 ∀ (p' : Option Addr) (c' : Nat) (w' : World),
 w'.ownsRow base 9 1 (Value.slice p' (n + 1) c') (n + 1) (xs ++ news) →
 w1.grownBy w' (Value.slice p n c).ownBlock →
 (n + 1 ≤ c → p' = p ∧ c' = c) →
 ((∃ (u : Value), w'.cell? (Addr.mk b o none) = some u) ∧
 w'.frozen? (Addr.mk b o none) = false) ∧
 ∀ (w1 : World),
 PutB w' b o [Value.slice p' (n + 1) c'] w1 →
 KeptL [] W w1 ∧ R (Ending.returned (Value.tuple #[])) w1)
 (R (Ending.returned (Value.tuple #[])) w)
theorem vc_wordsC (x : Int) (y : Int) (b : Nat) (o : Nat) (b1 : Nat) (o1 : Nat) (w : World) (R : Ending → World → Prop) (h : VC_wordsC x y b o b1 o1 w R) : Calls Tryz.prog 117 ([Value.int
    IntKind.i64 x,
  Value.int IntKind.i64 y, Value.pointer (some { block := b, off := o }),
  Value.pointer (some { block := b1, off := o1 })] : List Value).toArray w R := by
  have e : execR2 { P := Tryz.prog, loops := [], pur := purM, tails := [(1, 5)], joins := [], boxes := [] } Tryz.f117.results.toList R (Tryz.f117.body.getD .skip) (initF [Value.int
    IntKind.i64 x,
  Value.int IntKind.i64 y, Value.pointer (some { block := b, off := o }),
  Value.pointer
    (some
      { block := b1,
        off :=
          o1 })] (Tryz.f117.ntmps - ([Value.int IntKind.i64 x, Value.int IntKind.i64 y,
  Value.pointer (some { block := b, off := o }),
  Value.pointer
    (some { block := b1, off := o1 })] : List Value).length)) w = VC_wordsC x y b o b1 o1 w R := by kernel_rfl
  have hb : Tryz.f117.body = some (Tryz.f117.body.getD .skip) := by kernel_rfl
  exact calls_of_exec2' (P := Tryz.prog) (fn := Tryz.f117) (c := Tryz.f117.body.getD .skip) (args := [Value.int
    IntKind.i64 x,
  Value.int IntKind.i64 y, Value.pointer (some { block := b, off := o }),
  Value.pointer (some { block := b1, off := o1 })]) (w := w) (R := R) purM_ok Tryz.func117 hb e h

def VC_wordsD (c : Int) (w : World) (R : Ending → World → Prop) : Prop :=
 R (Ending.returned (Value.bool !blankB c)) w
theorem vc_wordsD (c : Int) (w : World) (R : Ending → World → Prop) (h : VC_wordsD c w R) : Calls Tryz.prog 118 ([Value.int
    IntKind.u8 c] : List Value).toArray w R := by
  have e : execR2 { P := Tryz.prog, loops := [], pur := purM, tails := [], joins := [], boxes := [] } Tryz.f118.results.toList R (Tryz.f118.body.getD .skip) (initF [Value.int
    IntKind.u8
    c] (Tryz.f118.ntmps - ([Value.int IntKind.u8 c] : List Value).length)) w = VC_wordsD c w R := by kernel_rfl
  have hb : Tryz.f118.body = some (Tryz.f118.body.getD .skip) := by kernel_rfl
  exact calls_of_exec2' (P := Tryz.prog) (fn := Tryz.f118) (c := Tryz.f118.body.getD .skip) (args := [Value.int
    IntKind.u8 c]) (w := w) (R := R) purM_ok Tryz.func118 hb e h

def VC_words (s : ByteArray) (w : World) (R : Ending → World → Prop) : Prop :=
 ∀ (n n_1 : Nat) (W : World),
 Loc w.heap.size [Blk.mk n_1 24 [Value.slice none 0 0] 2, Blk.mk n 9 [Value.string s] 2] w W →
 ∃ (I : List Value → World → Prop),
 ∃ (m : List Value → World → Nat),
 I [Value.int IntKind.i64 0] W ∧
 ∀ (x : Int) (w' : World),
 I [Value.int IntKind.i64 x] w' →
 ∃ (x_1 : ByteArray),
 w'.cell? (Addr.mk n 0 none) = some (Value.string x_1) ∧
 bsp (decide (x < (↑x_1.size : Int)))
 (∃ (x_2 : ByteArray),
 w'.cell? (Addr.mk n 0 none) = some (Value.string x_2) ∧
 CallsS Tryz.prog 115 #[Value.string x_2, Value.int IntKind.i64 x, Value.func (Fn.func 108) #[] #[]] w'
 fun (e : Ending) (w'_1 : World) =>
 ∃ (x_3 : Int),
 e = Ending.returned (Value.int IntKind.i64 x_3) ∧
 KeptL [] w' w'_1 ∧
 ∃ (x_4 : ByteArray),
 w'_1.cell? (Addr.mk n 0 none) = some (Value.string x_4) ∧
 CallsS Tryz.prog 115 #[Value.string x_4, Value.int IntKind.i64 x_3, Value.func (Fn.func 118) #[] #[]]
 w'_1 fun (e : Ending) (w'_2 : World) =>
 ∃ (x_5 : Int),
 e = Ending.returned (Value.int IntKind.i64 x_5) ∧
 KeptL [] w'_1 w'_2 ∧
 ∃ (f : Nat),
 ∃ (a : Array Value),
 ∃ (b : Array Value),
 Value.func (Fn.func 117) #[]
 #[Value.pointer (some (Addr.mk n_1 0 none)), Value.pointer (some (Addr.mk n 0 none))] =
 Value.func (Fn.func f) a b ∧
 okFn Tryz.prog f = true ∧
 CallsS Tryz.prog f (appA a [Value.int IntKind.i64 x_3, Value.int IntKind.i64 x_5] b) w'_2
 fun (e : Ending) (w'_3 : World) =>
 e = Ending.returned (Value.tuple #[]) ∧
 KeptL [] w'_2 w'_3 ∧
 I [Value.int IntKind.i64 x_5] w'_3 ∧
 m [Value.int IntKind.i64 x_5] w'_3 < m [Value.int IntKind.i64 x] w')
 (∃ (p : Option Addr),
 ∃ (n : Nat),
 ∃ (c : Nat),
 w'.cell? (Addr.mk n_1 0 none) = some (Value.slice p n c) ∧ R (Ending.returned (Value.slice p n c)) w')
theorem vc_words (s : ByteArray) (w : World) (R : Ending → World → Prop) (h : VC_words s w R) : Calls Tryz.prog 69 ([Value.string
    s] : List Value).toArray w R := by
  have e : execR2 { P := Tryz.prog, loops := [(4, [(5, Ck.int IntKind.i64)])], pur := purM, tails := [], joins := [], boxes := [] } Tryz.f69.results.toList R (Tryz.f69.body.getD .skip) (initF [Value.string
    s] (Tryz.f69.ntmps - ([Value.string s] : List Value).length)) w = VC_words s w R := by kernel_rfl
  have hb : Tryz.f69.body = some (Tryz.f69.body.getD .skip) := by kernel_rfl
  exact calls_of_exec2' (P := Tryz.prog) (fn := Tryz.f69) (c := Tryz.f69.body.getD .skip) (args := [Value.string
    s]) (w := w) (R := R) purM_ok Tryz.func69 hb e h

def VC_squeeze (s : ByteArray) (w : World) (R : Ending → World → Prop) : Prop :=
 CallsS Tryz.prog 69 #[Value.string s] w fun (e : Ending) (w' : World) =>
 ∃ (p : Option Addr),
 ∃ (n : Nat),
 ∃ (c : Nat),
 e = Ending.returned (Value.slice p n c) ∧
 KeptL [] w w' ∧
 CallsS Tryz.prog 42 #[Value.slice p n c, Value.string (ByteArray.mk #[32])] w' fun (e : Ending) (w'_1 : World) =>
 ∃ (x : ByteArray),
 e = Ending.returned (Value.string x) ∧ KeptL [] w' w'_1 ∧ R (Ending.returned (Value.string x)) w'_1
theorem vc_squeeze (s : ByteArray) (w : World) (R : Ending → World → Prop) (h : VC_squeeze s w R) : Calls Tryz.prog 79 ([Value.string
    s] : List Value).toArray w R := by
  have e : execR2 { P := Tryz.prog, loops := [], pur := purM, tails := [], joins := [], boxes := [] } Tryz.f79.results.toList R (Tryz.f79.body.getD .skip) (initF [Value.string
    s] (Tryz.f79.ntmps - ([Value.string s] : List Value).length)) w = VC_squeeze s w R := by kernel_rfl
  have hb : Tryz.f79.body = some (Tryz.f79.body.getD .skip) := by kernel_rfl
  exact calls_of_exec2' (P := Tryz.prog) (fn := Tryz.f79) (c := Tryz.f79.body.getD .skip) (args := [Value.string
    s]) (w := w) (R := R) purM_ok Tryz.func79 hb e h

def VC_prtC (c : Int) (w : World) (R : Ending → World → Prop) : Prop :=
 R (Ending.returned (Value.bool (visB c || c == 32))) w
theorem vc_prtC (c : Int) (w : World) (R : Ending → World → Prop) (h : VC_prtC c w R) : Calls Tryz.prog 161 ([Value.int
    IntKind.u8 c] : List Value).toArray w R := by
  have e : execR2 { P := Tryz.prog, loops := [], pur := purM, tails := [], joins := [], boxes := [] } Tryz.f161.results.toList R (Tryz.f161.body.getD .skip) (initF [Value.int
    IntKind.u8 c] (Tryz.f161.ntmps - ([Value.int IntKind.u8 c] : List Value).length)) w = VC_prtC c w R := by kernel_rfl
  have hb : Tryz.f161.body = some (Tryz.f161.body.getD .skip) := by kernel_rfl
  exact calls_of_exec2' (P := Tryz.prog) (fn := Tryz.f161) (c := Tryz.f161.body.getD .skip) (args := [Value.int
    IntKind.u8 c]) (w := w) (R := R) purM_ok Tryz.func161 hb e h

def VC_printable (s : ByteArray) (w : World) (R : Ending → World → Prop) : Prop :=
 CallsS Tryz.prog 115 #[Value.string s, Value.int IntKind.i64 0, Value.func (Fn.func 161) #[] #[]] w
 fun (e : Ending) (w' : World) =>
 ∃ (x : Int),
 e = Ending.returned (Value.int IntKind.i64 x) ∧
 KeptL [] w w' ∧
 bsp (x == (↑s.size : Int)) (R (Ending.returned (Value.int IntKind.i64 (-1))) w')
 (R (Ending.returned (Value.int IntKind.i64 x)) w')
theorem vc_printable (s : ByteArray) (w : World) (R : Ending → World → Prop) (h : VC_printable s w R) : Calls Tryz.prog 149 ([Value.string
    s] : List Value).toArray w R := by
  have e : execR2 { P := Tryz.prog, loops := [], pur := purM, tails := [], joins := [], boxes := [] } Tryz.f149.results.toList R (Tryz.f149.body.getD .skip) (initF [Value.string
    s] (Tryz.f149.ntmps - ([Value.string s] : List Value).length)) w = VC_printable s w R := by kernel_rfl
  have hb : Tryz.f149.body = some (Tryz.f149.body.getD .skip) := by kernel_rfl
  exact calls_of_exec2' (P := Tryz.prog) (fn := Tryz.f149) (c := Tryz.f149.body.getD .skip) (args := [Value.string
    s]) (w := w) (R := R) purM_ok Tryz.func149 hb e h

def VC_digits (x : Int) (w : World) (R : Ending → World → Prop) : Prop :=
 CallsS Tryz.prog 85 #[Value.int IntKind.i64 x] w fun (e : Ending) (w' : World) =>
 ∃ (x : ByteArray), e = Ending.returned (Value.string x) ∧ KeptL [] w w' ∧ R (Ending.returned (Value.string x)) w'
theorem vc_digits (x : Int) (w : World) (R : Ending → World → Prop) (h : VC_digits x w R) : Calls Tryz.prog 41 ([Value.int
    IntKind.i64 x] : List Value).toArray w R := by
  have e : execR2 { P := Tryz.prog, loops := [], pur := purM, tails := [], joins := [], boxes := [] } Tryz.f41.results.toList R (Tryz.f41.body.getD .skip) (initF [Value.int
    IntKind.i64
    x] (Tryz.f41.ntmps - ([Value.int IntKind.i64 x] : List Value).length)) w = VC_digits x w R := by kernel_rfl
  have hb : Tryz.f41.body = some (Tryz.f41.body.getD .skip) := by kernel_rfl
  exact calls_of_exec2' (P := Tryz.prog) (fn := Tryz.f41) (c := Tryz.f41.body.getD .skip) (args := [Value.int
    IntKind.i64 x]) (w := w) (R := R) purM_ok Tryz.func41 hb e h

def VC_r1words (s : ByteArray) (w : World) (R : Ending → World → Prop) : Prop :=
 ∃ (I : List Value → World → Prop),
 ∃ (m : List Value → World → Nat),
 I [Value.int IntKind.i64 0, Value.int IntKind.i64 (-1), Value.slice none 0 0] w ∧
 ∀ (x x_1 : Int) (p : Option Addr) (n c : Nat) (w' : World),
 I [Value.int IntKind.i64 x, Value.int IntKind.i64 x_1, Value.slice p n c] w' →
 bsp (decide (x ≤ (↑s.size : Int)))
 (gimp (decide (x < (↑s.size : Int))) (0 ≤ x ∧ x < (↑s.size : Int)) ∧
 bsp (decide (x < (↑s.size : Int)) && !blankB (at8 s x.toNat))
 (bsp (decide (x_1 < 0))
 (I [Value.int IntKind.i64 (IntKind.i64.wrap (x + 1)), Value.int IntKind.i64 x, Value.slice p n c] w' ∧
 m [Value.int IntKind.i64 (IntKind.i64.wrap (x + 1)), Value.int IntKind.i64 x, Value.slice p n c] w' <
 m [Value.int IntKind.i64 x, Value.int IntKind.i64 x_1, Value.slice p n c] w')
 (I [Value.int IntKind.i64 (IntKind.i64.wrap (x + 1)), Value.int IntKind.i64 x_1, Value.slice p n c] w' ∧
 m [Value.int IntKind.i64 (IntKind.i64.wrap (x + 1)), Value.int IntKind.i64 x_1, Value.slice p n c] w' <
 m [Value.int IntKind.i64 x, Value.int IntKind.i64 x_1, Value.slice p n c] w'))
 (bsp (decide (x_1 ≥ 0))
 ((0 ≤ x_1 ∧ x_1 ≤ x ∧ x ≤ (↑s.size : Int)) ∧
 ∀ (n_1 : Nat) (W : World),
 Loc w.heap.size [Blk.mk n_1 9 [Value.string (s.extract x_1.toNat x.toNat)] 2] w' W →
 ∃ (base : Nat),
 ∃ (xs : List Value),
 W.ownsRow base 9 1 (Value.slice p n c) n xs ∧
 n + 1 ≤ 9223372036854775807 ∧
 (n + 1) * 16 ≤ 140737488355328 ∧
 base ≤ W.heap.size ∧
 ∀ (p' : Option Addr) (c' : Nat) (w'_1 : World),
 w'_1.ownsRow base 9 1 (Value.slice p' (n + 1) c') (n + 1)
 (xs ++ [Value.string (s.extract x_1.toNat x.toNat)]) →
 W.grownBy w'_1 (Value.slice p n c).ownBlock →
 (n + 1 ≤ c → p' = p ∧ c' = c) →
 KeptL [] W w'_1 ∧
 I
 [Value.int IntKind.i64 (IntKind.i64.wrap (x + 1)), Value.int IntKind.i64 (-1),
 Value.slice p' (n + 1) c']
 w'_1 ∧
 m
 [Value.int IntKind.i64 (IntKind.i64.wrap (x + 1)), Value.int IntKind.i64 (-1),
 Value.slice p' (n + 1) c']
 w'_1 <
 m [Value.int IntKind.i64 x, Value.int IntKind.i64 x_1, Value.slice p n c] w')
 (I [Value.int IntKind.i64 (IntKind.i64.wrap (x + 1)), Value.int IntKind.i64 x_1, Value.slice p n c] w' ∧
 m [Value.int IntKind.i64 (IntKind.i64.wrap (x + 1)), Value.int IntKind.i64 x_1, Value.slice p n c] w' <
 m [Value.int IntKind.i64 x, Value.int IntKind.i64 x_1, Value.slice p n c] w')))
 (R (Ending.returned (Value.slice p n c)) w')
theorem vc_r1words (s : ByteArray) (w : World) (R : Ending → World → Prop) (h : VC_r1words s w R) : Calls Tryz.prog 37 ([Value.string
    s] : List Value).toArray w R := by
  have e : execR2 { P := Tryz.prog, loops := [(4, [(5, Ck.int IntKind.i64), (4, Ck.int IntKind.i64), (3, Ck.slice)])], pur := purM, tails := [], joins := [], boxes := [] } Tryz.f37.results.toList R (Tryz.f37.body.getD .skip) (initF [Value.string
    s] (Tryz.f37.ntmps - ([Value.string s] : List Value).length)) w = VC_r1words s w R := by kernel_rfl
  have hb : Tryz.f37.body = some (Tryz.f37.body.getD .skip) := by kernel_rfl
  exact calls_of_exec2' (P := Tryz.prog) (fn := Tryz.f37) (c := Tryz.f37.body.getD .skip) (args := [Value.string
    s]) (w := w) (R := R) purM_ok Tryz.func37 hb e h

def VC_r1squeeze (s : ByteArray) (w : World) (R : Ending → World → Prop) : Prop :=
 CallsS Tryz.prog 37 #[Value.string s] w fun (e : Ending) (w' : World) =>
 ∃ (p : Option Addr),
 ∃ (n : Nat),
 ∃ (c : Nat),
 e = Ending.returned (Value.slice p n c) ∧
 KeptL [] w w' ∧
 ∃ (I : List Value → World → Prop),
 ∃ (m : List Value → World → Nat),
 I [Value.int IntKind.i64 0, Value.string (ByteArray.mk #[])] w' ∧
 ∀ (x : Int) (x_1 : ByteArray) (w' : World),
 I [Value.int IntKind.i64 x, Value.string x_1] w' →
 bsp (decide (x < (↑n : Int)))
 (bsp (decide (x > 0))
 ((9223372036854775807 - (↑(x_1.size + (ByteArray.mk #[32]).size) : Int)).NonNeg ∧
 nn true p fun (b o : Nat) =>
 (0 ≤ x ∧ x < (↑n : Int)) ∧
 ∃ (x_2 : ByteArray),
 w'.cell? (Addr.mk b (o + x.toNat) none) = some (Value.string x_2) ∧
 (9223372036854775807 - (↑((x_1 ++ ByteArray.mk #[32]).size + x_2.size) : Int)).NonNeg ∧
 I [Value.int IntKind.i64 (IntKind.i64.wrap (x + 1)), Value.string (x_1 ++ ByteArray.mk #[32] ++ x_2)]
 w' ∧
 m
 [Value.int IntKind.i64 (IntKind.i64.wrap (x + 1)),
 Value.string (x_1 ++ ByteArray.mk #[32] ++ x_2)]
 w' <
 m [Value.int IntKind.i64 x, Value.string x_1] w')
 (nn true p fun (b o : Nat) =>
 (0 ≤ x ∧ x < (↑n : Int)) ∧
 ∃ (x_2 : ByteArray),
 w'.cell? (Addr.mk b (o + x.toNat) none) = some (Value.string x_2) ∧
 (9223372036854775807 - (↑(x_1.size + x_2.size) : Int)).NonNeg ∧
 I [Value.int IntKind.i64 (IntKind.i64.wrap (x + 1)), Value.string (x_1 ++ x_2)] w' ∧
 m [Value.int IntKind.i64 (IntKind.i64.wrap (x + 1)), Value.string (x_1 ++ x_2)] w' <
 m [Value.int IntKind.i64 x, Value.string x_1] w'))
 (R (Ending.returned (Value.string x_1)) w')
theorem vc_r1squeeze (s : ByteArray) (w : World) (R : Ending → World → Prop) (h : VC_r1squeeze s w R) : Calls Tryz.prog 128 ([Value.string
    s] : List Value).toArray w R := by
  have e : execR2 { P := Tryz.prog, loops := [(4, [(5, Ck.int IntKind.i64), (3, Ck.str)])], pur := purM, tails := [], joins := [], boxes := [] } Tryz.f128.results.toList R (Tryz.f128.body.getD .skip) (initF [Value.string
    s] (Tryz.f128.ntmps - ([Value.string s] : List Value).length)) w = VC_r1squeeze s w R := by kernel_rfl
  have hb : Tryz.f128.body = some (Tryz.f128.body.getD .skip) := by kernel_rfl
  exact calls_of_exec2' (P := Tryz.prog) (fn := Tryz.f128) (c := Tryz.f128.body.getD .skip) (args := [Value.string
    s]) (w := w) (R := R) purM_ok Tryz.func128 hb e h

def VC_r1printable (s : ByteArray) (w : World) (R : Ending → World → Prop) : Prop :=
 ∃ (I : List Value → World → Prop),
 ∃ (m : List Value → World → Nat),
 I [Value.int IntKind.i64 0] w ∧
 ∀ (x : Int) (w' : World),
 I [Value.int IntKind.i64 x] w' →
 bsp (decide (x < (↑s.size : Int)))
 ((0 ≤ x ∧ x < (↑s.size : Int)) ∧
 gimp (!visB (at8 s x.toNat)) (0 ≤ x ∧ x < (↑s.size : Int)) ∧
 bsp (!visB (at8 s x.toNat) && at8 s x.toNat != 32) (R (Ending.returned (Value.int IntKind.i64 x)) w')
 (I [Value.int IntKind.i64 (IntKind.i64.wrap (x + 1))] w' ∧
 m [Value.int IntKind.i64 (IntKind.i64.wrap (x + 1))] w' < m [Value.int IntKind.i64 x] w'))
 (R (Ending.returned (Value.int IntKind.i64 (-1))) w')
theorem vc_r1printable (s : ByteArray) (w : World) (R : Ending → World → Prop) (h : VC_r1printable s w R) : Calls Tryz.prog 127 ([Value.string
    s] : List Value).toArray w R := by
  have e : execR2 { P := Tryz.prog, loops := [(2, [(3, Ck.int IntKind.i64)])], pur := purM, tails := [], joins := [], boxes := [] } Tryz.f127.results.toList R (Tryz.f127.body.getD .skip) (initF [Value.string
    s] (Tryz.f127.ntmps - ([Value.string s] : List Value).length)) w = VC_r1printable s w R := by kernel_rfl
  have hb : Tryz.f127.body = some (Tryz.f127.body.getD .skip) := by kernel_rfl
  exact calls_of_exec2' (P := Tryz.prog) (fn := Tryz.f127) (c := Tryz.f127.body.getD .skip) (args := [Value.string
    s]) (w := w) (R := R) purM_ok Tryz.func127 hb e h

def VC_r1digits (x : Int) (w : World) (R : Ending → World → Prop) : Prop :=
 bsp (decide (x < 0))
 (CallsS Tryz.prog 92
 #[Value.int IntKind.u64 (IntKind.u64.wrap (IntKind.u64.wrap (IntKind.i64.wrap (0 - IntKind.i64.wrap (x + 1))) + 1))] w
 fun (e : Ending) (w' : World) =>
 ∃ (x : ByteArray),
 e = Ending.returned (Value.string x) ∧
 KeptL [] w w' ∧
 (9223372036854775807 - (↑((ByteArray.mk #[45]).size + x.size) : Int)).NonNeg ∧
 R (Ending.returned (Value.string (ByteArray.mk #[45] ++ x))) w')
 (CallsS Tryz.prog 92 #[Value.int IntKind.u64 (IntKind.u64.wrap x)] w fun (e : Ending) (w' : World) =>
 ∃ (x : ByteArray), e = Ending.returned (Value.string x) ∧ KeptL [] w w' ∧ R (Ending.returned (Value.string x)) w')
theorem vc_r1digits (x : Int) (w : World) (R : Ending → World → Prop) (h : VC_r1digits x w R) : Calls Tryz.prog 46 ([Value.int
    IntKind.i64 x] : List Value).toArray w R := by
  have e : execR2 { P := Tryz.prog, loops := [], pur := purM, tails := [], joins := [], boxes := [] } Tryz.f46.results.toList R (Tryz.f46.body.getD .skip) (initF [Value.int
    IntKind.i64
    x] (Tryz.f46.ntmps - ([Value.int IntKind.i64 x] : List Value).length)) w = VC_r1digits x w R := by kernel_rfl
  have hb : Tryz.f46.body = some (Tryz.f46.body.getD .skip) := by kernel_rfl
  exact calls_of_exec2' (P := Tryz.prog) (fn := Tryz.f46) (c := Tryz.f46.body.getD .skip) (args := [Value.int
    IntKind.i64 x]) (w := w) (R := R) purM_ok Tryz.func46 hb e h

def VC_r1plain (x : Int) (w : World) (R : Ending → World → Prop) : Prop :=
 bsp (decide (x < 10))
 (∀ (n : Nat) (W : World),
 Loc w.heap.size [Blk.mk n 5 [Value.int IntKind.u8 (IntKind.u8.wrap (IntKind.u64.wrap (48 + x)))] 2] w W →
 ∃ (s : ByteArray), (s.size = 1 ∧ BytesP W (some (Addr.mk n 0 none)) s) ∧ R (Ending.returned (Value.string s)) W)
 (∀ (W : World),
 Loc w.heap.size [] w W →
 ∃ (S : World → Prop),
 S W ∧
 (CallsS Tryz.prog 92 #[Value.int IntKind.u64 (IntKind.u64.wrap (x.tdiv 10))] W fun (e : Ending) (w' : World) =>
 ∃ (x_1 : ByteArray),
 e = Ending.returned (Value.string x_1) ∧
 S w' ∧
 ∀ (n : Nat) (w1 : World),
 NewB w' (Obj.cells #[Value.int IntKind.u8 (IntKind.u8.wrap (IntKind.u64.wrap (48 + x.tmod 10)))] 5) n w1 →
 S w1 ∧
 ∃ (s : ByteArray),
 (s.size = 1 ∧ ∀ (w' : World), S w' → BytesP w' (some (Addr.mk n 0 none)) s) ∧
 (9223372036854775807 - (↑(x_1.size + s.size) : Int)).NonNeg ∧
 KeptL [] W w1 ∧ R (Ending.returned (Value.string (x_1 ++ s))) w1) ∧
 ∀ (n : Nat) (w1 : World),
 NewB W (Obj.cells #[Value.int IntKind.u8 (IntKind.u8.wrap (IntKind.u64.wrap (48 + x.tmod 10)))] 5) n w1 →
 S w1 ∧
 ∃ (s : ByteArray),
 (s.size = 1 ∧ ∀ (w' : World), S w' → BytesP w' (some (Addr.mk n 0 none)) s) ∧
 CallsS Tryz.prog 92 #[Value.int IntKind.u64 (IntKind.u64.wrap (x.tdiv 10))] w1
 fun (e : Ending) (w' : World) =>
 ∃ (x : ByteArray),
 e = Ending.returned (Value.string x) ∧
 S w' ∧
 (9223372036854775807 - (↑(x.size + s.size) : Int)).NonNeg ∧
 KeptL [] W w' ∧ R (Ending.returned (Value.string (x ++ s))) w')
theorem vc_r1plain (x : Int) (w : World) (R : Ending → World → Prop) (h : VC_r1plain x w R) : Calls Tryz.prog 92 ([Value.int
    IntKind.u64 x] : List Value).toArray w R := by
  have e : execR2 { P := Tryz.prog, loops := [], pur := purM, tails := [(3, 2)], joins := [], boxes := [] } Tryz.f92.results.toList R (Tryz.f92.body.getD .skip) (initF [Value.int
    IntKind.u64
    x] (Tryz.f92.ntmps - ([Value.int IntKind.u64 x] : List Value).length)) w = VC_r1plain x w R := by kernel_rfl
  have hb : Tryz.f92.body = some (Tryz.f92.body.getD .skip) := by kernel_rfl
  exact calls_of_exec2' (P := Tryz.prog) (fn := Tryz.f92) (c := Tryz.f92.body.getD .skip) (args := [Value.int
    IntKind.u64 x]) (w := w) (R := R) purM_ok Tryz.func92 hb e h

def VC_r1same (p : Option Addr) (n : Nat) (c : Nat) (q : Option Addr) (k : Nat) (d : Nat) (w : World) (R : Ending → World → Prop) : Prop :=
 bsp ((↑n : Int) != (↑k : Int)) (R (Ending.returned (Value.bool false)) w)
 (∃ (I : List Value → World → Prop),
 ∃ (m : List Value → World → Nat),
 I [Value.int IntKind.i64 0] w ∧
 ∀ (x : Int) (w' : World),
 I [Value.int IntKind.i64 x] w' →
 bsp (decide (x < (↑n : Int)))
 (nn true p fun (b o : Nat) =>
 (0 ≤ x ∧ x < (↑n : Int)) ∧
 ∃ (x_1 : ByteArray),
 (∀ (W : World), Loc w.heap.size [] w' W → W.cell? (Addr.mk b (o + x.toNat) none) = some (Value.string x_1)) ∧
 nn true q fun (b o : Nat) =>
 (0 ≤ x ∧ x < (↑k : Int)) ∧
 ∃ (x_2 : ByteArray),
 (∀ (W : World),
 Loc w.heap.size [] w' W → W.cell? (Addr.mk b (o + x.toNat) none) = some (Value.string x_2)) ∧
 bsp (!x_1.toList == x_2.toList)
 (∀ (W : World), Loc w.heap.size [] w' W → R (Ending.returned (Value.bool false)) W)
 (∀ (W : World),
 Loc w.heap.size [] w' W →
 I [Value.int IntKind.i64 (IntKind.i64.wrap (x + 1))] W ∧
 m [Value.int IntKind.i64 (IntKind.i64.wrap (x + 1))] W < m [Value.int IntKind.i64 x] w'))
 (R (Ending.returned (Value.bool true)) w'))
theorem vc_r1same (p : Option Addr) (n : Nat) (c : Nat) (q : Option Addr) (k : Nat) (d : Nat) (w : World) (R : Ending → World → Prop) (h : VC_r1same p n c q k d w R) : Calls Tryz.prog 29 ([Value.slice
    p n c,
  Value.slice q k d] : List Value).toArray w R := by
  have e : execR2 { P := Tryz.prog, loops := [(4, [(5, Ck.int IntKind.i64)])], pur := purM, tails := [], joins := [], boxes := [] } Tryz.f29.results.toList R (Tryz.f29.body.getD .skip) (initF [Value.slice
    p n c,
  Value.slice q k
    d] (Tryz.f29.ntmps - ([Value.slice p n c,
  Value.slice q k d] : List Value).length)) w = VC_r1same p n c q k d w R := by kernel_rfl
  have hb : Tryz.f29.body = some (Tryz.f29.body.getD .skip) := by kernel_rfl
  exact calls_of_exec2' (P := Tryz.prog) (fn := Tryz.f29) (c := Tryz.f29.body.getD .skip) (args := [Value.slice p n c,
  Value.slice q k d]) (w := w) (R := R) purM_ok Tryz.func29 hb e h

end Go.Proofs.YtmlmdljnfokebaaGreatDoor

/- Chapter 49: the contracts of msgid.Site, ascii.skip, Words, Printable and of the reference's. Texts have at most 2^30 bytes. -/
namespace Go.Proofs.YtmlmdljnfokebaaGreatDoor
open Go.RowKit

theorem site_any (s : ByteArray) (w : World) : Calls Tryz.prog 49 #[.string s] w fun e w' => e = .returned (.tuple #[.int .i64 (siteS s).1, .int .i64 (siteS s).2]) ∧ w' = w := by
  refine vc_site s w _ ?_
  unfold VC_site
  rw [toList_nil]
  refine bsp_intro (fun h0 => ?_) (fun h0 => bsp_intro (fun h1 => ?_) (fun h1 => ?_))
  · have h0 : s.size = 0 := by simpa using h0
    exact ⟨by simp [siteS, h0], rfl⟩
  · have h0 : ¬ s.size = 0 := by simpa using h0
    have h1 : (s.size : Int) > 30 := by simpa using h1
    have h1 : 30 < s.size := by omega
    exact ⟨by simp [siteS, h0, h1], rfl⟩
  have h0 : ¬ s.size = 0 := by simpa using h0
  have h1 : ¬ (s.size : Int) > 30 := by simpa using h1
  have h1 : ¬ 30 < s.size := by omega
  refine count1 s.size (by omega) (fun k w' => w' = w ∧ ∀ j, j < k → permB (at8 s j) = true) ⟨rfl, fun j hj => by omega⟩ (fun I m k w' hk ⟨hw, hJ⟩ next => ?_)
  subst hw
  refine bsp_intro (fun hlt => ⟨?_, bsp_intro (fun hp => ?_) (fun hp => ?_)⟩) (fun hge => ?_)
  · have : k < s.size := by simpa using hlt
    omega
  · have hlt : k < s.size := by simpa using hlt
    rw [siteS_byte s k h0 h1 hlt hJ (by simpa using hp)]
    exact ⟨rfl, rfl⟩
  · have hlt : k < s.size := by simpa using hlt
    refine next hlt _ ⟨rfl, fun j hj => ?_⟩
    by_cases hjk : j = k
    · subst hjk; simpa using hp
    · exact hJ j (by omega)
  · have hall : ∀ j, j < s.size → permB (at8 s j) = true := fun j hj => hJ j (by
      have : ¬ k < s.size := by simpa using hge
      omega)
    refine count1 s.size (by omega) (fun k w'' => w'' = w' ∧ ∀ j, j < k → misB s j = false) ⟨rfl, fun j hj => by omega⟩ (fun I m k w'' hk ⟨hw, hJ2⟩ next => ?_)
    subst hw
    have hmis : ∀ (hlt : k < s.size), ((k : Int) == 0 && !lowerB (at8 s (k : Int).toNat) || decide ((k : Int) > 0) && at8 s (k : Int).toNat == 46 && at8 s (IntKind.i64.wrap ((k : Int) - 1)).toNat == 46 ||
        (k : Int) == IntKind.i64.wrap ((s.size : Int) - 1) && (at8 s (k : Int).toNat == 45 || at8 s (k : Int).toNat == 46)) = misB s k := fun hlt => by
      rw [wr64 (by omega) (by omega), wr64 (by omega) (by omega)]
      have e1 : ((k : Int) == 0) = (k == 0) := by rw [Bool.eq_iff_iff]; simp
      have e2 : decide ((k : Int) > 0) = decide (0 < k) := by apply decide_eq_decide.2; omega
      have e3 : ((k : Int) == (s.size : Int) - 1) = (k + 1 == s.size) := by rw [Bool.eq_iff_iff]; simp; omega
      have e4 : ((k : Int) - 1).toNat = k - 1 := by omega
      rw [e1, e2, e3, e4]
      rfl
    refine bsp_intro (fun hlt => ⟨?_, gimp_intro (fun hg => ?_), ?_⟩) (fun hge => ?_)
    · have : k < s.size := by simpa using hlt
      omega
    · have hlt : k < s.size := by simpa using hlt
      have : (k : Int) > 0 := by
        simp only [Bool.and_eq_true, decide_eq_true_eq] at hg
        exact hg.2.1
      rw [wr64 (by omega) (by omega)]
      omega
    · have hlt : k < s.size := by simpa using hlt
      rw [hmis hlt]
      refine bsp_intro (fun hp => ?_) (fun hp => ?_)
      · rw [siteS_name s k h0 h1 hall hlt hJ2 hp]
        exact ⟨rfl, rfl⟩
      · refine next hlt _ ⟨rfl, fun j hj => ?_⟩
        by_cases hjk : j = k
        · subst hjk; exact hp
        · exact hJ2 j (by omega)
    · have hge : ¬ k < s.size := by simpa using hge
      rw [siteS_ok s h0 h1 hall (fun j hj => hJ2 j (by omega))]
      exact ⟨rfl, rfl⟩

theorem bsp_congr {b c : Bool} {X Y : Prop} (h : b = c) (k : bsp c X Y) : bsp b X Y := h ▸ k
theorem refSite_any (s : ByteArray) (w : World) : Calls Tryz.prog 121 #[.string s] w fun e w' => e = .returned (.tuple #[.int .i64 (siteS s).1, .int .i64 (siteS s).2]) ∧ w' = w := by
  refine vc_ref11Site s w _ ?_
  unfold VC_ref11Site
  rw [toList_nil]
  refine bsp_intro (fun h0 => ?_) (fun h0 => bsp_intro (fun h1 => ?_) (fun h1 => ?_))
  · have h0 : s.size = 0 := by simpa using h0
    exact ⟨by simp [siteS, h0], rfl⟩
  · have h0 : ¬ s.size = 0 := by simpa using h0
    have h1 : (s.size : Int) > 30 := by simpa using h1
    have h1 : 30 < s.size := by omega
    exact ⟨by simp [siteS, h0, h1], rfl⟩
  have h0 : ¬ s.size = 0 := by simpa using h0
  have h1 : ¬ (s.size : Int) > 30 := by simpa using h1
  have h1 : ¬ 30 < s.size := by omega
  refine count1 s.size (by omega) (fun k w' => w' = w ∧ ∀ j, j < k → permB (at8 s j) = true) ⟨rfl, fun j hj => by omega⟩ (fun I m k w' hk ⟨hw, hJ⟩ next => ?_)
  subst hw
  refine bsp_intro (fun hlt => ⟨?_, bsp_intro (fun hp => ?_) (fun hp => ?_)⟩) (fun hge => ?_)
  · have : k < s.size := by simpa using hlt
    omega
  · have hlt : k < s.size := by simpa using hlt
    rw [siteS_byte s k h0 h1 hlt hJ (by have hp : (!permB (at8 s k)) = true := hp; simpa using hp)]
    exact ⟨rfl, rfl⟩
  · have hlt : k < s.size := by simpa using hlt
    refine next hlt _ ⟨rfl, fun j hj => ?_⟩
    by_cases hjk : j = k
    · subst hjk; have hp : (!permB (at8 s j)) = false := hp; simpa using hp
    · exact hJ j (by omega)
  · have hall : ∀ j, j < s.size → permB (at8 s j) = true := fun j hj => hJ j (by
      have : ¬ k < s.size := by simpa using hge
      omega)
    refine count1 s.size (by omega) (fun k w'' => w'' = w' ∧ ∀ j, j < k → misB s j = false) ⟨rfl, fun j hj => by omega⟩ (fun I m k w'' hk ⟨hw, hJ2⟩ next => ?_)
    subst hw
    have hmis : ∀ (hlt : k < s.size), ((k : Int) == 0 && !lowerB (at8 s (k : Int).toNat) || decide ((k : Int) > 0) && at8 s (k : Int).toNat == 46 && at8 s (IntKind.i64.wrap ((k : Int) - 1)).toNat == 46 ||
        (k : Int) == IntKind.i64.wrap ((s.size : Int) - 1) && (at8 s (k : Int).toNat == 45 || at8 s (k : Int).toNat == 46)) = misB s k := fun hlt => by
      rw [wr64 (by omega) (by omega), wr64 (by omega) (by omega)]
      have e1 : ((k : Int) == 0) = (k == 0) := by rw [Bool.eq_iff_iff]; simp
      have e2 : decide ((k : Int) > 0) = decide (0 < k) := by apply decide_eq_decide.2; omega
      have e3 : ((k : Int) == (s.size : Int) - 1) = (k + 1 == s.size) := by rw [Bool.eq_iff_iff]; simp; omega
      have e4 : ((k : Int) - 1).toNat = k - 1 := by omega
      rw [e1, e2, e3, e4]
      rfl
    refine bsp_intro (fun hlt => ⟨?_, gimp_intro (fun hg => ?_), ?_⟩) (fun hge => ?_)
    · have : k < s.size := by simpa using hlt
      omega
    · have hlt : k < s.size := by simpa using hlt
      have : (k : Int) > 0 := by
        simp only [Bool.and_eq_true, decide_eq_true_eq] at hg
        exact hg.2.1
      rw [wr64 (by omega) (by omega)]
      omega
    · have hlt : k < s.size := by simpa using hlt
      refine bsp_congr (hmis hlt) ?_
      refine bsp_intro (fun hp => ?_) (fun hp => ?_)
      · rw [siteS_name s k h0 h1 hall hlt hJ2 hp]
        exact ⟨rfl, rfl⟩
      · refine next hlt _ ⟨rfl, fun j hj => ?_⟩
        by_cases hjk : j = k
        · subst hjk; exact hp
        · exact hJ2 j (by omega)
    · have hge : ¬ k < s.size := by simpa using hge
      rw [siteS_ok s h0 h1 hall (fun j hj => hJ2 j (by omega))]
      exact ⟨rfl, rfl⟩

theorem nn_is {g : Bool} {p : Option Addr} {b o : Nat} {K : Nat → Nat → Prop} (hp : p = some ⟨b, o, none⟩) (h : K b o) : nn g p K := by subst hp; exact h
theorem skip_any (s : ByteArray) (k : Nat) (f : FuncId) (fa fb : Array Value) (g : Int → Bool) (w : World) (hk : k ≤ s.size) (hs : s.size ≤ 4294967296) (hok : okFn Tryz.prog f = true)
    (hF : ∀ c, 0 ≤ c ∧ c ≤ 255 → ∀ w1, K0 w w1 → Calls Tryz.prog f (appA fa [.int .u8 c] fb) w1 fun e w2 => e = .returned (.bool (g c)) ∧ K0 w1 w2) :
    Calls Tryz.prog 115 #[.string s, .int .i64 k, .func (.func f) fa fb] w fun e w' => (∃ i : Nat, e = .returned (.int .i64 i) ∧ SkipTo g s k i) ∧ K0 w w' := by
  refine vc_skip s k f fa fb w _ ?_
  refine ⟨fun vs w' => ∃ i : Nat, vs = [.int .i64 (i : Int)] ∧ k ≤ i ∧ i ≤ s.size ∧ (∀ j, k ≤ j → j < i → g (at8 s j) = true) ∧ K0 w w',
    fun vs _ => (match vs with | .int _ x :: _ => s.size - x.toNat | _ => 0), ⟨k, rfl, by omega, hk, (fun j h1 h2 => by omega), .refl _ _⟩, ?_⟩
  rintro x w1 ⟨i, hv, h1, hi, hall, k1⟩
  simp only [List.cons.injEq, Value.int.injEq, true_and, and_true] at hv
  subst hv
  refine ⟨gimp_intro fun h => ⟨by omega, by simpa using h⟩, bsp_intro (fun hlt => ?_) (fun hge => ?_)⟩
  · have hlt : i < s.size := by simp at hlt; omega
    rw [Int.toNat_natCast]
    refine ⟨f, fa, fb, rfl, hok, ⟨(hF (at8 s i) (at8_bd s i) w1 k1).mono fun e w2 ⟨he, k2⟩ => ⟨_, he, .of_k0 k2, bsp_intro (fun hg => ?_) (fun hg => ?_)⟩⟩⟩
    · have hg : g (at8 s i) = true := by simpa using hg
      refine ⟨⟨i + 1, by rw [inc64 (by omega)], by omega, hlt, fun j hj hj2 => ?_, k1.trans k2⟩, by rw [inc64 (by omega)]; simp only [Int.toNat_natCast]; omega⟩
      by_cases e : j = i
      · rw [e]; exact hg
      · exact hall j hj (by omega)
    · have hg : g (at8 s i) = false := by simpa using hg
      exact ⟨⟨i, rfl, h1, hi, hall, fun _ => hg⟩, k1.trans k2⟩
  · exact ⟨.refl _ _, ⟨i, rfl, h1, hi, hall, fun h => by simp at hge; omega⟩, k1⟩


theorem wordsC_any (s : ByteArray) (x y b b1 B : Nat) (acc : List ByteArray) (p : Option Addr) (c : Nat) (w : World) (hb : w.heap[b]? = some (.cells #[.slice p acc.length c] 24 (0, 0))) (hs : w.heap[b1]? = some (.cells #[.string s] 9 (0, 0)))
    (ho : w.ownsRow B 9 1 (.slice p acc.length c) acc.length (acc.map .string)) (h1 : b < B) (hB : B ≤ w.heap.size) (hxy : y ≤ s.size) (hl : acc.length ≤ 1073741824) :
    Calls Tryz.prog 117 #[.int .i64 x, .int .i64 y, .pointer (some ⟨b, 0, none⟩), .pointer (some ⟨b1, 0, none⟩)] w fun e w' => e = .returned (.tuple #[]) ∧
      (∃ (p' : Option Addr) (c' : Nat), w'.heap[b]? = some (.cells #[.slice p' (acc ++ (if x < y then [s.extract x y] else [])).length c'] 24 (0, 0)) ∧ w'.ownsRow B 9 1 (.slice p' (acc ++ (if x < y then [s.extract x y] else [])).length c') (acc ++ (if x < y then [s.extract x y] else [])).length ((acc ++ (if x < y then [s.extract x y] else [])).map .string)) ∧ Kp (fun k => k = b ∨ B ≤ k) w w' := by
  refine vc_wordsC x y b 0 b1 0 w _ (bsp_intro (fun h => ?_) (fun h => ?_))
  · have h : x < y := by simp at h; omega
    rw [if_pos h]
    intro W hW
    have kW : K0 w W := hW.kk rfl
    refine ⟨fun wx => K0 W wx, .refl _ _, p, acc.length, c, fun wx k => cell_at ((kW.trans k).blk hb (fun h => h)) rfl, s, fun wx k => cell_at ((kW.trans k).blk hs (fun h => h)) rfl, ⟨by omega, by omega, by omega⟩, fun n1 w1 hn => ⟨hn.kp _, ?_⟩⟩
    rw [Int.toNat_natCast, Int.toNat_natCast] at hn
    have hoW := owns_kp ho kW (fun _ _ h => h)
    refine app1 hoW (Nat.le_trans hB kW.size) hn rfl (by intro u hu; simp at hu; subst hu; rfl) (by omega) (by omega) (fun p' c' w2 ho2 hk2 hs2 => ?_)
    have k2 : Kp (fun k => B ≤ k) w w2 := (Kp.mono kW (fun _ _ h => h.elim)).trans (hk2.mono fun k _ e => own_ge hoW e)
    have hb2 := k2.blk hb (by omega)
    refine ⟨cell_wr hb2 (by show 0 < 1; omega), fun w3 hp => ?_⟩
    have hk3 := hp.kp
    have hnb : ∀ k, (Value.slice p' (acc.length + 1) c').ownBlock = some k → ¬ k = b := fun k e e2 => by have := own_ge ho2 e; omega
    have ho3 := owns_kp ho2 hk3 hnb
    refine ⟨⟨Nat.le_trans (Nat.le_trans (hn.kp (fun _ => False)).size hs2) hk3.size, fun n hn => by cases hn⟩, rfl, ⟨p', c', ?_, ?_⟩, ?_⟩
    · rw [hp.full hb2 rfl, List.length_append]; rfl
    · rw [List.length_append, List.map_append]; exact ho3
    · exact (k2.mono fun k _ h => .inr h).trans (hk3.mono fun k _ h => .inl h)
  · have h : ¬ x < y := by simp at h; omega
    rw [if_neg h, List.append_nil]
    exact ⟨rfl, ⟨p, c, hb, ho⟩, .refl _ _⟩

theorem words_any (s : ByteArray) (w : World) (hz : s.size ≤ 1073741824) :
    Calls Tryz.prog 69 #[.string s] w fun e w' => (∃ (p : Option Addr) (c : Nat), e = .returned (.slice p (words s).length c) ∧ w'.ownsRow w.heap.size 9 1 (.slice p (words s).length c) (words s).length ((words s).map .string)) ∧ K0 w w' := by
  refine vc_words s w _ (fun n n1 W hW => ?_)
  have kW : K0 w W := hW.kk rfl
  have hb : W.heap[n1]? = some (.cells #[.slice none 0 0] 24 (0, 0)) := hW.cells 0 rfl
  have hs : W.heap[n]? = some (.cells #[.string s] 9 (0, 0)) := hW.cells 1 rfl
  have g1 : w.heap.size ≤ n1 := hW.fresh 0 rfl rfl
  have g2 : w.heap.size ≤ n := hW.fresh 1 rfl rfl
  have hne : n1 ≠ n := hW.apart 0 1 rfl rfl (by decide)
  have hB : max n n1 + 1 ≤ W.heap.size := by have := block_lt hb; have := block_lt hs; omega
  generalize hBe : max n n1 + 1 = B at hB
  refine ⟨fun vs w' => ∃ (i f : Nat) (acc : List ByteArray) (p : Option Addr) (c : Nat), vs = [.int .i64 (i : Int)] ∧ i ≤ s.size ∧ s.size - i ≤ f ∧ acc ++ wordsF s f i = words s ∧ acc.length ≤ i ∧ w'.heap[n1]? = some (.cells #[.slice p acc.length c] 24 (0, 0)) ∧ w'.heap[n]? = some (.cells #[.string s] 9 (0, 0)) ∧
      w'.ownsRow B 9 1 (.slice p acc.length c) acc.length (acc.map .string) ∧ K0 w w' ∧ B ≤ w'.heap.size,
    fun vs _ => (match vs with | .int _ x :: _ => s.size - x.toNat | _ => 0), ⟨0, s.size, [], none, 0, rfl, by omega, by omega, rfl, by simp, hb, hs, World.ownsRow_nil _ _ _ _, kW, hB⟩, ?_⟩
  rintro x w1 ⟨i, f, acc, p, c, hv, hi, hf, hE, hai, hb1, hs1, ho1, k1, hB1⟩
  simp only [List.cons.injEq, Value.int.injEq, true_and, and_true] at hv
  subst hv
  refine ⟨s, cell_at hs1 rfl, bsp_intro (fun hlt => ?_) (fun hge => ?_)⟩
  · have hlt : i < s.size := by simp at hlt; omega
    obtain ⟨f, rfl⟩ : ∃ g, f = g + 1 := ⟨f - 1, by omega⟩
    refine ⟨s, cell_at hs1 rfl, ⟨(skip_any s i 108 #[] #[] blankB w1 hi (by omega) (by kernel_rfl) (fun c _ w2 _ => (aIsBlank_any c w2).mono fun e w3 ⟨he, hw⟩ => ⟨he, by rw [hw]; exact .refl _ _⟩)).mono fun e w2 ⟨⟨a, he, ha⟩, k2⟩ => ⟨_, he, .of_k0 k2, s, cell_at (k2.blk hs1 (fun h => h)) rfl, ?_⟩⟩⟩
    have ea : skipN blankB s i = a := (skipN_to blankB s hi).uniq ha
    refine ⟨(skip_any s a 118 #[] #[] blackB w2 ha.2.1 (by omega) (by kernel_rfl) (fun c _ w3 _ => vc_wordsD c w3 _ ⟨rfl, .refl _ _⟩)).mono fun e w3 ⟨⟨d, he, hd⟩, k3⟩ => ⟨_, he, .of_k0 k3, 117, #[], #[.pointer (some ⟨n1, 0, none⟩), .pointer (some ⟨n, 0, none⟩)], rfl, by kernel_rfl, ?_⟩⟩
    have ed : skipN blackB s a = d := (skipN_to blackB s ha.2.1).uniq hd
    have k13 := k2.trans k3
    have hid : i < d := by
      rcases Nat.lt_or_ge a (i + 1) with h' | h'
      · have e : a = i := by have := ha.1; omega
        rcases Nat.lt_or_ge i d with h2 | h2
        · exact h2
        · have e2 : d = a := by have := hd.1; omega
          have f1 := ha.2.2.2 (by omega)
          have f2 := hd.2.2.2 (by omega)
          rw [e2] at f2
          unfold blackB at f2
          rw [f1] at f2
          cases f2
      · have := hd.1; omega
    have hW4 := wordsC_any s a d n1 n B acc p c w3 (k13.blk hb1 (fun h => h)) (k13.blk hs1 (fun h => h)) (owns_kp ho1 k13 (fun _ _ h => h)) (by omega) (Nat.le_trans hB1 k13.size) hd.2.1 (by omega)
    have hE' : acc ++ (if a < d then [s.extract a d] else []) ++ wordsF s f d = words s := by
      rw [← hE]
      show _ = acc ++ (if i < s.size then _ else _)
      rw [if_pos hlt, ea, ed]
      by_cases h : a < d
      · rw [if_pos h, if_pos h]; simp
      · rw [if_neg h, if_neg h]; simp
    have hlen : (acc ++ (if a < d then [s.extract a d] else [])).length ≤ d := by
      rw [List.length_append]
      split
      · simp; omega
      · simp; omega
    generalize acc ++ (if a < d then [s.extract a d] else []) = acc' at hW4 hE' hlen
    refine ⟨hW4.mono fun e w4 ⟨he, ⟨p', c', hb4, ho4⟩, k4⟩ => ⟨he, ⟨k4.size, fun n hn => by cases hn⟩, ⟨d, f, acc', p', c', rfl, hd.2.1, by omega, hE', hlen, hb4, ?_, ho4, ?_, ?_⟩, ?_⟩⟩
    · exact k4.blk (k13.blk hs1 (fun h => h)) (by omega)
    · exact (k1.trans k13).fresh k4 (fun j hj e => by omega)
    · exact Nat.le_trans (Nat.le_trans hB1 k13.size) k4.size
    · simp only [Int.toNat_natCast]; omega
  · have hge : i = s.size := by simp at hge; omega
    subst hge
    have e0 : wordsF s f s.size = [] := by
      cases f with
      | zero => rfl
      | succ f => unfold wordsF; rw [if_neg (by omega)]
    rw [e0, List.append_nil] at hE
    subst hE
    exact ⟨p, _, c, cell_at hb1 rfl, ⟨p, c, rfl, own_base ho1 (by omega)⟩, k1⟩

theorem printable_any (s : ByteArray) (w : World) (hz : s.size ≤ 1073741824) :
    Calls Tryz.prog 149 #[.string s] w fun e w' => e = .returned (.int .i64 (prtN s)) ∧ K0 w w' := by
  refine vc_printable s w _ ⟨(skip_any s 0 161 #[] #[] prtB w (by omega) (by omega) (by kernel_rfl) (fun c _ w3 _ => vc_prtC c w3 _ ⟨rfl, .refl _ _⟩)).mono fun e w1 ⟨⟨a, he, ha⟩, k1⟩ => ⟨_, he, .of_k0 k1, ?_⟩⟩
  have ea : skipN prtB s 0 = a := (skipN_to prtB s (by omega)).uniq ha
  unfold prtN
  rw [ea]
  refine bsp_intro (fun h => ?_) (fun h => ?_)
  · rw [if_pos (by simp at h; omega)]; exact ⟨rfl, k1⟩
  · rw [if_neg (by simp at h; omega)]; exact ⟨rfl, k1⟩

end Go.Proofs.YtmlmdljnfokebaaGreatDoor
