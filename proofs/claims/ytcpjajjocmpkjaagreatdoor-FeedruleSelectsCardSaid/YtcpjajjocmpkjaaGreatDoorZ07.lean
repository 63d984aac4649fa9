/- Patterns of the reference (plain): matching by rows agrees with the program's Match, where the elements agree. No condition. -/
import Derived.Test.YtcpjajjocmpkjaaGreatDoorZ06
import Derived.Lib.SplitLaws
import Derived.Lib.CountLaws
import Derived.Test.YtcpjajjocmpkjaaGreatDoorProg
import Derived.Test.YtcpjajjocmpkjaaGreatDoorZ02
import Derived.Test.YtcpjajjocmpkjaaGreatDoorZ04
import Derived.KernelRfl
namespace Go.Proofs.YtcpjajjocmpkjaaGreatDoor

/-- An element of a pattern of the reference. -/
structure RE where
  star : Bool
  set : Nat → Bool
/-- An element and that of the reference. -/
structure RelE (e : El) (r : RE) : Prop where
  star : e.isStar = r.star
  set : r.star = false → ∀ c : Nat, c < 128 → hasB e.chars c = r.set c
  char : ∀ c : Int, 0 ≤ c → c ≤ 255 → hasB e.chars c = true → charB c = true
theorem name_char : ∀ c : Int, 0 ≤ c → c ≤ 255 → hasB nameBytes c = charB c := by
  have h : ∀ n : Fin 256, hasB nameBytes (n.val : Int) = charB (n.val : Int) := by decide +kernel
  intro c h0 h1
  have := h ⟨c.toNat, by omega⟩
  simp only at this
  rw [show ((c.toNat : Nat) : Int) = c by omega] at this
  exact this
theorem charB_lt {c : Int} (h : charB c = true) : 0 ≤ c ∧ c < 128 := by
  simp [charB, lowerB, digitB] at h
  omega
theorem pmF_congr {st st' : Nat → Bool} {h h' : Nat → Nat → Bool} : ∀ (i k : Nat), (∀ j, j < i → st j = st' j) → (∀ j l, j < i → l < k → h j l = h' j l) → pmF st h i k = pmF st' h' i k
  | 0, k, _, _ => rfl
  | i + 1, 0, h1, h2 => by
    rw [pmF_zero, pmF_zero, h1 i (by omega), pmF_congr i 0 (fun j hj => h1 j (by omega)) (fun j l hj hl => by omega)]
  | i + 1, k + 1, h1, h2 => by
    have a := pmF_congr i (k + 1) (fun j hj => h1 j (by omega)) (fun j l hj hl => h2 j l (by omega) hl)
    have b := pmF_congr (i + 1) k h1 (fun j l hj hl => h2 j l hj (by omega))
    have c := pmF_congr i k (fun j hj => h1 j (by omega)) (fun j l hj hl => h2 j l (by omega) (by omega))
    rw [pmF_succ, pmF_succ, h1 i (by omega), h2 i k (by omega) (by omega), a, b, c]
theorem pmF_dead {st : Nat → Bool} {h : Nat → Nat → Bool} {k0 : Nat} (hd : ∀ i, h i k0 = false) : ∀ (i k : Nat), k0 < k → pmF st h i k = false
  | 0, k, hk => by simp [pmF]; omega
  | i + 1, 0, hk => by omega
  | i + 1, k + 1, hk => by
    rw [pmF_succ, pmF_dead hd i (k + 1) hk]
    by_cases e : k = k0
    · subst e; rw [hd i]; simp
    · rw [pmF_dead hd (i + 1) k (by omega), pmF_dead hd i k (by omega)]; simp
def rS (rs : List RE) (j : Nat) : Bool := match rs[j]? with | some r => r.star | none => false
def rH (rs : List RE) (j c : Nat) : Bool := match rs[j]? with | some r => r.set c | none => false
/-- The reference's Match. -/
def rmatchB (rs : List RE) (s : ByteArray) : Bool := (List.range s.size).all (fun i => charB (at8 s i)) && pmF (rS rs) (fun i k => rS rs i || rH rs i (at8 s k).toNat) rs.length s.size
/-- Elements that agree, one by one. -/
structure RelEs (els : List El) (rs : List RE) : Prop where
  len : els.length = rs.length
  at_ : ∀ (j : Nat) (e : El) (r : RE), els[j]? = some e → rs[j]? = some r → RelE e r
theorem RelEs.snoc {els : List El} {rs : List RE} (h : RelEs els rs) {e : El} {r : RE} (hr : RelE e r) : RelEs (els ++ [e]) (rs ++ [r]) := by
  refine ⟨by simp [h.len], fun j e' r' he hr' => ?_⟩
  rw [List.getElem?_append] at he hr'
  rw [← h.len] at hr'
  split at he
  · rename_i hj
    rw [if_pos hj] at hr'
    exact h.at_ j _ _ he hr'
  · rename_i hj
    rw [if_neg hj] at hr'
    cases hjj : j - els.length with
    | zero => rw [hjj] at he hr'; simp at he hr'; subst he; subst hr'; exact hr
    | succ n => rw [hjj] at he; simp at he
theorem rel_match {els : List El} {rs : List RE} (h : RelEs els rs) (s : ByteArray) : matchB els s = rmatchB rs s := by
  rw [match_pm]
  unfold rmatchB
  cases ha : (List.range s.size).all (fun i => charB (at8 s i)) with
  | false =>
    rw [Bool.false_and]
    rw [List.all_eq_false] at ha
    obtain ⟨k0, hk0, hc⟩ := ha
    rw [List.mem_range] at hk0
    refine pmF_dead (k0 := k0) (fun i => ?_) _ _ hk0
    unfold elH
    cases he : els[i]? with
    | none => rfl
    | some e =>
      have hlt : i < rs.length := by rw [← h.len]; exact (List.getElem?_eq_some_iff.1 he).1
      have hr := h.at_ i e _ he (List.getElem?_eq_getElem hlt)
      simp only
      cases hh : hasB e.chars (at8 s k0) with
      | false => rfl
      | true => exact absurd (hr.char _ (at8_bd s k0).1 (at8_bd s k0).2 hh) hc
  | true =>
    rw [Bool.true_and, h.len]
    have hst : ∀ j, elS els j = rS rs j := fun j => by
      unfold elS rS
      rcases Nat.lt_or_ge j els.length with hj | hj
      · have hj' : j < rs.length := by rw [← h.len]; exact hj
        rw [List.getElem?_eq_getElem hj, List.getElem?_eq_getElem hj']
        exact (h.at_ j _ _ (List.getElem?_eq_getElem hj) (List.getElem?_eq_getElem hj')).star
      · rw [List.getElem?_eq_none hj, List.getElem?_eq_none (by rw [← h.len]; exact hj)]
    refine pmF_congr _ _ (fun j _ => hst j) (fun j l hj hl => ?_)
    have hc : charB (at8 s l) = true := List.all_eq_true.1 ha l (List.mem_range.2 hl)
    have hcb := charB_lt hc
    have hj0 : j < els.length := by rw [h.len]; exact hj
    have hr := h.at_ j _ _ (List.getElem?_eq_getElem hj0) (List.getElem?_eq_getElem hj)
    unfold elH rS rH
    rw [List.getElem?_eq_getElem hj0, List.getElem?_eq_getElem hj]
    simp only
    generalize els[j] = e at hr
    generalize rs[j] = r at hr
    cases hs : r.star with
    | true =>
      have : e = .star := by
        have h1 := hr.star
        rw [hs] at h1
        cases e <;> simp [El.isStar] at h1
        rfl
      subst this
      rw [Bool.true_or]
      show hasB nameBytes _ = true
      rw [name_char _ hcb.1 (by omega)]; exact hc
    | false =>
      rw [Bool.false_or]
      have := hr.set hs (at8 s l).toNat (by omega)
      rw [show (((at8 s l).toNat : Nat) : Int) = at8 s l by omega] at this
      exact this

/-- An entry of a list of the reference. -/
structure REnt where
  t : ByteArray
  rs : List RE
  v : Int
def rverd (es : List REnt) (s : ByteArray) : Int := es.foldl (fun a e => if rmatchB e.rs s = true then e.v else a) 0
structure RelEnt (e : Ent) (r : REnt) : Prop where
  t : e.t = r.t
  v : e.v = r.v
  els : RelEs e.els r.rs
structure RelEnts (es : List Ent) (rs : List REnt) : Prop where
  len : es.length = rs.length
  at_ : ∀ (j : Nat) (e : Ent) (r : REnt), es[j]? = some e → rs[j]? = some r → RelEnt e r
theorem RelEnts.snoc {es : List Ent} {rs : List REnt} (h : RelEnts es rs) {e : Ent} {r : REnt} (hr : RelEnt e r) : RelEnts (es ++ [e]) (rs ++ [r]) := by
  refine ⟨by simp [h.len], fun j e' r' he hr' => ?_⟩
  rw [List.getElem?_append] at he hr'
  rw [← h.len] at hr'
  split at he
  · rename_i hj
    rw [if_pos hj] at hr'
    exact h.at_ j _ _ he hr'
  · rename_i hj
    rw [if_neg hj] at hr'
    cases hjj : j - es.length with
    | zero => rw [hjj] at he hr'; simp at he hr'; subst he; subst hr'; exact hr
    | succ n => rw [hjj] at he; simp at he
theorem rel_verd {es : List Ent} {rs : List REnt} (h : RelEnts es rs) (s : ByteArray) : verd es s = rverd rs s := by
  have key : ∀ (es : List Ent) (rs : List REnt) (a : Int), RelEnts es rs → es.foldl (fun a e => if matchB e.els s = true then e.v else a) a = rs.foldl (fun a e => if rmatchB e.rs s = true then e.v else a) a := by
    intro es
    induction es with
    | nil =>
      intro rs a h
      have := h.len
      cases rs with
      | nil => rfl
      | cons r rs => simp at this
    | cons e es ih =>
      intro rs a h
      cases rs with
      | nil => have := h.len; simp at this
      | cons r rs =>
        have h0 := h.at_ 0 e r rfl rfl
        simp only [List.foldl_cons]
        rw [rel_match h0.els s, h0.v]
        exact ih rs _ ⟨by have := h.len; simp at this; exact this, fun j e' r' he hr => h.at_ (j + 1) e' r' (by simpa using he) (by simpa using hr)⟩
  exact key es rs 0 h
def rselB (es : List REnt) (zs : List ByteArray) : Bool := zs.all (fun z => !(rverd es z == 3)) && zs.any (fun z => rverd es z == 1)
theorem rel_sel {es : List Ent} {rs : List REnt} (h : RelEnts es rs) (zs : List ByteArray) : selB es zs = rselB rs zs := by
  unfold selB rselB
  simp only [rel_verd h]

/-! ### Parts of a text -/
theorem at8_byte {s : ByteArray} {k : Nat} (h : k < s.size) : s.data.toList[k]? = some (at8 s k).toNat.toUInt8 := by
  rw [at8_lt s k h, Array.getElem?_toList, Array.getElem?_eq_getElem (show k < s.data.size from h)]
  congr 1
  show s[k] = _
  rw [Int.toNat_natCast]
  simp
theorem indexByte_hit : ∀ (l : List UInt8) (c : UInt8) (i : Nat), l[i]? = some c → (∀ j, j < i → l[j]? ≠ some c) → Lib.indexByte l c = i
  | [], c, i, h, _ => by simp at h
  | b :: l, c, 0, h, _ => by simp at h; subst h; simp [Lib.indexByte]
  | b :: l, c, i + 1, h, hn => by
    have ih := indexByte_hit l c i (by simpa using h) (fun j hj => by have := hn (j + 1) (by omega); simpa using this)
    have hb : ¬ b = c := by have := hn 0 (by omega); simpa using this
    unfold Lib.indexByte
    simp only [ih]
    have : (b == c) = false := by simpa using hb
    simp [this]
theorem indexByte_miss : ∀ (l : List UInt8) (c : UInt8), (∀ j : Nat, l[j]? ≠ some c) → Lib.indexByte l c = -1
  | [], c, _ => rfl
  | b :: l, c, hn => by
    have ih := indexByte_miss l c (fun j => by have := hn (j + 1); simpa using this)
    have hb : ¬ b = c := by have := hn 0; simpa using this
    unfold Lib.indexByte
    have : (b == c) = false := by simpa using hb
    simp [ih, this]
theorem u8_44 {c : Int} (h0 : 0 ≤ c) (h1 : c ≤ 255) : (c.toNat.toUInt8 = 44) ↔ c = 44 := by
  have := byte_inj (c := 44) (d := c) (by omega) ⟨h0, h1⟩
  constructor
  · intro h
    have h2 : (c.toNat.toUInt8 == (44 : Int).toNat.toUInt8) = true := by rw [h]; rfl
    rw [this] at h2
    simpa using h2
  · rintro rfl; rfl
theorem get44 {s : ByteArray} {j : Nat} : s.data.toList[j]? = some 44 ↔ j < s.size ∧ at8 s j = 44 := by
  rcases Nat.lt_or_ge j s.size with h | h
  · rw [at8_byte h]
    simp only [Option.some.injEq, h, true_and]
    exact u8_44 (at8_bd s j).1 (at8_bd s j).2
  · have : s.data.toList[j]? = none := List.getElem?_eq_none (by simpa using h)
    rw [this]
    simp; omega
theorem parts_hit {s : ByteArray} {i : Nat} (hi : i < s.size) (h : at8 s i = 44) (hn : ∀ j, j < i → at8 s j ≠ 44) : partsS s = s.extract 0 i :: partsS (s.extract (i + 1) s.size) := by
  have hx : Lib.indexB s ⟨#[44]⟩ = i := by
    show Lib.index s.data.toList [44] = i
    rw [Lib.index_one]
    exact indexByte_hit _ _ _ (get44.2 ⟨hi, h⟩) (fun j hj hc => hn j hj (get44.1 hc).2)
  unfold partsS
  rw [Lib.countB_hit s ⟨#[44]⟩ i (by decide) hx, Nat.add_comm, Lib.splitB_hit _ _ _ _ i hx]
  rfl
theorem parts_miss {s : ByteArray} (hn : ∀ j, j < s.size → at8 s j ≠ 44) : partsS s = [s] := by
  have hx : Lib.indexB s ⟨#[44]⟩ = -1 := by
    show Lib.index s.data.toList [44] = -1
    rw [Lib.index_one]
    exact indexByte_miss _ _ (fun j hc => hn j (get44.1 hc).1 (get44.1 hc).2)
  unfold partsS
  exact Lib.splitB_miss _ _ _ _ hx
theorem at8_extract (s : ByteArray) (a b j : Nat) (h : a + j < b) (hb : b ≤ s.size) : at8 (s.extract a b) j = at8 s (a + j) := by
  have h1 : j < (s.extract a b).size := by rw [ByteArray.size_extract]; omega
  rw [at8_lt _ _ h1, at8_lt s (a + j) (by omega)]
  rw [ByteArray.getElem_extract h1]

end Go.Proofs.YtcpjajjocmpkjaaGreatDoor

/- The formulas of functions by the symbolic evaluator, and that each gives the call's contract. Written by a program (gen.py). No condition. -/
namespace Go.Proofs.YtcpjajjocmpkjaaGreatDoor
set_option maxRecDepth 100000
set_option linter.unusedVariables false

def VC_rclass (s : ByteArray) (at_ : Int) (w : World) (R : Ending → World → Prop) : Prop :=
 ∀ (n : Nat) (w1 : World),
 NewB w
 (Obj.cells
 #[Value.bool false, Value.bool false, Value.bool false, Value.bool false, Value.bool false, Value.bool false,
 Value.bool false, Value.bool false, Value.bool false, Value.bool false, Value.bool false, Value.bool false,
 Value.bool false, Value.bool false, Value.bool false, Value.bool false, Value.bool false, Value.bool false,
 Value.bool false, Value.bool false, Value.bool false, Value.bool false, Value.bool false, Value.bool false,
 Value.bool false, Value.bool false, Value.bool false, Value.bool false, Value.bool false, Value.bool false,
 Value.bool false, Value.bool false, Value.bool false, Value.bool false, Value.bool false, Value.bool false,
 Value.bool false, Value.bool false, Value.bool false, Value.bool false, Value.bool false, Value.bool false,
 Value.bool false, Value.bool false, Value.bool false, Value.bool false, Value.bool false, Value.bool false,
 Value.bool false, Value.bool false, Value.bool false, Value.bool false, Value.bool false, Value.bool false,
 Value.bool false, Value.bool false, Value.bool false, Value.bool false, Value.bool false, Value.bool false,
 Value.bool false, Value.bool false, Value.bool false, Value.bool false, Value.bool false, Value.bool false,
 Value.bool false, Value.bool false, Value.bool false, Value.bool false, Value.bool false, Value.bool false,
 Value.bool false, Value.bool false, Value.bool false, Value.bool false, Value.bool false, Value.bool false,
 Value.bool false, Value.bool false, Value.bool false, Value.bool false, Value.bool false, Value.bool false,
 Value.bool false, Value.bool false, Value.bool false, Value.bool false, Value.bool false, Value.bool false,
 Value.bool false, Value.bool false, Value.bool false, Value.bool false, Value.bool false, Value.bool false,
 Value.bool false, Value.bool false, Value.bool false, Value.bool false, Value.bool false, Value.bool false,
 Value.bool false, Value.bool false, Value.bool false, Value.bool false, Value.bool false, Value.bool false,
 Value.bool false, Value.bool false, Value.bool false, Value.bool false, Value.bool false, Value.bool false,
 Value.bool false, Value.bool false, Value.bool false, Value.bool false, Value.bool false, Value.bool false,
 Value.bool false, Value.bool false, Value.bool false, Value.bool false, Value.bool false, Value.bool false,
 Value.bool false, Value.bool false, Value.bool false]
 134)
 n w1 →
 ∀ (n_1 : Nat) (w1_1 : World),
 NewB w1
 (Obj.cells
 #[Value.bool false, Value.bool false, Value.bool false, Value.bool false, Value.bool false, Value.bool false,
 Value.bool false, Value.bool false, Value.bool false, Value.bool false, Value.bool false, Value.bool false,
 Value.bool false, Value.bool false, Value.bool false, Value.bool false, Value.bool false, Value.bool false,
 Value.bool false, Value.bool false, Value.bool false, Value.bool false, Value.bool false, Value.bool false,
 Value.bool false, Value.bool false, Value.bool false, Value.bool false, Value.bool false, Value.bool false,
 Value.bool false, Value.bool false, Value.bool false, Value.bool false, Value.bool false, Value.bool false,
 Value.bool false, Value.bool false, Value.bool false, Value.bool false, Value.bool false, Value.bool false,
 Value.bool false, Value.bool false, Value.bool false, Value.bool false, Value.bool false, Value.bool false,
 Value.bool false, Value.bool false, Value.bool false, Value.bool false, Value.bool false, Value.bool false,
 Value.bool false, Value.bool false, Value.bool false, Value.bool false, Value.bool false, Value.bool false,
 Value.bool false, Value.bool false, Value.bool false, Value.bool false, Value.bool false, Value.bool false,
 Value.bool false, Value.bool false, Value.bool false, Value.bool false, Value.bool false, Value.bool false,
 Value.bool false, Value.bool false, Value.bool false, Value.bool false, Value.bool false, Value.bool false,
 Value.bool false, Value.bool false, Value.bool false, Value.bool false, Value.bool false, Value.bool false,
 Value.bool false, Value.bool false, Value.bool false, Value.bool false, Value.bool false, Value.bool false,
 Value.bool false, Value.bool false, Value.bool false, Value.bool false, Value.bool false, Value.bool false,
 Value.bool false, Value.bool false, Value.bool false, Value.bool false, Value.bool false, Value.bool false,
 Value.bool false, Value.bool false, Value.bool false, Value.bool false, Value.bool false, Value.bool false,
 Value.bool false, Value.bool false, Value.bool false, Value.bool false, Value.bool false, Value.bool false,
 Value.bool false, Value.bool false, Value.bool false, Value.bool false, Value.bool false, Value.bool false,
 Value.bool false, Value.bool false, Value.bool false, Value.bool false, Value.bool false, Value.bool false,
 Value.bool false, Value.bool false, Value.bool false]
 134)
 n_1 w1_1 →
 gimp (decide (IntKind.i64.wrap (at_ + 1) < (↑s.size : Int)))
 (0 ≤ IntKind.i64.wrap (at_ + 1) ∧ IntKind.i64.wrap (at_ + 1) < (↑s.size : Int)) ∧
 ∃ (J : List Value → World → Prop),
 bsp (decide (IntKind.i64.wrap (at_ + 1) < (↑s.size : Int)) && at8 s (IntKind.i64.wrap (at_ + 1)).toNat == 94)
 (J [Value.int IntKind.i64 (IntKind.i64.wrap (IntKind.i64.wrap (at_ + 1) + 1))] w1_1)
 (J [Value.int IntKind.i64 (IntKind.i64.wrap (at_ + 1))] w1_1) ∧
 ∀ (x : Int) (w' : World),
 J [Value.int IntKind.i64 x] w' →
 ∃ (I : List Value → World → Prop),
 ∃ (m : List Value → World → Nat),
 I [Value.int IntKind.i64 x] w' ∧
 ∀ (x_1 : Int) (w' : World),
 I [Value.int IntKind.i64 x_1] w' →
 gimp (decide (x_1 < (↑s.size : Int))) (0 ≤ x_1 ∧ x_1 < (↑s.size : Int)) ∧
 bsp (decide (x_1 < (↑s.size : Int)) && at8 s x_1.toNat != 93)
 ((0 ≤ x_1 ∧ x_1 < (↑s.size : Int)) ∧
 bsp (!charB (at8 s x_1.toNat) || at8 s x_1.toNat == 45 && decide (x_1 > x))
 (∃ (x : Bool),
 ∃ (f : Nat → Bool),
 AtL w' n_1 0
 ([Value.bool x] ++ arrBo f 128 0) ∧
 WrL w' n 0 129 ∧
 ∀ (w1 : World),
 PutB w' n 0
 ([Value.bool x] ++ arrBo f 128 0)
 w1 →
 ∃ (x : Bool),
 ∃ (f : Nat → Bool),
 AtL w1 n 0
 ([Value.bool x] ++ arrBo f 128 0) ∧
 R
 (Ending.returned
 (Value.tuple
 #[Value.agg
 ([Value.bool x] ++ arrBo f 128 0).toArray,
 Value.int IntKind.i64 (-1)]))
 w1)
 (gimp (at8 s x_1.toNat != 45 && decide (IntKind.i64.wrap (x_1 + 1) < (↑s.size : Int)))
 (0 ≤ IntKind.i64.wrap (x_1 + 1) ∧ IntKind.i64.wrap (x_1 + 1) < (↑s.size : Int)) ∧
 bsp
 (at8 s x_1.toNat != 45 && decide (IntKind.i64.wrap (x_1 + 1) < (↑s.size : Int)) &&
 at8 s (IntKind.i64.wrap (x_1 + 1)).toNat == 45)
 (gimp (!(decide (IntKind.i64.wrap (x_1 + 2) ≥ (↑s.size : Int)) || alnumI (at8 s x_1.toNat) == 0))
 (0 ≤ IntKind.i64.wrap (x_1 + 2) ∧ IntKind.i64.wrap (x_1 + 2) < (↑s.size : Int)) ∧
 gimp
 (!(decide (IntKind.i64.wrap (x_1 + 2) ≥ (↑s.size : Int)) || alnumI (at8 s x_1.toNat) == 0 ||
 alnumI (at8 s (IntKind.i64.wrap (x_1 + 2)).toNat) != alnumI (at8 s x_1.toNat)))
 (0 ≤ IntKind.i64.wrap (x_1 + 2) ∧ IntKind.i64.wrap (x_1 + 2) < (↑s.size : Int)) ∧
 bsp
 (decide (IntKind.i64.wrap (x_1 + 2) ≥ (↑s.size : Int)) || alnumI (at8 s x_1.toNat) == 0 ||
 alnumI (at8 s (IntKind.i64.wrap (x_1 + 2)).toNat) != alnumI (at8 s x_1.toNat) ||
 decide (at8 s (IntKind.i64.wrap (x_1 + 2)).toNat < at8 s x_1.toNat))
 (∃ (x : Bool),
 ∃ (f : Nat → Bool),
 AtL w' n_1 0
 ([Value.bool x] ++ arrBo f 128 0) ∧
 WrL w' n 0 129 ∧
 ∀ (w1 : World),
 PutB w' n 0
 ([Value.bool x] ++ arrBo f 128 0)
 w1 →
 ∃ (x : Bool),
 ∃ (f : Nat → Bool),
 AtL w1 n 0
 ([Value.bool x] ++ arrBo f 128 0) ∧
 R
 (Ending.returned
 (Value.tuple
 #[Value.agg
 ([Value.bool x] ++ arrBo f 128 0).toArray,
 Value.int IntKind.i64 (-1)]))
 w1)
 (∃ (I_1 : List Value → World → Prop),
 ∃ (m_1 : List Value → World → Nat),
 I_1 [Value.int IntKind.i64 (IntKind.i64.wrap (at8 s x_1.toNat))] w' ∧
 ∀ (x : Int) (w'_1 : World),
 I_1 [Value.int IntKind.i64 x] w'_1 →
 (0 ≤ IntKind.i64.wrap (x_1 + 2) ∧ IntKind.i64.wrap (x_1 + 2) < (↑s.size : Int)) ∧
 bsp (decide (x ≤ IntKind.i64.wrap (at8 s (IntKind.i64.wrap (x_1 + 2)).toNat)))
 ((0 ≤ x ∧ x < (↑128 : Int)) ∧
 ((∃ (u : Value), w'_1.cell? (Addr.mk n_1 (0 + 1 + x.toNat) none) = some u) ∧
 w'_1.frozen? (Addr.mk n_1 (0 + 1 + x.toNat) none) = false) ∧
 ∀ (w1 : World),
 PutB w'_1 n_1 (0 + 1 + x.toNat) [Value.bool true] w1 →
 I_1 [Value.int IntKind.i64 (IntKind.i64.wrap (x + 1))] w1 ∧
 m_1 [Value.int IntKind.i64 (IntKind.i64.wrap (x + 1))] w1 <
 m_1 [Value.int IntKind.i64 x] w'_1)
 (I [Value.int IntKind.i64 (IntKind.i64.wrap (x_1 + 3))] w'_1 ∧
 m [Value.int IntKind.i64 (IntKind.i64.wrap (x_1 + 3))] w'_1 <
 m [Value.int IntKind.i64 x_1] w')))
 ((0 ≤ at8 s x_1.toNat ∧ at8 s x_1.toNat < (↑128 : Int)) ∧
 ((∃ (u : Value), w'.cell? (Addr.mk n_1 (0 + 1 + (at8 s x_1.toNat).toNat) none) = some u) ∧
 w'.frozen? (Addr.mk n_1 (0 + 1 + (at8 s x_1.toNat).toNat) none) = false) ∧
 ∀ (w1 : World),
 PutB w' n_1 (0 + 1 + (at8 s x_1.toNat).toNat) [Value.bool true] w1 →
 I [Value.int IntKind.i64 (IntKind.i64.wrap (x_1 + 1))] w1 ∧
 m [Value.int IntKind.i64 (IntKind.i64.wrap (x_1 + 1))] w1 < m [Value.int IntKind.i64 x_1] w')))
 (bsp (decide (x_1 ≥ (↑s.size : Int)) || x_1 == x)
 (∃ (x : Bool),
 ∃ (f : Nat → Bool),
 AtL w' n_1 0
 ([Value.bool x] ++ arrBo f 128 0) ∧
 WrL w' n 0 129 ∧
 ∀ (w1 : World),
 PutB w' n 0
 ([Value.bool x] ++ arrBo f 128 0)
 w1 →
 ∃ (x : Bool),
 ∃ (f : Nat → Bool),
 AtL w1 n 0
 ([Value.bool x] ++ arrBo f 128 0) ∧
 R
 (Ending.returned
 (Value.tuple
 #[Value.agg
 ([Value.bool x] ++ arrBo f 128 0).toArray,
 Value.int IntKind.i64 (-1)]))
 w1)
 (∃ (J : List Value → World → Prop),
 bsp
 (decide (IntKind.i64.wrap (at_ + 1) < (↑s.size : Int)) &&
 at8 s (IntKind.i64.wrap (at_ + 1)).toNat == 94)
 (∃ (I : List Value → World → Prop),
 ∃ (m : List Value → World → Nat),
 I [Value.int IntKind.i64 0] w' ∧
 ∀ (x : Int) (w' : World),
 I [Value.int IntKind.i64 x] w' →
 bsp (decide (x < 128))
 (gimp (charB (IntKind.u8.wrap x)) (0 ≤ x ∧ x < (↑128 : Int)) ∧
 ∃ (x_2 : Bool),
 gimp (charB (IntKind.u8.wrap x))
 (w'.cell? (Addr.mk n_1 (0 + 1 + x.toNat) none) = some (Value.bool x_2)) ∧
 (0 ≤ x ∧ x < (↑128 : Int)) ∧
 ((∃ (u : Value), w'.cell? (Addr.mk n_1 (0 + 1 + x.toNat) none) = some u) ∧
 w'.frozen? (Addr.mk n_1 (0 + 1 + x.toNat) none) = false) ∧
 ∀ (w1 : World),
 PutB w' n_1 (0 + 1 + x.toNat) [Value.bool (charB (IntKind.u8.wrap x) && !x_2)] w1 →
 I [Value.int IntKind.i64 (IntKind.i64.wrap (x + 1))] w1 ∧
 m [Value.int IntKind.i64 (IntKind.i64.wrap (x + 1))] w1 <
 m [Value.int IntKind.i64 x] w')
 (J [] w'))
 (J [] w') ∧
 ∀ (w' : World),
 J [] w' →
 ∃ (x : Bool),
 ∃ (f : Nat → Bool),
 AtL w' n_1 0
 ([Value.bool x] ++ arrBo f 128 0) ∧
 WrL w' n 0 129 ∧
 ∀ (w1 : World),
 PutB w' n 0
 ([Value.bool x] ++ arrBo f 128 0)
 w1 →
 ∃ (x : Bool),
 ∃ (f : Nat → Bool),
 AtL w1 n 0
 ([Value.bool x] ++ arrBo f 128 0) ∧
 R
 (Ending.returned
 (Value.tuple
 #[Value.agg
 ([Value.bool x] ++ arrBo f 128 0).toArray,
 Value.int IntKind.i64 (IntKind.i64.wrap (x_1 + 1))]))
 w1))
theorem vc_rclass (s : ByteArray) (at_ : Int) (w : World) (R : Ending → World → Prop) (h : VC_rclass s at_ w R) : Calls Tryz.prog 60 ([Value.string
    s,
  Value.int IntKind.i64 at_] : List Value).toArray w R := by
  have e : execR { P := Tryz.prog, loops := [(7, [(7, Ck.int IntKind.i64)]), (15, [(11, Ck.int IntKind.i64)]), (25, [(12, Ck.int IntKind.i64)])], pur := pur1, tails := [], joins := [(6, [(7, Ck.int IntKind.i64)]), (28, [])], boxes := [] } Tryz.f60.results.toList R (Tryz.f60.body.getD .skip) (initF [Value.string
    s,
  Value.int IntKind.i64
    at_] (Tryz.f60.ntmps - ([Value.string s,
  Value.int IntKind.i64 at_] : List Value).length)) w = VC_rclass s at_ w R := by kernel_rfl
  have hb : Tryz.f60.body = some (Tryz.f60.body.getD .skip) := by kernel_rfl
  exact calls_of_exec' (P := Tryz.prog) (fn := Tryz.f60) (c := Tryz.f60.body.getD .skip) (args := [Value.string s,
  Value.int IntKind.i64 at_]) (w := w) (R := R) pur1_ok Tryz.func60 hb e h

end Go.Proofs.YtcpjajjocmpkjaaGreatDoor

/- The contract of the reference's class: it agrees with the program's parseClass. The text has at most 2^20 bytes. -/
namespace Go.Proofs.YtcpjajjocmpkjaaGreatDoor
open Go.RowKit

theorem arrBo_length (f : Nat → Bool) : ∀ n i, (arrBo f n i).length = n
  | 0, _ => rfl
  | n + 1, i => by simp [arrBo, arrBo_length f n]
theorem arrBo_get (f : Nat → Bool) : ∀ (n i j : Nat), j < n → (arrBo f n i)[j]? = some (.bool (f (i + j)))
  | 0, _, j, h => by omega
  | n + 1, i, 0, _ => by simp [arrBo]
  | n + 1, i, j + 1, h => by
    simp only [arrBo, List.getElem?_cons_succ]
    rw [arrBo_get f n (i + 1) j (by omega)]
    congr 3; omega
theorem arrBo_none (f : Nat → Bool) (n i j : Nat) (h : n ≤ j) : (arrBo f n i)[j]? = none := List.getElem?_eq_none (by rw [arrBo_length]; exact h)
theorem arrBo_congr {f g : Nat → Bool} {n i : Nat} (h : ∀ j, j < n → f (i + j) = g (i + j)) : arrBo f n i = arrBo g n i := by
  apply List.ext_getElem?
  intro j
  rcases Nat.lt_or_ge j n with hj | hj
  · rw [arrBo_get f n i j hj, arrBo_get g n i j hj, h j hj]
  · rw [arrBo_none f n i j hj, arrBo_none g n i j hj]
theorem arrBo_set (f : Nat → Bool) (n k : Nat) (b : Bool) : (arrBo f n 0).set k (.bool b) = arrBo (fun j => if j = k then b else f j) n 0 := by
  apply List.ext_getElem?
  intro j
  rcases Nat.lt_or_ge j n with hj | hj
  · rw [List.getElem?_set, arrBo_length, arrBo_get _ n 0 j hj, arrBo_get _ n 0 j hj, Nat.zero_add]
    by_cases e : k = j
    · subst e; rw [if_pos rfl, if_pos hj, if_pos rfl]
    · rw [if_neg e, if_neg (fun h => e h.symm)]
  · rw [arrBo_none _ n 0 j hj, List.getElem?_eq_none (by rw [List.length_set, arrBo_length]; exact hj)]
/-- The cells of an element of the reference. -/
def reL (b : Bool) (f : Nat → Bool) : List Value := [Value.bool b] ++ arrBo f 128 0
theorem reL_length (b : Bool) (f : Nat → Bool) : (reL b f).length = 129 := by unfold reL; simp [arrBo_length]
def SetB (w : World) (n : Nat) (b : Bool) (f : Nat → Bool) : Prop := w.heap[n]? = some (.cells (reL b f).toArray 134 (0, 0))
theorem SetB.kp {M : Nat → Prop} {w w' : World} {n : Nat} {b : Bool} {f : Nat → Bool} (h : SetB w n b f) (hk : Kp M w w') (hm : ¬ M n) : SetB w' n b f := hk.blk h hm
theorem SetB.congr {w : World} {n : Nat} {b : Bool} {f g : Nat → Bool} (h : SetB w n b f) (e : ∀ c, c < 128 → f c = g c) : SetB w n b g := by
  unfold SetB at h ⊢
  rw [h]
  unfold reL
  rw [arrBo_congr (f := f) (g := g) (fun j hj => by rw [Nat.zero_add]; exact e j hj)]
theorem SetB.at_ {w : World} {n : Nat} {b : Bool} {f : Nat → Bool} (h : SetB w n b f) : AtL w n 0 ([Value.bool b] ++ arrBo f 128 0) := by
  refine AtL_block h ?_
  simp [reL]
theorem SetB.cell {w : World} {n : Nat} {b : Bool} {f : Nat → Bool} (h : SetB w n b f) {k : Nat} (hk : k < 128) : w.cell? ⟨n, 0 + 1 + k, none⟩ = some (.bool (f k)) := by
  refine cell_at h ?_
  rw [show 0 + 1 + k = k + 1 by omega]
  simp [reL, arrBo_get f 128 0 k hk]
theorem SetB.wr {w : World} {n : Nat} {b : Bool} {f : Nat → Bool} (h : SetB w n b f) {k : Nat} (hk : k < 128) : (∃ u, w.cell? ⟨n, 0 + 1 + k, none⟩ = some u) ∧ w.frozen? ⟨n, 0 + 1 + k, none⟩ = false := ⟨⟨_, h.cell hk⟩, frozen_block h _⟩
theorem SetB.wrl {w : World} {n : Nat} {b : Bool} {f : Nat → Bool} (h : SetB w n b f) : WrL w n 0 129 := WrL_block h (by simp [reL_length])
theorem SetB.put {w w1 : World} {n : Nat} {b : Bool} {f : Nat → Bool} (h : SetB w n b f) {k : Nat} {v : Bool} (hp : PutB w n (0 + 1 + k) [.bool v] w1) : SetB w1 n b (fun j => if j = k then v else f j) := by
  have := hp.block h
  unfold SetB
  rw [this]
  congr 2
  rw [show 0 + 1 + k = k + 1 by omega]
  simp only [putL, reL, List.cons_append, List.nil_append, List.set_cons_succ, arrBo_set]
theorem SetB.full {w w1 : World} {n : Nat} {b b' : Bool} {f f' : Nat → Bool} (h : SetB w n b f) (hp : PutB w n 0 ([Value.bool b'] ++ arrBo f' 128 0) w1) : SetB w1 n b' f' := hp.full h (by simp [reL, arrBo_length])
theorem setB_new {w w1 : World} {n : Nat} {cs : Array Value} (hc : cs = (reL false (fun _ => false)).toArray) (h : NewB w (.cells cs 134) n w1) : SetB w1 n false (fun _ => false) := by
  subst hc; exact h.block

theorem hasPrefix_cons2 (a b : UInt8) (r : List UInt8) : Lib.hasPrefix (a :: b :: r) [91, 94] = (a == 91 && b == 94) := by
  rw [Bool.eq_iff_iff]
  simp [Lib.hasPrefix, List.isPrefixOf]
  constructor <;> (rintro ⟨rfl, rfl⟩; exact ⟨rfl, rfl⟩)
theorem negB_eq {t : ByteArray} (h0 : 0 < t.size) (h : at8 t 0 = 91) : negB t = (decide (1 < t.size) && at8 t 1 == 94) := by
  unfold negB
  have g0 := at8_byte h0
  rw [h] at g0
  have hl : t.data.toList.length = t.size := t.data.length_toList
  cases hd : t.data.toList with
  | nil => rw [hd] at hl; simp at hl; omega
  | cons a r =>
    rw [hd] at g0 hl
    simp at g0
    subst g0
    cases r with
    | nil =>
      have : ¬ 1 < t.size := by simp at hl; omega
      simp [this, Lib.hasPrefix]
    | cons b r =>
      have h1 : 1 < t.size := by simp at hl; omega
      have g1 := at8_byte h1
      rw [hd] at g1
      simp at g1
      rw [hasPrefix_cons2, g1]
      have := byte_inj (c := 94) (d := at8 t 1) (by omega) (at8_bd t 1)
      have e : ((94 : Int).toNat.toUInt8) = (94 : UInt8) := rfl
      rw [e] at this
      rw [this]
      simp [h1, Bool.beq_eq_decide_eq]
theorem items_stop {u : ByteArray} {f j : Nat} {p : Int → Bool} (h1 : rngB u j = false) (h2 : singB u j = false) : itemsS u f j p = (p, j) := by
  cases f with
  | zero => rfl
  | succ f => unfold itemsS; simp [h1, h2]
theorem cls0 {t : ByteArray} {j : Nat} (h : (listS t).2 = j) (h' : j = 0 ∨ fromN t + j = t.size ∨ at8 t (fromN t + j) ≠ 93) : clsN t = 0 := by
  unfold clsN
  rw [h, if_pos h']
theorem alB_char {c : Int} (h : alB c = true) : charB c = true := by simp [alB] at h; simp [charB]; rcases h with h | h <;> simp [h]
theorem not_alB {c : Int} (h : c = 45 ∨ c = 93) : alB c = false := by rcases h with rfl | rfl <;> decide
theorem alnum_zero {c : Int} : (alnumI c == 0) = !alB c := by
  unfold alnumI alB
  cases lowerB c <;> cases digitB c <;> simp
theorem alnum_bad {c l : Int} (hc : alB c = true) : (alnumI l != alnumI c || decide (l < c)) = badB c l := by
  unfold badB
  have : (alnumI l != alnumI c) = (lowerB c != lowerB l || digitB c != digitB l) := by
    unfold alnumI
    have hx : ∀ x : Int, ¬ (lowerB x = true ∧ digitB x = true) := fun x ⟨h1, h2⟩ => by simp [lowerB] at h1; simp [digitB] at h2; omega
    have h1 := hx c
    have h2 := hx l
    unfold alB at hc
    cases hlc : lowerB c <;> cases hdc : digitB c <;> cases hll : lowerB l <;> cases hdl : digitB l <;> simp_all
  rw [this]
  cases decide (l < c) <;> simp
theorem alB_mid {c l d : Int} (hc : alB c = true) (hb : badB c l = false) (h1 : c ≤ d) (h2 : d ≤ l) : charB d = true := by
  simp [badB] at hb
  obtain ⟨⟨_, h3⟩, h4⟩ := hb
  simp [alB] at hc
  rcases hc with hc | hc
  · rw [hc] at h3
    simp [lowerB] at hc h3
    simp [charB, lowerB]
    omega
  · rw [hc] at h4
    simp [digitB] at hc h4
    simp [charB, lowerB, digitB]
    omega
theorem sing_char {u : ByteArray} {j : Nat} (h : charB (at8 u j) = true) (h' : ¬ (at8 u j = 45 ∧ 0 < j)) : singB u j = true := by
  unfold singB
  simp [charB] at h
  simp [alB]
  grind
theorem sing_not {u : ByteArray} {j : Nat} (h : charB (at8 u j) = false ∨ (at8 u j = 45 ∧ 0 < j)) : singB u j = false ∧ rngB u j = false := by
  have hal : alB (at8 u j) = false := by
    rcases h with h | h
    · cases ha : alB (at8 u j) with
      | false => rfl
      | true => rw [alB_char ha] at h; cases h
    · exact not_alB (.inl h.1)
  refine ⟨?_, by unfold rngB; rw [hal]; rfl⟩
  unfold singB
  rw [hal]
  rcases h with h | h
  · simp [charB] at h
    simp
    omega
  · rw [h.1]
    simp
    omega
theorem hasB_filter (q : UInt8 → Bool) (c : Int) (h0 : 0 ≤ c) (h1 : c ≤ 255) : hasB ⟨(nameBytes.data.toList.filter q).toArray⟩ c = (charB c && q c.toNat.toUInt8) := by
  rw [← name_char c h0 h1]
  unfold hasB
  simp only
  rw [Bool.eq_iff_iff]
  simp only [List.contains_iff_mem, Bool.and_eq_true, List.mem_filter]

set_option maxHeartbeats 1000000 in
set_option maxRecDepth 100000 in
theorem rclass_any (s : ByteArray) (k : Nat) (w : World) (hk : k < s.size) (h91 : at8 s k = 91) (hs : s.size ≤ 1048576) :
    Calls Tryz.prog 60 #[.string s, .int .i64 k] w fun e w' => K0 w w' ∧
      ((clsN (s.extract k s.size) = 0 ∧ ∃ b f, e = .returned (.tuple #[.agg (reL b f).toArray, .int .i64 (-1)])) ∨
       (clsN (s.extract k s.size) ≠ 0 ∧ ∃ f, e = .returned (.tuple #[.agg (reL false f).toArray, .int .i64 (k + clsN (s.extract k s.size) : Nat)]) ∧ RelE (.cls (clsS (s.extract k s.size))) ⟨false, f⟩)) := by
  generalize ht : s.extract k s.size = t
  have tsz : t.size = s.size - k := by rw [← ht, ByteArray.size_extract]; omega
  have tat : ∀ j, j < t.size → at8 t j = at8 s (k + j) := fun j hj => by rw [← ht]; exact at8_extract s k s.size j (by omega) (Nat.le_refl _)
  have t0 : at8 t 0 = 91 := by rw [tat 0 (by omega)]; exact h91
  have hneg := negB_eq (t := t) (by omega) t0
  refine vc_rclass s k w _ ?_
  intro n w1 hn n1 w2 hn1
  have b1 : SetB w2 n false (fun _ => false) := (setB_new (by kernel_rfl) hn).kp (hn1.kp (fun _ => False)) (fun h => h)
  have b2 : SetB w2 n1 false (fun _ => false) := setB_new (by kernel_rfl) hn1
  have hne : n ≠ n1 := by have := hn.size; have := hn1.hn; omega
  have g1 : w.heap.size ≤ n := hn.ge
  have g2 : w.heap.size ≤ n1 := by have := hn.size; have := hn1.hn; omega
  have k2 : K0 w w2 := (hn.kp _).trans (hn1.kp _)
  rw [wr64 (x := (k : Int) + 1) (by omega) (by omega), wr64 (x := (k : Int) + 1 + 1) (by omega) (by omega)]
  have e1 : ((k : Int) + 1).toNat = k + 1 := by omega
  rw [e1]
  -- the sign of the class
  have hsg : (decide ((k : Int) + 1 < (s.size : Int)) && at8 s (k + 1) == 94) = negB t := by
    rw [hneg]
    by_cases h : 1 < t.size
    · rw [tat 1 h]
      have h1 : decide ((k : Int) + 1 < (s.size : Int)) = true := by simp; omega
      rw [h1]
      simp [h]
    · have h1 : decide ((k : Int) + 1 < (s.size : Int)) = false := by simp; omega
      rw [h1]
      simp [h]
  rw [hsg]
  refine ⟨gimp_intro fun h => ⟨by omega, by simpa using h⟩, fun vs w' => vs = [.int .i64 ((k + fromN t : Nat) : Int)] ∧ w' = w2, ?_, ?_⟩
  · refine bsp_intro (fun h => ⟨?_, rfl⟩) (fun h => ⟨?_, rfl⟩)
    · unfold fromN; rw [if_pos h]; congr 2
    · unfold fromN; rw [if_neg (by rw [h]; decide)]; congr 2
  rintro x w' ⟨hx, rfl⟩
  have hx : x = ((k + fromN t : Nat) : Int) := by simpa using hx
  subst hx
  have hfrom : fromN t ≤ t.size := by
    unfold fromN
    split
    · rename_i h; exact hasPrefix_size h
    · omega
  have hfrom1 : 1 ≤ fromN t := by unfold fromN; split <;> omega
  generalize hu : restB t = u
  have usz : u.size = t.size - fromN t := by rw [← hu]; unfold restB; rw [ByteArray.size_extract]; omega
  have uat : ∀ j, j < u.size → at8 u j = at8 s (k + fromN t + j) := fun j hj => by
    rw [← hu]; unfold restB
    rw [at8_extract t _ _ j (by omega) (Nat.le_refl _), tat _ (by omega), Nat.add_assoc]
  have utat : ∀ j, j < u.size → at8 t (fromN t + j) = at8 u j := fun j hj => by rw [uat j hj, tat _ (by omega), Nat.add_assoc]
  have hL : listS t = itemsS u u.size 0 (fun _ => false) := by unfold listS; rw [hu]
  generalize hfr : fromN t = fr at *
  have bad : ∀ (wx : World) (f : Nat → Bool), SetB wx n1 false f → SetB wx n false (fun _ => false) → K0 w wx → clsN t = 0 →
      ∃ (x : Bool) (f : Nat → Bool), AtL wx n1 0 ([Value.bool x] ++ arrBo f 128 0) ∧ WrL wx n 0 129 ∧ ∀ (w1 : World), PutB wx n 0 ([Value.bool x] ++ arrBo f 128 0) w1 →
        ∃ (x : Bool) (f : Nat → Bool), AtL w1 n 0 ([Value.bool x] ++ arrBo f 128 0) ∧ (K0 w w1 ∧ ((clsN t = 0 ∧ ∃ b g, Ending.returned (.tuple #[.agg ([Value.bool x] ++ arrBo f 128 0).toArray, .int .i64 (-1)]) = .returned (.tuple #[.agg (reL b g).toArray, .int .i64 (-1)])) ∨
          (clsN t ≠ 0 ∧ ∃ g, Ending.returned (.tuple #[.agg ([Value.bool x] ++ arrBo f 128 0).toArray, .int .i64 (-1)]) = .returned (.tuple #[.agg (reL false g).toArray, .int .i64 (k + clsN t : Nat)]) ∧ RelE (.cls (clsS t)) ⟨false, g⟩))) := fun wx f h1 h2 hkx h0 =>
    ⟨false, f, h1.at_, h2.wrl, fun wy hp => ⟨false, f, (h2.full hp).at_, hkx.fresh hp.kp (fun i hi e => by omega), .inl ⟨h0, false, f, rfl⟩⟩⟩
  refine ⟨fun vs wx => ∃ (j fl : Nat) (f : Nat → Bool) (p : Int → Bool), vs = [.int .i64 ((k + fr + j : Nat) : Int)] ∧ j ≤ u.size ∧ u.size - j ≤ fl ∧ itemsS u fl j p = listS t ∧ SetB wx n1 false f ∧ SetB wx n false (fun _ => false) ∧ (∀ c : Nat, c < 128 → f c = p c) ∧ (∀ c, p c = true → charB c = true) ∧ K0 w wx,
    fun vs _ => (match vs with | .int _ x :: _ => s.size + 4 - x.toNat | _ => 0), ⟨0, u.size, _, (fun _ => false), rfl, by omega, by omega, hL.symm, b2, b1, (fun _ _ => rfl), (fun _ h => by cases h), k2⟩, ?_⟩
  rintro x wx ⟨j, fl, f, p, hv, hj, hfl, hS, hb, hb0, hfp, hpc, hkx⟩
  have hv : x = ((k + fr + j : Nat) : Int) := by simpa using hv
  subst hv
  have hsz : s.size = k + fr + u.size := by omega
  have ej : (((k + fr + j : Nat) : Int)).toNat = k + fr + j := Int.toNat_natCast _
  rw [ej]
  refine ⟨gimp_intro fun h => ⟨by omega, by simpa using h⟩, bsp_intro (fun h => ?_) (fun h => ?_)⟩
  · have hlt : j < u.size := by simp at h; omega
    have h93 : at8 s (k + fr + j) ≠ 93 := by simp at h; exact h.2
    rw [← uat j hlt] at h93 ⊢
    obtain ⟨fl, rfl⟩ : ∃ g, fl = g + 1 := ⟨fl - 1, by omega⟩
    refine ⟨⟨by omega, by omega⟩, bsp_intro (fun hc => ?_) (fun hc => ?_)⟩
    · refine bad wx f hb hb0 hkx ?_
      have hc : charB (at8 u j) = false ∨ (at8 u j = 45 ∧ 0 < j) := by
        simp only [Bool.or_eq_true, Bool.not_eq_true', Bool.and_eq_true, beq_iff_eq, decide_eq_true_eq] at hc
        rcases hc with h | h
        · exact .inl h
        · exact .inr ⟨h.1, by omega⟩
      obtain ⟨q1, q2⟩ := sing_not hc
      rw [items_stop q2 q1] at hS
      refine cls0 (j := j) (by rw [← hS]) (.inr (.inr ?_))
      rw [hfr, utat j hlt]; exact h93
    have hch : charB (at8 u j) = true := by
      cases hx : charB (at8 u j) with
      | true => rfl
      | false => rw [hx] at hc; simp at hc
    have hd : ¬ (at8 u j = 45 ∧ 0 < j) := fun hx => by
      rw [hch] at hc
      simp only [Bool.not_true, Bool.false_or, Bool.and_eq_false_iff, beq_eq_false_iff_ne, decide_eq_false_iff_not] at hc
      rcases hc with h | h
      · exact h hx.1
      · exact h (by omega)
    have hsing := sing_char hch hd
    rw [wr64 (x := ((k + fr + j : Nat) : Int) + 1) (by omega) (by omega), wr64 (x := ((k + fr + j : Nat) : Int) + 2) (by omega) (by omega), wr64 (x := ((k + fr + j : Nat) : Int) + 3) (by omega) (by omega)]
    have ej1 : (((k + fr + j : Nat) : Int) + 1).toNat = k + fr + (j + 1) := by omega
    have ej2 : (((k + fr + j : Nat) : Int) + 2).toNat = k + fr + (j + 2) := by omega
    rw [ej1, ej2]
    refine ⟨gimp_intro fun h => ⟨by omega, by simp at h; omega⟩, bsp_intro (fun hr => ?_) (fun hr => ?_)⟩
    · simp only [Bool.and_eq_true, bne_iff_ne, ne_eq, decide_eq_true_eq, beq_iff_eq] at hr
      obtain ⟨⟨hn45, hlt1⟩, h45⟩ := hr
      have hlt1 : j + 1 < u.size := by omega
      rw [← uat (j + 1) hlt1] at h45
      refine ⟨gimp_intro fun h => ⟨by omega, by simp at h; omega⟩, gimp_intro fun h => ⟨by omega, by simp at h; omega⟩, bsp_intro (fun hbd => ?_) (fun hbd => ?_)⟩
      · refine bad wx f hb hb0 hkx ?_
        by_cases hrn : rngB u j = true
        · have hrn' := hrn
          simp only [rngB, Bool.and_eq_true, decide_eq_true_eq, beq_iff_eq] at hrn
          have hbb : badB (at8 u j) (at8 u (j + 2)) = true := by
            have h2 : decide (((k + fr + j : Nat) : Int) + 2 ≥ (s.size : Int)) = false := by simp; omega
            rw [h2, alnum_zero, hrn.1.1, ← uat (j + 2) hrn.1.2] at hbd
            rw [← alnum_bad hrn.1.1]
            simpa using hbd
          have : itemsS u (fl + 1) j p = (p, j) := by unfold itemsS; rw [if_pos hlt, if_pos hrn', if_pos hbb]
          rw [this] at hS
          refine cls0 (j := j) (by rw [← hS]) (.inr (.inr ?_))
          rw [hfr, utat j hlt]; exact h93
        · have hst : itemsS u (fl + 1) j p = (fun d => p d || decide (d = at8 u j), j + 1) := by
            unfold itemsS
            rw [if_pos hlt, if_neg hrn, if_pos hsing]
            obtain ⟨q1, q2⟩ := sing_not (u := u) (j := j + 1) (.inr ⟨h45, by omega⟩)
            exact items_stop q2 q1
          rw [hst] at hS
          refine cls0 (j := j + 1) (by rw [← hS]) (.inr (.inr ?_))
          rw [hfr, utat (j + 1) hlt1, h45]; decide
      · -- a range
        have hlt2 : j + 2 < u.size := by simp at hbd; omega
        rw [← uat (j + 2) hlt2] at hbd ⊢
        have h2 : decide (((k + fr + j : Nat) : Int) + 2 ≥ (s.size : Int)) = false := by simp; omega
        rw [h2, alnum_zero] at hbd
        have hal : alB (at8 u j) = true := by
          cases hx : alB (at8 u j) with
          | true => rfl
          | false => rw [hx] at hbd; simp at hbd
        rw [hal] at hbd
        have hbb : badB (at8 u j) (at8 u (j + 2)) = false := by rw [← alnum_bad hal]; simpa using hbd
        obtain ⟨hle, hall⟩ := badB_not hbb hal
        have hcb := alB_bd hal
        have hlb := alB_bd hall
        have hrn : rngB u j = true := by simp [rngB, hal, hlt2, h45]
        have hst : itemsS u (fl + 1) j p = itemsS u fl (j + 3) (fun d => p d || (decide (at8 u j ≤ d) && decide (d ≤ at8 u (j + 2)))) := by
          conv => lhs; unfold itemsS
          rw [if_pos hlt, if_pos hrn, if_neg (by rw [hbb]; decide)]
        have hmid := fun d (h1 : at8 u j ≤ d) (h2 : d ≤ at8 u (j + 2)) => alB_mid hal hbb h1 h2
        generalize at8 u j = c at *
        generalize at8 u (j + 2) = l at *
        rw [wr64 (x := c) (by omega) (by omega), wr64 (x := l) (by omega) (by omega)]
        refine ⟨fun vs wy => ∃ m : Nat, vs = [.int .i64 (c + m)] ∧ c + m ≤ l + 1 ∧ SetB wy n1 false (fun d => f d || (decide (c ≤ (d : Int)) && decide ((d : Int) < c + m))) ∧ SetB wy n false (fun _ => false) ∧ K0 w wy,
          fun vs _ => (match vs with | .int _ x :: _ => (l + 2 - x).toNat | _ => 0), ⟨0, by simp, by omega, hb.congr (fun d _ => by
            have : (decide (c ≤ (d : Int)) && decide ((d : Int) < c + (0 : Nat))) = false := by simp
            rw [this, Bool.or_false]), hb0, hkx⟩, ?_⟩
        rintro x wy ⟨m, hv, hm, hby, hby0, hky⟩
        have hv : x = c + m := by simpa using hv
        subst hv
        refine ⟨⟨by omega, by omega⟩, bsp_intro (fun hxl => ?_) (fun hxl => ?_)⟩
        · have hxl : c + (m : Int) ≤ l := by simpa using hxl
          have hlt128 : (c + (m : Int)).toNat < 128 := by omega
          refine ⟨⟨by omega, by omega⟩, hby.wr hlt128, fun wz hp => ⟨⟨m + 1, ?_, by omega, (hby.put hp).congr (fun d _ => ?_), hby0.kp hp.kp (fun e => hne e), hky.fresh hp.kp (fun i hi e => by omega)⟩, ?_⟩⟩
          · rw [wr64 (by omega) (by omega)]; congr 2; omega
          · show (if d = (c + (m : Int)).toNat then true else (f d || (decide (c ≤ (d : Int)) && decide ((d : Int) < c + m)))) = (f d || (decide (c ≤ (d : Int)) && decide ((d : Int) < c + ((m + 1 : Nat) : Int))))
            by_cases e : d = (c + (m : Int)).toNat
            · rw [if_pos e]
              have : (decide (c ≤ (d : Int)) && decide ((d : Int) < c + ((m + 1 : Nat) : Int))) = true := by simp; omega
              rw [this]; simp
            · rw [if_neg e]
              have : decide ((d : Int) < c + (m : Int)) = decide ((d : Int) < c + ((m + 1 : Nat) : Int)) := by
                rw [decide_eq_decide]; omega
              rw [this]
          · rw [wr64 (by omega) (by omega)]
            simp only
            omega
        · have hxl : ¬ c + (m : Int) ≤ l := by simpa using hxl
          have hml : c + (m : Int) = l + 1 := by omega
          refine ⟨⟨j + 3, fl, _, _, ?_, by omega, by omega, hst.symm.trans hS, hby, hby0, fun d hd => ?_, fun d hd => ?_, hky⟩, ?_⟩
          · congr 2
          · show (f d || (decide (c ≤ (d : Int)) && decide ((d : Int) < c + m))) = (p d || (decide (c ≤ (d : Int)) && decide ((d : Int) ≤ l)))
            rw [hfp d hd, hml]
            have : decide ((d : Int) < l + 1) = decide ((d : Int) ≤ l) := by rw [decide_eq_decide]; omega
            rw [this]
          · simp only [Bool.or_eq_true, Bool.and_eq_true, decide_eq_true_eq] at hd
            rcases hd with hd | hd
            · exact hpc d hd
            · exact hmid d hd.1 hd.2
          · simp only; omega
    · -- a single character
      have hrn : ¬ rngB u j = true := fun hrn => by
        simp only [rngB, Bool.and_eq_true, decide_eq_true_eq, beq_iff_eq] at hrn
        have h1 : decide (((k + fr + j : Nat) : Int) + 1 < (s.size : Int)) = true := by simp; omega
        rw [h1, ← uat (j + 1) (by omega), hrn.2] at hr
        have h45 : at8 u j = 45 := by simpa using hr
        have := hrn.1.1
        rw [h45] at this
        revert this; decide
      have hst : itemsS u (fl + 1) j p = itemsS u fl (j + 1) (fun d => p d || decide (d = at8 u j)) := by
        conv => lhs; unfold itemsS
        rw [if_pos hlt, if_neg hrn, if_pos hsing]
      have hcb := charB_lt hch
      generalize at8 u j = c at *
      have hlt128 : c.toNat < 128 := by omega
      refine ⟨⟨by omega, by omega⟩, hb.wr hlt128, fun wz hp => ⟨⟨j + 1, fl, _, _, by congr 2, by omega, by omega, hst.symm.trans hS, hb.put hp, hb0.kp hp.kp (fun e => hne e), fun d hd => ?_, fun d hd => ?_, hkx.fresh hp.kp (fun i hi e => by omega)⟩, ?_⟩⟩
      · show (if d = c.toNat then true else f d) = (p d || decide ((d : Int) = c))
        by_cases e : d = c.toNat
        · rw [if_pos e]
          have : decide ((d : Int) = c) = true := by simp; omega
          rw [this]; simp
        · rw [if_neg e, hfp d hd]
          have : decide ((d : Int) = c) = false := by simp; omega
          rw [this]; simp
      · simp only [Bool.or_eq_true, decide_eq_true_eq] at hd
        rcases hd with hd | hd
        · exact hpc d hd
        · rw [hd]; exact hch
      · simp only; omega
  · -- the end of the items
    have hend : u.size ≤ j ∨ (j < u.size ∧ at8 u j = 93) := by
      rcases Nat.lt_or_ge j u.size with hlt | hge
      · right
        refine ⟨hlt, ?_⟩
        have h1 : decide (((k + fr + j : Nat) : Int) < (s.size : Int)) = true := by simp; omega
        rw [h1, ← uat j hlt] at h
        simpa using h
      · exact .inl hge
    have hstop : listS t = (p, j) := by
      rw [← hS]
      rcases hend with he | ⟨hlt, h93⟩
      · cases fl with
        | zero => rfl
        | succ fl => unfold itemsS; rw [if_neg (by omega)]
      · have h1 : charB (at8 u j) = false := by rw [h93]; decide
        obtain ⟨q1, q2⟩ := sing_not (.inl h1)
        exact items_stop q2 q1
    refine bsp_intro (fun hb1 => bad wx f hb hb0 hkx ?_) (fun hb1 => ?_)
    · refine cls0 (j := j) (by rw [hstop]) ?_
      simp only [Bool.or_eq_true, decide_eq_true_eq, beq_iff_eq] at hb1
      rw [hfr]
      rcases hb1 with h1 | h1
      · exact .inr (.inl (by omega))
      · exact .inl (by omega)
    simp only [Bool.or_eq_false_iff, decide_eq_false_iff_not, beq_eq_false_iff_ne] at hb1
    obtain ⟨hb1, hb2⟩ := hb1
    have hlt : j < u.size := by omega
    have h93 : at8 u j = 93 := by
      rcases hend with he | he
      · omega
      · exact he.2
    have hcn : clsN t = fr + j + 1 := by
      unfold clsN
      rw [hstop, hfr]
      simp only
      rw [if_neg]
      rintro (h1 | h1 | h1)
      · exact hb2 (by omega)
      · omega
      · rw [utat j hlt] at h1; exact h1 h93
    have hcs : clsS t = ⟨(nameBytes.data.toList.filter fun b => !(p b.toNat == negB t)).toArray⟩ := by
      unfold clsS
      rw [if_neg (by omega), hstop]
    have fin : ∀ (wy : World) (g : Nat → Bool), (∀ c : Nat, c < 128 → g c = (charB c && !(p c == negB t))) → SetB wy n1 false g → SetB wy n false (fun _ => false) → K0 w wy →
        ∃ (x : Bool) (f : Nat → Bool), AtL wy n1 0 ([Value.bool x] ++ arrBo f 128 0) ∧ WrL wy n 0 129 ∧ ∀ (w1 : World), PutB wy n 0 ([Value.bool x] ++ arrBo f 128 0) w1 →
          ∃ (x : Bool) (f : Nat → Bool), AtL w1 n 0 ([Value.bool x] ++ arrBo f 128 0) ∧ (K0 w w1 ∧ ((clsN t = 0 ∧ ∃ b h, Ending.returned (.tuple #[.agg ([Value.bool x] ++ arrBo f 128 0).toArray, .int .i64 (IntKind.i64.wrap (((k + fr + j : Nat) : Int) + 1))]) = .returned (.tuple #[.agg (reL b h).toArray, .int .i64 (-1)])) ∨
            (clsN t ≠ 0 ∧ ∃ h, Ending.returned (.tuple #[.agg ([Value.bool x] ++ arrBo f 128 0).toArray, .int .i64 (IntKind.i64.wrap (((k + fr + j : Nat) : Int) + 1))]) = .returned (.tuple #[.agg (reL false h).toArray, .int .i64 (k + clsN t : Nat)]) ∧ RelE (.cls (clsS t)) ⟨false, h⟩))) := fun wy g hg h1 h2 hky => by
      refine ⟨false, g, h1.at_, h2.wrl, fun wz hp => ⟨false, g, (h2.full hp).at_, hky.fresh hp.kp (fun i hi e => by omega), .inr ⟨by omega, g, ?_, rfl, fun _ c hc => ?_, fun c h0 h1 hh => ?_⟩⟩⟩
      · rw [wr64 (by omega) (by omega), hcn, show ((k + fr + j : Nat) : Int) + 1 = ((k + (fr + j + 1) : Nat) : Int) by omega]
        rfl
      · show hasB (clsS t) c = g c
        rw [hcs, hasB_filter _ c (by omega) (by omega), hg c hc]
        congr 3
        rw [show ((c : Int).toNat.toUInt8.toNat : Int) = (c : Int) by rw [Int.toNat_natCast, UInt8.toNat_ofNat']; omega]
      · have hh : hasB (clsS t) c = true := hh
        rw [hcs, hasB_filter _ c h0 h1] at hh
        simp only [Bool.and_eq_true] at hh
        exact hh.1
    refine ⟨fun vs wy => ∃ g : Nat → Bool, vs = [] ∧ (∀ c : Nat, c < 128 → g c = (charB c && !(p c == negB t))) ∧ SetB wy n1 false g ∧ SetB wy n false (fun _ => false) ∧ K0 w wy, ?_, fun wy ⟨g, _, h1, h2, h3, h4⟩ => fin wy g h1 h2 h3 h4⟩
    refine bsp_intro (fun hng => ?_) (fun hng => ⟨f, rfl, fun c hc => ?_, hb, hb0, hkx⟩)
    · rw [hng]
      refine ⟨fun vs wy => ∃ m : Nat, vs = [.int .i64 m] ∧ m ≤ 128 ∧ SetB wy n1 false (fun d => if d < m then charB d && !f d else f d) ∧ SetB wy n false (fun _ => false) ∧ K0 w wy, fun vs _ => (match vs with | .int _ x :: _ => 128 - x.toNat | _ => 0),
        ⟨0, rfl, by omega, hb.congr (fun d _ => by simp), hb0, hkx⟩, ?_⟩
      rintro x wy ⟨m, hv, hm, hby, hby0, hky⟩
      have hv : x = (m : Int) := by simpa using hv
      subst hv
      refine bsp_intro (fun hlt => ?_) (fun hge => ?_)
      · have hlt : m < 128 := by simp at hlt; omega
        have eu : IntKind.u8.wrap (m : Int) = (m : Int) := IntWalk.u8_in m ⟨by omega, by omega⟩
        rw [eu, Int.toNat_natCast]
        refine ⟨gimp_intro fun _ => ⟨by omega, by omega⟩, f m, gimp_intro fun _ => ?_, ⟨by omega, by omega⟩, hby.wr hlt, fun wz hp => ⟨⟨m + 1, ?_, by omega, (hby.put hp).congr (fun d _ => ?_), hby0.kp hp.kp (fun e => hne e), hky.fresh hp.kp (fun i hi e => by omega)⟩, ?_⟩⟩
        · have := hby.cell hlt
          rw [this]
          simp
        · rw [wr64 (by omega) (by omega)]; rfl
        · show (if d = m then (charB m && !f m) else (if d < m then charB d && !f d else f d)) = (if d < m + 1 then charB d && !f d else f d)
          by_cases e : d = m
          · subst e; simp
          · rw [if_neg e]
            by_cases e2 : d < m
            · rw [if_pos e2, if_pos (by omega)]
            · rw [if_neg e2, if_neg (by omega)]
        · rw [wr64 (by omega) (by omega)]
          simp only
          omega
      · have hge : ¬ m < 128 := by simp at hge; omega
        refine ⟨_, rfl, fun c hc => ?_, hby, hby0, hky⟩
        show (if c < m then charB c && !f c else f c) = _
        rw [if_pos (by omega), hfp c hc]
        simp
    · rw [hng, hfp c hc]
      cases hp : p c with
      | false => simp
      | true => rw [hpc c hp]; simp

end Go.Proofs.YtcpjajjocmpkjaaGreatDoor
