/- Patterns of the reference (plain): matching by rows agrees with the program's Match, where the elements agree. No condition. -/
import Derived.Test.YtcpjajjocmpkjaaDoorPm
import Derived.Test.YtcpjajjocmpkjaaDoorSel
import Derived.Lib.SplitLaws
import Derived.Lib.CountLaws
namespace Go.Proofs.YtcpjajjocmpkjaaDoor

/-- An element of a pattern of the reference. -/
structure RE where
  star : Bool
  set : Nat → Bool
/-- An element and that of the reference. -/
structure RelE (e : El) (r : RE) : Prop where
  star : e.isStar = r.star
  set : r.star = false → ∀ c : Nat, c < 128 → hasB e.chars c = r.set c
  char : ∀ c : Int, 0 ≤ c → c ≤ 255 → hasB e.chars c = true → charB c = true
theorem name_char : ∀ c : Int, 0 ≤ c → c ≤ 255 → hasB nameBytes c = charB c := by
  have h : ∀ n : Fin 256, hasB nameBytes (n.val : Int) = charB (n.val : Int) := by decide +kernel
  intro c h0 h1
  have := h ⟨c.toNat, by omega⟩
  simp only at this
  rw [show ((c.toNat : Nat) : Int) = c by omega] at this
  exact this
theorem charB_lt {c : Int} (h : charB c = true) : 0 ≤ c ∧ c < 128 := by
  simp [charB, lowerB, digitB] at h
  omega
theorem pmF_congr {st st' : Nat → Bool} {h h' : Nat → Nat → Bool} : ∀ (i k : Nat), (∀ j, j < i → st j = st' j) → (∀ j l, j < i → l < k → h j l = h' j l) → pmF st h i k = pmF st' h' i k
  | 0, k, _, _ => rfl
  | i + 1, 0, h1, h2 => by
    rw [pmF_zero, pmF_zero, h1 i (by omega), pmF_congr i 0 (fun j hj => h1 j (by omega)) (fun j l hj hl => by omega)]
  | i + 1, k + 1, h1, h2 => by
    have a := pmF_congr i (k + 1) (fun j hj => h1 j (by omega)) (fun j l hj hl => h2 j l (by omega) hl)
    have b := pmF_congr (i + 1) k h1 (fun j l hj hl => h2 j l hj (by omega))
    have c := pmF_congr i k (fun j hj => h1 j (by omega)) (fun j l hj hl => h2 j l (by omega) (by omega))
    rw [pmF_succ, pmF_succ, h1 i (by omega), h2 i k (by omega) (by omega), a, b, c]
theorem pmF_dead {st : Nat → Bool} {h : Nat → Nat → Bool} {k0 : Nat} (hd : ∀ i, h i k0 = false) : ∀ (i k : Nat), k0 < k → pmF st h i k = false
  | 0, k, hk => by simp [pmF]; omega
  | i + 1, 0, hk => by omega
  | i + 1, k + 1, hk => by
    rw [pmF_succ, pmF_dead hd i (k + 1) hk]
    by_cases e : k = k0
    · subst e; rw [hd i]; simp
    · rw [pmF_dead hd (i + 1) k (by omega), pmF_dead hd i k (by omega)]; simp
def rS (rs : List RE) (j : Nat) : Bool := match rs[j]? with | some r => r.star | none => false
def rH (rs : List RE) (j c : Nat) : Bool := match rs[j]? with | some r => r.set c | none => false
/-- The reference's Match. -/
def rmatchB (rs : List RE) (s : ByteArray) : Bool := (List.range s.size).all (fun i => charB (at8 s i)) && pmF (rS rs) (fun i k => rS rs i || rH rs i (at8 s k).toNat) rs.length s.size
/-- Elements that agree, one by one. -/
structure RelEs (els : List El) (rs : List RE) : Prop where
  len : els.length = rs.length
  at_ : ∀ (j : Nat) (e : El) (r : RE), els[j]? = some e → rs[j]? = some r → RelE e r
theorem RelEs.snoc {els : List El} {rs : List RE} (h : RelEs els rs) {e : El} {r : RE} (hr : RelE e r) : RelEs (els ++ [e]) (rs ++ [r]) := by
  refine ⟨by simp [h.len], fun j e' r' he hr' => ?_⟩
  rw [List.getElem?_append] at he hr'
  rw [← h.len] at hr'
  split at he
  · rename_i hj
    rw [if_pos hj] at hr'
    exact h.at_ j _ _ he hr'
  · rename_i hj
    rw [if_neg hj] at hr'
    cases hjj : j - els.length with
    | zero => rw [hjj] at he hr'; simp at he hr'; subst he; subst hr'; exact hr
    | succ n => rw [hjj] at he; simp at he
theorem rel_match {els : List El} {rs : List RE} (h : RelEs els rs) (s : ByteArray) : matchB els s = rmatchB rs s := by
  rw [match_pm]
  unfold rmatchB
  cases ha : (List.range s.size).all (fun i => charB (at8 s i)) with
  | false =>
    rw [Bool.false_and]
    rw [List.all_eq_false] at ha
    obtain ⟨k0, hk0, hc⟩ := ha
    rw [List.mem_range] at hk0
    refine pmF_dead (k0 := k0) (fun i => ?_) _ _ hk0
    unfold elH
    cases he : els[i]? with
    | none => rfl
    | some e =>
      have hlt : i < rs.length := by rw [← h.len]; exact (List.getElem?_eq_some_iff.1 he).1
      have hr := h.at_ i e _ he (List.getElem?_eq_getElem hlt)
      simp only
      cases hh : hasB e.chars (at8 s k0) with
      | false => rfl
      | true => exact absurd (hr.char _ (at8_bd s k0).1 (at8_bd s k0).2 hh) hc
  | true =>
    rw [Bool.true_and, h.len]
    have hst : ∀ j, elS els j = rS rs j := fun j => by
      unfold elS rS
      rcases Nat.lt_or_ge j els.length with hj | hj
      · have hj' : j < rs.length := by rw [← h.len]; exact hj
        rw [List.getElem?_eq_getElem hj, List.getElem?_eq_getElem hj']
        exact (h.at_ j _ _ (List.getElem?_eq_getElem hj) (List.getElem?_eq_getElem hj')).star
      · rw [List.getElem?_eq_none hj, List.getElem?_eq_none (by rw [← h.len]; exact hj)]
    refine pmF_congr _ _ (fun j _ => hst j) (fun j l hj hl => ?_)
    have hc : charB (at8 s l) = true := List.all_eq_true.1 ha l (List.mem_range.2 hl)
    have hcb := charB_lt hc
    have hj0 : j < els.length := by rw [h.len]; exact hj
    have hr := h.at_ j _ _ (List.getElem?_eq_getElem hj0) (List.getElem?_eq_getElem hj)
    unfold elH rS rH
    rw [List.getElem?_eq_getElem hj0, List.getElem?_eq_getElem hj]
    simp only
    generalize els[j] = e at hr
    generalize rs[j] = r at hr
    cases hs : r.star with
    | true =>
      have : e = .star := by
        have h1 := hr.star
        rw [hs] at h1
        cases e <;> simp [El.isStar] at h1
        rfl
      subst this
      rw [Bool.true_or]
      show hasB nameBytes _ = true
      rw [name_char _ hcb.1 (by omega)]; exact hc
    | false =>
      rw [Bool.false_or]
      have := hr.set hs (at8 s l).toNat (by omega)
      rw [show (((at8 s l).toNat : Nat) : Int) = at8 s l by omega] at this
      exact this

/-- An entry of a list of the reference. -/
structure REnt where
  t : ByteArray
  rs : List RE
  v : Int
def rverd (es : List REnt) (s : ByteArray) : Int := es.foldl (fun a e => if rmatchB e.rs s = true then e.v else a) 0
structure RelEnt (e : Ent) (r : REnt) : Prop where
  t : e.t = r.t
  v : e.v = r.v
  els : RelEs e.els r.rs
structure RelEnts (es : List Ent) (rs : List REnt) : Prop where
  len : es.length = rs.length
  at_ : ∀ (j : Nat) (e : Ent) (r : REnt), es[j]? = some e → rs[j]? = some r → RelEnt e r
theorem RelEnts.snoc {es : List Ent} {rs : List REnt} (h : RelEnts es rs) {e : Ent} {r : REnt} (hr : RelEnt e r) : RelEnts (es ++ [e]) (rs ++ [r]) := by
  refine ⟨by simp [h.len], fun j e' r' he hr' => ?_⟩
  rw [List.getElem?_append] at he hr'
  rw [← h.len] at hr'
  split at he
  · rename_i hj
    rw [if_pos hj] at hr'
    exact h.at_ j _ _ he hr'
  · rename_i hj
    rw [if_neg hj] at hr'
    cases hjj : j - es.length with
    | zero => rw [hjj] at he hr'; simp at he hr'; subst he; subst hr'; exact hr
    | succ n => rw [hjj] at he; simp at he
theorem rel_verd {es : List Ent} {rs : List REnt} (h : RelEnts es rs) (s : ByteArray) : verd es s = rverd rs s := by
  have key : ∀ (es : List Ent) (rs : List REnt) (a : Int), RelEnts es rs → es.foldl (fun a e => if matchB e.els s = true then e.v else a) a = rs.foldl (fun a e => if rmatchB e.rs s = true then e.v else a) a := by
    intro es
    induction es with
    | nil =>
      intro rs a h
      have := h.len
      cases rs with
      | nil => rfl
      | cons r rs => simp at this
    | cons e es ih =>
      intro rs a h
      cases rs with
      | nil => have := h.len; simp at this
      | cons r rs =>
        have h0 := h.at_ 0 e r rfl rfl
        simp only [List.foldl_cons]
        rw [rel_match h0.els s, h0.v]
        exact ih rs _ ⟨by have := h.len; simp at this; exact this, fun j e' r' he hr => h.at_ (j + 1) e' r' (by simpa using he) (by simpa using hr)⟩
  exact key es rs 0 h
def rselB (es : List REnt) (zs : List ByteArray) : Bool := zs.all (fun z => !(rverd es z == 3)) && zs.any (fun z => rverd es z == 1)
theorem rel_sel {es : List Ent} {rs : List REnt} (h : RelEnts es rs) (zs : List ByteArray) : selB es zs = rselB rs zs := by
  unfold selB rselB
  simp only [rel_verd h]

/-! ### Parts of a text -/
theorem at8_byte {s : ByteArray} {k : Nat} (h : k < s.size) : s.data.toList[k]? = some (at8 s k).toNat.toUInt8 := by
  rw [at8_lt s k h, Array.getElem?_toList, Array.getElem?_eq_getElem (show k < s.data.size from h)]
  congr 1
  show s[k] = _
  rw [Int.toNat_natCast]
  simp
theorem indexByte_hit : ∀ (l : List UInt8) (c : UInt8) (i : Nat), l[i]? = some c → (∀ j, j < i → l[j]? ≠ some c) → Lib.indexByte l c = i
  | [], c, i, h, _ => by simp at h
  | b :: l, c, 0, h, _ => by simp at h; subst h; simp [Lib.indexByte]
  | b :: l, c, i + 1, h, hn => by
    have ih := indexByte_hit l c i (by simpa using h) (fun j hj => by have := hn (j + 1) (by omega); simpa using this)
    have hb : ¬ b = c := by have := hn 0 (by omega); simpa using this
    unfold Lib.indexByte
    simp only [ih]
    have : (b == c) = false := by simpa using hb
    simp [this]
theorem indexByte_miss : ∀ (l : List UInt8) (c : UInt8), (∀ j : Nat, l[j]? ≠ some c) → Lib.indexByte l c = -1
  | [], c, _ => rfl
  | b :: l, c, hn => by
    have ih := indexByte_miss l c (fun j => by have := hn (j + 1); simpa using this)
    have hb : ¬ b = c := by have := hn 0; simpa using this
    unfold Lib.indexByte
    have : (b == c) = false := by simpa using hb
    simp [ih, this]
theorem u8_44 {c : Int} (h0 : 0 ≤ c) (h1 : c ≤ 255) : (c.toNat.toUInt8 = 44) ↔ c = 44 := by
  have := byte_inj (c := 44) (d := c) (by omega) ⟨h0, h1⟩
  constructor
  · intro h
    have h2 : (c.toNat.toUInt8 == (44 : Int).toNat.toUInt8) = true := by rw [h]; rfl
    rw [this] at h2
    simpa using h2
  · rintro rfl; rfl
theorem get44 {s : ByteArray} {j : Nat} : s.data.toList[j]? = some 44 ↔ j < s.size ∧ at8 s j = 44 := by
  rcases Nat.lt_or_ge j s.size with h | h
  · rw [at8_byte h]
    simp only [Option.some.injEq, h, true_and]
    exact u8_44 (at8_bd s j).1 (at8_bd s j).2
  · have : s.data.toList[j]? = none := List.getElem?_eq_none (by simpa using h)
    rw [this]
    simp; omega
theorem parts_hit {s : ByteArray} {i : Nat} (hi : i < s.size) (h : at8 s i = 44) (hn : ∀ j, j < i → at8 s j ≠ 44) : partsS s = s.extract 0 i :: partsS (s.extract (i + 1) s.size) := by
  have hx : Lib.indexB s ⟨#[44]⟩ = i := by
    show Lib.index s.data.toList [44] = i
    rw [Lib.index_one]
    exact indexByte_hit _ _ _ (get44.2 ⟨hi, h⟩) (fun j hj hc => hn j hj (get44.1 hc).2)
  unfold partsS
  rw [Lib.countB_hit s ⟨#[44]⟩ i (by decide) hx, Nat.add_comm, Lib.splitB_hit _ _ _ _ i hx]
  rfl
theorem parts_miss {s : ByteArray} (hn : ∀ j, j < s.size → at8 s j ≠ 44) : partsS s = [s] := by
  have hx : Lib.indexB s ⟨#[44]⟩ = -1 := by
    show Lib.index s.data.toList [44] = -1
    rw [Lib.index_one]
    exact indexByte_miss _ _ (fun j hc => hn j (get44.1 hc).1 (get44.1 hc).2)
  unfold partsS
  exact Lib.splitB_miss _ _ _ _ hx
theorem at8_extract (s : ByteArray) (a b j : Nat) (h : a + j < b) (hb : b ≤ s.size) : at8 (s.extract a b) j = at8 s (a + j) := by
  have h1 : j < (s.extract a b).size := by rw [ByteArray.size_extract]; omega
  rw [at8_lt _ _ h1, at8_lt s (a + j) (by omega)]
  rw [ByteArray.getElem_extract h1]

end Go.Proofs.YtcpjajjocmpkjaaDoor
